/- The shallow form, 2: the steps that touch memory, and loads and stores of whole values. -/
import Derived.Test.YtkfokpkpobjoeaaShA0
import Derived.WalkKit
import Derived.Laws.Sem
import Derived.Laws.Tables
import Derived.Great.BuildSlice
namespace Go.Sh
open Go.RowKit

namespace M
def nn (p : Option Addr) (K : Addr → Prop) : Prop := ∃ a, p = some a ∧ K a
def load (h : H) (a : Addr) (K : Value → Prop) : Prop := ∃ v, h.cell a = some v ∧ K v
def int (k : IntKind) (v : Value) (K : Int → Prop) : Prop := ∃ n, v = .int k n ∧ K n
def bool (v : Value) (K : Bool → Prop) : Prop := ∃ b, v = .bool b ∧ K b
def str (v : Value) (K : ByteArray → Prop) : Prop := ∃ s, v = .string s ∧ K s
def ptr (v : Value) (K : Option Addr → Prop) : Prop := ∃ p, v = .pointer p ∧ K p
def slc (v : Value) (K : Option Addr → Nat → Nat → Prop) : Prop := ∃ a l c, v = .slice a l c ∧ K a l c
def map (v : Value) (K : Option Nat → Prop) : Prop := ∃ r, v = .map r ∧ K r
def agg (v : Value) (K : Array Value → Prop) : Prop := ∃ cs, v = .agg cs ∧ K cs
def new (h : H) (o : Obj) (K : Nat → H → Prop) : Prop := ∀ b, h b = none → K b (h.upd b o)
def put (h : H) (a : Addr) (v : Value) (K : H → Prop) : Prop := isPlainCell v = true ∧ (h.cell a).isSome = true ∧ h.frozen a = false ∧ K (h.set a v)
def val (n : Int) (K : Int → Prop) : Prop := K n
def req (p K : Prop) : Prop := p ∧ K
end M

/-- Several cells written, one behind the other. -/
def H.sets (h : H) (a : Addr) : Nat → List Value → H
  | _, [] => h
  | i, v :: r => H.sets (h.set (a.add i) v) a (i + 1) r
def M.puts (h : H) (a : Addr) (vs : List Value) (K : H → Prop) : Prop :=
  (∀ v ∈ vs, isPlainCell v = true) ∧ (∀ i, i < vs.length → (h.cell (a.add i)).isSome = true ∧ h.frozen (a.add i) = false) ∧ K (h.sets a 0 vs)
/-- The cells of a row. -/
def rowAt (h : H) (a : Addr) (cs : List Value) : Prop := ∀ i, i < cs.length → h.cell (a.add i) = cs[i]?
def M.row (h : H) (a : Addr) (n : Nat) (K : List Value → Prop) : Prop := ∃ cs : List Value, cs.length = n ∧ rowAt h a cs ∧ K cs

inductive Sh where
  | int (k : IntKind) | bool | str | ptr | slc | map | agg | raw | adr | agt (l : List Sh)
def typ : Sh → Value → (Value → Prop) → Prop
  | .int k, v, K => M.int k v fun n => K (.int k n)
  | .bool, v, K => M.bool v fun b => K (.bool b)
  | .str, v, K => M.str v fun s => K (.string s)
  | .ptr, v, K => M.ptr v fun p => K (.pointer p)
  | .slc, v, K => M.slc v fun a l c => K (.slice a l c)
  | .map, v, K => M.map v fun r => K (.map r)
  | .agg, v, K => M.agg v fun cs => K (.agg cs)
  | .adr, v, K => ∃ a, v = .pointer (some a) ∧ K (.pointer (some a))
  | .agt _, v, K => K v
  | .raw, v, K => K v
theorem typ_out {s : Sh} {v : Value} {K : Value → Prop} (h : typ s v K) : K v := by
  cases s <;> simp only [typ] at h <;> first | exact h | (obtain ⟨_, rfl, h⟩ := h; exact h) | (obtain ⟨_, _, _, rfl, h⟩ := h; exact h)

inductive LK where
  | one (s : Sh) | agg | bad
def lkOf : Option TypeDesc → LK
  | some .bool => .one .bool
  | some (.int k) => .one (.int k)
  | some .string => .one .str
  | some (.pointer _) => .one .ptr
  | some (.slice _) => .one .slc
  | some (.map _ _) => .one .map
  | some (.struct _) => .agg
  | some (.array _ _) => .agg
  | some _ => .one .raw
  | none => .bad
def catO {α : Type} : List (Option (List α)) → Option (List α)
  | [] => some []
  | none :: _ => none
  | some l :: r => match catO r with | some m => some (l ++ m) | none => none
def flatSh (P : Program) : Nat → TypeId → Option (List Sh)
  | 0, _ => none
  | d + 1, t =>
    match P.underlying t with
    | some (.struct fs) => catO (fs.toList.map fun f => flatSh P d f.type)
    | some (.array n e) => match flatSh P d e with | some l => some (List.flatten (List.replicate n l)) | none => none
    | d => match lkOf d with | .one s => some [s] | _ => none

def evCells (h : H) (a : Addr) : Nat → List Sh → List Value → (List Value → Prop) → Prop
  | _, [], acc, K => K acc.reverse
  | i, s :: r, acc, K => M.load h (a.add i) fun v => typ s v fun v' => evCells h a (i + 1) r (v' :: acc) K
/-- From how many cells on an aggregate is loaded whole. -/
def smallAgg : Nat := 12
/-- A cell of an aggregate. -/
def M.at (cs : Array Value) (i : Nat) (K : Value → Prop) : Prop := ∃ v, cs[i]? = some v ∧ K v
def evParts (cs : Array Value) : Nat → List Sh → List Value → (List Value → Prop) → Prop
  | _, [], acc, K => K acc.reverse
  | i, s :: r, acc, K => M.at cs i fun v => typ s v fun v' => evParts cs (i + 1) r (v' :: acc) K
/-- A part of an aggregate: of one whose cells are known, or of a great one. -/
def evPart (P : Program) (small : Bool) (t : TypeId) (cs : Array Value) (off : Nat) (K : Value → Prop) : Prop :=
  match lkOf (P.underlying t) with
  | .one s => bif small then (match cs.toList[off]? with | some v => K v | none => False) else M.at cs off fun v => typ s v K
  | .agg =>
    bif small then K (.agg ((cs.toList.drop off).take (P.cellsOf t)).toArray)
    else bif Nat.ble (P.cellsOf t) smallAgg then
      (match flatSh P 20 t with
      | some l => bif Nat.beq l.length (P.cellsOf t) then evParts cs off l [] fun vs => K (.agg vs.toArray) else False
      | none => False)
    else K (.agg (cs.extract off (off + P.cellsOf t)))
  | .bad => False
def evLoad (P : Program) (t : TypeId) (a : Addr) (K : Value → Prop) (h : H) : Prop :=
  match lkOf (P.underlying t) with
  | .one s => bif Nat.beq (P.cellsOf t) 1 then M.load h a fun v => typ s v K else False
  | .agg =>
    match P.info? t with
    | some i =>
      bif Nat.ble i.size smallAgg then
        match flatSh P 20 t with
        | some l => bif Nat.beq l.length i.size then evCells h a 0 l [] fun vs => K (.agg vs.toArray) else False
        | none => False
      else M.row h a i.size fun cs => K (.agg cs.toArray)
    | none => False
  | .bad => False
def evStore (P : Program) (t : TypeId) (a : Addr) (v : Value) (K : H → Prop) (h : H) : Prop :=
  match P.info? t with
  | some i =>
    match lkOf (P.underlying t) with
    | .one _ => bif Nat.beq i.size 1 then M.put h a v K else False
    | .agg => match v with | .agg cs => M.req (cs.size = i.size) (M.puts h a cs.toList K) | _ => False
    | .bad => False
  | none => False

section
variable {P : Program}
theorem lkOf_one {d : Option TypeDesc} {s : Sh} (h : lkOf d = .one s) : ∃ d', d = some d' ∧ (match d' with | .struct _ | .array _ _ => False | _ => True) := by
  unfold lkOf at h
  split at h <;> first | (simp at h; done) | exact ⟨_, rfl, trivial⟩ | skip
  rename_i d' h1 h2 h3 h4 h5 h6 h7 h8
  refine ⟨d', rfl, ?_⟩
  split <;> simp_all
theorem lkOf_agg {d : Option TypeDesc} (h : lkOf d = .agg) : (∃ fs, d = some (.struct fs)) ∨ (∃ n e, d = some (.array n e)) := by
  unfold lkOf at h
  split at h <;> first | (simp at h; done) | exact .inl ⟨_, rfl⟩ | exact .inr ⟨_, _, rfl⟩
theorem evCells_out {h : H} {a : Addr} {K : List Value → Prop} : ∀ (l : List Sh) (i : Nat) (acc : List Value), evCells h a i l acc K →
    ∃ cs, cs.length = l.length ∧ (∀ j, j < cs.length → h.cell (a.add (i + j)) = cs[j]?) ∧ K (acc.reverse ++ cs)
  | [], i, acc, hh => ⟨[], rfl, fun j hj => by simp at hj, by rw [List.append_nil]; exact hh⟩
  | s :: r, i, acc, hh => by
    obtain ⟨v, hv, hh⟩ := hh
    obtain ⟨cs, hl, hc, hk⟩ := evCells_out r (i + 1) (v :: acc) (typ_out hh)
    refine ⟨v :: cs, by simp [hl], fun j hj => ?_, by simpa using hk⟩
    cases j with
    | zero => simpa using hv
    | succ j => have := hc j (by simpa using hj); rw [show i + (j + 1) = i + 1 + j by omega]; simpa using this

/-- Cells read one behind the other. -/
theorem wpS_loadCells {h : H} {a : Addr} {Q : Array Value → H → Prop} : ∀ (cs : List Value) (i : Nat) (acc : Array Value), (∀ j, j < cs.length → h.cell (a.add (i + j)) = cs[j]?) → Q (acc ++ cs.toArray) h →
    wpS P (loadCellsFrom a i cs.length acc) Q h
  | [], i, acc, _, hq => by simpa [loadCellsFrom, wpS, pure] using hq
  | v :: r, i, acc, hc, hq => by
    have h0 := hc 0 (by simp)
    simp only [List.length_cons, loadCellsFrom]
    rw [show (do let v ← load (a.add i); loadCellsFrom a (i + 1) r.length (acc.push v) : Sem (Array Value)) = Sem.bind (load (a.add i)) fun v => loadCellsFrom a (i + 1) r.length (acc.push v) from rfl, wpS_bind]
    refine ⟨v, by simpa using h0, ?_⟩
    refine wpS_loadCells r (i + 1) (acc.push v) (fun j hj => ?_) ?_
    · have := hc (j + 1) (by simpa using hj)
      rw [show i + 1 + j = i + (j + 1) by omega]; simpa using this
    · simpa using hq
theorem wpS_storeCells {a : Addr} {Q : Unit → H → Prop} : ∀ (vs : List Value) (i : Nat) (h : H), (∀ v ∈ vs, isPlainCell v = true) →
    (∀ j, j < vs.length → (h.cell (a.add (i + j))).isSome = true ∧ h.frozen (a.add (i + j)) = false) → Q () (h.sets a i vs) → wpS P (storeCells a vs i) Q h
  | [], i, h, _, _, hq => hq
  | v :: r, i, h, hp, hc, hq => by
    have h0 := hc 0 (by simp)
    rw [Nat.add_zero] at h0
    rw [show storeCells a (v :: r) i = Sem.bind (store (a.add i) v) fun _ => storeCells a r (i + 1) from rfl, wpS_bind]
    refine ⟨hp v (by simp), h0.1, h0.2, ?_⟩
    refine wpS_storeCells r (i + 1) (h.set (a.add i) v) (fun u hu => hp u (by simp [hu])) (fun j hj => ?_) hq
    rw [H.cell_set_isSome, H.frozen_set]
    have := hc (j + 1) (by simpa using hj)
    rw [show i + 1 + j = i + (j + 1) by omega]; exact this
end
end Go.Sh

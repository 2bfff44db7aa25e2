/- Reasoning over the shallow form: blocks of cells, what stays, loops by what falls, and what an argument reads as. -/
import Derived.Test.YtkfokpkpobjoeaaShA9
import Derived.ProofKit
namespace Go.Sh
open Go.RowKit Go.ChangeShapes Go.WideShapes Go.ChangeAt

/-! ### A block of cells -/
section
variable {h h' : H} {b o : Nat} {c : Array Value} {e : TypeId} {f : Nat × Nat}
theorem addr_add (b o k : Nat) : (⟨b, o, none⟩ : Addr).add k = ⟨b, o + k, none⟩ := by
  unfold Addr.add
  split
  · simp_all
  · rfl
theorem add_block (a : Addr) (k : Nat) : (a.add k).block = a.block := by
  unfold Addr.add
  split <;> rfl
theorem cell_in (hb : h b = some (.cells c e f)) : h.cell ⟨b, o, none⟩ = c[o]? := by
  simp [H.cell, hb]
theorem frozen_in (hb : h b = some (.cells c e (0, 0))) : h.frozen ⟨b, o, none⟩ = false := by
  simp [H.frozen, hb]
theorem set_in (hb : h b = some (.cells c e f)) (v : Value) : h.set ⟨b, o, none⟩ v = h.upd b (.cells (c.setIfInBounds o v) e f) := by
  funext x
  by_cases hx : x = b
  · subst hx; simp [H.set, H.modify, H.upd, hb, setIn]
  · simp [H.set, H.modify, H.upd, hx]
theorem upd_upd (h : H) (b : Nat) (o o' : Obj) : (h.upd b o).upd b o' = h.upd b o' := by
  funext x
  by_cases hx : x = b <;> simp [H.upd, hx]
theorem upd_self {o : Obj} (hb : h b = some o) : h.upd b o = h := by
  funext x
  by_cases hx : x = b
  · subst hx; simp [H.upd, hb]
  · simp [H.upd, hx]
/-- 'vs' laid into 'c' from 'o' on. -/
def splice (c : Array Value) : Nat → List Value → Array Value
  | _, [] => c
  | o, v :: r => splice (c.setIfInBounds o v) (o + 1) r
theorem splice_size : ∀ (vs : List Value) (c : Array Value) (o : Nat), (splice c o vs).size = c.size
  | [], _, _ => rfl
  | v :: r, c, o => by unfold splice; rw [splice_size]; simp
theorem splice_get : ∀ (vs : List Value) (c : Array Value) (o : Nat), o + vs.length ≤ c.size → ∀ i, (splice c o vs)[i]? = if o ≤ i ∧ i < o + vs.length then vs[i - o]? else c[i]?
  | [], c, o, _, i => by simp [splice]; omega
  | v :: r, c, o, hl, i => by
    simp only [List.length_cons] at hl
    unfold splice
    rw [splice_get r _ _ (by simp; omega), List.length_cons]
    by_cases hi : i = o
    · subst hi
      rw [if_neg (by omega), if_pos (by omega)]
      rw [Nat.sub_self, Array.getElem?_setIfInBounds, if_pos rfl, if_pos (by omega)]; rfl
    · by_cases h2 : o + 1 ≤ i ∧ i < o + 1 + r.length
      · rw [if_pos h2, if_pos (by omega)]
        rw [show i - o = (i - (o + 1)) + 1 by omega, List.getElem?_cons_succ]
      · rw [if_neg h2, if_neg (by omega), Array.getElem?_setIfInBounds_ne (by omega)]
theorem splice_all {vs : List Value} {c : Array Value} (hl : vs.length = c.size) : splice c 0 vs = vs.toArray := by
  apply Array.ext_getElem?
  intro i
  rw [splice_get vs c 0 (by omega)]
  by_cases hi : i < vs.length
  · rw [if_pos (by omega)]; simp
  · rw [if_neg (by omega)]
    rw [Array.getElem?_eq_none (by omega), Array.getElem?_eq_none (by simpa using hi)]
theorem sets_in : ∀ (vs : List Value) {h : H} {c : Array Value} (o i : Nat), h b = some (.cells c e f) → h.sets ⟨b, o, none⟩ i vs = h.upd b (.cells (splice c (o + i) vs) e f)
  | [], h, c, o, i, hb => by simp [H.sets, splice, upd_self hb]
  | v :: r, h, c, o, i, hb => by
    unfold H.sets splice
    rw [addr_add, set_in hb, sets_in r o (i + 1) (H.upd_self _ _ _), upd_upd]
    rfl

theorem sliceAddr_zero (a : Option Addr) (m size : Nat) : sliceAddr a m 0 size = a := by
  unfold sliceAddr
  split
  · rfl
  · cases a with
    | none => rfl
    | some x => simp [Addr.add_zero']
/-! ### What is written leaves the rest -/
/-- All that was there is there. -/
def Keep (h h' : H) : Prop := ∀ b o, h b = some o → h' b = some o
theorem Keep.refl (h : H) : Keep h h := fun _ _ x => x
theorem Keep.trans {a b c : H} (x : Keep a b) (y : Keep b c) : Keep a c := fun _ _ z => y _ _ (x _ _ z)
theorem Keep.new {h0 h : H} (k : Keep h0 h) {b : Nat} (hb : h b = none) (o : Obj) : Keep h0 (h.upd b o) := fun x o' hx => by
  have h1 := k x o' hx
  by_cases e : x = b
  · subst e; rw [hb] at h1; simp at h1
  · rw [H.upd_ne _ _ e]; exact h1
theorem Keep.own {h0 h : H} (k : Keep h0 h) {b : Nat} (hb : h0 b = none) (o : Obj) : Keep h0 (h.upd b o) := fun x o' hx => by
  have : x ≠ b := fun e => by subst e; rw [hb] at hx; simp at hx
  rw [H.upd_ne _ _ this]; exact k x o' hx
theorem Keep.none {h h' : H} (k : Keep h h') {b : Nat} (hb : h' b = none) : h b = none := by
  cases hh : h b with
  | none => rfl
  | some o => rw [k b o hh] at hb; simp at hb
theorem Keep.cell {h h' : H} (k : Keep h h') {a : Addr} {v : Value} (hc : h.cell a = some v) : h'.cell a = some v := by
  unfold H.cell at hc ⊢
  cases hh : h a.block with
  | none => simp [hh] at hc
  | some o => rw [k _ _ hh]; rwa [hh] at hc
theorem Keep.row {h h' : H} (k : Keep h h') {a : Addr} {cs : List Value} (hr : rowAt h a cs) : rowAt h' a cs := fun i hi => by
  have := hr i hi
  rw [List.getElem?_eq_getElem hi] at this ⊢
  exact k.cell this
theorem Keep.below {w w' : World} (k : Keep (hp w) (hp w')) (s : Stays w w') : Below w.heap.size w w' :=
  ⟨s.os, s.tape, s.output, s.size, fun b hb => by
    have : hp w b = some w.heap[b] := by simp [hp, hb]
    have h2 := k b _ this
    rw [show w'.heap[b]? = hp w' b from rfl, h2, ← this]; rfl⟩
theorem new_ne {b b' : Nat} {o : Obj} (hb : h b = some o) (hb' : h b' = none) : b ≠ b' := fun e => by subst e; rw [hb] at hb'; simp at hb'
end

/-! ### The steps -/
namespace M
variable {h : H} {b o : Nat} {c : Array Value} {e : TypeId} {f : Nat × Nat}
theorem load_in {K : Value → Prop} (hb : h b = some (.cells c e f)) {v : Value} (hv : c[o]? = some v) (hk : K v) : M.load h ⟨b, o, none⟩ K := ⟨v, by rw [cell_in hb, hv], hk⟩
theorem row_in {K : List Value → Prop} {n : Nat} (hb : h b = some (.cells c e f)) {cs : List Value} (hn : cs.length = n) (hv : ∀ i, i < n → c[o + i]? = cs[i]?) (hk : K cs) : M.row h ⟨b, o, none⟩ n K :=
  ⟨cs, hn, fun i hi => by rw [addr_add, cell_in hb]; exact hv i (by omega), hk⟩
theorem row_all {K : List Value → Prop} {n : Nat} (hb : h b = some (.cells c e f)) (hn : c.size = n) (hk : K c.toList) : M.row h ⟨b, 0, none⟩ n K :=
  row_in hb (by simpa using hn) (fun i hi => by simp) hk
theorem put_in {K : H → Prop} (hb : h b = some (.cells c e (0, 0))) {v : Value} (hp : isPlainCell v = true) (ho : o < c.size) (hk : K (h.upd b (.cells (c.setIfInBounds o v) e (0, 0)))) : M.put h ⟨b, o, none⟩ v K :=
  ⟨hp, by rw [cell_in hb]; simp [ho], frozen_in hb, by rw [set_in hb]; exact hk⟩
theorem puts_in {K : H → Prop} (hb : h b = some (.cells c e (0, 0))) {vs : List Value} (hp : ∀ v ∈ vs, isPlainCell v = true) (ho : o + vs.length ≤ c.size) (hk : K (h.upd b (.cells (splice c o vs) e (0, 0)))) : M.puts h ⟨b, o, none⟩ vs K :=
  ⟨hp, fun i hi => ⟨by rw [addr_add, cell_in hb]; simp; omega, by rw [addr_add]; exact frozen_in hb⟩, by rw [sets_in vs o 0 hb]; simpa using hk⟩
theorem puts_all {K : H → Prop} (hb : h b = some (.cells c e (0, 0))) {vs : List Value} (hp : ∀ v ∈ vs, isPlainCell v = true) (hn : vs.length = c.size) (hk : K (h.upd b (.cells vs.toArray e (0, 0)))) : M.puts h ⟨b, 0, none⟩ vs K :=
  puts_in hb hp (by omega) (by rw [splice_all hn]; exact hk)
theorem still_in {h' : H} {n : Nat} {K : Prop} {ob : Obj} (hb : h b = some ob) (hb' : h' b = some ob) (hk : K) : M.still h ⟨b, o, none⟩ n h' K :=
  ⟨fun i _ => by simp only [addr_add, H.cell, hb, hb'], hk⟩
theorem still_keep {h' : H} {a : Addr} {n : Nat} {K : Prop} (k : Keep h h') (ha : ∃ ob, h a.block = some ob) (hk : K) : M.still h a n h' K := by
  obtain ⟨ob, hob⟩ := ha
  have : h' a.block = some ob := k _ _ hob
  exact ⟨fun i _ => by unfold H.cell; rw [add_block, hob, this], hk⟩
theorem b2s_in {K : ByteArray → Prop} {n : Nat} (hb : h b = some (.cells c e f)) {zs : List Int} (hn : zs.length = n) (hz : ∀ i, i < n → c[o + i]? = (zs.map (Value.int .u8))[i]?) (hk : K (ofBytes zs)) : M.b2s h (some ⟨b, o, none⟩) n K :=
  ⟨fun x => by simp at x, fun b' x => by
    simp only [Option.some.injEq] at x
    subst x
    exact ⟨zs, hn, fun i hi => by rw [addr_add, cell_in hb]; exact hz i (by simp at hi; omega), hk⟩⟩
theorem sub0 {a : Option Addr} {cap size : Nat} {hi : Int} {K : Option Addr → Nat → Nat → Prop} (h1 : 0 ≤ hi) (h2 : hi ≤ cap) (hk : K a hi.toNat cap) : M.sub a cap size 0 hi K :=
  ⟨Int.le_refl 0, h1, h2, by
    show K (sliceAddr a cap (Int.toNat 0) size) (hi.toNat - Int.toNat 0) (cap - Int.toNat 0)
    rw [Int.toNat_zero, sliceAddr_zero]; exact hk⟩
/-- A loop, by what holds at its head and what falls. -/
theorem loop_of {α : Type} {step : (α → H → Prop) → α → H → Prop} (I : α → H → Prop) (μ : α → Nat) {d : α} {h : H} (h0 : I d h)
    (hs : ∀ d h (J : α → H → Prop), I d h → (∀ d' h', I d' h' → μ d' < μ d → J d' h') → step J d h) : M.loop step d h := by
  refine ⟨μ d + 1, ?_⟩
  have : ∀ n d h, I d h → μ d < n → M.iter step n d h := by
    intro n
    induction n with
    | zero => intro d h _ hn; omega
    | succ n ih => intro d h hi hn; exact hs d h _ hi fun d' h' hi' hl => ih d' h' hi' (by omega)
  exact this _ d h h0 (by omega)
end M

/-! ### What an argument reads as -/
def In (P : Program) (h : H) : Nat → TypeId → List Value → Prop
  | 0, _, _ => False
  | f + 1, t, cs => match P.underlying t with
    | some .bool => ∃ b, cs = [.bool b]
    | some (.int k) => ∃ n, cs = [.int k n] ∧ (Lit.int k n).wf = true
    | some .string => ∃ s : ByteArray, cs = [.string s] ∧ s.size ≤ maxLen
    | some (.slice e) => ∃ a l c, cs = [.slice a l c] ∧ l ≤ c ∧ c ≤ maxLen ∧ (a = none → l = 0 ∧ c = 0) ∧
        ∀ b, a = some b → ∀ i, i < l → ∃ r : List Value, r.length = P.cellsOf e ∧ rowAt h (b.add (i * P.cellsOf e)) r ∧ In P h f e r
    | some (.struct fs) => cs.length = P.cellsOf t ∧ ∀ fd ∈ fs.toList, In P h f fd.type ((cs.drop fd.offset).take (P.cellsOf fd.type))
    | some (.array n e) => cs.length = P.cellsOf t ∧ ∀ i, i < n → In P h f e ((cs.drop (i * P.cellsOf e)).take (P.cellsOf e))
    | _ => True
theorem mapM_some {α β : Type} {g : α → Option β} : ∀ {l : List α} {r : List β}, l.mapM g = some r → ∀ x ∈ l, ∃ y, g x = some y
  | [], _, _, x, hx => by simp at hx
  | a :: l, r, h, x, hx => by
    simp only [List.mapM_cons, Option.bind_eq_bind, Option.pure_def] at h
    cases ha : g a with
    | none => simp [ha] at h
    | some y =>
      cases hl : l.mapM g with
      | none => simp [ha, hl] at h
      | some ys =>
        rcases List.mem_cons.1 hx with e | hx
        · subst e; exact ⟨y, ha⟩
        · exact mapM_some hl x hx
theorem mapM_get {α β : Type} {g : α → Option β} : ∀ {l : List α} {r : List β}, l.mapM g = some r → r.length = l.length ∧ ∀ i (hi : i < l.length), g l[i] = r[i]?
  | [], r, h => by
    simp only [List.mapM_nil, Option.pure_def, Option.some.injEq] at h
    subst h; simp
  | a :: l, r, h => by
    simp only [List.mapM_cons, Option.bind_eq_bind, Option.pure_def] at h
    cases ha : g a with
    | none => simp [ha] at h
    | some y =>
      cases hl : l.mapM g with
      | none => simp [ha, hl] at h
      | some ys =>
        simp only [ha, hl, Option.bind_some, Option.some.injEq] at h
        subst h
        obtain ⟨h1, h2⟩ := mapM_get hl
        refine ⟨by simp [h1], fun i hi => ?_⟩
        cases i with
        | zero => simpa using ha
        | succ i => simpa using h2 i (by simpa using hi)
theorem cells_row {w : World} {base : Nat} {a : Addr} {n : Nat} {cs : List Value} (h : w.cells? base a n = some cs) : cs.length = n ∧ rowAt (hp w) a cs := by
  unfold World.cells? at h
  split at h
  · obtain ⟨h1, h2⟩ := mapM_get h
    refine ⟨by simpa using h1, fun i hi => ?_⟩
    have := h2 i (by simp at h1 ⊢; omega)
    simpa [← hp_cell] using this
  · simp at h
theorem In_of_trod {H' : Type} {enc : TypeId × Value → H'} {P : Program} {w : World} {base : Nat} {spare : Nat → Bool} {held : Bool} : ∀ {fuel : Nat} {t : TypeId} {cs : List Value} {x : DataW H' × List MemPlace},
    DataW.trod enc P w base spare held fuel t cs = some x → In P (hp w) fuel t cs
  | 0, t, cs, x, h => by simp [DataW.trod] at h
  | f + 1, t, cs, x, h => by
    unfold DataW.trod at h
    unfold In
    split at h
    case h_1 hu => simp only [hu]; exact ⟨_, rfl⟩
    case h_2 hu =>
      simp only [hu]
      split at h
      · rename_i hk; obtain ⟨rfl, hw⟩ := hk; exact ⟨_, rfl, hw⟩
      · simp at h
    case h_3 hu => simp only [hu]
    case h_4 hu =>
      simp only [hu]
      split at h
      · rename_i hk; exact ⟨_, rfl, hk⟩
      · simp at h
    case h_5 hu => simp only [hu]
    case h_6 hu => simp only [hu]
    case h_7 hu => simp only [hu]; exact ⟨none, 0, 0, rfl, by omega, by simp, fun _ => ⟨rfl, rfl⟩, fun b hb => by simp at hb⟩
    case h_8 e a len cap hu =>
      simp only [hu]
      simp only at h
      split at h
      · rename_i hk
        refine ⟨some a, len, cap, rfl, hk.2.1, hk.2.2, fun hn => by simp at hn, fun b hb i hi => ?_⟩
        simp only [Option.some.injEq] at hb
        subst hb
        cases he : ((List.range len).mapM fun i => (w.cells? base (a.add (i * P.cellsOf e)) (P.cellsOf e)).bind (DataW.trod enc P w base spare held f e)) with
        | none => rw [he] at h; simp at h
        | some elems =>
          obtain ⟨y, hy⟩ := mapM_some he i (by simpa using hi)
          cases hc : w.cells? base (a.add (i * P.cellsOf e)) (P.cellsOf e) with
          | none => rw [hc] at hy; simp at hy
          | some r =>
            rw [hc] at hy
            obtain ⟨h1, h2⟩ := cells_row hc
            exact ⟨r, h1, h2, In_of_trod hy⟩
      · simp at h
    case h_9 cs _ _ fs hu =>
      simp only [hu]
      split at h
      · rename_i hl
        refine ⟨hl, fun fd hfd => ?_⟩
        cases he : (fs.toList.mapM fun f_1 => DataW.trod enc P w base spare held f f_1.type ((cs.drop f_1.offset).take (P.cellsOf f_1.type))) with
        | none => rw [he] at h; simp at h
        | some xs =>
          obtain ⟨y, hy⟩ := mapM_some he fd hfd
          exact In_of_trod hy
      · simp at h
    case h_10 cs _ _ n e hu =>
      simp only [hu]
      split at h
      · rename_i hl
        refine ⟨hl, fun i hi => ?_⟩
        cases he : ((List.range n).mapM fun i => DataW.trod enc P w base spare held f e ((cs.drop (i * P.cellsOf e)).take (P.cellsOf e))) with
        | none => rw [he] at h; simp at h
        | some xs =>
          obtain ⟨y, hy⟩ := mapM_some he i (by simpa using hi)
          exact In_of_trod hy
      · simp at h
    all_goals first
      | (simp at h; done)
      | (rename_i hu; simp only [hu]; done)
      | (rename_i hu _; simp only [hu]; done)
      | (rename_i hu _ _; simp only [hu]; done)
end Go.Sh

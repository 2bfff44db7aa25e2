/- Reasoning over the shallow form, 2: rewriting rules for steps over a memory that is written out. -/
import Derived.Test.YtkfokpkpobjoeaaShB1
namespace Go.Sh
open Go.RowKit

theorem cell_upd_self (h : H) (b o : Nat) (c : Array Value) (e : TypeId) (f : Nat × Nat) : (h.upd b (.cells c e f)).cell ⟨b, o, none⟩ = c[o]? := cell_in (H.upd_self _ _ _)
theorem cell_upd_ne (h : H) {b b' : Nat} (o : Nat) (ob : Obj) (n : b ≠ b') : (h.upd b' ob).cell ⟨b, o, none⟩ = h.cell ⟨b, o, none⟩ := by
  simp only [H.cell, H.upd_ne _ _ n]
theorem cell_upd_ne' (h : H) {b b' : Nat} (o : Nat) (ob : Obj) (n : b' ≠ b) : (h.upd b' ob).cell ⟨b, o, none⟩ = h.cell ⟨b, o, none⟩ := cell_upd_ne h o ob (Ne.symm n)
theorem load_eq (h : H) (a : Addr) (K : Value → Prop) : M.load h a K = ∃ v, h.cell a = some v ∧ K v := rfl
theorem int_eq (k : IntKind) (n : Int) (K : Int → Prop) : M.int k (.int k n) K = K n := by
  simp [M.int]
theorem bool_eq (b : Bool) (K : Bool → Prop) : M.bool (.bool b) K = K b := by
  simp [M.bool]
theorem str_eq (s : ByteArray) (K : ByteArray → Prop) : M.str (.string s) K = K s := by
  simp [M.str]
theorem slc_eq (a : Option Addr) (l c : Nat) (K : Option Addr → Nat → Nat → Prop) : M.slc (.slice a l c) K = K a l c := by
  apply propext
  constructor
  · rintro ⟨a', l', c', e, k⟩
    simp only [Value.slice.injEq] at e
    obtain ⟨rfl, rfl, rfl⟩ := e
    exact k
  · exact fun k => ⟨a, l, c, rfl, k⟩
theorem ptr_eq (a : Option Addr) (K : Option Addr → Prop) : M.ptr (.pointer a) K = K a := by
  simp [M.ptr]
theorem nn_eq (a : Addr) (K : Addr → Prop) : M.nn (some a) K = K a := by
  simp [M.nn]
theorem some_and (u : Value) (K : Value → Prop) : (∃ v, some u = some v ∧ K v) = K u := by
  simp
theorem nz_eq (b : Int) (K : Prop) (hb : b ≠ 0) : M.nz b K = K := by simp [M.nz, hb]
theorem put_eq (h : H) (b o : Nat) (c : Array Value) (e : TypeId) (v : Value) (K : H → Prop) (hp : isPlainCell v = true) (ho : o < c.size) :
    M.put (h.upd b (.cells c e (0, 0))) ⟨b, o, none⟩ v K = K (h.upd b (.cells (c.setIfInBounds o v) e (0, 0))) := by
  unfold M.put
  rw [cell_upd_self, set_in (H.upd_self _ _ _), upd_upd, frozen_in (H.upd_self _ _ _)]
  simp [hp, ho]

/-- Memory that is unchanged but for one block. -/
def But (b : Nat) (h h' : H) : Prop := ∀ x, x ≠ b → h' x = h x
theorem But.keep {h0 h h' : H} {b : Nat} (u : But b h h') (k : Keep h0 h) (hb : h0 b = none) : Keep h0 h' := fun x o hx => by
  have : x ≠ b := fun e => by subst e; rw [hb] at hx; simp at hx
  rw [u x this]; exact k x o hx
theorem But.at {h h' : H} {b x : Nat} {o : Obj} (u : But b h h') (n : x ≠ b) (hx : h x = some o) : h' x = some o := (u x n).trans hx
theorem but_upd (h : H) (b : Nat) (o : Obj) : But b h (h.upd b o) := fun _ n => H.upd_ne _ _ n
namespace M
variable {h : H} {b : Nat} {c : Array Value} {e : TypeId}
theorem new_of {o : Obj} {K : Nat → H → Prop} (k : ∀ b h', h b = none → Keep h h' → h' b = some o → K b h') : M.new h o K := fun b hb => k b _ hb ((Keep.refl h).new hb _) (H.upd_self _ _ _)
theorem puts_of {K : H → Prop} (hb : h b = some (.cells c e (0, 0))) {vs : List Value} (hp : ∀ v ∈ vs, isPlainCell v = true) (hn : vs.length = c.size) (k : ∀ h', But b h h' → h' b = some (.cells vs.toArray e (0, 0)) → K h') : M.puts h ⟨b, 0, none⟩ vs K :=
  puts_all hb hp hn (k _ (but_upd _ _ _) (H.upd_self _ _ _))
theorem put_of {K : H → Prop} {o : Nat} (hb : h b = some (.cells c e (0, 0))) {v : Value} (hp : isPlainCell v = true) (ho : o < c.size) (k : ∀ h', But b h h' → h' b = some (.cells (c.setIfInBounds o v) e (0, 0)) → K h') : M.put h ⟨b, o, none⟩ v K :=
  put_in hb hp ho (k _ (but_upd _ _ _) (H.upd_self _ _ _))
theorem still_at {h' : H} {n o : Nat} {K : Prop} {ob : Obj} (hb : h b = some ob) (hb' : h' b = some ob) (hk : K) : M.still h ⟨b, o, none⟩ n h' K := still_in hb hb' hk
theorem join_of {α : Type} {J : α → H → Prop} {B : (α → H → Prop) → Prop} (P : α → H → Prop) (hB : ∀ J' : α → H → Prop, (∀ d h, P d h → J' d h) → B J') (hJ : ∀ d h, P d h → J d h) : M.join J B := hB J hJ
end M
end Go.Sh

/- Reasoning over the shallow form, 5: what is held apart in memory, and what stays as it was. -/
import Derived.Test.YtkfokpkpobjoeaaShB3
namespace Go.Sh
open Go.RowKit Classical
set_option linter.unusedSimpArgs false
set_option linter.unusedVariables false

theorem add2 (a : Addr) (m n : Nat) : (a.add m).add n = a.add (m + n) := by
  unfold Addr.add
  by_cases hm : m = 0 <;> by_cases hn : n = 0 <;> simp [hm, hn, Nat.add_assoc]
theorem app_own0 {h0 h : H} {e : TypeId} {size bytes : Nat} {zero : List Value} {a : Option Addr} {l c n : Nat} {xs new : List Value} {K : Option Addr → Nat → Nat → H → Prop} (hk : Keep h0 h) (o : Own h0 h e size a l c xs)
    (hz : zero.length = size) (hn : new.length = n * size) (hp : ∀ v ∈ new, isPlainCell v = true) (hmax : 2 * (l + n) * bytes ≤ 281474976710656) (hmax2 : l + n ≤ 9223372036854775807)
    (k : ∀ a' c' h', Keep h0 h' → Own h0 h' e size a' (l + n) c' (xs ++ new) → K a' (l + n) c' h') : M.app h e size bytes zero a l c n new K := by
  by_cases hn0 : 0 < n
  · exact app_own hk o hz hn hn0 hp hmax hmax2 k
  · have e0 : n = 0 := by omega
    subst e0
    have e1 : new = [] := List.length_eq_zero_iff.1 (by simpa using hn)
    subst e1
    have o' : Own h0 h e size a (l + 0) c (xs ++ []) := by simpa using o
    refine ⟨fun hfit => ⟨fun hnone => ?_, fun ad had => ?_⟩, fun hgrow => ⟨?_, ?_, ⟨fun hnone c' hc' b hb => ?_, fun ad had => ?_⟩⟩⟩
    · exact k _ _ _ hk o'
    · exact ⟨by simp, by simp, k _ _ _ hk o'⟩
    · have : IntKind.i64.max = 9223372036854775807 := by decide
      rw [this]; omega
    · exact Nat.le_trans (Nat.mul_le_mul_right _ (nextslicecap_le hgrow)) hmax
    · subst hnone
      cases o
      omega
    · refine ⟨xs, o.len, o.row had, fun c' hc' b hb => ?_⟩
      refine k _ _ _ (hk.new hb _) (.blk (hk.none hb) (H.upd_self _ _ _) (by simp [o.len]) ?_)
      simp only [List.length_append, zerosOf_length, hz, o.len, List.length_nil]
      rw [Nat.add_zero, ← Nat.add_mul]; congr 1; omega
/-- Something that lies in memory: in which blocks, and how. -/
structure Chunk where
  holds : (Nat → Prop) → H → Prop
  loc : ∀ {F : Nat → Prop} {h h' : H}, holds F h → (∀ x, F x → h' x = h x) → holds F h'
  dom : ∀ {F : Nat → Prop} {h : H} {x : Nat}, holds F h → F x → h x ≠ none
namespace Chunk
def emp : Chunk where
  holds F _ := ∀ x, ¬ F x
  loc h _ := h
  dom h hx := absurd hx (h _)
def star (a b : Chunk) : Chunk where
  holds F h := ∃ F1 F2, a.holds F1 h ∧ b.holds F2 h ∧ (∀ x, F1 x → ¬ F2 x) ∧ ∀ x, F x ↔ F1 x ∨ F2 x
  loc := fun ⟨F1, F2, h1, h2, h3, h4⟩ hs => ⟨F1, F2, a.loc h1 fun x hx => hs x ((h4 x).2 (.inl hx)), b.loc h2 fun x hx => hs x ((h4 x).2 (.inr hx)), h3, h4⟩
  dom := fun ⟨F1, F2, h1, h2, _, h4⟩ hx => ((h4 _).1 hx).elim (a.dom h1) (b.dom h2)
def sep : List Chunk → Chunk
  | [] => emp
  | c :: L => star c (sep L)
def blk (b : Nat) (o : Obj) : Chunk where
  holds F h := (∀ x, F x ↔ x = b) ∧ h b = some o
  loc := fun ⟨h1, h2⟩ hs => ⟨h1, (hs b ((h1 b).2 rfl)).trans h2⟩
  dom := fun ⟨h1, h2⟩ hx => by rw [(h1 _).1 hx, h2]; simp
def ex {α : Type} (f : α → Chunk) : Chunk where
  holds F h := ∃ a, (f a).holds F h
  loc := fun ⟨a, h⟩ hs => ⟨a, (f a).loc h hs⟩
  dom := fun ⟨a, h⟩ hx => (f a).dom h hx
def given (p : Prop) (c : Chunk) : Chunk where
  holds F h := p ∧ c.holds F h
  loc := fun ⟨hp, h⟩ hs => ⟨hp, c.loc h hs⟩
  dom := fun ⟨_, h⟩ hx => c.dom h hx
/-- A slice of one's own. -/
def sl (e : TypeId) (size : Nat) : Option Addr → Nat → Nat → List Value → Chunk := fun a l c xs =>
  { holds := fun F h => (a = none ∧ l = 0 ∧ c = 0 ∧ xs = [] ∧ ∀ x, ¬ F x) ∨ ∃ b rest, a = some ⟨b, 0, none⟩ ∧ (∀ x, F x ↔ x = b) ∧ h b = some (.cells (xs ++ rest).toArray e (0, 0)) ∧ xs.length = l * size ∧ (xs ++ rest).length = c * size
    loc := fun {F h h'} hh hs => by
      rcases hh with hh | ⟨b, rest, h1, h2, h3, h4⟩
      · exact .inl hh
      · exact .inr ⟨b, rest, h1, h2, (hs b ((h2 b).2 rfl)).trans h3, h4⟩
    dom := fun {F h x} hh hx => by
      rcases hh with ⟨_, _, _, _, hh⟩ | ⟨b, rest, h1, h2, h3, h4⟩
      · exact absurd hx (hh _)
      · rw [(h2 _).1 hx, h3]; simp }

theorem ext' (a : Chunk) {F F' : Nat → Prop} {h : H} (k : a.holds F h) (e : ∀ x, F' x ↔ F x) : a.holds F' h := by
  have : F' = F := funext fun x => propext (e x)
  rwa [this]
def Le (a b : Chunk) : Prop := ∀ F h, a.holds F h → b.holds F h
theorem Le.refl (a : Chunk) : Le a a := fun _ _ h => h
theorem Le.trans {a b c : Chunk} (x : Le a b) (y : Le b c) : Le a c := fun F h k => y F h (x F h k)
theorem star_comm (a b : Chunk) : Le (star a b) (star b a) := fun _ _ ⟨F1, F2, h1, h2, h3, h4⟩ => ⟨F2, F1, h2, h1, fun x k2 k1 => h3 x k1 k2, fun x => (h4 x).trans Or.comm⟩
theorem star_left (a b c : Chunk) : Le (star a (star b c)) (star (star a b) c) := by
  rintro F h ⟨F1, F2, h1, ⟨F3, F4, h3, h4, hd, hu⟩, hd', hu'⟩
  refine ⟨fun x => F1 x ∨ F3 x, F4, ⟨F1, F3, h1, h3, fun x x1 x3 => hd' x x1 ((hu x).2 (.inl x3)), fun x => Iff.rfl⟩, h4, ?_, fun x => ?_⟩
  · rintro x (x1 | x3) x4
    · exact hd' x x1 ((hu x).2 (.inr x4))
    · exact hd x x3 x4
  · rw [hu' x, hu x, or_assoc]
theorem star_right (a b c : Chunk) : Le (star (star a b) c) (star a (star b c)) := by
  rintro F h ⟨F12, F3, ⟨F1, F2, h1, h2, hd, hu⟩, h3, hd', hu'⟩
  refine ⟨F1, fun x => F2 x ∨ F3 x, h1, ⟨F2, F3, h2, h3, fun x x2 x3 => hd' x ((hu x).2 (.inr x2)) x3, fun x => Iff.rfl⟩, ?_, fun x => ?_⟩
  · rintro x x1 (x2 | x3)
    · exact hd x x1 x2
    · exact hd' x ((hu x).2 (.inl x1)) x3
  · rw [hu' x, hu x, or_assoc]
theorem star_mono {a a' b b' : Chunk} (x : Le a a') (y : Le b b') : Le (star a b) (star a' b') := fun F h ⟨F1, F2, h1, h2, h3⟩ => ⟨F1, F2, x _ _ h1, y _ _ h2, h3⟩
theorem star_emp (a : Chunk) : Le (star a emp) a := by
  rintro F h ⟨F1, F2, h1, h2, _, hu⟩
  exact a.ext' h1 fun x => by rw [hu x]; simp [h2 x]
theorem emp_star (a : Chunk) : Le a (star a emp) := fun F h k => ⟨F, fun _ => False, k, fun _ => id, fun _ _ => id, fun x => by simp⟩
theorem emp_star' (a : Chunk) : Le a (star emp a) := (emp_star a).trans (star_comm _ _)
theorem star_emp' (a : Chunk) : Le (star emp a) a := (star_comm _ _).trans (star_emp a)
theorem star_swap (a b c : Chunk) : Le (star a (star b c)) (star b (star a c)) := (star_left _ _ _).trans ((star_mono (star_comm _ _) (Le.refl _)).trans (star_right _ _ _))
theorem sep_app : ∀ (L M : List Chunk), Le (sep (L ++ M)) (star (sep L) (sep M))
  | [], M => emp_star' _
  | c :: L, M => (star_mono (Le.refl c) (sep_app L M)).trans (star_left _ _ _)
theorem app_sep : ∀ (L M : List Chunk), Le (star (sep L) (sep M)) (sep (L ++ M))
  | [], M => star_emp' _
  | c :: L, M => (star_right _ _ _).trans (star_mono (Le.refl c) (app_sep L M))
theorem sep_get : ∀ {L : List Chunk} {i : Nat} {c : Chunk}, L[i]? = some c → Le (sep L) (star c (sep (L.eraseIdx i)))
  | [], _, _, h => by simp at h
  | a :: L, 0, c, h => by
    simp only [List.getElem?_cons_zero, Option.some.injEq] at h
    subst h; exact Le.refl _
  | a :: L, i + 1, c, h => (star_mono (Le.refl a) (sep_get (by simpa using h))).trans (star_swap _ _ _)
theorem sep_set : ∀ {L : List Chunk} {i : Nat} {c c' : Chunk}, L[i]? = some c → Le (star c' (sep (L.eraseIdx i))) (sep (L.set i c'))
  | [], _, _, _, h => by simp at h
  | a :: L, 0, c, c', h => Le.refl _
  | a :: L, i + 1, c, c', h => (star_swap _ _ _).trans (star_mono (Le.refl a) (sep_set (by simpa using h)))
theorem sep_one (c : Chunk) : Le (sep [c]) c := star_emp c
theorem one_sep (c : Chunk) : Le c (sep [c]) := emp_star c
end Chunk

/-- What was there at 'h0' is there; what is listed lies apart, in blocks that were not there. -/
structure Wd (h0 h : H) (L : List Chunk) : Prop where
  keep : Keep h0 h
  sat : ∃ F, (Chunk.sep L).holds F h ∧ ∀ x, F x → h0 x = none
namespace Wd
open Chunk
variable {h0 h : H} {L : List Chunk}
theorem start (h : H) : Wd h h [] := ⟨Keep.refl h, fun _ => False, fun _ => id, fun _ k => k.elim⟩
theorem le {L' : List Chunk} (w : Wd h0 h L) (e : Le (sep L) (sep L')) : Wd h0 h L' := ⟨w.keep, let ⟨F, h1, h2⟩ := w.sat; ⟨F, e _ _ h1, h2⟩⟩
theorem get {i : Nat} {c : Chunk} (w : Wd h0 h L) (hi : L[i]? = some c) : ∃ F, c.holds F h ∧ ∀ x, F x → h0 x = none := by
  obtain ⟨F, h1, h2⟩ := w.sat
  obtain ⟨F1, F2, k1, _, _, hu⟩ := sep_get hi F h h1
  exact ⟨F1, k1, fun x hx => h2 x ((hu x).2 (.inl hx))⟩
theorem blk {b : Nat} {o : Obj} (w : Wd h0 h L) (i : Nat) (hi : L[i]? = some (.blk b o)) : h b = some o := let ⟨_, h1, _⟩ := w.get hi; h1.2
theorem blk0 {b : Nat} {o : Obj} (w : Wd h0 h L) (i : Nat) (hi : L[i]? = some (.blk b o)) : h0 b = none := let ⟨_, h1, h2⟩ := w.get hi; h2 b ((h1.1 b).2 rfl)
theorem slrow {e : TypeId} {size : Nat} {a : Option Addr} {l c : Nat} {xs : List Value} (w : Wd h0 h L) (i : Nat) (hi : L[i]? = some (.sl e size a l c xs)) : xs.length = l * size ∧ l * size ≤ c * size ∧ (a = none → xs = [] ∧ l = 0) ∧ ∀ b, a = some b → rowAt h b xs := by
  obtain ⟨F, h1, _⟩ := w.get hi
  rcases h1 with ⟨rfl, rfl, rfl, rfl, _⟩ | ⟨b, rest, rfl, _, hb, hl, hc⟩
  · exact ⟨by simp, by simp, fun _ => ⟨rfl, rfl⟩, fun b hb => by simp at hb⟩
  · refine ⟨hl, ?_, fun h => by simp at h, fun b' hb' => ?_⟩
    · rw [← hl, ← hc]; simp
    · simp only [Option.some.injEq] at hb'
      subst hb'
      intro i hi
      rw [addr_add, cell_in hb]
      simp only [List.getElem?_toArray, Nat.zero_add]
      exact List.getElem?_append_left hi
theorem keeps {h' : H} (w : Wd h0 h L) (k : Keep h h') : Wd h0 h' L := by
  obtain ⟨F, h1, h2⟩ := w.sat
  refine ⟨w.keep.trans k, F, (Chunk.sep L).loc h1 fun x hx => ?_, h2⟩
  cases hh : h x with
  | none => exact absurd hh ((Chunk.sep L).dom h1 hx)
  | some o => exact k _ _ hh
/-- One of what is listed is taken out: the rest is what was there. -/
theorem on {i : Nat} {c : Chunk} (w : Wd h0 h L) (hi : L[i]? = some c) :
    ∃ h1, Keep h0 h1 ∧ Keep h1 h ∧ Wd h1 h [c] ∧ Wd h0 h1 (L.eraseIdx i) ∧ ∀ h' c', Wd h1 h' [c'] → Wd h0 h' (L.set i c') := by
  obtain ⟨F, h1, h2⟩ := w.sat
  obtain ⟨F1, F2, k1, k2, hd, hu⟩ := sep_get hi F h h1
  have e1 : ∀ x, ¬ F1 x → (fun x => if F1 x then none else h x) x = h x := fun x hx => by simp [hx]
  have kk : Keep (fun x => if F1 x then none else h x) h := fun x o hx => by
    by_cases hf : F1 x
    · simp [hf] at hx
    · simpa [hf] using hx
  have k0 : Keep h0 (fun x => if F1 x then none else h x) := fun x o hx => by
    have : ¬ F1 x := fun hf => by rw [h2 x ((hu x).2 (.inl hf))] at hx; simp at hx
    simp only [this, if_false]
    exact w.keep _ _ hx
  refine ⟨fun x => if F1 x then none else h x, k0, kk, ⟨kk, F1, one_sep c _ _ k1, fun x hx => by simp [hx]⟩, ⟨k0, F2, (Chunk.sep _).loc k2 fun x hx => by
      have : ¬ F1 x := fun hf => hd x hf hx
      simp [this], fun x hx => h2 x ((hu x).2 (.inr hx))⟩, fun h' c' w' => ?_⟩
  obtain ⟨F1', m1, m2⟩ := w'.sat
  have m3 : ∀ x, F1' x → F1 x ∨ h x = none := fun x hx => by
    have := m2 x hx
    by_cases hf : F1 x
    · exact .inl hf
    · exact .inr (by simpa [hf] using this)
  have kh : Keep h0 h' := k0.trans w'.keep
  have r2 : (sep (L.eraseIdx i)).holds F2 h' := (Chunk.sep _).loc k2 fun x hx => by
    have hn : ¬ F1 x := fun hf => hd x hf hx
    cases hh : h x with
    | none => exact absurd hh ((Chunk.sep _).dom k2 hx)
    | some o => exact w'.keep x o (by simp [hn, hh])
  refine ⟨kh, fun x => F1' x ∨ F2 x, sep_set hi _ _ ⟨F1', F2, sep_one c' _ _ m1, r2, fun x hx h2x => ?_, fun x => Iff.rfl⟩, fun x hx => ?_⟩
  · rcases m3 x hx with hf | hf
    · exact hd x hf h2x
    · exact absurd hf ((Chunk.sep _).dom k2 h2x)
  · rcases hx with hx | hx
    · rcases m3 x hx with hf | hf
      · exact h2 x ((hu x).2 (.inl hf))
      · exact w.keep.none hf
    · exact h2 x ((hu x).2 (.inr hx))
theorem new {b : Nat} (w : Wd h0 h L) (hb : h b = none) (o : Obj) : Wd h0 (h.upd b o) (L ++ [.blk b o]) := by
  have k := (Keep.refl h).new hb o
  obtain ⟨F, h1, h2⟩ := w.sat
  have hne : ∀ x, F x → x ≠ b := fun x hx e => by subst e; exact (sep L).dom h1 hx hb
  refine ⟨w.keep.trans k, fun x => F x ∨ x = b, app_sep L _ _ _ ⟨F, fun x => x = b, (sep L).loc h1 fun x hx => H.upd_ne _ _ (hne x hx), one_sep _ _ _ ⟨fun x => Iff.rfl, H.upd_self _ _ _⟩, hne, fun x => Iff.rfl⟩, fun x hx => ?_⟩
  rcases hx with hx | rfl
  · exact h2 x hx
  · exact w.keep.none hb
theorem one {c : Chunk} {F : Nat → Prop} (k : Keep h0 h) (hc : c.holds F h) (hF : ∀ x, F x → h0 x = none) : Wd h0 h [c] := ⟨k, F, one_sep c _ _ hc, hF⟩
/-- One of what is listed is something else now. -/
theorem upd {i b : Nat} {o : Obj} (w : Wd h0 h L) (hi : L[i]? = some (.blk b o)) (o' : Obj) : Wd h0 (h.upd b o') (L.set i (.blk b o')) := by
  obtain ⟨h1, _, k1, w1, _, back⟩ := w.on hi
  have hb := w1.blk0 0 rfl
  exact back _ _ (one (k1.own hb _) (F := fun x => x = b) ⟨fun _ => Iff.rfl, H.upd_self _ _ _⟩ fun x hx => by rw [hx]; exact hb)
theorem weaken {i : Nat} {c c' : Chunk} (w : Wd h0 h L) (hi : L[i]? = some c) (e : Le c c') : Wd h0 h (L.set i c') := w.le ((sep_get hi).trans ((star_mono e (Le.refl _)).trans (sep_set hi)))
theorem openEx {α : Type} {i : Nat} {f : α → Chunk} (w : Wd h0 h L) (hi : L[i]? = some (.ex f)) : ∃ a, Wd h0 h (L.set i (f a)) := by
  obtain ⟨F, h1, h2⟩ := w.sat
  obtain ⟨F1, F2, ⟨a, k1⟩, k2, r⟩ := sep_get hi F h h1
  exact ⟨a, w.keep, F, sep_set hi _ _ ⟨F1, F2, k1, k2, r⟩, h2⟩
theorem openGiven {p : Prop} {i : Nat} {c : Chunk} (w : Wd h0 h L) (hi : L[i]? = some (.given p c)) : p ∧ Wd h0 h (L.set i c) := by
  obtain ⟨F, ⟨hp, _⟩, _⟩ := w.get hi
  exact ⟨hp, w.weaken hi fun _ _ k => k.2⟩
theorem openSep {i : Nat} {cs : List Chunk} (w : Wd h0 h L) (hi : L[i]? = some (.sep cs)) : Wd h0 h (L.eraseIdx i ++ cs) := w.le ((sep_get hi).trans ((star_comm _ _).trans (app_sep _ _)))
theorem drop {i : Nat} {c : Chunk} (w : Wd h0 h L) (hi : L[i]? = some c) : Wd h0 h (L.eraseIdx i) := by
  obtain ⟨F, h1, h2⟩ := w.sat
  obtain ⟨F1, F2, _, k2, _, hu⟩ := sep_get hi F h h1
  exact ⟨w.keep, F2, k2, fun x hx => h2 x ((hu x).2 (.inr hx))⟩
theorem mv {i : Nat} {c : Chunk} (w : Wd h0 h L) (hi : L[i]? = some c) : Wd h0 h (L.eraseIdx i ++ [c]) := w.le ((sep_get hi).trans ((star_comm _ _).trans ((star_mono (Le.refl _) (one_sep c)).trans (app_sep _ _))))
theorem fold {c : Chunk} (w : Wd h0 h L) (n : Nat) (e : Le (sep (L.drop n)) c) : Wd h0 h (L.take n ++ [c]) := by
  refine w.le ?_
  have : Le (sep L) (sep (L.take n ++ L.drop n)) := by rw [List.take_append_drop]; exact Le.refl _
  exact this.trans ((sep_app _ _).trans ((star_mono (Le.refl _) (e.trans (one_sep c))).trans (app_sep _ _)))
theorem nilsl (w : Wd h0 h L) (e : TypeId) (size : Nat) : Wd h0 h (L ++ [.sl e size none 0 0 []]) := by
  have e1 : Le emp (.sl e size none 0 0 []) := fun F h k => Or.inl ⟨rfl, rfl, rfl, rfl, k⟩
  exact w.le ((emp_star _).trans ((star_mono (Le.refl _) (e1.trans (one_sep _))).trans (app_sep _ _)))
theorem blkSl {i b : Nat} {e : TypeId} {size : Nat} (w : Wd h0 h L) (hi : L[i]? = some (.blk b (.cells #[] e (0, 0)))) : Wd h0 h (L.set i (.sl e size (some ⟨b, 0, none⟩) 0 0 [])) :=
  w.weaken hi fun F h ⟨hF, hb⟩ => Or.inr ⟨b, [], rfl, hF, hb, by simp, by simp⟩
theorem shrink {i : Nat} {e : TypeId} {size : Nat} {a : Option Addr} {l l' c : Nat} {xs : List Value} (w : Wd h0 h L) (hi : L[i]? = some (.sl e size a l c xs)) (hl : l' ≤ l) : Wd h0 h (L.set i (.sl e size a l' c (xs.take (l' * size)))) :=
  w.weaken hi fun F h k => by
    have hm : l' * size ≤ l * size := Nat.mul_le_mul_right _ hl
    rcases k with ⟨h1, h2, h3, h4, h5⟩ | ⟨b, rest, h1, h2, h3, h4, h5⟩
    · exact Or.inl ⟨h1, by omega, h3, by simp [h4], h5⟩
    · refine Or.inr ⟨b, xs.drop (l' * size) ++ rest, h1, h2, ?_, by simp; omega, ?_⟩
      · rw [h3, ← List.append_assoc, List.take_append_drop]
      · rw [← h5, ← List.append_assoc, List.take_append_drop]
/-- The base may be thought smaller. -/
theorem base {h1 : H} (w : Wd h1 h L) (k : Keep h0 h1) : Wd h0 h L := ⟨k.trans w.keep, let ⟨F, a, b⟩ := w.sat; ⟨F, a, fun x hx => k.none (b x hx)⟩⟩
/-- Several that are listed are taken out: the first 'n'. -/
theorem split (w : Wd h0 h L) (n : Nat) : ∃ h1, Keep h0 h1 ∧ Keep h1 h ∧ Wd h1 h (L.take n) ∧ Wd h0 h1 (L.drop n) ∧ ∀ h' L', Wd h1 h' L' → Wd h0 h' (L' ++ L.drop n) := by
  have w0 : Wd h0 h [sep (L.take n), sep (L.drop n)] := w.le (by
    have : Le (sep L) (sep (L.take n ++ L.drop n)) := by rw [List.take_append_drop]; exact Le.refl _
    exact this.trans ((sep_app _ _).trans (star_mono (Le.refl _) (one_sep _))))
  obtain ⟨h1, k0, k1, w1, w2, back⟩ := w0.on (i := 0) rfl
  refine ⟨h1, k0, k1, w1.le (sep_one _), w2.le (sep_one _), fun h' L' w' => ?_⟩
  have w3 := back h' (sep L') (w'.le (one_sep _))
  exact w3.le ((star_mono (Le.refl _) (sep_one _)).trans (app_sep _ _))
/-- What lies apart from what was there lies apart from what is listed. -/
theorem join {h' : H} {M : List Chunk} (w : Wd h0 h L) (w' : Wd h h' M) : Wd h0 h' (L ++ M) := by
  obtain ⟨F, h1, h2⟩ := w.sat
  obtain ⟨G, g1, g2⟩ := w'.sat
  have hne : ∀ x, F x → ¬ G x := fun x hx hg => (sep L).dom h1 hx (g2 x hg)
  refine ⟨w.keep.trans w'.keep, fun x => F x ∨ G x, app_sep L M _ _ ⟨F, G, (sep L).loc h1 fun x hx => ?_, g1, hne, fun x => Iff.rfl⟩, fun x hx => ?_⟩
  · cases hh : h x with
    | none => exact absurd hh ((sep L).dom h1 hx)
    | some o => exact w'.keep _ _ hh
  · rcases hx with hx | hx
    · exact h2 x hx
    · exact w.keep.none (g2 x hx)
/-- Something made of parts. -/
abbrev obj {α : Type} (p : α → Prop) (cs : α → List Chunk) : Chunk := .ex fun v => .given (p v) (.sep (cs v))
theorem opn {α : Type} {p : α → Prop} {cs : α → List Chunk} (w : Wd h0 h L) (i : Nat) (hi : L[i]? = some (obj p cs)) : ∃ v, p v ∧ Wd h0 h (L.eraseIdx i ++ cs v) := by
  obtain ⟨F, h1, h2⟩ := w.sat
  obtain ⟨F1, F2, ⟨v, hp, k1⟩, k2, hd, hu⟩ := sep_get hi F h h1
  exact ⟨v, hp, w.keep, F, app_sep _ _ _ _ ⟨F2, F1, k2, k1, fun x a b => hd x b a, fun x => (hu x).trans Or.comm⟩, h2⟩
theorem close {α : Type} {p : α → Prop} {cs : α → List Chunk} (w : Wd h0 h L) (n : Nat) (v : α) (hc : L.drop n = cs v) (hp : p v) : Wd h0 h (L.take n ++ [obj p cs]) :=
  w.fold n fun F h k => ⟨v, hp, by rw [hc] at k; exact k⟩
end Wd

namespace M
open Chunk
variable {h0 h : H} {L : List Chunk}
theorem new_w {o : Obj} {K : Nat → H → Prop} (w : Wd h0 h L) (k : ∀ b h', Wd h0 h' (L ++ [.blk b o]) → K b h') : M.new h o K := fun b hb => k b _ (w.new hb o)
/-- A block that need not be remembered. -/
theorem new_t {o : Obj} {K : Nat → H → Prop} (w : Wd h0 h L) (k : ∀ b h', h' b = some o → Wd h0 h' L → K b h') : M.new h o K := fun b hb => k b _ (H.upd_self _ _ _) (w.keeps ((Keep.refl h).new hb o))
theorem put_w {K : H → Prop} {b o : Nat} {c : Array Value} {e : TypeId} {v : Value} (w : Wd h0 h L) (i : Nat) (hi : L[i]? = some (.blk b (.cells c e (0, 0)))) (hp : isPlainCell v = true) (ho : o < c.size)
    (k : ∀ h', Wd h0 h' (L.set i (.blk b (.cells (c.setIfInBounds o v) e (0, 0)))) → K h') : M.put h ⟨b, o, none⟩ v K :=
  put_in (w.blk i hi) hp ho (k _ (w.upd hi _))
theorem puts_w {K : H → Prop} {b o : Nat} {c : Array Value} {e : TypeId} {vs : List Value} (w : Wd h0 h L) (i : Nat) (hi : L[i]? = some (.blk b (.cells c e (0, 0)))) (hp : ∀ v ∈ vs, isPlainCell v = true) (ho : o + vs.length ≤ c.size)
    (k : ∀ h', Wd h0 h' (L.set i (.blk b (.cells (splice c o vs) e (0, 0)))) → K h') : M.puts h ⟨b, o, none⟩ vs K :=
  puts_in (w.blk i hi) hp ho (k _ (w.upd hi _))
theorem puts_w0 {K : H → Prop} {b : Nat} {c : Array Value} {e : TypeId} {vs : List Value} (w : Wd h0 h L) (i : Nat) (hi : L[i]? = some (.blk b (.cells c e (0, 0)))) (hp : ∀ v ∈ vs, isPlainCell v = true) (ho : vs.length = c.size)
    (k : ∀ h', Wd h0 h' (L.set i (.blk b (.cells vs.toArray e (0, 0)))) → K h') : M.puts h ⟨b, 0, none⟩ vs K :=
  puts_all (w.blk i hi) hp ho (k _ (w.upd hi _))
theorem app_w {e : TypeId} {size bytes : Nat} {zero : List Value} {a : Option Addr} {l c n : Nat} {xs new : List Value} {K : Option Addr → Nat → Nat → H → Prop} (w : Wd h0 h L) (i : Nat) (hi : L[i]? = some (.sl e size a l c xs))
    (hz : zero.length = size) (hn : new.length = n * size) (hp : ∀ v ∈ new, isPlainCell v = true) (hmax : 2 * (l + n) * bytes ≤ 281474976710656) (hmax2 : l + n ≤ 9223372036854775807)
    (k : ∀ a' c' h', Wd h0 h' (L.set i (.sl e size a' (l + n) c' (xs ++ new))) → K a' (l + n) c' h') : M.app h e size bytes zero a l c n new K := by
  obtain ⟨h1, _, k1, w1, _, back⟩ := w.on hi
  obtain ⟨F, hc, hF⟩ := w1.get (i := 0) rfl
  have ho : Own h1 h e size a l c xs := by
    rcases hc with ⟨rfl, rfl, rfl, rfl, _⟩ | ⟨b, rest, rfl, hFb, hb, hl, hc⟩
    · exact .nil
    · exact .blk (hF b ((hFb b).2 rfl)) hb hl hc
  refine app_own0 k1 ho hz hn hp hmax hmax2 fun a' c' h' k' o' => k a' c' h' (back _ _ ?_)
  generalize hxs : xs ++ new = ys at o' ⊢
  generalize hll : l + n = m at o' ⊢
  cases o' with
  | nil => exact Wd.one k' (F := fun _ => False) (.inl ⟨rfl, rfl, rfl, rfl, fun _ => id⟩) fun _ k => k.elim
  | blk n hb hl hc => exact Wd.one k' (F := fun x => x = _) (.inr ⟨_, _, rfl, fun _ => Iff.rfl, hb, hl, hc⟩) fun x hx => by rw [hx]; exact n
/-- A made slice, as a block. -/
theorem mk_w {e : TypeId} {zero : List Value} {bytes : Nat} {l c : Int} {K : Option Addr → Nat → Nat → H → Prop} (w : Wd h0 h L) (h1 : 0 ≤ l) (h2 : l ≤ c) (h3 : (bytes : Int) * c ≤ 281474976710656) (h4 : c ≤ 9223372036854775807)
    (k : ∀ b h', Wd h0 h' (L ++ [.blk b (.cells (zerosOf zero c.toNat).toArray e)]) → K (some ⟨b, 0, none⟩) l.toNat c.toNat h') : M.mk h e zero bytes l c K :=
  ⟨h1, h2, h3, h4, fun b hb => k b _ (w.new hb _)⟩
/-- A made slice, as a slice of one's own. -/
theorem mk_sl {e : TypeId} {size : Nat} {zero : List Value} {bytes : Nat} {l c : Int} {K : Option Addr → Nat → Nat → H → Prop} (w : Wd h0 h L) (h1 : 0 ≤ l) (h2 : l ≤ c) (h3 : (bytes : Int) * c ≤ 281474976710656) (h4 : c ≤ 9223372036854775807) (hz : zero.length = size)
    (k : ∀ a h', Wd h0 h' (L ++ [.sl e size a l.toNat c.toNat (zerosOf zero l.toNat)]) → K a l.toNat c.toNat h') : M.mk h e zero bytes l c K := by
  refine mk_w w h1 h2 h3 h4 fun b h' w' => k _ _ ?_
  have hi : (L ++ [Chunk.blk b (.cells (zerosOf zero c.toNat).toArray e)])[L.length]? = some (.blk b (.cells (zerosOf zero c.toNat).toArray e)) := by simp
  have := w'.weaken (i := L.length) hi (c' := .sl e size (some ⟨b, 0, none⟩) l.toNat c.toNat (zerosOf zero l.toNat)) (by
    rintro F h ⟨hF, hb⟩
    refine .inr ⟨b, zerosOf zero (c.toNat - l.toNat), rfl, hF, ?_, by rw [zerosOf_length, hz], by simp only [List.length_append, zerosOf_length, hz]; rw [← Nat.add_mul]; congr 1; omega⟩
    rw [hb]
    have : zerosOf zero l.toNat ++ zerosOf zero (c.toNat - l.toNat) = zerosOf zero c.toNat := by
      unfold zerosOf
      rw [← List.flatten_append, List.replicate_append_replicate]; congr 2; omega
    rw [this])
  simpa using this
theorem cellsOf_row {K : List Value → Prop} {a : Option Addr} {n : Nat} {xs : List Value} (hn : xs.length = n) (h0 : a = none → xs = []) (hr : ∀ b, a = some b → rowAt h b xs) (hk : K xs) : M.cellsOf h a n K :=
  ⟨fun e => by rw [h0 e] at hk; exact hk, fun b e => ⟨xs, hn, hr b e, hk⟩⟩
theorem copy_w {K : H → Prop} {b o : Nat} {c : Array Value} {e : TypeId} {vs : List Value} (w : Wd h0 h L) (i : Nat) (hi : L[i]? = some (.blk b (.cells c e (0, 0)))) (hp : ∀ v ∈ vs, isPlainCell v = true) (ho : o + vs.length ≤ c.size)
    (k : ∀ h', Wd h0 h' (L.set i (.blk b (.cells (splice c o vs) e (0, 0)))) → K h') : M.copy h (some ⟨b, o, none⟩) vs K :=
  ⟨fun e => by simp at e, fun a e => by simp only [Option.some.injEq] at e; subst e; exact puts_w w i hi hp ho k⟩
/-- Cells of a slice of one's own are written. -/
theorem puts_sl {K : H → Prop} {a : Addr} {e : TypeId} {size l c o : Nat} {xs vs : List Value} (w : Wd h0 h L) (i : Nat) (hi : L[i]? = some (.sl e size (some a) l c xs)) (hp : ∀ v ∈ vs, isPlainCell v = true) (ho : o + vs.length ≤ xs.length)
    (k : ∀ h', Wd h0 h' (L.set i (.sl e size (some a) l c (xs.take o ++ vs ++ xs.drop (o + vs.length)))) → K h') : M.puts h (a.add o) vs K := by
  obtain ⟨h1, _, k1, w1, _, back⟩ := w.on hi
  obtain ⟨F, hc, hF⟩ := w1.get (i := 0) rfl
  rcases hc with ⟨he, _⟩ | ⟨b, rest, hab, hFb, hb, hl, hc⟩
  · simp at he
  · simp only [Option.some.injEq] at hab
    subst hab
    rw [addr_add, Nat.zero_add]
    have e1 : splice (xs ++ rest).toArray o vs = ((xs.take o ++ vs ++ xs.drop (o + vs.length)) ++ rest).toArray := by
      apply Array.ext_getElem?
      intro x
      rw [splice_get _ _ _ (by simp; omega)]
      simp only [List.getElem?_toArray]
      by_cases hx : o ≤ x ∧ x < o + vs.length
      · rw [if_pos hx, List.getElem?_append_left (by simp; omega), List.getElem?_append_left (by simp; omega), List.getElem?_append_right (by simp; omega)]
        congr 1; simp; omega
      · rw [if_neg hx]
        by_cases h1 : x < o
        · rw [List.getElem?_append_left (by omega), List.getElem?_append_left (by simp; omega), List.getElem?_append_left (by simp; omega), List.getElem?_append_left (by simp; omega), List.getElem?_take, if_pos h1]
        · by_cases h2 : x < xs.length
          · rw [List.getElem?_append_left h2, List.getElem?_append_left (by simp; omega), List.getElem?_append_right (by simp; omega), List.getElem?_drop]
            congr 1; simp; omega
          · rw [List.getElem?_append_right (by omega), List.getElem?_append_right (by simp; omega)]
            congr 1; simp; omega
    have hl2 : (xs.take o ++ vs ++ xs.drop (o + vs.length)).length = xs.length := by simp; omega
    refine puts_in hb hp (by simp; omega) (k _ (back _ _ ?_))
    rw [e1]
    refine Wd.one (k1.own (hF b ((hFb b).2 rfl)) _) (F := fun x => x = b) (.inr ⟨b, rest, rfl, fun _ => Iff.rfl, H.upd_self _ _ _, by rw [hl2, hl], ?_⟩) fun x hx => by rw [hx]; exact hF b ((hFb b).2 rfl)
    rw [List.length_append, hl2, ← hc, List.length_append]
theorem put_sl {K : H → Prop} {a : Addr} {e : TypeId} {size l c o : Nat} {xs : List Value} {v : Value} (w : Wd h0 h L) (i : Nat) (hi : L[i]? = some (.sl e size (some a) l c xs)) (hp : isPlainCell v = true) (ho : o < xs.length)
    (k : ∀ h', Wd h0 h' (L.set i (.sl e size (some a) l c (xs.set o v))) → K h') : M.put h (a.add o) v K := by
  have h1 : M.puts h (a.add o) [v] K := by
    refine puts_sl w i hi (by simpa using hp) (by simp; omega) fun h' w' => k h' ?_
    have : xs.take o ++ [v] ++ xs.drop (o + [v].length) = xs.set o v := by rw [List.set_eq_take_append_cons_drop, if_pos ho]; simp
    rwa [this] at w'
  obtain ⟨a1, a2, a3⟩ := h1
  have := a2 0 (by simp)
  rw [Addr.add_zero'] at this
  refine ⟨hp, this.1, this.2, ?_⟩
  have e : (h.sets (a.add o) 0 [v]) = h.set (a.add o) v := by simp [H.sets, Addr.add_zero']
  rwa [e] at a3
theorem jn {α : Type} {J : α → H → Prop} {B : (α → H → Prop) → Prop} (h : B J) : M.join J B := h
theorem idx_of {b : Addr} {len : Nat} {i : Int} {K : Addr → Nat → Prop} (h1 : 0 ≤ i) (h2 : i < len) (k : K b i.toNat) : M.idx (some b) len i K := ⟨b, rfl, h1, h2, k⟩
end M
end Go.Sh

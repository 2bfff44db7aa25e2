/- The shallow form, 1: the memory as a function of block numbers, and what a run of the model comes to, whatever the tape and the new blocks' numbers. -/
import Derived.Tactics2
import Derived.Below
import Derived.Orders
import Derived.KernelRfl
namespace Go.Sh
open Go.RowKit

/-- The memory as a function. -/
abbrev H := Nat → Option Obj
def hp (w : World) : H := fun b => w.heap[b]?
def H.cell (h : H) (a : Addr) : Option Value :=
  match h a.block with
  | some (.cells c _ _) => if a.spot.isSome then none else c[a.off]?
  | _ => none
def H.frozen (h : H) (a : Addr) : Bool :=
  match h a.block with
  | some (.cells _ _ (lo, hi)) => lo ≤ a.off && a.off < hi
  | _ => false
def H.shape (h : H) (r : Nat) : Option (TypeId × Nat) :=
  match h r with
  | some (.cells c e _) => some (e, c.size)
  | _ => none
def H.upd (h : H) (b : Nat) (o : Obj) : H := fun b' => if b' = b then some o else h b'
def H.modify (h : H) (b : Nat) (f : Obj → Obj) : H := fun b' => if b' = b then (h b').map f else h b'
def setIn (a : Addr) (v : Value) : Obj → Obj
  | .cells c elem frozen => .cells (if a.spot.isSome then c else c.setIfInBounds a.off v) elem frozen
  | o => o
def H.set (h : H) (a : Addr) (v : Value) : H := h.modify a.block (setIn a v)
def freezeIn (a : Addr) (n : Nat) : Obj → Obj
  | .cells c elem (lo, hi) => .cells c elem (if lo == hi then (a.off, a.off + n) else (min lo a.off, max hi (a.off + n)))
  | o => o
def H.freeze (h : H) (a : Addr) (n : Nat) : H := if n = 0 then h else h.modify a.block (freezeIn a n)

theorem hp_cell (w : World) (a : Addr) : w.cell? a = (hp w).cell a := rfl
theorem hp_frozen (w : World) (a : Addr) : w.frozen? a = (hp w).frozen a := rfl
theorem hp_shape (w : World) (r : Nat) : w.shape? r = (hp w).shape r := rfl
theorem hp_push (w : World) (o : Obj) : hp { w with heap := w.heap.push o } = (hp w).upd w.heap.size o := by
  funext b
  simp only [hp, H.upd, Array.getElem?_push]
theorem hp_fresh (w : World) : hp w w.heap.size = none := by simp [hp]
theorem hp_modify (w : World) (b : Nat) (f : Obj → Obj) : hp { w with heap := w.heap.modify b f } = (hp w).modify b f := by
  funext b'
  simp only [hp, H.modify, Array.getElem?_modify]
  by_cases e : b' = b
  · subst e; simp
  · have : ¬ b = b' := fun x => e x.symm
    simp [this, e]
theorem hp_set (w : World) (a : Addr) (v : Value) : hp (w.setCell a v) = (hp w).set a v := hp_modify w a.block (setIn a v)
theorem hp_freeze (w : World) (a : Addr) (n : Nat) : hp (w.freeze a n) = (hp w).freeze a n := by
  unfold World.freeze H.freeze
  split
  · rfl
  · exact hp_modify w a.block (freezeIn a n)
theorem hp_setObj (w : World) (r : Nat) (o : Obj) {o' : Obj} (h : w.heap[r]? = some o') : hp { w with heap := w.heap.setIfInBounds r o } = (hp w).upd r o := by
  funext b
  have hlt : r < w.heap.size := (Array.getElem?_eq_some_iff.1 h).1
  simp only [hp, H.upd, Array.getElem?_setIfInBounds]
  by_cases e : r = b
  · subst e; simp [hlt]
  · have : ¬ b = r := fun x => e x.symm
    simp [e, this]

/-- Besides the heap nothing of the world turns but the count of draws. -/
structure Stays (w w' : World) : Prop where
  os : w'.os = w.os
  tape : w'.tape = w.tape
  output : w'.output = w.output
  size : w.heap.size ≤ w'.heap.size
theorem Stays.refl (w : World) : Stays w w := ⟨rfl, rfl, rfl, Nat.le_refl _⟩
theorem Stays.trans {a b c : World} (h : Stays a b) (k : Stays b c) : Stays a c :=
  ⟨k.os.trans h.os, k.tape.trans h.tape, k.output.trans h.output, Nat.le_trans h.size k.size⟩

def isPlainCell : Value → Bool
  | .agg _ => false
  | .tuple _ => false
  | _ => true
def isCellsObj : Obj → Bool
  | .cells .. => true
  | _ => false

/-- What a run comes to, whatever the tape, whichever the new blocks' numbers. -/
def wpS (P : Program) {α : Type} : Sem α → (α → H → Prop) → H → Prop
  | .pure a, Q, h => Q a h
  | .load _ a k, Q, h => ∃ v, h.cell a = some v ∧ wpS P (k v) Q h
  | .store _ a v k, Q, h => isPlainCell v = true ∧ (h.cell a).isSome = true ∧ h.frozen a = false ∧ wpS P k Q (h.set a v)
  | .new o k, Q, h => ∀ b, h b = none → wpS P (k b) Q (h.upd b o)
  | .shape r k, Q, h => wpS P (k (h.shape r)) Q h
  | .freeze a n k, Q, h => wpS P k Q (h.freeze a n)
  | .frozen a k, Q, h => wpS P (k (h.frozen a)) Q h
  | .getObj r k, Q, h => ∃ o, h r = some o ∧ isCellsObj o = false ∧ wpS P (k o) Q h
  | .setObj r o k, Q, h => ∃ o', h r = some o' ∧ isCellsObj o' = false ∧ wpS P k Q (h.upd r o)
  | .choose q k, Q, h => if q.forced then wpS P (k 0) Q h else ∀ t, wpS P (k (q.cut t)) Q h
  | .sys _ _, _, _ => False
  | .program k, Q, h => wpS P (k P) Q h
  | .mark _ k, Q, h => wpS P k Q h
  | .halt _, _, _ => False

theorem wpS_sound (P : Program) {α : Type} (s : Sem α) : ∀ (Q : α → H → Prop) (w : World), wpS P s Q (hp w) → ∃ v w', s.run P w = .ok v w' ∧ Q v (hp w') ∧ Stays w w' := by
  induction s with
  | pure a => intro Q w h; exact ⟨a, w, rfl, h, .refl w⟩
  | load m a k ih =>
    intro Q w ⟨v, hv, h⟩
    obtain ⟨r, w', e, q, s⟩ := ih v Q w h
    refine ⟨r, w', ?_, q, s⟩
    unfold Sem.run
    rw [hp_cell, hv]; exact e
  | store m a v k ih =>
    intro Q w ⟨hv, hs, hf, h⟩
    rw [← hp_set] at h
    obtain ⟨r, w', e, q, s⟩ := ih Q (w.setCell a v) h
    have hrun : Sem.run P (.store m a v k) w = k.run P (w.setCell a v) := by
      obtain ⟨u, hu⟩ := Option.isSome_iff_exists.1 hs
      rw [← hp_cell] at hu
      rw [← hp_frozen] at hf
      cases v <;> first | (simp [isPlainCell] at hv; done) | simp [Sem.run, hu, hf]
    exact ⟨r, w', by rw [hrun]; exact e, q, s.os, s.tape, s.output, Nat.le_trans (by simp) s.size⟩
  | new o k ih =>
    intro Q w h
    have h1 := h w.heap.size (hp_fresh w)
    rw [← hp_push] at h1
    obtain ⟨r, w', e, q, s⟩ := ih _ Q _ h1
    exact ⟨r, w', e, q, s.os, s.tape, s.output, Nat.le_trans (by simp) s.size⟩
  | shape r k ih => intro Q w h; obtain ⟨r, w', e, q, s⟩ := ih _ Q w h; exact ⟨r, w', e, q, s⟩
  | freeze a n k ih =>
    intro Q w h
    unfold wpS at h
    rw [← hp_freeze] at h
    obtain ⟨r, w', e, q, s⟩ := ih Q _ h
    refine ⟨r, w', e, q, Stays.trans ?_ s⟩
    unfold World.freeze
    split
    · exact .refl w
    · exact ⟨rfl, rfl, rfl, by simp⟩
  | frozen a k ih => intro Q w h; obtain ⟨r, w', e, q, s⟩ := ih _ Q w h; exact ⟨r, w', e, q, s⟩
  | getObj r k ih =>
    intro Q w ⟨o, ho, hc, h⟩
    obtain ⟨v, w', e, q, s⟩ := ih _ Q w h
    refine ⟨v, w', ?_, q, s⟩
    have ho' : w.heap[r]? = some o := ho
    cases o <;> first | (simp [isCellsObj] at hc; done) | (simp only [Sem.run, ho']; exact e)
  | setObj r o k ih =>
    intro Q w ⟨o', ho, hc, h⟩
    have ho' : w.heap[r]? = some o' := ho
    rw [← hp_setObj w r o ho'] at h
    obtain ⟨v, w', e, q, s⟩ := ih Q _ h
    refine ⟨v, w', ?_, q, s.os, s.tape, s.output, Nat.le_trans (by simp) s.size⟩
    cases o' <;> first | (simp [isCellsObj] at hc; done) | (simp only [Sem.run, ho']; exact e)
  | choose q k ih =>
    intro Q w h
    unfold wpS at h
    by_cases hf : q.forced = true
    · rw [if_pos hf] at h
      obtain ⟨v, w', e, qq, s⟩ := ih _ Q w h
      exact ⟨v, w', by simp only [Sem.run, hf, if_true]; exact e, qq, s⟩
    · rw [if_neg hf] at h
      obtain ⟨v, w', e, qq, s⟩ := ih _ Q { w with drawn := w.drawn + 1 } (h (w.tape w.drawn q))
      refine ⟨v, w', ?_, qq, s.os, s.tape, s.output, s.size⟩
      simp only [Sem.run, hf]
      exact e
  | sys c k ih => intro Q w h; exact h.elim
  | program k ih => intro Q w h; obtain ⟨r, w', e, q, s⟩ := ih _ Q w h; exact ⟨r, w', e, q, s⟩
  | mark m k ih => intro Q w h; obtain ⟨r, w', e, q, s⟩ := ih Q w h; exact ⟨r, w', e, q, s⟩
  | halt h => intro Q w hh; exact hh.elim

theorem wpS_mono (P : Program) {α : Type} (s : Sem α) : ∀ {Q Q' : α → H → Prop} {h : H}, (∀ a h, Q a h → Q' a h) → wpS P s Q h → wpS P s Q' h := by
  induction s with
  | pure a => intro Q Q' h hq hh; exact hq _ _ hh
  | load m a k ih => intro Q Q' h hq ⟨v, hv, hh⟩; exact ⟨v, hv, ih v hq hh⟩
  | store m a v k ih => intro Q Q' h hq ⟨h1, h2, h3, hh⟩; exact ⟨h1, h2, h3, ih hq hh⟩
  | new o k ih => intro Q Q' h hq hh b hb; exact ih b hq (hh b hb)
  | shape r k ih => intro Q Q' h hq hh; exact ih _ hq hh
  | freeze a n k ih => intro Q Q' h hq hh; exact ih hq hh
  | frozen a k ih => intro Q Q' h hq hh; exact ih _ hq hh
  | getObj r k ih => intro Q Q' h hq ⟨o, h1, h2, hh⟩; exact ⟨o, h1, h2, ih _ hq hh⟩
  | setObj r o k ih => intro Q Q' h hq ⟨o', h1, h2, hh⟩; exact ⟨o', h1, h2, ih hq hh⟩
  | choose q k ih =>
    intro Q Q' h hq hh
    unfold wpS at hh ⊢
    split at hh
    · rw [if_pos ‹_›]; exact ih _ hq hh
    · rw [if_neg ‹_›]; exact fun t => ih _ hq (hh t)
  | sys c k ih => intro Q Q' h hq hh; exact hh.elim
  | program k ih => intro Q Q' h hq hh; exact ih _ hq hh
  | mark m k ih => intro Q Q' h hq hh; exact ih hq hh
  | halt h => intro Q Q' h hq hh; exact hh.elim

theorem wpS_bind (P : Program) {α β : Type} (s : Sem α) (f : α → Sem β) : ∀ (Q : β → H → Prop) (h : H), wpS P (s.bind f) Q h = wpS P s (fun a h' => wpS P (f a) Q h') h := by
  induction s with
  | pure a => intro Q h; rfl
  | load m a k ih => intro Q h; simp only [Sem.bind, wpS, ih]
  | store m a v k ih => intro Q h; simp only [Sem.bind, wpS, ih]
  | new o k ih => intro Q h; simp only [Sem.bind, wpS, ih]
  | shape r k ih => intro Q h; simp only [Sem.bind, wpS, ih]
  | freeze a n k ih => intro Q h; simp only [Sem.bind, wpS, ih]
  | frozen a k ih => intro Q h; simp only [Sem.bind, wpS, ih]
  | getObj r k ih => intro Q h; simp only [Sem.bind, wpS, ih]
  | setObj r o k ih => intro Q h; simp only [Sem.bind, wpS, ih]
  | choose q k ih => intro Q h; simp only [Sem.bind, wpS, ih]
  | sys c k ih => intro Q h; rfl
  | program k ih => intro Q h; simp only [Sem.bind, wpS, ih]
  | mark m k ih => intro Q h; simp only [Sem.bind, wpS, ih]
  | halt h => intro Q h; rfl

/-! ### The memory's small laws -/
theorem H.upd_self (h : H) (b : Nat) (o : Obj) : (h.upd b o) b = some o := by simp [H.upd]
theorem H.upd_ne (h : H) {b b' : Nat} (o : Obj) (e : b' ≠ b) : (h.upd b o) b' = h b' := by simp [H.upd, e]
theorem H.set_ne (h : H) (a : Addr) (v : Value) {b : Nat} (e : b ≠ a.block) : (h.set a v) b = h b := by simp [H.set, H.modify, e]
theorem H.frozen_set (h : H) (p q : Addr) (v : Value) : (h.set p v).frozen q = h.frozen q := by
  unfold H.frozen H.set H.modify
  by_cases e : q.block = p.block
  · rw [if_pos e]
    cases hq : h q.block with
    | none => rfl
    | some o => cases o <;> rfl
  · rw [if_neg e]
theorem H.cell_set_isSome (h : H) (p q : Addr) (v : Value) : ((h.set p v).cell q).isSome = (h.cell q).isSome := by
  unfold H.cell H.set H.modify
  by_cases e : q.block = p.block
  · rw [if_pos e]
    cases hq : h q.block with
    | none => rfl
    | some o =>
      cases o <;> try rfl
      rename_i c t f
      simp only [Option.map_some, setIn]
      by_cases hs : q.spot.isSome = true
      · simp [hs]
      · simp only [hs]
        have hp : ∀ x : Nat, ((if p.spot.isSome = true then c else c.setIfInBounds p.off v)[x]?).isSome = (c[x]?).isSome := by
          intro x
          split
          · rfl
          · by_cases hx : p.off = x
            · subst hx; by_cases hl : p.off < c.size <;> simp [hl]
            · simp [Array.getElem?_setIfInBounds_ne hx]
        simpa using hp q.off
  · rw [if_neg e]
theorem H.shape_set (h : H) (p : Addr) (v : Value) (r : Nat) : (h.set p v).shape r = h.shape r := by
  unfold H.shape H.set H.modify
  by_cases e : r = p.block
  · subst e
    rw [if_pos rfl]
    cases hq : h p.block with
    | none => rfl
    | some o => cases o <;> (simp only [Option.map_some, setIn]; try (split <;> simp))
  · rw [if_neg e]

end Go.Sh

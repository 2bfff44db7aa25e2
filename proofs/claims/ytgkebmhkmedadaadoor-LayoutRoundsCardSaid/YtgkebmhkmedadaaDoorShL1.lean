/- The layout's numbers: what the program's and the document's functions compute. -/
import Derived.Test.YtgkebmhkmedadaaDoorShF0
import Derived.Test.YtgkebmhkmedadaaDoorShB2
namespace Go.Proofs.YtgkebmhkmedadaaDoor
open Go.Sh Go.RowKit
set_option linter.unusedSimpArgs false
set_option linter.unusedVariables false

def GoodB (d s m : Int) (g : Bool) : Bool := decide ((s = 2 ∨ s = 4 ∨ s = 8 ∨ s = 16) ∧ 2 ≤ d ∧ d ≤ 8 ∧ ¬ (g = true ∧ d = 8) ∧ 0 ≤ m ∧ m < s ∧ (g = true ∨ m = 0))
theorem GoodB_iff {d s m : Int} {g : Bool} : GoodB d s m g = true ↔ ((s = 2 ∨ s = 4 ∨ s = 8 ∨ s = 16) ∧ 2 ≤ d ∧ d ≤ 8 ∧ ¬ (g = true ∧ d = 8) ∧ 0 ≤ m ∧ m < s ∧ (g = true ∨ m = 0)) := decide_eq_true_iff
theorem GoodB_off {d s m : Int} {g : Bool} (h : ¬ ((s = 2 ∨ s = 4 ∨ s = 8 ∨ s = 16) ∧ 2 ≤ d ∧ d ≤ 8 ∧ ¬ (g = true ∧ d = 8) ∧ 0 ≤ m ∧ m < s ∧ (g = true ∨ m = 0))) : GoodB d s m g = false := decide_eq_false h
theorem same_of {α : Type} {Q : α → H → Prop} {a b : α} {h : H} (k : Q a h) (e : a = b) : Q b h := e ▸ k
theorem w64 {n : Int} (h0 : -9223372036854775808 ≤ n) (h1 : n < 9223372036854775808) : IntKind.wrap .i64 n = n := by rw [IntKind.wrap_i64]; omega
abbrev lay (d s m : Int) (g : Bool) (e : TypeId) : Obj := .cells #[.int .i64 d, .int .i64 s, .int .i64 m, .bool g] e (0, 0)
theorem lay0 {h : H} {b : Nat} {d s m : Int} {g : Bool} {e : TypeId} (hb : h b = some (lay d s m g e)) : h.cell ⟨b, 0, none⟩ = some (.int .i64 d) := by rw [cell_in hb]; rfl
theorem lay1 {h : H} {b : Nat} {d s m : Int} {g : Bool} {e : TypeId} (hb : h b = some (lay d s m g e)) : h.cell ⟨b, 1, none⟩ = some (.int .i64 s) := by rw [cell_in hb]; rfl
theorem lay2 {h : H} {b : Nat} {d s m : Int} {g : Bool} {e : TypeId} (hb : h b = some (lay d s m g e)) : h.cell ⟨b, 2, none⟩ = some (.int .i64 m) := by rw [cell_in hb]; rfl
theorem lay3 {h : H} {b : Nat} {d s m : Int} {g : Bool} {e : TypeId} (hb : h b = some (lay d s m g e)) : h.cell ⟨b, 3, none⟩ = some (.bool g) := by rw [cell_in hb]; rfl

theorem rGood {d s m : Int} {g : Bool} {h : H} {Q : Bool → H → Prop} (k : ∀ h', Keep h h' → Q (GoodB d s m g) h') : ref18_Good d s m g h Q := by
  intro b hb
  have k' := k _ ((Keep.refl h).new hb (lay d s m g 25))
  simp only [addr_add, load_eq, Nat.zero_add, Nat.add_zero, Nat.mul_one, Nat.one_mul, Nat.zero_mul, Nat.reduceAdd, List.getElem?_toArray, List.getElem?_cons_zero, List.getElem?_cons_succ, some_and, int_eq, bool_eq, str_eq, slc_eq, ptr_eq, nn_eq, M.val, cond_true, cond_false, Bool.not_true, Bool.not_false, M.join, cell_upd_self, cond_eq_ite, bne_iff_ne, decide_eq_true_eq, beq_iff_eq]
  cases g <;> simp only [if_true, if_false, Bool.false_eq_true] <;> (repeat' split) <;> refine same_of k' ?_ <;> (apply Bool.eq_iff_iff.2; rw [GoodB_iff]; simp; try omega)
def WideZ (d s m : Int) (g : Bool) (t : Int) : Int := if GoodB d s m g = true ∧ 0 ≤ t ∧ t < s then (if t < m then d + 1 else d) else 0
theorem rWide {d s m : Int} {g : Bool} {t : Int} {h : H} {Q : Int → H → Prop} (k : ∀ h', Keep h h' → Q (WideZ d s m g t) h') : ref18_Wide d s m g t h Q := by
  intro b hb
  have hl : h.upd b (lay d s m g 25) b = some (lay d s m g 25) := H.upd_self _ _ _
  have k5 := (Keep.refl h).new hb (lay d s m g 25)
  simp only [addr_add, load_eq, Nat.zero_add, Nat.add_zero, Nat.mul_one, Nat.one_mul, Nat.zero_mul, Nat.reduceAdd, List.getElem?_toArray, List.getElem?_cons_zero, List.getElem?_cons_succ, some_and, int_eq, bool_eq, str_eq, slc_eq, ptr_eq, nn_eq, M.val, cond_true, cond_false, Bool.not_true, Bool.not_false, lay0 hl, lay1 hl, lay2 hl, lay3 hl]
  refine rGood fun h' k' => ?_
  have hl' := k' _ _ hl
  have kk := k _ (k5.trans k')
  simp only [addr_add, load_eq, Nat.zero_add, Nat.add_zero, Nat.mul_one, Nat.one_mul, Nat.zero_mul, Nat.reduceAdd, List.getElem?_toArray, List.getElem?_cons_zero, List.getElem?_cons_succ, some_and, int_eq, bool_eq, str_eq, slc_eq, ptr_eq, nn_eq, M.val, cond_true, cond_false, Bool.not_true, Bool.not_false, M.join, lay0 hl', lay1 hl', lay2 hl', lay3 hl', cond_eq_ite, decide_eq_true_eq, Bool.not_eq_true']
  unfold WideZ at kk
  by_cases hg : GoodB d s m g = true
  · have hg' := GoodB_iff.1 hg
    have hw : IntKind.wrap .i64 (d + 1) = d + 1 := w64 (by omega) (by omega)
    rw [hw]
    cases g <;> simp only [hg, if_true, if_false, Bool.false_eq_true, true_and] at kk ⊢ <;> (repeat' split) <;> refine same_of kk ?_ <;> (repeat' split) <;> simp at * <;> omega
  · simp only [Bool.not_eq_true] at hg
    simp only [hg, if_true, Bool.false_eq_true, false_and, if_false] at kk ⊢
    exact kk

/-- How many slots there may be, as the program lays them. -/
structure Sizes (h : H) : Prop where
  c0 : h.cell ⟨0, 0, none⟩ = some (.int .i64 2)
  c1 : h.cell ⟨0, 1, none⟩ = some (.int .i64 4)
  c2 : h.cell ⟨0, 2, none⟩ = some (.int .i64 8)
  c3 : h.cell ⟨0, 3, none⟩ = some (.int .i64 16)
theorem Sizes.keep {h h' : H} (s : Sizes h) (k : Keep h h') : Sizes h' := ⟨k.cell s.c0, k.cell s.c1, k.cell s.c2, k.cell s.c3⟩
theorem Index_spec {h : H} {v : Int} {Q : Int → H → Prop} (hs : Sizes h) (k : Q (if v = 2 then 0 else if v = 4 then 1 else if v = 8 then 2 else if v = 16 then 3 else -1) h) : slices_Indexint_int (some ⟨0, 0, none⟩) 4 4 v h Q := by
  refine ⟨5, ?_⟩
  have q0 := hs.c0
  have q1 := hs.c1
  have q2 := hs.c2
  have q3 := hs.c3
  have w0 : IntKind.wrap .i64 1 = 1 := by decide
  have w1 : IntKind.wrap .i64 2 = 2 := by decide
  have w2 : IntKind.wrap .i64 3 = 3 := by decide
  have w3 : IntKind.wrap .i64 4 = 4 := by decide
  by_cases h2 : v = 2
  · subst h2; simp [M.iter, M.idx, M.load, M.int, addr_add, q0, q1, q2, q3, M.val] at k ⊢; exact k
  by_cases h4 : v = 4
  · subst h4; simp [M.iter, M.idx, M.load, M.int, addr_add, q0, q1, q2, q3, M.val, w0] at k ⊢; exact k
  by_cases h8 : v = 8
  · subst h8; simp [M.iter, M.idx, M.load, M.int, addr_add, q0, q1, q2, q3, M.val, w0, w1] at k ⊢; exact k
  by_cases h16 : v = 16
  · subst h16; simp [M.iter, M.idx, M.load, M.int, addr_add, q0, q1, q2, q3, M.val, w0, w1, w2] at k ⊢; exact k
  have e2 : (v == 2) = false := by simpa using h2
  have e4 : (v == 4) = false := by simpa using h4
  have e8 : (v == 8) = false := by simpa using h8
  have e16 : (v == 16) = false := by simpa using h16
  simp [M.iter, M.idx, M.load, M.int, addr_add, q0, q1, q2, q3, M.val, w0, w1, w2, w3, h2, h4, h8, h16, e2, e4, e8, e16] at k ⊢
  exact k
theorem Good_spec {d s m : Int} {g : Bool} {h : H} {Q : Bool → H → Prop} (hs : Sizes h) (k : ∀ h', Keep h h' → Q (GoodB d s m g) h') : layout_Layout_Good d s m g h Q := by
  intro b hb
  have hl : h.upd b (lay d s m g 24) b = some (lay d s m g 24) := H.upd_self _ _ _
  have k5 := (Keep.refl h).new hb (lay d s m g 24)
  have kk := k _ k5
  have hs' := hs.keep k5
  simp only [addr_add, load_eq, Nat.zero_add, Nat.add_zero, Nat.mul_one, Nat.one_mul, Nat.zero_mul, Nat.reduceAdd, List.getElem?_toArray, List.getElem?_cons_zero, List.getElem?_cons_succ, some_and, int_eq, bool_eq, str_eq, slc_eq, ptr_eq, nn_eq, M.val, cond_true, cond_false, Bool.not_true, Bool.not_false, M.join, lay0 hl, lay1 hl, lay2 hl, lay3 hl]
  have w7 : IntKind.wrap .i64 (8 - 1) = 7 := by decide
  have w4 : Int.toNat (((4 : Nat)) : Int) = 4 := rfl
  cases g <;> simp only [cond_true, cond_false, w7] <;> (refine M.sub0 (by omega) (by omega) ?_) <;> simp only [addr_add, load_eq, Nat.zero_add, Nat.add_zero, Nat.mul_one, Nat.one_mul, Nat.zero_mul, Nat.reduceAdd, List.getElem?_toArray, List.getElem?_cons_zero, List.getElem?_cons_succ, some_and, int_eq, bool_eq, str_eq, slc_eq, ptr_eq, nn_eq, M.val, cond_true, cond_false, Bool.not_true, Bool.not_false, lay0 hl, lay1 hl, lay2 hl, lay3 hl, w4] <;> unfold slices_Containsint_int <;>
    (refine Index_spec hs' ?_) <;> simp only [addr_add, load_eq, Nat.zero_add, Nat.add_zero, Nat.mul_one, Nat.one_mul, Nat.zero_mul, Nat.reduceAdd, List.getElem?_toArray, List.getElem?_cons_zero, List.getElem?_cons_succ, some_and, int_eq, bool_eq, str_eq, slc_eq, ptr_eq, nn_eq, M.val, cond_true, cond_false, Bool.not_true, Bool.not_false, lay0 hl, lay1 hl, lay2 hl, lay3 hl, cond_eq_ite, decide_eq_true_eq, beq_iff_eq, if_true, if_false, Bool.false_eq_true] <;> (repeat' split) <;> refine same_of kk ?_ <;> (apply Bool.eq_iff_iff.2; rw [GoodB_iff]; simp; try omega)

/-- A layout's parts are read where it was laid. -/
theorem Wide_spec {d s m : Int} {g : Bool} {t : Int} {h : H} {Q : Int → H → Prop} (hs : Sizes h) (k : ∀ h', Keep h h' → Q (WideZ d s m g t) h') : layout_Layout_Wide d s m g t h Q := by
  intro b hb
  have hl : h.upd b (lay d s m g 24) b = some (lay d s m g 24) := H.upd_self _ _ _
  have k5 := (Keep.refl h).new hb (lay d s m g 24)
  simp only [addr_add, load_eq, Nat.zero_add, Nat.add_zero, Nat.mul_one, Nat.one_mul, Nat.zero_mul, Nat.reduceAdd, List.getElem?_toArray, List.getElem?_cons_zero, List.getElem?_cons_succ, some_and, int_eq, bool_eq, str_eq, slc_eq, ptr_eq, nn_eq, M.val, cond_true, cond_false, Bool.not_true, Bool.not_false, M.join, lay0 hl, lay1 hl, lay2 hl, lay3 hl]
  refine Good_spec (hs.keep k5) fun h' k' => ?_
  have hl' := k' _ _ hl
  have kk := k _ (k5.trans k')
  simp only [addr_add, load_eq, Nat.zero_add, Nat.add_zero, Nat.mul_one, Nat.one_mul, Nat.zero_mul, Nat.reduceAdd, List.getElem?_toArray, List.getElem?_cons_zero, List.getElem?_cons_succ, some_and, int_eq, bool_eq, str_eq, slc_eq, ptr_eq, nn_eq, M.val, cond_true, cond_false, Bool.not_true, Bool.not_false, M.join, lay0 hl', lay1 hl', lay2 hl', lay3 hl', cond_eq_ite, decide_eq_true_eq, Bool.not_eq_true']
  unfold WideZ at kk
  by_cases hg : GoodB d s m g = true
  · have hg' := GoodB_iff.1 hg
    have hw : IntKind.wrap .i64 (d + 1) = d + 1 := w64 (by omega) (by omega)
    rw [hw]
    simp only [hg, if_true, if_false, Bool.false_eq_true, Bool.true_eq_false, true_and] at kk ⊢
    (repeat' split) <;> refine same_of kk ?_ <;> (repeat' split) <;> simp at * <;> omega
  · simp only [Bool.not_eq_true] at hg
    simp only [hg, if_true, Bool.false_eq_true, false_and, if_false] at kk ⊢
    exact kk
def BlocksZ (d s m : Int) (g : Bool) : Int := if GoodB d s m g = true then s * d else 0
theorem prod_le {d s : Int} (hs : s = 2 ∨ s = 4 ∨ s = 8 ∨ s = 16) (h0 : 0 ≤ d) (h1 : d ≤ 9) : 0 ≤ s * d ∧ s * d ≤ 144 := by
  rcases hs with rfl | rfl | rfl | rfl <;> omega
theorem Blocks_spec {d s m : Int} {g : Bool} {h : H} {Q : Int → H → Prop} (hs : Sizes h) (k : ∀ h', Keep h h' → Q (BlocksZ d s m g) h') : layout_Layout_Blocks d s m g h Q := by
  intro b hb
  have hl : h.upd b (lay d s m g 24) b = some (lay d s m g 24) := H.upd_self _ _ _
  have k5 := (Keep.refl h).new hb (lay d s m g 24)
  simp only [addr_add, load_eq, Nat.zero_add, Nat.add_zero, Nat.mul_one, Nat.one_mul, Nat.zero_mul, Nat.reduceAdd, List.getElem?_toArray, List.getElem?_cons_zero, List.getElem?_cons_succ, some_and, int_eq, bool_eq, str_eq, slc_eq, ptr_eq, nn_eq, M.val, cond_true, cond_false, Bool.not_true, Bool.not_false, M.join, lay0 hl, lay1 hl, lay2 hl, lay3 hl]
  refine Good_spec (hs.keep k5) fun h' k' => ?_
  have hl' := k' _ _ hl
  have kk := k _ (k5.trans k')
  unfold BlocksZ at kk
  by_cases hg : GoodB d s m g = true
  · have hg' := GoodB_iff.1 hg
    have hp := prod_le hg'.1 (show 0 ≤ d by omega) (by omega)
    have hw : IntKind.wrap .i64 (s * d) = s * d := w64 (by omega) (by omega)
    simp only [addr_add, load_eq, Nat.zero_add, Nat.add_zero, Nat.mul_one, Nat.one_mul, Nat.zero_mul, Nat.reduceAdd, List.getElem?_toArray, List.getElem?_cons_zero, List.getElem?_cons_succ, some_and, int_eq, bool_eq, str_eq, slc_eq, ptr_eq, nn_eq, M.val, cond_true, cond_false, Bool.not_true, Bool.not_false, M.join, lay0 hl', lay1 hl', hg, if_true, hw] at kk ⊢
    exact kk
  · simp only [Bool.not_eq_true] at hg
    simp only [addr_add, load_eq, Nat.zero_add, Nat.add_zero, Nat.mul_one, Nat.one_mul, Nat.zero_mul, Nat.reduceAdd, List.getElem?_toArray, List.getElem?_cons_zero, List.getElem?_cons_succ, some_and, int_eq, bool_eq, str_eq, slc_eq, ptr_eq, nn_eq, M.val, cond_true, cond_false, Bool.not_true, Bool.not_false, M.join, hg, Bool.false_eq_true, if_false] at kk ⊢
    exact kk
/-- The stripe, the place in it, the error. -/
def FindZ (d s m : Int) (g : Bool) (b : Int) : Int × Int × Int :=
  if GoodB d s m g = true then
    if 0 ≤ b ∧ b < s * d then (if b < m * (d + 1) then (b / (d + 1), b % (d + 1), 0) else (b / d, b % d, 0)) else (0, 0, 2)
  else (0, 0, 4)
theorem Find_spec {d s m : Int} {g : Bool} {x : Int} {h : H} {Q : Int → Int → Int → H → Prop} (hs : Sizes h) (k : ∀ h', Keep h h' → Q (FindZ d s m g x).1 (FindZ d s m g x).2.1 (FindZ d s m g x).2.2 h') : layout_Layout_Find d s m g x h Q := by
  intro b hb
  have hl : h.upd b (lay d s m g 24) b = some (lay d s m g 24) := H.upd_self _ _ _
  have k5 := (Keep.refl h).new hb (lay d s m g 24)
  simp only [addr_add, load_eq, Nat.zero_add, Nat.add_zero, Nat.mul_one, Nat.one_mul, Nat.zero_mul, Nat.reduceAdd, List.getElem?_toArray, List.getElem?_cons_zero, List.getElem?_cons_succ, some_and, int_eq, bool_eq, str_eq, slc_eq, ptr_eq, nn_eq, M.val, cond_true, cond_false, Bool.not_true, Bool.not_false, lay0 hl, lay1 hl, lay2 hl, lay3 hl]
  refine Good_spec (hs.keep k5) fun h' k' => ?_
  have hl' := k' _ _ hl
  unfold FindZ at k
  by_cases hg : GoodB d s m g = true
  · have hg' := GoodB_iff.1 hg
    have hp := prod_le hg'.1 (show 0 ≤ d by omega) (by omega)
    have hp2 := prod_le hg'.1 (show 0 ≤ d + 1 by omega) (by omega)
    have hm : 0 ≤ m * (d + 1) ∧ m * (d + 1) ≤ s * (d + 1) := ⟨Int.mul_nonneg (by omega) (by omega), Int.mul_le_mul_of_nonneg_right (by omega) (by omega)⟩
    have w1 : IntKind.wrap .i64 (d + 1) = d + 1 := w64 (by omega) (by omega)
    have w2 : IntKind.wrap .i64 (m * (d + 1)) = m * (d + 1) := w64 (by omega) (by omega)
    simp only [hg, if_true] at k
    simp only [addr_add, load_eq, Nat.zero_add, Nat.add_zero, Nat.mul_one, Nat.one_mul, Nat.zero_mul, Nat.reduceAdd, List.getElem?_toArray, List.getElem?_cons_zero, List.getElem?_cons_succ, some_and, int_eq, bool_eq, str_eq, slc_eq, ptr_eq, nn_eq, M.val, cond_true, cond_false, Bool.not_true, Bool.not_false, M.join, hg, lay0 hl', lay1 hl', lay2 hl', lay3 hl']
    have fin : ∀ h2, Keep h h2 → h2 b = some (lay d s m g 24) → 0 ≤ x ∧ x < s * d → (M.load h2 ⟨b, 2, none⟩ fun v29 => M.int .i64 v29 fun n30 => M.load h2 ⟨b, 0, none⟩ fun v31 => M.int .i64 v31 fun n32 =>
        M.val (IntKind.wrap .i64 (n32 + (1 : Int))) fun z33 => M.val (IntKind.wrap .i64 (n30 * z33)) fun z34 =>
        (bif (decide (x < z34)) then M.load h2 ⟨b, 0, none⟩ fun v35 => M.int .i64 v35 fun n36 => M.val (IntKind.wrap .i64 (n36 + (1 : Int))) fun z37 => M.nz z37 (M.val (IntKind.wrap .i64 (Int.tdiv x z37)) fun z38 =>
            M.load h2 ⟨b, 0, none⟩ fun v39 => M.int .i64 v39 fun n40 => M.val (IntKind.wrap .i64 (n40 + (1 : Int))) fun z41 => M.nz z41 (M.val (Int.tmod x z41) fun z42 => Q z38 z42 (0 : Int) h2))
        else M.load h2 ⟨b, 0, none⟩ fun v43 => M.int .i64 v43 fun n44 => M.nz n44 (M.val (IntKind.wrap .i64 (Int.tdiv x n44)) fun z45 => M.load h2 ⟨b, 0, none⟩ fun v46 => M.int .i64 v46 fun n47 => M.nz n47 (M.val (Int.tmod x n47) fun z48 => Q z45 z48 (0 : Int) h2)))) := by
      intro h2 k2 hl2 hx
      have kk := k h2 k2
      have e1 : Int.tdiv x (d + 1) = x / (d + 1) := Int.tdiv_eq_ediv_of_nonneg hx.1
      have e2 : Int.tmod x (d + 1) = x % (d + 1) := Int.tmod_eq_emod_of_nonneg hx.1
      have e3 : Int.tdiv x d = x / d := Int.tdiv_eq_ediv_of_nonneg hx.1
      have e4 : Int.tmod x d = x % d := Int.tmod_eq_emod_of_nonneg hx.1
      have f1 : 0 ≤ x / (d + 1) ∧ x / (d + 1) ≤ x := ⟨Int.ediv_nonneg hx.1 (by omega), Int.ediv_le_self _ hx.1⟩
      have f2 : 0 ≤ x / d ∧ x / d ≤ x := ⟨Int.ediv_nonneg hx.1 (by omega), Int.ediv_le_self _ hx.1⟩
      have v1 : IntKind.wrap .i64 (x / (d + 1)) = x / (d + 1) := w64 (by omega) (by omega)
      have v2 : IntKind.wrap .i64 (x / d) = x / d := w64 (by omega) (by omega)
      have n1 : ∀ K, M.nz (d + 1) K = K := fun K => nz_eq (d + 1) K (by omega)
      have n2 : ∀ K, M.nz d K = K := fun K => nz_eq d K (by omega)
      simp only [addr_add, load_eq, Nat.zero_add, Nat.add_zero, Nat.mul_one, Nat.one_mul, Nat.zero_mul, Nat.reduceAdd, List.getElem?_toArray, List.getElem?_cons_zero, List.getElem?_cons_succ, some_and, int_eq, bool_eq, str_eq, slc_eq, ptr_eq, nn_eq, M.val, cond_true, cond_false, Bool.not_true, Bool.not_false, lay0 hl2, lay1 hl2, lay2 hl2, lay3 hl2, w1, w2, n1, n2, e1, e2, e3, e4, v1, v2, cond_eq_ite, decide_eq_true_eq]
      simp only [hx, and_self, if_true] at kk
      split <;> simp_all
    by_cases h0 : x < 0
    · have kk := k _ (k5.trans k')
      simp only [h0, decide_true, cond_true]
      simpa only [show ¬ (0 ≤ x ∧ x < s * d) by omega, if_false] using kk
    · simp only [h0, decide_false, cond_false]
      refine Blocks_spec ((hs.keep k5).keep k') fun h2 k2 => ?_
      unfold BlocksZ
      rw [if_pos hg]
      by_cases h1 : x ≥ s * d
      · have kk := k _ ((k5.trans k').trans k2)
        simp only [h1, decide_true, cond_true]
        simpa only [show ¬ (0 ≤ x ∧ x < s * d) by omega, if_false] using kk
      · simp only [h1, decide_false, cond_false]
        exact fin h2 ((k5.trans k').trans k2) (k2 _ _ hl') (by omega)
  · have kk := k _ (k5.trans k')
    simp only [Bool.not_eq_true] at hg
    simp only [addr_add, load_eq, Nat.zero_add, Nat.add_zero, Nat.mul_one, Nat.one_mul, Nat.zero_mul, Nat.reduceAdd, List.getElem?_toArray, List.getElem?_cons_zero, List.getElem?_cons_succ, some_and, int_eq, bool_eq, str_eq, slc_eq, ptr_eq, nn_eq, M.val, cond_true, cond_false, Bool.not_true, Bool.not_false, M.join, hg, Bool.false_eq_true, if_false] at kk ⊢
    exact kk
end Go.Proofs.YtgkebmhkmedadaaDoor

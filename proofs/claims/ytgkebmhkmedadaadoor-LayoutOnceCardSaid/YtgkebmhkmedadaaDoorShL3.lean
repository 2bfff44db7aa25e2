/- The layout's laws, 1: what wakes, the good layouts, LayoutGood. -/
import Derived.Test.YtgkebmhkmedadaaDoorShL2
namespace Go.Proofs.YtgkebmhkmedadaaDoor
open Go.Sh Go.RowKit
set_option linter.unusedSimpArgs false
set_option linter.unusedVariables false

theorem wakes_spec {h : H} {Q : Bool → H → Prop} (hs : Sizes h) (k : ∀ h', Keep h h' → Q true h') : law18_wakes h Q := by
  unfold law18_wakes
  refine Find_spec hs fun h1 k1 => Seat_spec (hs.keep k1) fun h2 k2 => Find_spec ((hs.keep k1).keep k2) fun h3 k3 => ?_
  have e1 : FindZ 2 4 0 false 5 = (2, 1, 0) := by decide
  have e2 : SeatZ 2 4 0 false 2 1 = (3, 0) := by decide
  have e3 : FindZ 2 4 1 true 2 = (0, 2, 0) := by decide
  simp only [e1, e2, e3, M.join, beq_self_eq_true, cond_true]
  exact k _ ((k1.trans k2).trans k3)
/-- The good layout of any numbers. -/
def gData (x : Int) : Int := 2 + (mx 0 x) % 6
def gSlots (x : Int) : Int := 2 * 2 ^ ((mx 0 x) % 4).toNat
def gMark (x y : Int) (g : Bool) : Int := if g = true then (mx 0 x) % gSlots y else 0
theorem mx_nonneg (x : Int) : 0 ≤ mx 0 x := by unfold mx; split <;> omega
theorem gSlots_cases (x : Int) : gSlots x = 2 ∨ gSlots x = 4 ∨ gSlots x = 8 ∨ gSlots x = 16 := by
  unfold gSlots
  have h0 := Int.emod_nonneg (mx 0 x) (show (4 : Int) ≠ 0 by omega)
  have h1 := Int.emod_lt_of_pos (mx 0 x) (show (0 : Int) < 4 by omega)
  have : mx 0 x % 4 = 0 ∨ mx 0 x % 4 = 1 ∨ mx 0 x % 4 = 2 ∨ mx 0 x % 4 = 3 := by omega
  rcases this with h | h | h | h <;> rw [h] <;> decide
theorem gData_le (x : Int) : 2 ≤ gData x ∧ gData x ≤ 7 := by unfold gData; omega
theorem gMark_le (x y : Int) (g : Bool) : 0 ≤ gMark x y g ∧ gMark x y g < gSlots y ∧ (g = true ∨ gMark x y g = 0) := by
  have hs := gSlots_cases y
  unfold gMark
  cases g
  · simp; omega
  · simp only [if_true, true_or, and_true]
    exact ⟨Int.emod_nonneg _ (by omega), Int.emod_lt_of_pos _ (by omega)⟩
theorem good_is (x0 x1 x2 : Int) (g : Bool) : GoodB (gData x0) (gSlots x1) (gMark x2 x1 g) g = true := by
  have h1 := gData_le x0
  have h2 := gSlots_cases x1
  have h3 := gMark_le x2 x1 g
  rw [GoodB_iff]
  refine ⟨h2, h1.1, by omega, fun hh => by omega, h3.1, h3.2.1, h3.2.2⟩
theorem good_spec {x0 x1 x2 : Int} {g : Bool} {h : H} {Q : Int → Int → Int → Bool → H → Prop} (k : ∀ h', Keep h h' → Q (gData x0) (gSlots x1) (gMark x2 x1 g) g h') : law18_good x0 x1 x2 g h Q := by
  refine M.new_of fun b5 h6 n5 k6 f5 => M.new_of fun b7 h8 n7 k8 f7 => ?_
  have f5' := k8 _ _ f5
  have m0 := mx_nonneg x0
  have m1 := mx_nonneg x1
  have m2 := mx_nonneg x2
  have e1 : Int.tmod (mx 0 x0) 6 = mx 0 x0 % 6 := Int.tmod_eq_emod_of_nonneg m0
  have e2 : Int.tmod (mx 0 x1) 4 = mx 0 x1 % 4 := Int.tmod_eq_emod_of_nonneg m1
  have hz : 0 ≤ mx 0 x1 % 4 ∧ mx 0 x1 % 4 < 4 := by omega
  have w1 : IntKind.wrap .i64 (2 + mx 0 x0 % 6) = gData x0 := by rw [w64 (by omega) (by omega)]; rfl
  have hc := gSlots_cases x1
  have w2 : shl .i64 2 (mx 0 x1 % 4) = gSlots x1 := by
    have : min (mx 0 x1 % 4).toNat IntKind.i64.bits = (mx 0 x1 % 4).toNat := by simp only [IntKind.bits]; omega
    unfold shl
    rw [this, show 2 * 2 ^ (mx 0 x1 % 4).toNat = gSlots x1 from rfl, w64 (by omega) (by omega)]
  simp only [addr_add, load_eq, Nat.zero_add, Nat.add_zero, Nat.mul_one, Nat.one_mul, Nat.zero_mul, Nat.reduceAdd, List.getElem?_toArray, List.getElem?_cons_zero, List.getElem?_cons_succ, some_and, int_eq, bool_eq, str_eq, slc_eq, ptr_eq, nn_eq, M.val, cond_true, cond_false, Bool.not_true, Bool.not_false, lay0 f5', lay1 f5', lay2 f5', lay3 f5', nz_eq 6 _ (by omega : (6 : Int) ≠ 0), nz_eq 4 _ (by omega : (4 : Int) ≠ 0), e1, e2, w1, M.shr0, hz.1, true_and, w2]
  refine M.new_of fun b19 h20 n19 k20 f19 => ?_
  have f5'' := k20 _ _ f5'
  refine M.still_at f5' f5'' (M.still_at f5' f5'' (M.still_at f5' f5'' ⟨rfl, M.puts_of f19 (by simp [isPlainCell]) rfl fun h21 u21 g19 => ?_⟩))
  have ne5 : b5 ≠ b19 := new_ne f5' n19
  have ne7 : b7 ≠ b19 := new_ne f7 n19
  have g5 := u21.at ne5 f5''
  have g7 := u21.at ne7 (k20 _ _ f7)
  have g19' : h21 b19 = some (lay (gData x0) (gSlots x1) 0 g 24) := g19
  have n7' : h b7 = none := k6.none n7
  have n19' : h b19 = none := k6.none (k8.none n19)
  have k21 : Keep h h21 := u21.keep ((k6.trans k8).trans k20) n19'
  simp only [addr_add, load_eq, Nat.zero_add, Nat.add_zero, Nat.mul_one, Nat.one_mul, Nat.zero_mul, Nat.reduceAdd, List.getElem?_toArray, List.getElem?_cons_zero, List.getElem?_cons_succ, some_and, int_eq, bool_eq, str_eq, slc_eq, ptr_eq, nn_eq, M.val, cond_true, cond_false, Bool.not_true, Bool.not_false, lay3 g5, lay2 g5, lay0 g5]
  cases g with
  | false =>
    simp only [addr_add, load_eq, Nat.zero_add, Nat.add_zero, Nat.mul_one, Nat.one_mul, Nat.zero_mul, Nat.reduceAdd, List.getElem?_toArray, List.getElem?_cons_zero, List.getElem?_cons_succ, some_and, int_eq, bool_eq, str_eq, slc_eq, ptr_eq, nn_eq, M.val, cond_true, cond_false, Bool.not_true, Bool.not_false, lay0 g19', lay1 g19', lay2 g19', lay3 g19']
    refine ⟨rfl, M.puts_of g7 (by simp [isPlainCell]) rfl fun h55 u55 p7 => ?_⟩
    have p7' : h55 b7 = some (lay (gData x0) (gSlots x1) 0 false 24) := p7
    simp only [addr_add, load_eq, Nat.zero_add, Nat.add_zero, Nat.mul_one, Nat.one_mul, Nat.zero_mul, Nat.reduceAdd, List.getElem?_toArray, List.getElem?_cons_zero, List.getElem?_cons_succ, some_and, int_eq, bool_eq, str_eq, slc_eq, ptr_eq, nn_eq, M.val, cond_true, cond_false, Bool.not_true, Bool.not_false, lay0 p7', lay1 p7', lay2 p7', lay3 p7']
    exact k _ (u55.keep k21 n7')
  | true =>
    have e3 : Int.tmod (mx 0 x2) (gSlots x1) = mx 0 x2 % gSlots x1 := Int.tmod_eq_emod_of_nonneg m2
    simp only [addr_add, load_eq, Nat.zero_add, Nat.add_zero, Nat.mul_one, Nat.one_mul, Nat.zero_mul, Nat.reduceAdd, List.getElem?_toArray, List.getElem?_cons_zero, List.getElem?_cons_succ, some_and, int_eq, bool_eq, str_eq, slc_eq, ptr_eq, nn_eq, M.val, cond_true, cond_false, Bool.not_true, Bool.not_false, lay0 g19', lay1 g19', lay2 g19', lay3 g19', nz_eq (gSlots x1) _ (by omega : gSlots x1 ≠ 0), e3]
    refine M.put_of g19 rfl (by simp) fun h29 u29 p19 => ?_
    have p19' : h29 b19 = some (lay (gData x0) (gSlots x1) (mx 0 x2 % gSlots x1) true 24) := p19
    have g7' := u29.at ne7 g7
    simp only [addr_add, load_eq, Nat.zero_add, Nat.add_zero, Nat.mul_one, Nat.one_mul, Nat.zero_mul, Nat.reduceAdd, List.getElem?_toArray, List.getElem?_cons_zero, List.getElem?_cons_succ, some_and, int_eq, bool_eq, str_eq, slc_eq, ptr_eq, nn_eq, M.val, cond_true, cond_false, Bool.not_true, Bool.not_false, lay0 p19', lay1 p19', lay2 p19', lay3 p19']
    refine ⟨rfl, M.puts_of g7' (by simp [isPlainCell]) rfl fun h38 u38 p7 => ?_⟩
    have p7' : h38 b7 = some (lay (gData x0) (gSlots x1) (mx 0 x2 % gSlots x1) true 24) := p7
    simp only [addr_add, load_eq, Nat.zero_add, Nat.add_zero, Nat.mul_one, Nat.one_mul, Nat.zero_mul, Nat.reduceAdd, List.getElem?_toArray, List.getElem?_cons_zero, List.getElem?_cons_succ, some_and, int_eq, bool_eq, str_eq, slc_eq, ptr_eq, nn_eq, M.val, cond_true, cond_false, Bool.not_true, Bool.not_false, lay0 p7', lay1 p7', lay2 p7', lay3 p7']
    exact k _ (u38.keep (u29.keep k21 n19') n7')

theorem layoutGood {x0 x1 x2 : Int} {g : Bool} {t : Int} {h : H} {Q : Bool → H → Prop} (hs : Sizes h) (k : ∀ h', Keep h h' → Q true h') : law18_LayoutGood x0 x1 x2 g t h Q := by
  refine M.new_of fun b2 h3 n2 k3 f2 => ?_
  have f2' : h3 b2 = some (lay x0 x1 x2 g 23) := f2
  refine M.join_of (fun (d : Addr × Addr) h' => ∃ a b, d = (⟨a, 0, none⟩, ⟨b, 0, none⟩) ∧ Keep h h' ∧ h' a = some (lay x0 x1 x2 g 24) ∧ h' b = some (lay x0 x1 x2 g 25)) ?_ ?_
  · intro J hJ
    simp only [addr_add, load_eq, Nat.zero_add, Nat.add_zero, Nat.mul_one, Nat.one_mul, Nat.zero_mul, Nat.reduceAdd, List.getElem?_toArray, List.getElem?_cons_zero, List.getElem?_cons_succ, some_and, int_eq, bool_eq, str_eq, slc_eq, ptr_eq, nn_eq, M.val, cond_true, cond_false, Bool.not_true, Bool.not_false, lay0 f2', lay1 f2', lay2 f2', lay3 f2']
    constructor
    · refine M.new_of fun b21 h22 n21 k22 f21 => M.still_keep k22 ⟨_, f2⟩ (M.still_keep k22 ⟨_, f2⟩ (M.new_of fun b23 h24 n23 k24 f23 => ?_))
      refine M.still_keep (k22.trans k24) ⟨_, f2⟩ (M.still_keep (k22.trans k24) ⟨_, f2⟩ ⟨rfl, M.puts_of (k24 _ _ f21) (by simp [isPlainCell]) rfl fun h25 u25 g21 => ?_⟩)
      have ne : b21 ≠ b23 := new_ne f21 n23
      have k25 : Keep h3 h25 := u25.keep (k22.trans k24) n21
      refine M.still_keep k25 ⟨_, f2⟩ ⟨rfl, M.puts_of (u25.at (Ne.symm ne) f23) (by simp [isPlainCell]) rfl fun h26 u26 g23 => ?_⟩
      exact hJ _ _ ⟨b21, b23, rfl, k3.trans (u26.keep k25 (k22.none n23)), u26.at ne g21, g23⟩
    · refine M.new_of fun b27 h28 n27 k28 f27 => M.still_keep k28 ⟨_, f2⟩ (M.still_keep k28 ⟨_, f2⟩ (M.new_of fun b29 h30 n29 k30 f29 => ?_))
      refine M.still_keep (k28.trans k30) ⟨_, f2⟩ (M.still_keep (k28.trans k30) ⟨_, f2⟩ ⟨rfl, M.puts_of f29 (by simp [isPlainCell]) rfl fun h31 u31 g29 => ?_⟩)
      have ne : b27 ≠ b29 := new_ne f27 n29
      have k31 : Keep h3 h31 := u31.keep (k28.trans k30) (k28.none n29)
      refine M.still_keep k31 ⟨_, f2⟩ ⟨rfl, M.puts_of (u31.at ne (k30 _ _ f27)) (by simp [isPlainCell]) rfl fun h32 u32 g27 => ?_⟩
      exact hJ _ _ ⟨b29, b27, rfl, k3.trans (u32.keep k31 n27), u32.at (Ne.symm ne) g29, g27⟩
  · rintro d h34 ⟨a, b, rfl, kh, fa, fb⟩
    refine M.join_of (fun (d : Int) h' => d = BlocksZ x0 x1 x2 g ∧ Keep h h' ∧ h' a = some (lay x0 x1 x2 g 24) ∧ h' b = some (lay x0 x1 x2 g 25)) ?_ ?_
    · intro J hJ
      simp only [addr_add, load_eq, Nat.zero_add, Nat.add_zero, Nat.mul_one, Nat.one_mul, Nat.zero_mul, Nat.reduceAdd, List.getElem?_toArray, List.getElem?_cons_zero, List.getElem?_cons_succ, some_and, int_eq, bool_eq, str_eq, slc_eq, ptr_eq, nn_eq, M.val, cond_true, cond_false, Bool.not_true, Bool.not_false, lay0 fb, lay1 fb, lay2 fb, lay3 fb]
      refine rGood fun h45 k45 => ?_
      have fb' := k45 _ _ fb
      have fa' := k45 _ _ fa
      unfold BlocksZ at hJ
      by_cases hg : GoodB x0 x1 x2 g = true
      · have hg' := GoodB_iff.1 hg
        have hp := prod_le hg'.1 (show 0 ≤ x0 by omega) (by omega)
        simp only [addr_add, load_eq, Nat.zero_add, Nat.add_zero, Nat.mul_one, Nat.one_mul, Nat.zero_mul, Nat.reduceAdd, List.getElem?_toArray, List.getElem?_cons_zero, List.getElem?_cons_succ, some_and, int_eq, bool_eq, str_eq, slc_eq, ptr_eq, nn_eq, M.val, cond_true, cond_false, Bool.not_true, Bool.not_false, hg, lay0 fb', lay1 fb', w64 (show -9223372036854775808 ≤ x1 * x0 by omega) (by omega)]
        exact hJ _ _ ⟨by rw [if_pos hg], kh.trans k45, fa', fb'⟩
      · simp only [Bool.not_eq_true] at hg
        simp only [addr_add, load_eq, Nat.zero_add, Nat.add_zero, Nat.mul_one, Nat.one_mul, Nat.zero_mul, Nat.reduceAdd, List.getElem?_toArray, List.getElem?_cons_zero, List.getElem?_cons_succ, some_and, int_eq, bool_eq, str_eq, slc_eq, ptr_eq, nn_eq, M.val, cond_true, cond_false, Bool.not_true, Bool.not_false, hg]
        exact hJ _ _ ⟨by rw [if_neg (by simp [hg])], kh.trans k45, fa', fb'⟩
    · rintro d h52 ⟨rfl, kh2, fa2, fb2⟩
      refine M.join_of (fun (d : Bool) h' => d = true ∧ Keep h h') ?_ (fun d h' ⟨e, kk⟩ => by subst e; exact k _ kk)
      intro J hJ
      refine wakes_spec (hs.keep kh2) fun h55 k55 => ?_
      have fa3 := k55 _ _ fa2
      have fb3 := k55 _ _ fb2
      simp only [addr_add, load_eq, Nat.zero_add, Nat.add_zero, Nat.mul_one, Nat.one_mul, Nat.zero_mul, Nat.reduceAdd, List.getElem?_toArray, List.getElem?_cons_zero, List.getElem?_cons_succ, some_and, int_eq, bool_eq, str_eq, slc_eq, ptr_eq, nn_eq, M.val, cond_true, cond_false, Bool.not_true, Bool.not_false, lay0 fa3, lay1 fa3, lay2 fa3, lay3 fa3, lay0 fb3, lay1 fb3, lay2 fb3, lay3 fb3]
      refine Good_spec ((hs.keep kh2).keep k55) fun h73 k73 => M.still_keep k73 ⟨_, fb3⟩ (rGood fun h75 k75 => ?_)
      have fa4 := k75 _ _ (k73 _ _ fa3)
      have fb4 := k75 _ _ (k73 _ _ fb3)
      simp only [addr_add, load_eq, Nat.zero_add, Nat.add_zero, Nat.mul_one, Nat.one_mul, Nat.zero_mul, Nat.reduceAdd, List.getElem?_toArray, List.getElem?_cons_zero, List.getElem?_cons_succ, some_and, int_eq, bool_eq, str_eq, slc_eq, ptr_eq, nn_eq, M.val, cond_true, cond_false, Bool.not_true, Bool.not_false, lay0 fa4, lay1 fa4, lay2 fa4, lay3 fa4, beq_self_eq_true]
      refine Blocks_spec ((((hs.keep kh2).keep k55).keep k73).keep k75) fun h85 k85 => ?_
      have fa5 := k85 _ _ fa4
      have fb5 := k85 _ _ fb4
      simp only [addr_add, load_eq, Nat.zero_add, Nat.add_zero, Nat.mul_one, Nat.one_mul, Nat.zero_mul, Nat.reduceAdd, List.getElem?_toArray, List.getElem?_cons_zero, List.getElem?_cons_succ, some_and, int_eq, bool_eq, str_eq, slc_eq, ptr_eq, nn_eq, M.val, cond_true, cond_false, Bool.not_true, Bool.not_false, lay0 fa5, lay1 fa5, lay2 fa5, lay3 fa5, lay0 fb5, lay1 fb5, lay2 fb5, lay3 fb5, beq_self_eq_true]
      refine Wide_spec (((((hs.keep kh2).keep k55).keep k73).keep k75).keep k85) fun h103 k103 => M.still_keep k103 ⟨_, fb5⟩ (rWide fun h105 k105 => ?_)
      simp only [addr_add, load_eq, Nat.zero_add, Nat.add_zero, Nat.mul_one, Nat.one_mul, Nat.zero_mul, Nat.reduceAdd, List.getElem?_toArray, List.getElem?_cons_zero, List.getElem?_cons_succ, some_and, int_eq, bool_eq, str_eq, slc_eq, ptr_eq, nn_eq, M.val, cond_true, cond_false, Bool.not_true, Bool.not_false, beq_self_eq_true]
      exact hJ _ _ ⟨rfl, (((((kh2.trans k55).trans k73).trans k75).trans k85).trans k103).trans k105⟩
end Go.Proofs.YtgkebmhkmedadaaDoor

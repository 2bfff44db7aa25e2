/- The layout's laws, 2: LayoutFinds and LayoutSeats. -/
import Derived.Test.YtgkebmhkmedadaaDoorShL3
namespace Go.Proofs.YtgkebmhkmedadaaDoor
open Go.Sh Go.RowKit
set_option linter.unusedSimpArgs false
set_option linter.unusedVariables false

/-- Two layouts, one behind the other. -/
theorem two_lays {h : H} {b : Nat} {x0 x1 x2 y0 y1 y2 : Int} {g g' : Bool} {e : TypeId} (hb : h b = some (.cells #[.int .i64 x0, .int .i64 x1, .int .i64 x2, .bool g, .int .i64 y0, .int .i64 y1, .int .i64 y2, .bool g'] e (0, 0))) {d : Int} (h0 : 0 ≤ d) (h1 : d < ((2 : Nat) : Int)) :
    ∃ z0 z1 z2 zg, h.cell ⟨b, d.toNat * 4, none⟩ = some (.int .i64 z0) ∧ h.cell ⟨b, d.toNat * 4 + 1, none⟩ = some (.int .i64 z1) ∧ h.cell ⟨b, d.toNat * 4 + 2, none⟩ = some (.int .i64 z2) ∧ h.cell ⟨b, d.toNat * 4 + 3, none⟩ = some (.bool zg) := by
  have : d = 0 ∨ d = 1 := by omega
  rcases this with rfl | rfl
  · exact ⟨x0, x1, x2, g, by rw [cell_in hb]; rfl, by rw [cell_in hb]; rfl, by rw [cell_in hb]; rfl, by rw [cell_in hb]; rfl⟩
  · exact ⟨y0, y1, y2, g', by rw [cell_in hb]; rfl, by rw [cell_in hb]; rfl, by rw [cell_in hb]; rfl, by rw [cell_in hb]; rfl⟩
theorem two_ints {h : H} {b : Nat} {x y : Int} {e : TypeId} (hb : h b = some (.cells #[.int .i64 x, .int .i64 y] e (0, 0))) {d : Int} (h0 : 0 ≤ d) (h1 : d < ((2 : Nat) : Int)) : ∃ z, h.cell ⟨b, d.toNat, none⟩ = some (.int .i64 z) := by
  have : d = 0 ∨ d = 1 := by omega
  rcases this with rfl | rfl
  · exact ⟨x, by rw [cell_in hb]; rfl⟩
  · exact ⟨y, by rw [cell_in hb]; rfl⟩
theorem two_pairs {h : H} {b : Nat} {x y z w : Int} {e : TypeId} (hb : h b = some (.cells #[.int .i64 x, .int .i64 y, .int .i64 z, .int .i64 w] e (0, 0))) {d : Int} (h0 : 0 ≤ d) (h1 : d < ((2 : Nat) : Int)) :
    ∃ p q, h.cell ⟨b, d.toNat * 2, none⟩ = some (.int .i64 p) ∧ h.cell ⟨b, d.toNat * 2 + 1, none⟩ = some (.int .i64 q) := by
  have : d = 0 ∨ d = 1 := by omega
  rcases this with rfl | rfl
  · exact ⟨x, y, by rw [cell_in hb]; rfl, by rw [cell_in hb]; rfl⟩
  · exact ⟨z, w, by rw [cell_in hb]; rfl, by rw [cell_in hb]; rfl⟩
theorem next_two {d : Int} (h0 : 0 ≤ d) (h1 : d < ((2 : Nat) : Int)) : IntKind.wrap .i64 (d + 1) = d + 1 := w64 (by omega) (by omega)
theorem layoutFinds {x0 x1 x2 : Int} {g : Bool} {x : Int} {h : H} {Q : Bool → H → Prop} (hs : Sizes h) (k : ∀ h', Keep h h' → Q true h') : law18_LayoutFinds x0 x1 x2 g x h Q := by
  refine M.new_of fun b2 h3 n2 k3 f2 => ?_
  have f2' : h3 b2 = some (lay x0 x1 x2 g 23) := f2
  simp only [addr_add, load_eq, Nat.zero_add, Nat.add_zero, Nat.mul_one, Nat.one_mul, Nat.zero_mul, Nat.reduceAdd, List.getElem?_toArray, List.getElem?_cons_zero, List.getElem?_cons_succ, some_and, int_eq, bool_eq, str_eq, slc_eq, ptr_eq, nn_eq, M.val, cond_true, cond_false, Bool.not_true, Bool.not_false, lay0 f2', lay1 f2', lay2 f2', lay3 f2']
  refine good_spec fun h24 k24 => M.still_keep k24 ⟨_, f2⟩ (M.new_of fun b25 h26 n25 k26 f25 => ?_)
  have kk26 : Keep h h26 := (k3.trans k24).trans k26
  refine M.loop_of (I := fun (d : Int) h' => 0 ≤ d ∧ d ≤ 2 ∧ Keep h26 h') (μ := fun d => (2 - d).toNat) ⟨by omega, by omega, Keep.refl _⟩ ?_
  intro d h29 J hI hJ
  obtain ⟨hd0, hd1, k29⟩ := hI
  by_cases hlt : d < ((2 : Nat) : Int)
  · simp only [hlt, decide_true, cond_true]
    refine ⟨_, rfl, hd0, hlt, ?_⟩
    obtain ⟨z0, z1, z2, zg, c0, c1, c2, c3⟩ := two_lays (k29 _ _ f25) hd0 hlt
    simp only [addr_add, load_eq, Nat.zero_add, Nat.add_zero, Nat.mul_one, Nat.one_mul, Nat.zero_mul, Nat.reduceAdd, List.getElem?_toArray, List.getElem?_cons_zero, List.getElem?_cons_succ, some_and, int_eq, bool_eq, str_eq, slc_eq, ptr_eq, nn_eq, M.val, cond_true, cond_false, Bool.not_true, Bool.not_false, c0, c1, c2, c3]
    refine M.new_of fun b40 h41 n40 k41 f40 => ⟨rfl, M.puts_of f40 (by simp [isPlainCell]) rfl fun h42 u42 f40 => ?_⟩
    have k42 : Keep h29 h42 := u42.keep k41 n40
    refine M.new_of fun b44 h45 n44 k45 f44 => ?_
    have f40' : h45 b40 = some (lay z0 z1 z2 zg 24) := k45 _ _ f40
    have kk45 := (k29.trans k42).trans k45
    refine M.loop_of (I := fun (d : Int) h' => 0 ≤ d ∧ d ≤ 2 ∧ Keep h45 h') (μ := fun d => (2 - d).toNat) ⟨by omega, by omega, Keep.refl _⟩ ?_
    intro i h48 J2 hI2 hJ2
    obtain ⟨hi0, hi1, k48⟩ := hI2
    by_cases hlt2 : i < ((2 : Nat) : Int)
    · simp only [hlt2, decide_true, cond_true]
      refine ⟨_, rfl, hi0, hlt2, ?_⟩
      obtain ⟨z, cz⟩ := two_ints (k48 _ _ f44) hi0 hlt2
      have g40 := k48 _ _ f40'
      simp only [addr_add, load_eq, Nat.zero_add, Nat.add_zero, Nat.mul_one, Nat.one_mul, Nat.zero_mul, Nat.reduceAdd, List.getElem?_toArray, List.getElem?_cons_zero, List.getElem?_cons_succ, some_and, int_eq, bool_eq, str_eq, slc_eq, ptr_eq, nn_eq, M.val, cond_true, cond_false, Bool.not_true, Bool.not_false, cz, lay0 g40, lay1 g40, lay2 g40, lay3 g40]
      refine Find_spec (hs.keep (kk26.trans (kk45.trans k48))) fun h64 k64 => ?_
      have g40' := k64 _ _ g40
      simp only [addr_add, load_eq, Nat.zero_add, Nat.add_zero, Nat.mul_one, Nat.one_mul, Nat.zero_mul, Nat.reduceAdd, List.getElem?_toArray, List.getElem?_cons_zero, List.getElem?_cons_succ, some_and, int_eq, bool_eq, str_eq, slc_eq, ptr_eq, nn_eq, M.val, cond_true, cond_false, Bool.not_true, Bool.not_false, lay0 g40', lay1 g40', lay2 g40', lay3 g40']
      refine rFind fun h76 k76 => ?_
      simp only [addr_add, load_eq, Nat.zero_add, Nat.add_zero, Nat.mul_one, Nat.one_mul, Nat.zero_mul, Nat.reduceAdd, List.getElem?_toArray, List.getElem?_cons_zero, List.getElem?_cons_succ, some_and, int_eq, bool_eq, str_eq, slc_eq, ptr_eq, nn_eq, M.val, cond_true, cond_false, Bool.not_true, Bool.not_false, M.join, bne_self_eq_false, next_two hi0 hlt2]
      exact hJ2 _ _ ⟨by omega, by omega, (k48.trans k64).trans k76⟩ (by omega)
    · simp only [addr_add, load_eq, Nat.zero_add, Nat.add_zero, Nat.mul_one, Nat.one_mul, Nat.zero_mul, Nat.reduceAdd, List.getElem?_toArray, List.getElem?_cons_zero, List.getElem?_cons_succ, some_and, int_eq, bool_eq, str_eq, slc_eq, ptr_eq, nn_eq, M.val, cond_true, cond_false, Bool.not_true, Bool.not_false, hlt2, decide_false, next_two hd0 hlt]
      exact hJ _ _ ⟨by omega, by omega, kk45.trans k48⟩ (by omega)
  · simp only [hlt, decide_false, cond_false]
    exact wakes_spec (hs.keep (kk26.trans k29)) fun h83 k83 => k _ ((kk26.trans k29).trans k83)
set_option maxRecDepth 100000 in
theorem layoutSeats {x0 x1 x2 : Int} {g : Bool} {x y : Int} {h : H} {Q : Bool → H → Prop} (hs : Sizes h) (k : ∀ h', Keep h h' → Q true h') : law18_LayoutSeats x0 x1 x2 g x y h Q := by
  refine M.new_of fun b2 h3 n2 k3 f2 => ?_
  have f2' : h3 b2 = some (lay x0 x1 x2 g 23) := f2
  simp only [addr_add, load_eq, Nat.zero_add, Nat.add_zero, Nat.mul_one, Nat.one_mul, Nat.zero_mul, Nat.reduceAdd, List.getElem?_toArray, List.getElem?_cons_zero, List.getElem?_cons_succ, some_and, int_eq, bool_eq, str_eq, slc_eq, ptr_eq, nn_eq, M.val, cond_true, cond_false, Bool.not_true, Bool.not_false, lay0 f2', lay1 f2', lay2 f2', lay3 f2']
  refine good_spec fun h24 k24 => M.still_keep k24 ⟨_, f2⟩ (M.new_of fun b25 h26 n25 k26 f25 => ?_)
  have kk26 : Keep h h26 := (k3.trans k24).trans k26
  refine M.loop_of (I := fun (d : Int) h' => 0 ≤ d ∧ d ≤ 2 ∧ Keep h26 h') (μ := fun d => (2 - d).toNat) ⟨by omega, by omega, Keep.refl _⟩ ?_
  intro d h29 J hI hJ
  obtain ⟨hd0, hd1, k29⟩ := hI
  by_cases hlt : d < ((2 : Nat) : Int)
  · simp only [hlt, decide_true, cond_true]
    refine ⟨_, rfl, hd0, hlt, ?_⟩
    obtain ⟨z0, z1, z2, zg, c0, c1, c2, c3⟩ := two_lays (k29 _ _ f25) hd0 hlt
    simp only [addr_add, load_eq, Nat.zero_add, Nat.add_zero, Nat.mul_one, Nat.one_mul, Nat.zero_mul, Nat.reduceAdd, List.getElem?_toArray, List.getElem?_cons_zero, List.getElem?_cons_succ, some_and, int_eq, bool_eq, str_eq, slc_eq, ptr_eq, nn_eq, M.val, cond_true, cond_false, Bool.not_true, Bool.not_false, c0, c1, c2, c3]
    refine M.new_of fun b40 h41 n40 k41 f40 => ⟨rfl, M.puts_of f40 (by simp [isPlainCell]) rfl fun h42 u42 f40 => ?_⟩
    have k42 : Keep h29 h42 := u42.keep k41 n40
    refine M.new_of fun b45 h46 n45 k46 f45 => ?_
    have f40' : h46 b40 = some (lay z0 z1 z2 zg 24) := k46 _ _ f40
    have kk46 := (k29.trans k42).trans k46
    refine M.loop_of (I := fun (d : Int) h' => 0 ≤ d ∧ d ≤ 2 ∧ Keep h46 h') (μ := fun d => (2 - d).toNat) ⟨by omega, by omega, Keep.refl _⟩ ?_
    intro i h49 J2 hI2 hJ2
    obtain ⟨hi0, hi1, k49⟩ := hI2
    by_cases hlt2 : i < ((2 : Nat) : Int)
    · simp only [hlt2, decide_true, cond_true]
      refine ⟨_, rfl, hi0, hlt2, ?_⟩
      obtain ⟨p, q, cp, cq⟩ := two_pairs (k49 _ _ f45) hi0 hlt2
      simp only [addr_add, load_eq, Nat.zero_add, Nat.add_zero, Nat.mul_one, Nat.one_mul, Nat.zero_mul, Nat.reduceAdd, List.getElem?_toArray, List.getElem?_cons_zero, List.getElem?_cons_succ, some_and, int_eq, bool_eq, str_eq, slc_eq, ptr_eq, nn_eq, M.val, cond_true, cond_false, Bool.not_true, Bool.not_false, cp, cq]
      refine M.new_of fun b56 h57 n56 k57 f56 => ⟨rfl, M.puts_of f56 (by simp [isPlainCell]) rfl fun h58 u58 f56 => ?_⟩
      have k58 : Keep h49 h58 := u58.keep k57 n56
      have g40 := k58 _ _ (k49 _ _ f40')
      simp only [addr_add, load_eq, Nat.zero_add, Nat.add_zero, Nat.mul_one, Nat.one_mul, Nat.zero_mul, Nat.reduceAdd, List.getElem?_toArray, List.getElem?_cons_zero, List.getElem?_cons_succ, some_and, int_eq, bool_eq, str_eq, slc_eq, ptr_eq, nn_eq, M.val, cond_true, cond_false, Bool.not_true, Bool.not_false, lay0 g40, lay1 g40, lay2 g40, lay3 g40]
      refine M.new_of fun b67 h68 n67 k68 f67 => ⟨rfl, M.puts_of f67 (by simp [isPlainCell]) rfl fun h69 u69 f67 => ?_⟩
      have k69 : Keep h58 h69 := u69.keep k68 n67
      have ai : ∀ (n : Nat) (i : Int) (K : Nat → Prop), 0 ≤ i → i < n → K i.toNat → M.aidx n i K := fun n i K a b c => ⟨a, b, c⟩
      have step : ∀ h', Keep h69 h' → h'.cell ⟨b56, 0, none⟩ = some (.int .i64 p) ∧ h'.cell ⟨b56, 1, none⟩ = some (.int .i64 q) ∧ h' b40 = some (lay z0 z1 z2 zg 24) ∧ h' b67 = some (lay z0 z1 z2 zg 25) ∧ Sizes h' := fun h' k' => by
        have := k' _ _ (k69 _ _ f56)
        exact ⟨by rw [cell_in this]; rfl, by rw [cell_in this]; rfl, k' _ _ (k69 _ _ g40), k' _ _ f67, hs.keep (kk26.trans (kk46.trans (((k49.trans k58).trans k69).trans k')))⟩
      obtain ⟨a0, a1, aL, aR, aS⟩ := step h69 (Keep.refl _)
      have t0 : (0 : Int).toNat = 0 := rfl
      have t1 : (1 : Int).toNat = 1 := rfl
      simp only [addr_add, load_eq, Nat.zero_add, Nat.add_zero, Nat.mul_one, Nat.one_mul, Nat.zero_mul, Nat.reduceAdd, List.getElem?_toArray, List.getElem?_cons_zero, List.getElem?_cons_succ, some_and, int_eq, bool_eq, str_eq, slc_eq, ptr_eq, nn_eq, M.val, cond_true, cond_false, Bool.not_true, Bool.not_false, M.aidx, t0, t1, a0, a1, lay0 aL, lay1 aL, lay2 aL, lay3 aL, lay0 aR, lay1 aR, lay2 aR, lay3 aR]
      refine ⟨by omega, by omega, by omega, by omega, Seat_spec aS fun h86 k86 => ?_⟩
      obtain ⟨a0, a1, aL, aR, aS⟩ := step h86 k86
      simp only [addr_add, load_eq, Nat.zero_add, Nat.add_zero, Nat.mul_one, Nat.one_mul, Nat.zero_mul, Nat.reduceAdd, List.getElem?_toArray, List.getElem?_cons_zero, List.getElem?_cons_succ, some_and, int_eq, bool_eq, str_eq, slc_eq, ptr_eq, nn_eq, M.val, cond_true, cond_false, Bool.not_true, Bool.not_false, M.aidx, t0, t1, a0, a1, lay0 aL, lay1 aL, lay2 aL, lay3 aL, lay0 aR, lay1 aR, lay2 aR, lay3 aR]
      refine ⟨by omega, by omega, by omega, by omega, rSeat fun h103 k103 => ?_⟩
      obtain ⟨a0, a1, aL, aR, aS⟩ := step h103 (k86.trans k103)
      simp only [addr_add, load_eq, Nat.zero_add, Nat.add_zero, Nat.mul_one, Nat.one_mul, Nat.zero_mul, Nat.reduceAdd, List.getElem?_toArray, List.getElem?_cons_zero, List.getElem?_cons_succ, some_and, int_eq, bool_eq, str_eq, slc_eq, ptr_eq, nn_eq, M.val, cond_true, cond_false, Bool.not_true, Bool.not_false, M.aidx, t0, t1, a0, a1, lay0 aL, lay1 aL, lay2 aL, lay3 aL, lay0 aR, lay1 aR, lay2 aR, lay3 aR]
      refine ⟨by omega, by omega, by omega, by omega, Chunk_spec aS fun h120 k120 => ?_⟩
      obtain ⟨a0, a1, aL, aR, aS⟩ := step h120 ((k86.trans k103).trans k120)
      simp only [addr_add, load_eq, Nat.zero_add, Nat.add_zero, Nat.mul_one, Nat.one_mul, Nat.zero_mul, Nat.reduceAdd, List.getElem?_toArray, List.getElem?_cons_zero, List.getElem?_cons_succ, some_and, int_eq, bool_eq, str_eq, slc_eq, ptr_eq, nn_eq, M.val, cond_true, cond_false, Bool.not_true, Bool.not_false, M.aidx, t0, t1, a0, a1, lay0 aL, lay1 aL, lay2 aL, lay3 aL, lay0 aR, lay1 aR, lay2 aR, lay3 aR]
      refine ⟨by omega, by omega, by omega, by omega, rChunk fun h137 k137 => ?_⟩
      simp only [addr_add, load_eq, Nat.zero_add, Nat.add_zero, Nat.mul_one, Nat.one_mul, Nat.zero_mul, Nat.reduceAdd, List.getElem?_toArray, List.getElem?_cons_zero, List.getElem?_cons_succ, some_and, int_eq, bool_eq, str_eq, slc_eq, ptr_eq, nn_eq, M.val, cond_true, cond_false, Bool.not_true, Bool.not_false, M.join, bne_self_eq_false, beq_self_eq_true, next_two hi0 hlt2]
      exact hJ2 _ _ ⟨by omega, by omega, (((((k49.trans k58).trans k69).trans k86).trans k103).trans k120).trans k137⟩ (by omega)
    · simp only [addr_add, load_eq, Nat.zero_add, Nat.add_zero, Nat.mul_one, Nat.one_mul, Nat.zero_mul, Nat.reduceAdd, List.getElem?_toArray, List.getElem?_cons_zero, List.getElem?_cons_succ, some_and, int_eq, bool_eq, str_eq, slc_eq, ptr_eq, nn_eq, M.val, cond_true, cond_false, Bool.not_true, Bool.not_false, hlt2, decide_false, next_two hd0 hlt]
      exact hJ _ _ ⟨by omega, by omega, kk46.trans k49⟩ (by omega)
  · simp only [hlt, decide_false, cond_false]
    exact wakes_spec (hs.keep (kk26.trans k29)) fun h83 k83 => k _ ((kk26.trans k29).trans k83)
end Go.Proofs.YtgkebmhkmedadaaDoor

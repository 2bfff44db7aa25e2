/- The layout's laws, 4: LayoutGrows. -/
import Derived.Test.YtgkebmhkmedadaaDoorShL5
namespace Go.Proofs.YtgkebmhkmedadaaDoor
open Go.Sh Go.RowKit
set_option linter.unusedSimpArgs false
set_option linter.unusedVariables false

theorem mul_lt_of {a b n : Int} (hn : 0 ≤ n) (h : a + 1 ≤ b) : a * n + n ≤ b * n := by
  have := Int.mul_le_mul_of_nonneg_right h hn
  rw [Int.add_mul, Int.one_mul] at this; exact this
theorem grow_good {k S m : Int} (hS : S = 2 ∨ S = 4 ∨ S = 8 ∨ S = 16) (hk : 2 ≤ k ∧ k ≤ 7) (hm : 0 ≤ m ∧ m < S) : GoodB k S m true = true := by
  rw [GoodB_iff]; exact ⟨hS, hk.1, by omega, fun h => by omega, hm.1, hm.2, .inl rfl⟩
theorem grown_good {k S : Int} (hS : S = 2 ∨ S = 4 ∨ S = 8 ∨ S = 16) (hk : 2 ≤ k ∧ k ≤ 7) : GoodB (k + 1) S 0 false = true := by
  rw [GoodB_iff]; exact ⟨hS, by omega, by omega, fun h => by simp at h, by omega, by omega, .inr rfl⟩
/-- The layout when 'm' steps are done. -/
def gD (k S m : Int) : Int := if m < S then k else k + 1
def gM (S m : Int) : Int := if m < S then m else 0
def gG (S m : Int) : Bool := decide (m < S)
theorem g_good {k S m : Int} (hS : S = 2 ∨ S = 4 ∨ S = 8 ∨ S = 16) (hk : 2 ≤ k ∧ k ≤ 7) (hm : 0 ≤ m) : GoodB (gD k S m) S (gM S m) (gG S m) = true := by
  unfold gD gM gG
  by_cases h : m < S
  · simp only [h, if_true, decide_true]; exact grow_good hS hk ⟨hm, h⟩
  · simp only [h, if_false, decide_false]; exact grown_good hS hk
/-- Where a block lies when 'm' steps are done. -/
theorem g_find {k S m b : Int} (hS : S = 2 ∨ S = 4 ∨ S = 8 ∨ S = 16) (hk : 2 ≤ k ∧ k ≤ 7) (hm : 0 ≤ m ∧ m ≤ S) (hb0 : 0 ≤ b) (hb1 : b < S * gD k S m) :
    FindZ (gD k S m) S (gM S m) (gG S m) b = if b < m * (k + 1) then (b / (k + 1), b % (k + 1), 0) else (b / k, b % k, 0) := by
  have hg := g_good hS hk hm.1
  unfold FindZ
  rw [if_pos hg, if_pos ⟨hb0, hb1⟩]
  unfold gD gM at *
  by_cases h : m < S
  · simp only [h, if_true]
  · have e : m = S := by omega
    subst e
    simp only [Int.lt_irrefl, if_false] at hb1 ⊢
    rw [if_neg (by rw [Int.zero_mul]; omega), if_pos hb1]
theorem g_step {k S m : Int} (hS : S = 2 ∨ S = 4 ∨ S = 8 ∨ S = 16) (hk : 2 ≤ k ∧ k ≤ 7) (hm : 0 ≤ m ∧ m < S) : StepZ k S m true = (gD k S (m + 1), S, gM S (m + 1), gG S (m + 1), 0) := by
  unfold StepZ
  rw [if_pos (grow_good hS hk hm)]
  simp only [if_true]
  unfold gD gM gG
  by_cases h : m + 1 = S
  · rw [if_pos h]; simp [h]
  · rw [if_neg h]; simp [show m + 1 < S by omega]
theorem blocks_is {d s m : Int} {g : Bool} (h : GoodB d s m g = true) : BlocksZ d s m g = s * d := by unfold BlocksZ; rw [if_pos h]
set_option maxRecDepth 100000 in
theorem layoutGrows {x0 x1 x2 : Int} {g : Bool} {h : H} {Q : Bool → H → Prop} (hs : Sizes h) (k : ∀ h', Keep h h' → Q true h') : law18_LayoutGrows x0 x1 x2 g h Q := by
  refine M.new_of fun b2 h3 n2 k3 f2 => M.put_of f2 rfl (by simp) fun h4 u4 f4 => ?_
  have f4' : h4 b2 = some (lay x0 x1 x2 true 23) := f4
  have kk4 : Keep h h4 := u4.keep k3 n2
  simp only [addr_add, load_eq, Nat.zero_add, Nat.add_zero, Nat.mul_one, Nat.one_mul, Nat.zero_mul, Nat.reduceAdd, List.getElem?_toArray, List.getElem?_cons_zero, List.getElem?_cons_succ, some_and, int_eq, bool_eq, str_eq, slc_eq, ptr_eq, nn_eq, M.val, cond_true, cond_false, Bool.not_true, Bool.not_false, lay0 f4', lay1 f4', lay2 f4', lay3 f4']
  refine good_spec fun h17 k17 => M.new_of fun b18 h19 n18 k19 f18 => ⟨rfl, M.puts_of f18 (by simp [isPlainCell]) rfl fun h20 u20 f20 => M.put_of f20 rfl (by simp) fun h21 u21 f21 => ?_⟩
  have hk := gData_le x0
  have hS := gSlots_cases x1
  generalize gData x0 = K at *
  generalize gSlots x1 = S at *
  have f21' : h21 b18 = some (lay K S 0 true 24) := f21
  have n18' : h b18 = none := (kk4.trans k17).none n18
  have kk21 : Keep h h21 := u21.keep (u20.keep ((kk4.trans k17).trans k19) n18') n18'
  simp only [addr_add, load_eq, Nat.zero_add, Nat.add_zero, Nat.mul_one, Nat.one_mul, Nat.zero_mul, Nat.reduceAdd, List.getElem?_toArray, List.getElem?_cons_zero, List.getElem?_cons_succ, some_and, int_eq, bool_eq, str_eq, slc_eq, ptr_eq, nn_eq, M.val, cond_true, cond_false, Bool.not_true, Bool.not_false, lay0 f21', lay1 f21']
  have layAt : ∀ m, m < S → lay (gD K S m) S (gM S m) (gG S m) 24 = lay K S m true 24 := fun m h => by simp [gD, gM, gG, h]
  refine M.join_of (fun (_ : Unit) h' => Keep h h' ∧ h' b18 = some (lay (K + 1) S 0 false 24)) ?_ ?_
  rotate_left
  · rintro ⟨⟩ h29 ⟨k29, f29'⟩
    refine M.join_of (fun (x : Bool) h' => x = true ∧ Keep h h') ?_ (fun x h' ⟨e, kk⟩ => by subst e; exact k _ kk)
    intro J203 hJ203
    refine wakes_spec (hs.keep k29) fun h205 k205 => ?_
    have f205 := k205 _ _ f29'
    have w1 : IntKind.wrap .i64 (K + 1) = K + 1 := w64 (by omega) (by omega)
    simp only [addr_add, load_eq, Nat.zero_add, Nat.add_zero, Nat.mul_one, Nat.one_mul, Nat.zero_mul, Nat.reduceAdd, List.getElem?_toArray, List.getElem?_cons_zero, List.getElem?_cons_succ, some_and, int_eq, bool_eq, str_eq, slc_eq, ptr_eq, nn_eq, M.val, cond_true, cond_false, Bool.not_true, Bool.not_false, lay0 f205, lay1 f205, lay2 f205, lay3 f205, w1]
    exact eqv_same24 (hJ203 _ _ ⟨rfl, k29.trans k205⟩)
  intro J24 hJ24
  refine M.loop_of (I := fun (m : Int) h' => 0 ≤ m ∧ m ≤ S ∧ Keep h h' ∧ h' b18 = some (lay (gD K S m) S (gM S m) (gG S m) 24)) (μ := fun m => (S - m).toNat) ⟨by omega, by omega, kk21, by rw [layAt 0 (by omega)]; exact f21'⟩ ?_
  intro m h29 J hI hJ
  obtain ⟨hm0, hm1, k29, f29⟩ := hI
  by_cases hlt : m < S
  · rw [layAt m hlt] at f29
    have hgood := grow_good (m := m) hS hk ⟨hm0, hlt⟩
    have hp := prod_le hS (show 0 ≤ K by omega) (by omega)
    have hp2 := prod_le hS (show 0 ≤ K + 1 by omega) (by omega)
    have hmm : m * (K + 1) + (K + 1) ≤ S * (K + 1) := mul_lt_of (by omega) (by omega)
    have hm00 : 0 ≤ m * (K + 1) := Int.mul_nonneg hm0 (by omega)
    have hgn := g_good (m := m + 1) hS hk (by omega)
    simp only [addr_add, load_eq, Nat.zero_add, Nat.add_zero, Nat.mul_one, Nat.one_mul, Nat.zero_mul, Nat.reduceAdd, List.getElem?_toArray, List.getElem?_cons_zero, List.getElem?_cons_succ, some_and, int_eq, bool_eq, str_eq, slc_eq, ptr_eq, nn_eq, M.val, cond_true, cond_false, Bool.not_true, Bool.not_false, hlt, decide_true, lay0 f29, lay1 f29, lay2 f29, lay3 f29]
    refine Moves_spec (hs.keep k29) fun h42 a l c k42 mv => ?_
    have f42 := k42 _ _ f29
    simp only [addr_add, load_eq, Nat.zero_add, Nat.add_zero, Nat.mul_one, Nat.one_mul, Nat.zero_mul, Nat.reduceAdd, List.getElem?_toArray, List.getElem?_cons_zero, List.getElem?_cons_succ, some_and, int_eq, bool_eq, str_eq, slc_eq, ptr_eq, nn_eq, M.val, cond_true, cond_false, Bool.not_true, Bool.not_false, lay0 f42, lay1 f42, lay2 f42, lay3 f42]
    refine Step_spec (hs.keep (k29.trans k42)) fun h56 k56 => ?_
    rw [g_step hS hk ⟨hm0, hlt⟩]
    show M.new _ _ _
    refine M.new_of fun b57 h58 n57 k58 f57 => ⟨rfl, M.puts_of f57 (by simp [isPlainCell]) rfl fun h59 u59 f59 => ?_⟩
    have k59 : Keep h56 h59 := u59.keep k58 n57
    have kk59 : Keep h29 h59 := (k42.trans k56).trans k59
    have g57 : h59 b57 = some (lay (gD K S (m + 1)) S (gM S (m + 1)) (gG S (m + 1)) 24) := f59
    have g18 := kk59 _ _ f29
    have MV : MovesIs h59 K S m true a l := (mv.keep k56).keep k59
    have hl : (l : Int) = K + 1 := by
      have := MV
      unfold MovesIs at this
      rw [if_pos ⟨hgood, rfl⟩] at this
      omega
    have e1 : movesE K S m true = 0 := by unfold movesE; rw [if_pos hgood]; rfl
    have w1 : IntKind.wrap .i64 (K + 1) = K + 1 := w64 (by omega) (by omega)
    refine M.join_of (fun (x : Bool) h' => x = false ∧ Keep h59 h') ?_ ?_
    · intro J1 hJ1
      simp only [addr_add, load_eq, Nat.zero_add, Nat.add_zero, Nat.mul_one, Nat.one_mul, Nat.zero_mul, Nat.reduceAdd, List.getElem?_toArray, List.getElem?_cons_zero, List.getElem?_cons_succ, some_and, int_eq, bool_eq, str_eq, slc_eq, ptr_eq, nn_eq, M.val, cond_true, cond_false, Bool.not_true, Bool.not_false, e1, bne_self_eq_false, w1, hl, lay0 g57, lay1 g57, lay2 g57, lay3 g57]
      refine Good_spec (hs.keep (k29.trans kk59)) fun h71 k71 => ?_
      rw [hgn]
      exact hJ1 _ _ ⟨rfl, k71⟩
    rintro x h73 ⟨rfl, k73⟩
    simp only [cond_false]
    -- the two halves
    refine M.join_of (fun (_ : Unit) h' => Keep h59 h') ?_ ?_
    · intro J74 hJ74
      refine M.loop_of (I := fun (i : Int) h' => 0 ≤ i ∧ i ≤ K + 1 ∧ Keep h59 h') (μ := fun i => (K + 1 - i).toNat) ⟨by omega, by omega, k73⟩ ?_
      intro i h77 J75 hI2 hJ75
      obtain ⟨hi0, hi1, k77⟩ := hI2
      rw [hl]
      by_cases hi : i < K + 1
      · obtain ⟨p, rfl, q⟩ := (MV.keep k77).at hi0 (by omega)
        simp only [hi, decide_true, cond_true]
        refine ⟨_, rfl, hi0, by omega, ?_⟩
        have w2 : IntKind.wrap .i64 (i + 1) = i + 1 := w64 (by omega) (by omega)
        have r18 := k77 _ _ g18
        simp only [addr_add, load_eq, Nat.zero_add, Nat.add_zero, Nat.mul_one, Nat.one_mul, Nat.zero_mul, Nat.reduceAdd, List.getElem?_toArray, List.getElem?_cons_zero, List.getElem?_cons_succ, some_and, int_eq, bool_eq, str_eq, slc_eq, ptr_eq, nn_eq, M.val, cond_true, cond_false, Bool.not_true, Bool.not_false, q, w2]
        refine M.join_of (fun (_ : Unit) h' => Keep h59 h') ?_ ?_
        · intro J82 hJ82
          simp only [addr_add, load_eq, Nat.zero_add, Nat.add_zero, Nat.mul_one, Nat.one_mul, Nat.zero_mul, Nat.reduceAdd, List.getElem?_toArray, List.getElem?_cons_zero, List.getElem?_cons_succ, some_and, int_eq, bool_eq, str_eq, slc_eq, ptr_eq, nn_eq, M.val, cond_true, cond_false, Bool.not_true, Bool.not_false, lay0 r18, lay1 r18, lay2 r18, lay3 r18]
          refine Blocks_spec (hs.keep (k29.trans (kk59.trans k77))) fun h92 k92 => ?_
          rw [blocks_is hgood]
          have r18' := k92 _ _ r18
          by_cases hb : m * (K + 1) + i < S * K
          · simp only [addr_add, load_eq, Nat.zero_add, Nat.add_zero, Nat.mul_one, Nat.one_mul, Nat.zero_mul, Nat.reduceAdd, List.getElem?_toArray, List.getElem?_cons_zero, List.getElem?_cons_succ, some_and, int_eq, bool_eq, str_eq, slc_eq, ptr_eq, nn_eq, M.val, cond_true, cond_false, Bool.not_true, Bool.not_false, M.join, hb, decide_true, lay0 r18', lay1 r18', lay2 r18', lay3 r18']
            refine Find_spec (hs.keep (k29.trans (kk59.trans (k77.trans k92)))) fun h104 k104 => ?_
            have hf : FindZ K S m true (m * (K + 1) + i) = ((m * (K + 1) + i) / K, (m * (K + 1) + i) % K, 0) := by
              unfold FindZ
              rw [if_pos hgood, if_pos ⟨by omega, hb⟩, if_neg (by omega)]
            have hge : ¬ (m * (K + 1) + i) / K < m := by
              have h6 : m * K ≤ m * (K + 1) := Int.mul_le_mul_of_nonneg_left (by omega) (by omega)
              have := (Int.le_ediv_iff_mul_le (show 0 < K by omega)).2 (show m * K ≤ m * (K + 1) + i by omega)
              omega
            simp only [addr_add, load_eq, Nat.zero_add, Nat.add_zero, Nat.mul_one, Nat.one_mul, Nat.zero_mul, Nat.reduceAdd, List.getElem?_toArray, List.getElem?_cons_zero, List.getElem?_cons_succ, some_and, int_eq, bool_eq, str_eq, slc_eq, ptr_eq, nn_eq, M.val, cond_true, cond_false, Bool.not_true, Bool.not_false, M.join, hf, bne_self_eq_false, hge, decide_false]
            exact hJ82 _ _ ((k77.trans k92).trans k104)
          · simp only [addr_add, load_eq, Nat.zero_add, Nat.add_zero, Nat.mul_one, Nat.one_mul, Nat.zero_mul, Nat.reduceAdd, List.getElem?_toArray, List.getElem?_cons_zero, List.getElem?_cons_succ, some_and, int_eq, bool_eq, str_eq, slc_eq, ptr_eq, nn_eq, M.val, cond_true, cond_false, Bool.not_true, Bool.not_false, M.join, hb, decide_false]
            exact hJ82 _ _ (k77.trans k92)
        · rintro ⟨⟩ h109 k109
          have r57 := k109 _ _ g57
          simp only [addr_add, load_eq, Nat.zero_add, Nat.add_zero, Nat.mul_one, Nat.one_mul, Nat.zero_mul, Nat.reduceAdd, List.getElem?_toArray, List.getElem?_cons_zero, List.getElem?_cons_succ, some_and, int_eq, bool_eq, str_eq, slc_eq, ptr_eq, nn_eq, M.val, cond_true, cond_false, Bool.not_true, Bool.not_false, lay0 r57, lay1 r57, lay2 r57, lay3 r57]
          refine Blocks_spec (hs.keep (k29.trans (kk59.trans k109))) fun h119 k119 => ?_
          rw [blocks_is hgn]
          have r57' := k119 _ _ r57
          by_cases hb : m * (K + 1) + i < S * gD K S (m + 1)
          · simp only [addr_add, load_eq, Nat.zero_add, Nat.add_zero, Nat.mul_one, Nat.one_mul, Nat.zero_mul, Nat.reduceAdd, List.getElem?_toArray, List.getElem?_cons_zero, List.getElem?_cons_succ, some_and, int_eq, bool_eq, str_eq, slc_eq, ptr_eq, nn_eq, M.val, cond_true, cond_false, Bool.not_true, Bool.not_false, hb, decide_true, lay0 r57', lay1 r57', lay2 r57', lay3 r57']
            refine Find_spec (hs.keep (k29.trans (kk59.trans (k109.trans k119)))) fun h131 k131 => ?_
            have hf : FindZ (gD K S (m + 1)) S (gM S (m + 1)) (gG S (m + 1)) (m * (K + 1) + i) = (m, i, 0) := by
              rw [g_find hS hk ⟨by omega, by omega⟩ (by omega) hb, if_pos (by rw [Int.add_mul, Int.one_mul]; omega), div_eq hi0 hi, mod_eq hi0 hi]
            simp only [addr_add, load_eq, Nat.zero_add, Nat.add_zero, Nat.mul_one, Nat.one_mul, Nat.zero_mul, Nat.reduceAdd, List.getElem?_toArray, List.getElem?_cons_zero, List.getElem?_cons_succ, some_and, int_eq, bool_eq, str_eq, slc_eq, ptr_eq, nn_eq, M.val, cond_true, cond_false, Bool.not_true, Bool.not_false, M.join, hf, bne_self_eq_false]
            exact hJ75 _ _ ⟨by omega, by omega, (k109.trans k119).trans k131⟩ (by omega)
          · simp only [addr_add, load_eq, Nat.zero_add, Nat.add_zero, Nat.mul_one, Nat.one_mul, Nat.zero_mul, Nat.reduceAdd, List.getElem?_toArray, List.getElem?_cons_zero, List.getElem?_cons_succ, some_and, int_eq, bool_eq, str_eq, slc_eq, ptr_eq, nn_eq, M.val, cond_true, cond_false, Bool.not_true, Bool.not_false, hb, decide_false]
            exact hJ75 _ _ ⟨by omega, by omega, k109.trans k119⟩ (by omega)
      · simp only [hi, decide_false, cond_false]
        exact hJ74 _ _ k77
    · rintro ⟨⟩ h138 k138
      have r18 := k138 _ _ g18
      simp only [addr_add, load_eq, Nat.zero_add, Nat.add_zero, Nat.mul_one, Nat.one_mul, Nat.zero_mul, Nat.reduceAdd, List.getElem?_toArray, List.getElem?_cons_zero, List.getElem?_cons_succ, some_and, int_eq, bool_eq, str_eq, slc_eq, ptr_eq, nn_eq, M.val, cond_true, cond_false, Bool.not_true, Bool.not_false, lay0 r18, lay1 r18, lay2 r18, lay3 r18]
      refine Blocks_spec (hs.keep (k29.trans (kk59.trans k138))) fun h148 k148 => ?_
      rw [blocks_is hgood]
      refine M.loop_of (I := fun (b : Int) h' => 0 ≤ b ∧ b ≤ S * K ∧ Keep h59 h') (μ := fun b => (S * K - b).toNat) ⟨by omega, by omega, k138.trans k148⟩ ?_
      intro b h151 J149 hI3 hJ149
      obtain ⟨hb0, hb1, k151⟩ := hI3
      have s18 := k151 _ _ g18
      have s57 := k151 _ _ g57
      by_cases hb : b < S * K
      · have w2 : IntKind.wrap .i64 (b + 1) = b + 1 := w64 (by omega) (by omega)
        have hKS : S * K ≤ S * gD K S (m + 1) := Int.mul_le_mul_of_nonneg_left (by unfold gD; split <;> omega) (by omega)
        simp only [addr_add, load_eq, Nat.zero_add, Nat.add_zero, Nat.mul_one, Nat.one_mul, Nat.zero_mul, Nat.reduceAdd, List.getElem?_toArray, List.getElem?_cons_zero, List.getElem?_cons_succ, some_and, int_eq, bool_eq, str_eq, slc_eq, ptr_eq, nn_eq, M.val, cond_true, cond_false, Bool.not_true, Bool.not_false, hb, decide_true, lay0 s18, lay1 s18, lay2 s18, lay3 s18]
        refine Find_spec (hs.keep (k29.trans (kk59.trans k151))) fun h163 k163 => ?_
        have s57' := k163 _ _ s57
        simp only [addr_add, load_eq, Nat.zero_add, Nat.add_zero, Nat.mul_one, Nat.one_mul, Nat.zero_mul, Nat.reduceAdd, List.getElem?_toArray, List.getElem?_cons_zero, List.getElem?_cons_succ, some_and, int_eq, bool_eq, str_eq, slc_eq, ptr_eq, nn_eq, M.val, cond_true, cond_false, Bool.not_true, Bool.not_false, lay0 s57', lay1 s57', lay2 s57', lay3 s57']
        refine Find_spec (hs.keep (k29.trans (kk59.trans (k151.trans k163)))) fun h175 k175 => ?_
        have MV' := MV.keep ((k151.trans k163).trans k175)
        obtain ⟨p, rfl, q0⟩ := MV'.at (i := 0) (by omega) (by omega)
        obtain ⟨p', hp', qK⟩ := MV'.at (i := K) (by omega) (by omega)
        simp only [Option.some.injEq] at hp'
        subst hp'
        have hf1 : FindZ K S m true b = if b < m * (K + 1) then (b / (K + 1), b % (K + 1), 0) else (b / K, b % K, 0) := by
          unfold FindZ
          rw [if_pos hgood, if_pos ⟨hb0, hb⟩]
        have hf2 := g_find (b := b) hS hk (m := m + 1) ⟨by omega, by omega⟩ hb0 (by omega)
        have hexp : (m + 1) * (K + 1) = m * (K + 1) + (K + 1) := by rw [Int.add_mul, Int.one_mul]
        rw [hexp] at hf2
        refine M.join_of (fun (x : Bool) h' => x = decide (m * (K + 1) ≤ b ∧ b ≤ m * (K + 1) + K) ∧ Keep h59 h') ?_ ?_
        · intro J176 hJ176
          refine ⟨_, rfl, by omega, by omega, ?_⟩
          have t0 : (0 : Int).toNat = 0 := rfl
          have z0 : m * (K + 1) + 0 = m * (K + 1) := by omega
          rw [t0, z0] at q0
          simp only [addr_add, load_eq, Nat.zero_add, Nat.add_zero, Nat.mul_one, Nat.one_mul, Nat.zero_mul, Nat.reduceAdd, List.getElem?_toArray, List.getElem?_cons_zero, List.getElem?_cons_succ, some_and, int_eq, bool_eq, str_eq, slc_eq, ptr_eq, nn_eq, M.val, cond_true, cond_false, Bool.not_true, Bool.not_false, q0, t0]
          by_cases hge : b ≥ m * (K + 1)
          · simp only [hge, decide_true, cond_true]
            refine ⟨_, rfl, by omega, by omega, ?_⟩
            simp only [addr_add, load_eq, Nat.zero_add, Nat.add_zero, Nat.mul_one, Nat.one_mul, Nat.zero_mul, Nat.reduceAdd, List.getElem?_toArray, List.getElem?_cons_zero, List.getElem?_cons_succ, some_and, int_eq, bool_eq, str_eq, slc_eq, ptr_eq, nn_eq, M.val, cond_true, cond_false, Bool.not_true, Bool.not_false, qK]
            refine hJ176 _ _ ⟨?_, (k151.trans k163).trans k175⟩
            simp; omega
          · simp only [hge, decide_false, cond_false]
            refine hJ176 _ _ ⟨?_, (k151.trans k163).trans k175⟩
            simp; omega
        · rintro x h186 ⟨rfl, k186⟩
          refine M.join_of (fun (x : Bool) h' => x = false ∧ Keep h59 h') ?_ ?_
          · intro J187 hJ187
            by_cases hmv : m * (K + 1) ≤ b ∧ b ≤ m * (K + 1) + K
            · simp only [hmv, and_self, decide_true, Bool.not_true, cond_false]
              exact hJ187 _ _ ⟨rfl, k186⟩
            · have hfs : FindZ K S m true b = FindZ (gD K S (m + 1)) S (gM S (m + 1)) (gG S (m + 1)) b := by
                rw [hf1, hf2]
                by_cases h1 : b < m * (K + 1)
                · rw [if_pos h1, if_pos (by omega)]
                · rw [if_neg h1, if_neg (by omega)]
              have hne : ((FindZ (gD K S (m + 1)) S (gM S (m + 1)) (gG S (m + 1)) b).1 == m) = false := by
                rw [hf2]
                by_cases h1 : b < m * (K + 1)
                · rw [if_pos (by omega)]
                  have := Int.ediv_lt_of_lt_mul (show 0 < K + 1 by omega) h1
                  simp; omega
                · rw [if_neg (by omega)]
                  have h6 : (m + 1) * K ≤ m * (K + 1) + (K + 1) := by rw [← hexp]; exact Int.mul_le_mul_of_nonneg_left (by omega) (by omega)
                  have := (Int.le_ediv_iff_mul_le (show 0 < K by omega)).2 (show (m + 1) * K ≤ b by omega)
                  simp; omega
              simp only [hmv, decide_false, Bool.not_false, cond_true, hfs, bne_self_eq_false, cond_false, hne]
              exact hJ187 _ _ ⟨rfl, k186⟩
          · rintro x h189 ⟨rfl, k189⟩
            simp only [addr_add, load_eq, Nat.zero_add, Nat.add_zero, Nat.mul_one, Nat.one_mul, Nat.zero_mul, Nat.reduceAdd, List.getElem?_toArray, List.getElem?_cons_zero, List.getElem?_cons_succ, some_and, int_eq, bool_eq, str_eq, slc_eq, ptr_eq, nn_eq, M.val, cond_true, cond_false, Bool.not_true, Bool.not_false, w2]
            exact hJ149 _ _ ⟨by omega, by omega, k189⟩ (by omega)
      · simp only [addr_add, load_eq, Nat.zero_add, Nat.add_zero, Nat.mul_one, Nat.one_mul, Nat.zero_mul, Nat.reduceAdd, List.getElem?_toArray, List.getElem?_cons_zero, List.getElem?_cons_succ, some_and, int_eq, bool_eq, str_eq, slc_eq, ptr_eq, nn_eq, M.val, cond_true, cond_false, Bool.not_true, Bool.not_false, hb, decide_false, lay0 s57, lay1 s57, lay2 s57, lay3 s57]
        refine ⟨rfl, M.puts_of s18 (by simp [isPlainCell]) rfl fun h199 u199 f199 => ?_⟩
        have w3 : IntKind.wrap .i64 (m + 1) = m + 1 := w64 (by omega) (by omega)
        simp only [addr_add, load_eq, Nat.zero_add, Nat.add_zero, Nat.mul_one, Nat.one_mul, Nat.zero_mul, Nat.reduceAdd, List.getElem?_toArray, List.getElem?_cons_zero, List.getElem?_cons_succ, some_and, int_eq, bool_eq, str_eq, slc_eq, ptr_eq, nn_eq, M.val, cond_true, cond_false, Bool.not_true, Bool.not_false, w3]
        exact hJ _ _ ⟨by omega, by omega, u199.keep (k29.trans (kk59.trans k151)) n18', f199⟩ (by omega)
  · simp only [hlt, decide_false, cond_false]
    have e : m = S := by omega
    subst e
    have f29' : h29 b18 = some (lay (K + 1) m 0 false 24) := by simpa [gD, gM, gG] using f29
    exact hJ24 _ _ ⟨k29, f29'⟩
end Go.Proofs.YtgkebmhkmedadaaDoor

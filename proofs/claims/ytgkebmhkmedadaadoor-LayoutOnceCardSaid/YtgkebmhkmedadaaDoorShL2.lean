/- The layout's numbers, 2: seats, chunks, and the document's searches. -/
import Derived.Test.YtgkebmhkmedadaaDoorShL1
namespace Go.Proofs.YtgkebmhkmedadaaDoor
open Go.Sh Go.RowKit
set_option linter.unusedSimpArgs false
set_option linter.unusedVariables false

theorem WideZ_le (d s m : Int) (g : Bool) (t : Int) : 0 ≤ WideZ d s m g t ∧ WideZ d s m g t ≤ 9 := by
  unfold WideZ
  split
  · rename_i h
    have := GoodB_iff.1 h.1
    split <;> omega
  · omega
def SeatZ (d s m : Int) (g : Bool) (t c : Int) : Int × Int :=
  if GoodB d s m g = true then
    if WideZ d s m g t ≠ 0 ∧ 0 ≤ c ∧ c < WideZ d s m g t + 2 then ((c + t) % (WideZ d s m g t + 2), 0) else (0, 2)
  else (0, 4)
theorem WideZ_on {d s m : Int} {g : Bool} {t : Int} (h : WideZ d s m g t ≠ 0) : GoodB d s m g = true ∧ 0 ≤ t ∧ t < s := by
  unfold WideZ at h
  split at h
  · assumption
  · exact absurd rfl h
theorem seat_tail {d s m : Int} {g : Bool} {t c : Int} {h : H} {Q : Int → Int → H → Prop} (hg : GoodB d s m g = true) (kk : Q (SeatZ d s m g t c).1 (SeatZ d s m g t c).2 h) :
    M.join (α := Bool) (fun d27 h28 =>
      (bif d27 then Q (0 : Int) (2 : Int) h28
      else M.val (IntKind.wrap .i64 (c + t)) fun z29 => M.val (IntKind.wrap .i64 (WideZ d s m g t + (2 : Int))) fun z30 => M.nz z30 (M.val (Int.tmod z29 z30) fun z31 => Q z31 (0 : Int) h28))) (fun J25 =>
    (bif (WideZ d s m g t == (0 : Int)) then J25 true h
    else (bif (decide (c < (0 : Int))) then J25 true h
      else M.val (IntKind.wrap .i64 (WideZ d s m g t + (2 : Int))) fun z26 => J25 (decide (c ≥ z26)) h))) := by
  have hw := WideZ_le d s m g t
  unfold SeatZ at kk
  rw [if_pos hg] at kk
  by_cases h0 : WideZ d s m g t = 0
  · simp only [addr_add, load_eq, Nat.zero_add, Nat.add_zero, Nat.mul_one, Nat.one_mul, Nat.zero_mul, Nat.reduceAdd, List.getElem?_toArray, List.getElem?_cons_zero, List.getElem?_cons_succ, some_and, int_eq, bool_eq, str_eq, slc_eq, ptr_eq, nn_eq, M.val, cond_true, cond_false, Bool.not_true, Bool.not_false, M.join, h0, beq_self_eq_true]
    simpa only [h0, ne_eq, not_true, false_and, if_false] using kk
  · have e0 : (WideZ d s m g t == 0) = false := by simpa using h0
    have w1 : IntKind.wrap .i64 (WideZ d s m g t + 2) = WideZ d s m g t + 2 := w64 (by omega) (by omega)
    simp only [addr_add, load_eq, Nat.zero_add, Nat.add_zero, Nat.mul_one, Nat.one_mul, Nat.zero_mul, Nat.reduceAdd, List.getElem?_toArray, List.getElem?_cons_zero, List.getElem?_cons_succ, some_and, int_eq, bool_eq, str_eq, slc_eq, ptr_eq, nn_eq, M.val, cond_true, cond_false, Bool.not_true, Bool.not_false, M.join, e0, w1]
    by_cases h1 : c < 0
    · simp only [h1, decide_true, cond_true]
      simpa only [show ¬ (0 ≤ c) by omega, false_and, and_false, if_false] using kk
    · simp only [h1, decide_false, cond_false]
      by_cases h2 : c ≥ WideZ d s m g t + 2
      · simp only [h2, decide_true, cond_true]
        simpa only [show ¬ (c < WideZ d s m g t + 2) by omega, and_false, if_false] using kk
      · obtain ⟨_, ht0, ht1⟩ := WideZ_on h0
        have hg' := GoodB_iff.1 hg
        have w2 : IntKind.wrap .i64 (c + t) = c + t := w64 (by omega) (by omega)
        have e2 : Int.tmod (c + t) (WideZ d s m g t + 2) = (c + t) % (WideZ d s m g t + 2) := Int.tmod_eq_emod_of_nonneg (by omega)
        simp only [h2, decide_false, cond_false, w2, nz_eq (WideZ d s m g t + 2) _ (by omega : WideZ d s m g t + 2 ≠ 0), e2]
        rw [if_pos ⟨h0, by omega, by omega⟩] at kk
        exact kk
theorem Seat_spec {d s m : Int} {g : Bool} {t c : Int} {h : H} {Q : Int → Int → H → Prop} (hs : Sizes h) (k : ∀ h', Keep h h' → Q (SeatZ d s m g t c).1 (SeatZ d s m g t c).2 h') : layout_Layout_Seat d s m g t c h Q := by
  intro b hb
  have hl : h.upd b (lay d s m g 24) b = some (lay d s m g 24) := H.upd_self _ _ _
  have k5 := (Keep.refl h).new hb (lay d s m g 24)
  simp only [addr_add, load_eq, Nat.zero_add, Nat.add_zero, Nat.mul_one, Nat.one_mul, Nat.zero_mul, Nat.reduceAdd, List.getElem?_toArray, List.getElem?_cons_zero, List.getElem?_cons_succ, some_and, int_eq, bool_eq, str_eq, slc_eq, ptr_eq, nn_eq, M.val, cond_true, cond_false, Bool.not_true, Bool.not_false, lay0 hl, lay1 hl, lay2 hl, lay3 hl]
  refine Good_spec (hs.keep k5) fun h' k' => ?_
  have hl' := k' _ _ hl
  by_cases hg : GoodB d s m g = true
  · simp only [addr_add, load_eq, Nat.zero_add, Nat.add_zero, Nat.mul_one, Nat.one_mul, Nat.zero_mul, Nat.reduceAdd, List.getElem?_toArray, List.getElem?_cons_zero, List.getElem?_cons_succ, some_and, int_eq, bool_eq, str_eq, slc_eq, ptr_eq, nn_eq, M.val, cond_true, cond_false, Bool.not_true, Bool.not_false, hg, lay0 hl', lay1 hl', lay2 hl', lay3 hl']
    exact Wide_spec ((hs.keep k5).keep k') fun h2 k2 => seat_tail hg (k _ ((k5.trans k').trans k2))
  · have kk := k _ (k5.trans k')
    simp only [Bool.not_eq_true] at hg
    unfold SeatZ at kk
    simp only [addr_add, load_eq, Nat.zero_add, Nat.add_zero, Nat.mul_one, Nat.one_mul, Nat.zero_mul, Nat.reduceAdd, List.getElem?_toArray, List.getElem?_cons_zero, List.getElem?_cons_succ, some_and, int_eq, bool_eq, str_eq, slc_eq, ptr_eq, nn_eq, M.val, cond_true, cond_false, Bool.not_true, Bool.not_false, M.join, hg, Bool.false_eq_true, if_false] at kk ⊢
    exact kk
theorem rSeat {d s m : Int} {g : Bool} {t c : Int} {h : H} {Q : Int → Int → H → Prop} (k : ∀ h', Keep h h' → Q (SeatZ d s m g t c).1 (SeatZ d s m g t c).2 h') : ref18_Seat d s m g t c h Q := by
  intro b hb
  have hl : h.upd b (lay d s m g 25) b = some (lay d s m g 25) := H.upd_self _ _ _
  have k5 := (Keep.refl h).new hb (lay d s m g 25)
  simp only [addr_add, load_eq, Nat.zero_add, Nat.add_zero, Nat.mul_one, Nat.one_mul, Nat.zero_mul, Nat.reduceAdd, List.getElem?_toArray, List.getElem?_cons_zero, List.getElem?_cons_succ, some_and, int_eq, bool_eq, str_eq, slc_eq, ptr_eq, nn_eq, M.val, cond_true, cond_false, Bool.not_true, Bool.not_false, lay0 hl, lay1 hl, lay2 hl, lay3 hl]
  refine rGood fun h' k' => ?_
  have hl' := k' _ _ hl
  by_cases hg : GoodB d s m g = true
  · simp only [addr_add, load_eq, Nat.zero_add, Nat.add_zero, Nat.mul_one, Nat.one_mul, Nat.zero_mul, Nat.reduceAdd, List.getElem?_toArray, List.getElem?_cons_zero, List.getElem?_cons_succ, some_and, int_eq, bool_eq, str_eq, slc_eq, ptr_eq, nn_eq, M.val, cond_true, cond_false, Bool.not_true, Bool.not_false, hg, lay0 hl', lay1 hl', lay2 hl', lay3 hl']
    exact rWide fun h2 k2 => seat_tail hg (k _ ((k5.trans k').trans k2))
  · have kk := k _ (k5.trans k')
    simp only [Bool.not_eq_true] at hg
    unfold SeatZ at kk
    simp only [addr_add, load_eq, Nat.zero_add, Nat.add_zero, Nat.mul_one, Nat.one_mul, Nat.zero_mul, Nat.reduceAdd, List.getElem?_toArray, List.getElem?_cons_zero, List.getElem?_cons_succ, some_and, int_eq, bool_eq, str_eq, slc_eq, ptr_eq, nn_eq, M.val, cond_true, cond_false, Bool.not_true, Bool.not_false, M.join, hg, Bool.false_eq_true, if_false] at kk ⊢
    exact kk
def ChunkZ (d s m : Int) (g : Bool) (t e : Int) : Int × Bool :=
  if WideZ d s m g t ≠ 0 ∧ 0 ≤ e ∧ e < WideZ d s m g t + 2 then ((e + (WideZ d s m g t + 2) - t % (WideZ d s m g t + 2)) % (WideZ d s m g t + 2), true) else (0, false)
theorem Chunk_spec {d s m : Int} {g : Bool} {t e : Int} {h : H} {Q : Int → Bool → H → Prop} (hs : Sizes h) (k : ∀ h', Keep h h' → Q (ChunkZ d s m g t e).1 (ChunkZ d s m g t e).2 h') : layout_Layout_Chunk d s m g t e h Q := by
  intro b hb
  have hl : h.upd b (lay d s m g 24) b = some (lay d s m g 24) := H.upd_self _ _ _
  have k5 := (Keep.refl h).new hb (lay d s m g 24)
  simp only [addr_add, load_eq, Nat.zero_add, Nat.add_zero, Nat.mul_one, Nat.one_mul, Nat.zero_mul, Nat.reduceAdd, List.getElem?_toArray, List.getElem?_cons_zero, List.getElem?_cons_succ, some_and, int_eq, bool_eq, str_eq, slc_eq, ptr_eq, nn_eq, M.val, cond_true, cond_false, Bool.not_true, Bool.not_false, lay0 hl, lay1 hl, lay2 hl, lay3 hl]
  refine Wide_spec (hs.keep k5) fun h' k' => ?_
  have kk := k _ (k5.trans k')
  have hw := WideZ_le d s m g t
  unfold ChunkZ at kk
  by_cases h0 : WideZ d s m g t = 0
  · simp only [addr_add, load_eq, Nat.zero_add, Nat.add_zero, Nat.mul_one, Nat.one_mul, Nat.zero_mul, Nat.reduceAdd, List.getElem?_toArray, List.getElem?_cons_zero, List.getElem?_cons_succ, some_and, int_eq, bool_eq, str_eq, slc_eq, ptr_eq, nn_eq, M.val, cond_true, cond_false, Bool.not_true, Bool.not_false, M.join, h0, beq_self_eq_true]
    simpa only [h0, ne_eq, not_true, false_and, if_false] using kk
  · have e0 : (WideZ d s m g t == 0) = false := by simpa using h0
    have w1 : IntKind.wrap .i64 (WideZ d s m g t + 2) = WideZ d s m g t + 2 := w64 (by omega) (by omega)
    simp only [addr_add, load_eq, Nat.zero_add, Nat.add_zero, Nat.mul_one, Nat.one_mul, Nat.zero_mul, Nat.reduceAdd, List.getElem?_toArray, List.getElem?_cons_zero, List.getElem?_cons_succ, some_and, int_eq, bool_eq, str_eq, slc_eq, ptr_eq, nn_eq, M.val, cond_true, cond_false, Bool.not_true, Bool.not_false, M.join, e0, w1]
    by_cases h1 : e < 0
    · simp only [h1, decide_true, cond_true]
      simpa only [show ¬ (0 ≤ e) by omega, false_and, and_false, if_false] using kk
    · simp only [h1, decide_false, cond_false]
      by_cases h2 : e ≥ WideZ d s m g t + 2
      · simp only [h2, decide_true, cond_true]
        simpa only [show ¬ (e < WideZ d s m g t + 2) by omega, and_false, if_false] using kk
      · obtain ⟨_, ht0, ht1⟩ := WideZ_on h0
        have e2 : Int.tmod t (WideZ d s m g t + 2) = t % (WideZ d s m g t + 2) := Int.tmod_eq_emod_of_nonneg ht0
        have r0 := Int.emod_nonneg t (show WideZ d s m g t + 2 ≠ 0 by omega)
        have r1 := Int.emod_lt_of_pos t (show 0 < WideZ d s m g t + 2 by omega)
        have w2 : IntKind.wrap .i64 (e + (WideZ d s m g t + 2)) = e + (WideZ d s m g t + 2) := w64 (by omega) (by omega)
        have w3 : IntKind.wrap .i64 (e + (WideZ d s m g t + 2) - t % (WideZ d s m g t + 2)) = e + (WideZ d s m g t + 2) - t % (WideZ d s m g t + 2) := w64 (by omega) (by omega)
        have e3 : Int.tmod (e + (WideZ d s m g t + 2) - t % (WideZ d s m g t + 2)) (WideZ d s m g t + 2) = (e + (WideZ d s m g t + 2) - t % (WideZ d s m g t + 2)) % (WideZ d s m g t + 2) := Int.tmod_eq_emod_of_nonneg (by omega)
        have n1 : ∀ K, M.nz (WideZ d s m g t + 2) K = K := fun K => nz_eq _ K (by omega)
        simp only [h2, decide_false, cond_false, w2, n1, e2, w3, e3]
        rw [if_pos ⟨h0, by omega, by omega⟩] at kk
        exact kk
/-- Where the chunk lies that lies on a seat. -/
theorem round {n t e : Int} (hn : 0 < n) (h0 : 0 ≤ e) (h1 : e < n) : ((e + n - t % n) % n + t) % n = e := by
  rw [Int.emod_add_emod]
  have h2 := Int.mul_ediv_add_emod t n
  have h3 : e + n - t % n + t = e + n * (1 + t / n) := by rw [Int.mul_add, Int.mul_one]; omega
  rw [h3, Int.add_mul_emod_self_left, Int.emod_eq_of_lt h0 h1]
theorem round_one {n t c c' : Int} (h0 : 0 ≤ c) (h1 : c < n) (h2 : 0 ≤ c') (h3 : c' < n) (he : (c + t) % n = (c' + t) % n) : c = c' := by
  have h4 : (c - c') % n = 0 := by
    have : ((c + t) - (c' + t)) % n = 0 := Int.emod_eq_emod_iff_emod_sub_eq_zero.1 he
    rwa [show c + t - (c' + t) = c - c' by omega] at this
  have h5 : n ∣ (c - c') := Int.dvd_of_emod_eq_zero h4
  obtain ⟨q, hq⟩ := h5
  have : q = 0 := by
    rcases Int.lt_trichotomy q 0 with h | h | h
    · have : n * q ≤ n * (-1) := Int.mul_le_mul_of_nonneg_left (by omega) (by omega)
      omega
    · exact h
    · have : n * 1 ≤ n * q := Int.mul_le_mul_of_nonneg_left (by omega) (by omega)
      omega
  subst this
  omega
theorem rChunk {d s m : Int} {g : Bool} {t e : Int} {h : H} {Q : Int → Bool → H → Prop} (k : ∀ h', Keep h h' → Q (ChunkZ d s m g t e).1 (ChunkZ d s m g t e).2 h') : ref18_Chunk d s m g t e h Q := by
  intro b hb
  have hl : h.upd b (lay d s m g 25) b = some (lay d s m g 25) := H.upd_self _ _ _
  have k5 := (Keep.refl h).new hb (lay d s m g 25)
  simp only [addr_add, load_eq, Nat.zero_add, Nat.add_zero, Nat.mul_one, Nat.one_mul, Nat.zero_mul, Nat.reduceAdd, List.getElem?_toArray, List.getElem?_cons_zero, List.getElem?_cons_succ, some_and, int_eq, bool_eq, str_eq, slc_eq, ptr_eq, nn_eq, M.val, cond_true, cond_false, Bool.not_true, Bool.not_false, lay0 hl, lay1 hl, lay2 hl, lay3 hl]
  refine rWide fun h' k' => ?_
  have hw := WideZ_le d s m g t
  refine M.loop_of (I := fun c h2 => Keep h' h2 ∧ 0 ≤ c ∧ (WideZ d s m g t ≠ 0 → c ≤ WideZ d s m g t + 2) ∧ ∀ c', 0 ≤ c' → c' < c → (c' + t) % (WideZ d s m g t + 2) ≠ e) (μ := fun c => (WideZ d s m g t + 2 - c).toNat) ⟨Keep.refl _, by omega, fun _ => by omega, fun c' h0 h1 => by omega⟩ ?_
  intro c h2 J hI hJ
  obtain ⟨k2, hc0, hc1, hno⟩ := hI
  have hl2 := k2 _ _ (k' _ _ hl)
  have kk := k _ ((k5.trans k').trans k2)
  unfold ChunkZ at kk
  by_cases h0 : WideZ d s m g t = 0
  · simp only [addr_add, load_eq, Nat.zero_add, Nat.add_zero, Nat.mul_one, Nat.one_mul, Nat.zero_mul, Nat.reduceAdd, List.getElem?_toArray, List.getElem?_cons_zero, List.getElem?_cons_succ, some_and, int_eq, bool_eq, str_eq, slc_eq, ptr_eq, nn_eq, M.val, cond_true, cond_false, Bool.not_true, Bool.not_false, M.join, h0, Int.lt_irrefl, gt_iff_lt, decide_false]
    simpa only [h0, ne_eq, not_true, false_and, if_false] using kk
  · have hgood := (WideZ_on h0).1
    have w1 : IntKind.wrap .i64 (WideZ d s m g t + 2) = WideZ d s m g t + 2 := w64 (by omega) (by omega)
    have hpos : WideZ d s m g t > 0 := by omega
    simp only [addr_add, load_eq, Nat.zero_add, Nat.add_zero, Nat.mul_one, Nat.one_mul, Nat.zero_mul, Nat.reduceAdd, List.getElem?_toArray, List.getElem?_cons_zero, List.getElem?_cons_succ, some_and, int_eq, bool_eq, str_eq, slc_eq, ptr_eq, nn_eq, M.val, cond_true, cond_false, Bool.not_true, Bool.not_false, M.join, hpos, decide_true, w1]
    by_cases hlt : c < WideZ d s m g t + 2
    · simp only [addr_add, load_eq, Nat.zero_add, Nat.add_zero, Nat.mul_one, Nat.one_mul, Nat.zero_mul, Nat.reduceAdd, List.getElem?_toArray, List.getElem?_cons_zero, List.getElem?_cons_succ, some_and, int_eq, bool_eq, str_eq, slc_eq, ptr_eq, nn_eq, M.val, cond_true, cond_false, Bool.not_true, Bool.not_false, hlt, decide_true, lay0 hl2, lay1 hl2, lay2 hl2, lay3 hl2]
      refine rSeat fun h3 k3 => ?_
      have e1 : (SeatZ d s m g t c).1 = (c + t) % (WideZ d s m g t + 2) := by
        unfold SeatZ
        rw [if_pos hgood, if_pos ⟨h0, hc0, hlt⟩]
      rw [e1]
      by_cases he : (c + t) % (WideZ d s m g t + 2) = e
      · have kk := k _ (((k5.trans k').trans k2).trans k3)
        unfold ChunkZ at kk
        have r0 : 0 ≤ e ∧ e < WideZ d s m g t + 2 := by
          rw [← he]
          exact ⟨Int.emod_nonneg _ (by omega), Int.emod_lt_of_pos _ (by omega)⟩
        rw [if_pos ⟨h0, r0⟩] at kk
        have : (e + (WideZ d s m g t + 2) - t % (WideZ d s m g t + 2)) % (WideZ d s m g t + 2) = c :=
          round_one (Int.emod_nonneg _ (by omega)) (Int.emod_lt_of_pos _ (by omega)) hc0 hlt ((round (by omega) r0.1 r0.2).trans he.symm)
        rw [this] at kk
        simp only [he, beq_self_eq_true, cond_true]
        exact kk
      · have : ((c + t) % (WideZ d s m g t + 2) == e) = false := by simpa using he
        have w2 : IntKind.wrap .i64 (c + 1) = c + 1 := w64 (by omega) (by omega)
        simp only [this, cond_false, w2]
        refine hJ _ _ ⟨k2.trans k3, by omega, fun _ => by omega, fun c' h4 h5 => ?_⟩ (by omega)
        by_cases h6 : c' = c
        · subst h6; exact he
        · exact hno c' h4 (by omega)
    · simp only [addr_add, load_eq, Nat.zero_add, Nat.add_zero, Nat.mul_one, Nat.one_mul, Nat.zero_mul, Nat.reduceAdd, List.getElem?_toArray, List.getElem?_cons_zero, List.getElem?_cons_succ, some_and, int_eq, bool_eq, str_eq, slc_eq, ptr_eq, nn_eq, M.val, cond_true, cond_false, Bool.not_true, Bool.not_false, hlt, decide_false]
      have hno2 : ¬ (WideZ d s m g t ≠ 0 ∧ 0 ≤ e ∧ e < WideZ d s m g t + 2) := fun hh => by
        refine hno _ (Int.emod_nonneg _ (by omega)) ?_ (round (n := WideZ d s m g t + 2) (t := t) (by omega) hh.2.1 hh.2.2)
        have := Int.emod_lt_of_pos (e + (WideZ d s m g t + 2) - t % (WideZ d s m g t + 2)) (show 0 < WideZ d s m g t + 2 by omega)
        omega
      rw [if_neg hno2] at kk
      exact kk

theorem div_eq {n t i : Int} (h0 : 0 ≤ i) (h1 : i < n) : (t * n + i) / n = t := by
  rw [Int.add_comm, Int.add_mul_ediv_right _ _ (by omega), Int.ediv_eq_zero_of_lt h0 h1]; omega
theorem mod_eq {n t i : Int} (h0 : 0 ≤ i) (h1 : i < n) : (t * n + i) % n = i := by
  rw [Int.add_comm, Int.add_mul_emod_self_right, Int.emod_eq_of_lt h0 h1]
theorem div_mod (n x : Int) : x / n * n + x % n = x := by
  have := Int.mul_ediv_add_emod x n
  rw [Int.mul_comm] at this; exact this
/-- What the document's search finds: the one place that is laid for a block. -/
theorem find_is {d s m : Int} {g : Bool} {x t i : Int} (hg : GoodB d s m g = true) (hx0 : 0 ≤ x) (hx1 : x < s * d) (ht0 : 0 ≤ t) (ht1 : t < s) (hi0 : 0 ≤ i) (hi1 : i < WideZ d s m g t)
    (hl : (t < m) ↔ x < m * (d + 1)) (he : t * WideZ d s m g t + i = x) : FindZ d s m g x = (t, i, 0) := by
  unfold FindZ
  rw [if_pos hg, if_pos ⟨hx0, hx1⟩]
  unfold WideZ at hi1 he
  rw [if_pos ⟨hg, ht0, ht1⟩] at hi1 he
  by_cases h : t < m
  · rw [if_pos h] at hi1 he
    rw [if_pos (hl.1 h), ← he, div_eq hi0 hi1, mod_eq hi0 hi1]
  · rw [if_neg h] at hi1 he
    rw [if_neg (fun hh => h (hl.2 hh)), ← he, div_eq hi0 hi1, mod_eq hi0 hi1]
/-- And there is one. -/
theorem find_ex {d s m : Int} {g : Bool} {x : Int} (hg : GoodB d s m g = true) (hx0 : 0 ≤ x) (hx1 : x < s * d) :
    ∃ t i, 0 ≤ t ∧ t < s ∧ 0 ≤ i ∧ i < WideZ d s m g t ∧ ((t < m) ↔ x < m * (d + 1)) ∧ t * WideZ d s m g t + i = x := by
  have hg' := GoodB_iff.1 hg
  by_cases h : x < m * (d + 1)
  · have h1 := Int.emod_nonneg x (show d + 1 ≠ 0 by omega)
    have h2 := Int.emod_lt_of_pos x (show 0 < d + 1 by omega)
    have h3 := Int.ediv_nonneg hx0 (show 0 ≤ d + 1 by omega)
    have h4 : x / (d + 1) < m := Int.ediv_lt_of_lt_mul (by omega) h
    refine ⟨x / (d + 1), x % (d + 1), h3, by omega, h1, ?_, by constructor <;> intro _ <;> assumption, ?_⟩
    · unfold WideZ; rw [if_pos ⟨hg, h3, by omega⟩, if_pos h4]; exact h2
    · unfold WideZ; rw [if_pos ⟨hg, h3, by omega⟩, if_pos h4]; exact div_mod _ _
  · have h1 := Int.emod_nonneg x (show d ≠ 0 by omega)
    have h2 := Int.emod_lt_of_pos x (show 0 < d by omega)
    have h3 := Int.ediv_nonneg hx0 (show 0 ≤ d by omega)
    have h4 : x / d < s := Int.ediv_lt_of_lt_mul (by omega) hx1
    have h5 : ¬ x / d < m := by
      have h6 : m * d ≤ m * (d + 1) := Int.mul_le_mul_of_nonneg_left (by omega) (by omega)
      have := (Int.le_ediv_iff_mul_le (show 0 < d by omega)).2 (show m * d ≤ x by omega)
      omega
    refine ⟨x / d, x % d, h3, h4, h1, ?_, ⟨fun hh => absurd hh h5, fun hh => absurd hh h⟩, ?_⟩
    · unfold WideZ; rw [if_pos ⟨hg, h3, h4⟩, if_neg h5]; exact h2
    · unfold WideZ; rw [if_pos ⟨hg, h3, h4⟩, if_neg h5]; exact div_mod _ _
theorem rFind {d s m : Int} {g : Bool} {x : Int} {h : H} {Q : Int → Int → Int → H → Prop} (k : ∀ h', Keep h h' → Q (FindZ d s m g x).1 (FindZ d s m g x).2.1 (FindZ d s m g x).2.2 h') : ref18_Find d s m g x h Q := by
  intro b hb
  have hl : h.upd b (lay d s m g 25) b = some (lay d s m g 25) := H.upd_self _ _ _
  have k5 := (Keep.refl h).new hb (lay d s m g 25)
  simp only [addr_add, load_eq, Nat.zero_add, Nat.add_zero, Nat.mul_one, Nat.one_mul, Nat.zero_mul, Nat.reduceAdd, List.getElem?_toArray, List.getElem?_cons_zero, List.getElem?_cons_succ, some_and, int_eq, bool_eq, str_eq, slc_eq, ptr_eq, nn_eq, M.val, cond_true, cond_false, Bool.not_true, Bool.not_false, lay0 hl, lay1 hl, lay2 hl, lay3 hl]
  refine rGood fun h' k' => ?_
  have hl' := k' _ _ hl
  have kk := k _ (k5.trans k')
  by_cases hg : GoodB d s m g = true
  · have hg' := GoodB_iff.1 hg
    have hp := prod_le hg'.1 (show 0 ≤ d by omega) (by omega)
    have hp2 := prod_le hg'.1 (show 0 ≤ d + 1 by omega) (by omega)
    have hm : 0 ≤ m * (d + 1) ∧ m * (d + 1) ≤ s * (d + 1) := ⟨Int.mul_nonneg (by omega) (by omega), Int.mul_le_mul_of_nonneg_right (by omega) (by omega)⟩
    have w1 : IntKind.wrap .i64 (d + 1) = d + 1 := w64 (by omega) (by omega)
    have w2 : IntKind.wrap .i64 (m * (d + 1)) = m * (d + 1) := w64 (by omega) (by omega)
    have w3 : IntKind.wrap .i64 (s * d) = s * d := w64 (by omega) (by omega)
    simp only [addr_add, load_eq, Nat.zero_add, Nat.add_zero, Nat.mul_one, Nat.one_mul, Nat.zero_mul, Nat.reduceAdd, List.getElem?_toArray, List.getElem?_cons_zero, List.getElem?_cons_succ, some_and, int_eq, bool_eq, str_eq, slc_eq, ptr_eq, nn_eq, M.val, cond_true, cond_false, Bool.not_true, Bool.not_false, M.join, hg, lay0 hl', lay1 hl', w3]
    by_cases h0 : x < 0
    · unfold FindZ at kk
      rw [if_pos hg, if_neg (by omega)] at kk
      simp only [h0, decide_true, cond_true]
      exact kk
    simp only [h0, decide_false, cond_false]
    by_cases h1 : x ≥ s * d
    · unfold FindZ at kk
      rw [if_pos hg, if_neg (by omega)] at kk
      simp only [h1, decide_true, cond_true]
      exact kk
    simp only [h1, decide_false, cond_false]
    obtain ⟨T, I, hT0, hT1, hI0, hI1, hTm, hTI⟩ := find_ex (x := x) hg (by omega) (by omega)
    have hF := find_is hg (by omega) (by omega) hT0 hT1 hI0 hI1 hTm hTI
    rw [hF] at k
    refine M.loop_of (I := fun t h2 => Keep h' h2 ∧ 0 ≤ t ∧ t ≤ T) (μ := fun t => (T - t).toNat) ⟨Keep.refl _, by omega, hT0⟩ ?_
    intro t h2 J hI hJ
    obtain ⟨k2, ht0, ht1⟩ := hI
    have hl2 := k2 _ _ hl'
    simp only [addr_add, load_eq, Nat.zero_add, Nat.add_zero, Nat.mul_one, Nat.one_mul, Nat.zero_mul, Nat.reduceAdd, List.getElem?_toArray, List.getElem?_cons_zero, List.getElem?_cons_succ, some_and, int_eq, bool_eq, str_eq, slc_eq, ptr_eq, nn_eq, M.val, cond_true, cond_false, Bool.not_true, Bool.not_false, lay0 hl2, lay1 hl2, lay2 hl2, lay3 hl2, show t < s from by omega, decide_true]
    refine rWide fun h3 k3 => ?_
    have hl3 := k3 _ _ hl2
    have hw := WideZ_le d s m g t
    simp only [addr_add, load_eq, Nat.zero_add, Nat.add_zero, Nat.mul_one, Nat.one_mul, Nat.zero_mul, Nat.reduceAdd, List.getElem?_toArray, List.getElem?_cons_zero, List.getElem?_cons_succ, some_and, int_eq, bool_eq, str_eq, slc_eq, ptr_eq, nn_eq, M.val, cond_true, cond_false, Bool.not_true, Bool.not_false, lay3 hl3, lay2 hl3, lay0 hl3, w1, w2]
    suffices main : ∀ B : Bool, B = decide (t < m) → M.loop (α := Int) (fun J54 d55 h56 =>
        bif decide (d55 < WideZ d s m g t) then
          bif B == decide (x < m * (d + 1)) then
            bif IntKind.i64.wrap (IntKind.i64.wrap (t * WideZ d s m g t) + d55) == x then Q t d55 0 h56
            else J54 (IntKind.i64.wrap (d55 + 1)) h56
          else J54 (IntKind.i64.wrap (d55 + 1)) h56
        else J (IntKind.i64.wrap (t + 1)) h56) 0 h3 by
      cases g with
      | true => exact main _ rfl
      | false =>
        have : m = 0 := by
          have := hg'.2.2.2.2.2.2
          simpa using this
        exact main false (by simp; omega)
    intro B hB
    subst hB
    refine M.loop_of (I := fun i h4 => Keep h' h4 ∧ 0 ≤ i ∧ i ≤ WideZ d s m g t ∧ (t = T → i ≤ I)) (μ := fun i => (WideZ d s m g t - i).toNat) ⟨k2.trans k3, by omega, by omega, fun _ => hI0⟩ ?_
    intro i h4 J2 hI2 hJ2
    obtain ⟨k4, hi0, hi1, hi2⟩ := hI2
    by_cases hlt : i < WideZ d s m g t
    · have hprod : 0 ≤ t * WideZ d s m g t ∧ t * WideZ d s m g t ≤ 16 * 9 := ⟨Int.mul_nonneg ht0 (by omega), Int.mul_le_mul (by omega) (by omega) (by omega) (by omega)⟩
      have w4 : IntKind.wrap .i64 (t * WideZ d s m g t) = t * WideZ d s m g t := w64 (by omega) (by omega)
      have w5 : IntKind.wrap .i64 (t * WideZ d s m g t + i) = t * WideZ d s m g t + i := w64 (by omega) (by omega)
      have w6 : IntKind.wrap .i64 (i + 1) = i + 1 := w64 (by omega) (by omega)
      simp only [hlt, decide_true, cond_true, w4, w5, w6]
      by_cases hmet : (decide (t < m) = decide (x < m * (d + 1))) ∧ t * WideZ d s m g t + i = x
      · have hF2 := find_is (t := t) (i := i) hg (by omega) (by omega) ht0 (by omega) hi0 hlt (by simpa using hmet.1) hmet.2
        rw [hF] at hF2
        simp only [Prod.mk.injEq, and_true] at hF2
        obtain ⟨e1, e2⟩ := hF2
        simp only [hmet.1, beq_self_eq_true, cond_true, hmet.2]
        rw [← e1, ← e2]
        exact k _ ((k5.trans k').trans k4)
      · have hne : ∀ R : Bool → Prop, R false → (bif (decide (t < m) == decide (x < m * (d + 1))) then R (t * WideZ d s m g t + i == x) else R false) := by
          intro R hR
          by_cases e : decide (t < m) = decide (x < m * (d + 1))
          · have : (t * WideZ d s m g t + i == x) = false := by simpa using fun hh => hmet ⟨e, hh⟩
            simp only [e, beq_self_eq_true, cond_true, this]; exact hR
          · have : (decide (t < m) == decide (x < m * (d + 1))) = false := by simpa using e
            simp only [this, cond_false]; exact hR
        refine hne (fun bb => bif bb then Q t i 0 h4 else J2 (i + 1) h4) ?_
        simp only [cond_false]
        refine hJ2 _ _ ⟨k4, by omega, by omega, fun e => ?_⟩ (by omega)
        have := hi2 e
        by_cases h8 : i = I
        · subst h8; subst e
          exact (hmet ⟨by simpa using hTm, hTI⟩).elim
        · omega
    · have hne : t ≠ T := fun e => by have := hi2 e; subst e; omega
      have w7 : IntKind.wrap .i64 (t + 1) = t + 1 := w64 (by omega) (by omega)
      simp only [hlt, decide_false, cond_false, w7]
      exact hJ _ _ ⟨k4, by omega, by omega⟩ (by omega)
  · simp only [Bool.not_eq_true] at hg
    unfold FindZ at kk
    simp only [addr_add, load_eq, Nat.zero_add, Nat.add_zero, Nat.mul_one, Nat.one_mul, Nat.zero_mul, Nat.reduceAdd, List.getElem?_toArray, List.getElem?_cons_zero, List.getElem?_cons_succ, some_and, int_eq, bool_eq, str_eq, slc_eq, ptr_eq, nn_eq, M.val, cond_true, cond_false, Bool.not_true, Bool.not_false, M.join, hg, Bool.false_eq_true, if_false] at kk ⊢
    exact kk
end Go.Proofs.YtgkebmhkmedadaaDoor

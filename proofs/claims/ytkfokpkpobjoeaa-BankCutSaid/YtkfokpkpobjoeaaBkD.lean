/- The bank's statements, walked: BankApart, BankSteps. -/
import Derived.Test.YtkfokpkpobjoeaaBkC
namespace Go.Proofs.Ytkfokpkpobjoeaa
open Go.Sh Go.RowKit
set_option linter.unusedSimpArgs false
set_option linter.unusedVariables false
section
variable {h0 h : H} {b : Nat} {B : BankM} {i at_ : Int} {s : ByteArray}
theorem other_set {j : Int} {B1 : BankM} {D' : DiskM} (h1 : B1.ds = B.ds) (hi : 0 ≤ i) (hj : 0 ≤ j) (hij : i ≠ j) : (B1.set i D').disk j = B.disk j := by
  simp only [BankM.disk, BankM.set, h1, List.getD_eq_getElem?_getD]
  rw [List.getElem?_set_ne (by omega)]
theorem other_write {j : Int} (hj : 0 ≤ j) (hij : i ≠ j) : (B.write i at_ s).2.disk j = B.disk j := by
  unfold BankM.write
  split
  · rfl
  · rename_i hb
    split
    · rfl
    · exact other_set B.spend_ds (BankM.not_bad.1 hb).1 hj hij
theorem other_flush {j : Int} (hj : 0 ≤ j) (hij : i ≠ j) : (B.flush i).2.disk j = B.disk j := by
  unfold BankM.flush
  split
  · rfl
  · rename_i hb
    split
    · rfl
    · exact other_set B.spend_ds (BankM.not_bad.1 hb).1 hj hij
theorem write_pow (hf : B.fails = false) : (B.write i at_ s).2.fails = false ∧ (B.write i at_ s).2.left = B.left ∧ (B.write i at_ s).2.steps = if B.bad i then B.steps else B.steps + 1 := by
  have hp : ¬ B.noPower := fun e => by simp [BankM.noPower, hf] at e
  unfold BankM.write
  by_cases hb : B.bad i
  · simp [hb, hf]
  · simp [hb, hp, spend_p hp, BankM.set, hf]
theorem flush_pow (hf : B.fails = false) : (B.flush i).2.fails = false ∧ (B.flush i).2.left = B.left ∧ (B.flush i).2.steps = if B.bad i then B.steps else B.steps + 1 := by
  have hp : ¬ B.noPower := fun e => by simp [BankM.noPower, hf] at e
  unfold BankM.flush
  by_cases hb : B.bad i
  · simp [hb, hf]
  · simp [hb, hp, spend_p hp, BankM.set, hf]
theorem waits_any {n c w : Nat} (f : B.Fine n c w) (hw : w < 1000000000) (j : Int) : (B.disk j).W.length < 1000000000 := by
  by_cases hb : B.bad j
  · have : B.disk j = ⟨[], [], [], true⟩ ∨ B.disk j ∈ B.ds := by
      unfold BankM.disk
      rw [List.getD_eq_getElem?_getD]
      cases e : B.ds[j.toNat]? with
      | none => exact .inl rfl
      | some D => exact .inr (List.mem_of_getElem? e)
    rcases this with e | e
    · rw [e]; decide
    · have := (f.alive _ e).2.2; omega
  · have := (f.alive _ (disk_mem hb)).2.2; omega
theorem bankApart {n j : Int} {sa : Option Addr} {sl sc : Nat} {ms : List Act10} {Q : Bool → H → Prop} (hs : Acts10 h sa sl ms) (hc : sl ≤ sc) (k : ∀ h', Keep h h' → Q true h') : law10_BankApart n sa sl sc j h Q := by
  unfold law10_BankApart law10_BankApart.g
  refine bNew fun b h1 w => ?_
  have hlen := BankM.new_len n
  have f0 : (BankM.new n 6).Fine (mx 1 (mn n 12)).toNat 6 0 := by
    have := fine_new n 6
    rwa [show (mx 1 (mn 6 512)).toNat = 6 by decide] at this
  have hB0 : (BankM.new n 6).fails = false ∧ (BankM.new n 6).left = 0 ∧ (BankM.new n 6).steps = 0 := ⟨rfl, rfl, rfl⟩
  have hD0 : ∀ j, ¬ (BankM.new n 6).bad j → (BankM.new n 6).disk j = DiskM.new 6 := fun j hb => (List.mem_replicate.1 (disk_mem hb)).2
  generalize BankM.new n 6 = B0 at w f0 hB0 hD0
  generalize (mx 1 (mn n 12)).toNat = N at hlen f0
  refine M.join_of (fun d h' => d = false ∧ Wd h h' [bankC b B0]) (fun J hJ => ?_) ?_
  · refine wakes10 fun h2 k2 => ?_
    have w := w.keeps k2
    simp only [Bool.not_true, cond_false]
    refine bSize w ?_
    have : decide (((B0.ds.length : Nat) : Int) < 1) = false := decide_eq_false (by rw [f0.len]; omega)
    rw [this]
    exact hJ _ _ ⟨rfl, w⟩
  rintro _ h2 ⟨rfl, w⟩
  simp only [cond_false]
  refine bSize w ?_
  rw [f0.len, nz_eq _ _ (by omega)]
  have hz := tmod_lt (mx0 j) (show (0 : Int) < N by omega)
  simp only [M.val]
  generalize Int.tmod (mx 0 j) N = z at hz
  have hb : ¬ B0.bad z := BankM.not_bad.2 ⟨hz.1, by rw [f0.len]; exact hz.2⟩
  have hp : ¬ B0.noPower := fun e => by simp [BankM.noPower, hB0.1] at e
  refine bWrite w (by omega) (by omega) (waits_any f0 (by omega) z) fun h3 w => ?_
  rw [write_ok1 f0 hb hp (by decide) (by decide)]
  have f1 : (B0.write z 3 ⟨#[109, 105, 110, 101]⟩).2.Fine N 6 1 := fine_write f0
  have hpw := write_pow (B := B0) (i := z) (at_ := 3) (s := ⟨#[109, 105, 110, 101]⟩) hB0.1
  have hdz : (B0.write z 3 ⟨#[109, 105, 110, 101]⟩).2.disk z = ((DiskM.new 6).write 3 ⟨#[109, 105, 110, 101]⟩).2 := by
    obtain ⟨hj, _⟩ := BankM.disk_at hb
    unfold BankM.write
    rw [if_neg hb, if_neg hp]
    simp only [hD0 z hb]
    simp only [BankM.disk, BankM.set, List.getD_eq_getElem?_getD, BankM.spend_ds]
    rw [List.getElem?_set_self hj]; rfl
  generalize (B0.write z 3 ⟨#[109, 105, 110, 101]⟩).2 = B1 at w f1 hpw hdz
  refine cf (c := (0 : Int) != 0) rfl ?_
  obtain ⟨hm1, hm2, hm3⟩ := mn_take (l := sl) (n := 40) (by omega)
  refine M.jn ?_
  refine M.sub0 hm2 (by omega) ?_
  have hs := hs.take (min sl 40) (Nat.min_le_left _ _)
  rw [show (mn ((sl : Nat) : Int) (40 : Int)).toNat = min sl 40 from hm1]
  have hl40 : min sl 40 ≤ 40 := by omega
  generalize min sl 40 = l at hs hl40
  generalize ms.take l = ms at hs
  refine M.loop_of (I := fun (i : Int) h' => 0 ≤ i ∧ i ≤ l ∧ ∃ B : BankM, Wd h h' [bankC b B] ∧ B.Fine N 6 (i.toNat + 1) ∧ B.fails = false ∧ B.left = 0 ∧ B.steps ≤ i + 1 ∧ B.disk z = ((DiskM.new 6).write 3 ⟨#[109, 105, 110, 101]⟩).2) (μ := fun i => (l - i).toNat)
    ⟨by omega, by omega, B1, w, f1, hpw.1, by rw [hpw.2.1]; exact hB0.2.1, by rw [hpw.2.2, if_neg hb, hB0.2.2]; omega, hdz⟩ ?_
  rintro i h5 J ⟨hi0, hi1, B, w, hF, hf, hlf, hst, hdz⟩ hJ
  have hni : (i + 1).toNat = i.toNat + 1 := by omega
  by_cases hlt : i < l
  · have hlt' : i.toNat < ms.length := by rw [hs.len]; omega
    cases sa with
    | none => have := hs.nil rfl; omega
    | some sb =>
      obtain ⟨hrow, ha⟩ := hs.row sb rfl i.toNat _ (List.getElem?_eq_getElem hlt')
      generalize ms[i.toNat] = m at hrow ha
      obtain ⟨c0, c1, c2, c3, c4, c5⟩ := act10_cells (w.keep.row hrow)
      simp only [hlt, decide_true, cond_true]
      refine M.idx_of hi0 hlt ?_
      simp only [addr_add, load_eq, Nat.zero_add, Nat.add_zero, Nat.mul_one, Nat.one_mul, Nat.zero_mul, Nat.reduceAdd, List.setIfInBounds_toArray, List.set_cons_zero, List.set_cons_succ, List.getElem?_toArray, List.getElem?_cons_zero, List.getElem?_cons_succ, some_and, int_eq, bool_eq, str_eq, slc_eq, ptr_eq, nn_eq, M.val, cond_true, cond_false, Bool.not_true, Bool.not_false, add2, c0, c1, c2, c3, c4, c5]
      refine M.new_w w fun t h6 w => ⟨rfl, ?_⟩
      refine M.puts_w0 w 1 rfl (by simp [isPlainCell]) rfl fun h7 w => ?_
      have ht := w.blk 1 rfl
      have w := w.drop (i := 1) rfl
      simp only [addr_add, load_eq, Nat.zero_add, Nat.add_zero, Nat.mul_one, Nat.one_mul, Nat.zero_mul, Nat.reduceAdd, List.setIfInBounds_toArray, List.set_cons_zero, List.set_cons_succ, List.getElem?_toArray, List.getElem?_cons_zero, List.getElem?_cons_succ, some_and, int_eq, bool_eq, str_eq, slc_eq, ptr_eq, nn_eq, M.val, cond_true, cond_false, Bool.not_true, Bool.not_false, cell_in ht, wrap1 hi0 (show i ≤ 1000000000 by omega)]
      by_cases hiz : m.i_ = z
      · refine ct (by simp [hiz]) ?_
        exact hJ _ _ ⟨by omega, by omega, B, w, by rw [hni]; exact fine_up hF, hf, hlf, by omega, hdz⟩ (by omega)
      · refine cf (by simp [hiz]) ?_
        by_cases hb1 : bAnd .i64 m.do_ 1 = 0
        · refine ct (by simp [hb1]) ?_
          have e0 : (0 : Int) ≤ mn (m.data.size : Int) 50 ∧ mn (m.data.size : Int) 50 ≤ m.data.size := by unfold mn; split <;> omega
          refine ⟨Int.le_refl 0, e0.1, e0.2, ?_⟩
          refine bWrite w (by omega) (by omega) (waits_any hF (by omega) _) fun h8 w => ?_
          have hpw := write_pow (B := B) (i := m.i_) (at_ := m.at_) (s := m.data.extract (Int.toNat 0) (mn (m.data.size : Int) 50).toNat) hf
          refine hJ _ _ ⟨by omega, by omega, _, w, by rw [hni]; exact fine_write hF, hpw.1, by rw [hpw.2.1]; exact hlf, by rw [hpw.2.2]; split <;> omega, by rw [other_write hz.1 hiz]; exact hdz⟩ (by omega)
        · refine cf (by simp [hb1]) ?_
          refine bFlush w (by omega) (by omega) fun h8 w => ?_
          have hpw := flush_pow (B := B) (i := m.i_) hf
          refine hJ _ _ ⟨by omega, by omega, _, w, by rw [hni]; exact fine_flush hF, hpw.1, by rw [hpw.2.1]; exact hlf, by rw [hpw.2.2]; split <;> omega, by rw [other_flush hz.1 hiz]; exact hdz⟩ (by omega)
  · simp only [hlt, decide_false, cond_false]
    have hb : ¬ B.bad z := BankM.not_bad.2 ⟨hz.1, by rw [hF.len]; exact hz.2⟩
    have hp : ¬ B.noPower := fun e => by simp [BankM.noPower, hf] at e
    refine bRead w ?_
    have hrd : B.read z 3 = (⟨#[109, 105, 110, 101]⟩, 0) := by
      simp only [BankM.read, hb, hp, if_false, hdz]
      decide +kernel
    rw [hrd]
    refine M.jn ?_
    refine ct rfl (ct (strEq_iff.2 rfl) ?_)
    refine bDisk w (fun e => absurd e hb) fun _ pd h8 _ _ w8 _ => ?_
    refine Waiting_spec w8 ?_
    rw [hdz]
    exact k _ w.keep
theorem bankSteps {sa : Option Addr} {sl sc : Nat} {ms : List Act10} {Q : Bool → H → Prop} (hs : Acts10 h sa sl ms) (hc : sl ≤ sc) (k : ∀ h', Keep h h' → Q true h') : law10_BankSteps sa sl sc h Q := by
  unfold law10_BankSteps law10_BankSteps.g
  refine bNew fun b h1 w => ?_
  have f0 : (BankM.new 3 8).Fine 3 8 0 := by
    have := fine_new 3 8
    rwa [show (mx 1 (mn 3 12)).toNat = 3 by decide, show (mx 1 (mn 8 512)).toNat = 8 by decide] at this
  obtain ⟨hm1, hm2, hm3⟩ := mn_take (l := sl) (n := 60) (by omega)
  refine M.sub0 hm2 (by omega) ?_
  have hs := hs.take (min sl 60) (Nat.min_le_left _ _)
  rw [show (mn ((sl : Nat) : Int) (60 : Int)).toNat = min sl 60 from hm1]
  have hl60 : min sl 60 ≤ 60 := by omega
  generalize min sl 60 = l at hs hl60
  generalize ms.take l = ms at hs
  refine M.loop_of (I := fun (i : Int) h' => 0 ≤ i ∧ i ≤ l ∧ ∃ B : BankM, Wd h h' [bankC b B] ∧ B.Fine 3 8 i.toNat ∧ B.fails = false ∧ B.left = 0 ∧ B.steps ≤ i) (μ := fun i => (l - i).toNat) ⟨by omega, by omega, _, w, f0, rfl, rfl, by simp [BankM.new]⟩ ?_
  rintro i h5 J ⟨hi0, hi1, B, w, hF, hf, hlf, hst⟩ hJ
  have hni : (i + 1).toNat = i.toNat + 1 := by omega
  by_cases hlt : i < l
  · have hlt' : i.toNat < ms.length := by rw [hs.len]; omega
    cases sa with
    | none => have := hs.nil rfl; omega
    | some sb =>
      obtain ⟨hrow, ha⟩ := hs.row sb rfl i.toNat _ (List.getElem?_eq_getElem hlt')
      generalize ms[i.toNat] = m at hrow ha
      obtain ⟨c0, c1, c2, c3, c4, c5⟩ := act10_cells (w.keep.row hrow)
      have ok := bank_ok w
      have okd := bank_disks w
      have hst0 := ok.st0
      have hp : ¬ B.noPower := fun e => by simp [BankM.noPower, hf] at e
      simp only [hlt, decide_true, cond_true]
      refine M.idx_of hi0 hlt ?_
      simp only [addr_add, load_eq, Nat.zero_add, Nat.add_zero, Nat.mul_one, Nat.one_mul, Nat.zero_mul, Nat.reduceAdd, List.setIfInBounds_toArray, List.set_cons_zero, List.set_cons_succ, List.getElem?_toArray, List.getElem?_cons_zero, List.getElem?_cons_succ, some_and, int_eq, bool_eq, str_eq, slc_eq, ptr_eq, nn_eq, M.val, cond_true, cond_false, Bool.not_true, Bool.not_false, add2, c0, c1, c2, c3, c4, c5]
      refine M.new_w w fun t h6 w => ⟨rfl, ?_⟩
      refine M.puts_w0 w 1 rfl (by simp [isPlainCell]) rfl fun h7 w => ?_
      have ht := w.blk 1 rfl
      have hbad : B.bad m.i_ ↔ ¬ (0 ≤ m.i_ ∧ m.i_ < 3) := by unfold BankM.bad; rw [hF.len]; omega
      have wst : ∀ x : Int, 0 ≤ x → x ≤ 100 → IntKind.wrap .i64 (x + 1) = x + 1 := fun x h0 h1 => wrap1 h0 (by omega)
      refine M.join_of (fun d h' => d = (B.steps, decide (¬ B.bad m.i_)) ∧ h7 = h') (fun J2 hJ2 => ?_) ?_
      · simp only [addr_add, load_eq, Nat.zero_add, Nat.add_zero, Nat.mul_one, Nat.one_mul, Nat.zero_mul, Nat.reduceAdd, List.setIfInBounds_toArray, List.set_cons_zero, List.set_cons_succ, List.getElem?_toArray, List.getElem?_cons_zero, List.getElem?_cons_succ, some_and, int_eq, bool_eq, str_eq, slc_eq, ptr_eq, nn_eq, M.val, cond_true, cond_false, Bool.not_true, Bool.not_false, cell_in ht]
        obtain ⟨hx, k0, k1, wx, wr, _⟩ := w.on (i := 0) rfl
        refine bSteps wx ?_
        refine M.still_in ht ht ?_
        by_cases hi : m.i_ ≥ 0
        · refine ct (decide_eq_true hi) ?_
          simp only [addr_add, load_eq, Nat.zero_add, Nat.add_zero, Nat.mul_one, Nat.one_mul, Nat.zero_mul, Nat.reduceAdd, List.setIfInBounds_toArray, List.set_cons_zero, List.set_cons_succ, List.getElem?_toArray, List.getElem?_cons_zero, List.getElem?_cons_succ, some_and, int_eq, bool_eq, str_eq, slc_eq, ptr_eq, nn_eq, M.val, cond_true, cond_false, Bool.not_true, Bool.not_false, cell_in ht]
          refine hJ2 _ _ ⟨?_, rfl⟩
          have : decide (m.i_ < 3) = decide (¬ B.bad m.i_) := decide_eq_decide.2 (by rw [hbad]; omega)
          rw [this]
        · refine cf (decide_eq_false hi) ?_
          refine hJ2 _ _ ⟨?_, rfl⟩
          have : decide (¬ B.bad m.i_) = false := decide_eq_false (by rw [hbad]; omega)
          rw [this]
      rintro _ _ ⟨rfl, rfl⟩
      have e0 : (0 : Int) ≤ mn (m.data.size : Int) 100 ∧ mn (m.data.size : Int) 100 ≤ m.data.size := by unfold mn; split <;> omega
      simp only [addr_add, load_eq, Nat.zero_add, Nat.add_zero, Nat.mul_one, Nat.one_mul, Nat.zero_mul, Nat.reduceAdd, List.setIfInBounds_toArray, List.set_cons_zero, List.set_cons_succ, List.getElem?_toArray, List.getElem?_cons_zero, List.getElem?_cons_succ, some_and, int_eq, bool_eq, str_eq, slc_eq, ptr_eq, nn_eq, M.val, cond_true, cond_false, Bool.not_true, Bool.not_false, cell_in ht]
      refine ⟨Int.le_refl 0, e0.1, e0.2, ?_⟩
      refine M.put_w w 1 rfl rfl (by simp) fun h8 w => ?_
      generalize m.data.extract (Int.toNat 0) (mn (m.data.size : Int) 100).toNat = data at w ⊢
      have ht := w.blk 1 rfl
      refine M.join_of (fun made h' => ∃ B' : BankM, Wd h h' [bankC b B'] ∧ B'.Fine 3 8 (i.toNat + 1) ∧ B'.fails = false ∧ B'.left = 0 ∧ B'.steps = if made = true then B.steps + 1 else B.steps) (fun J2 hJ2 => ?_) ?_
      · simp only [addr_add, load_eq, Nat.zero_add, Nat.add_zero, Nat.mul_one, Nat.one_mul, Nat.zero_mul, Nat.reduceAdd, List.setIfInBounds_toArray, List.set_cons_zero, List.set_cons_succ, List.getElem?_toArray, List.getElem?_cons_zero, List.getElem?_cons_succ, some_and, int_eq, bool_eq, str_eq, slc_eq, ptr_eq, nn_eq, M.val, cond_true, cond_false, Bool.not_true, Bool.not_false, cell_in ht]
        have hwd := w.drop (i := 1) rfl
        refine M.join_of (fun d h' => h8 = h') (fun J3 hJ3 => ?_) ?_
        · by_cases h0 : bAnd .i64 m.do_ 7 = 0
          · refine ct (by simp [h0]) (hJ3 _ _ rfl)
          · refine cf (by simp [h0]) (hJ3 _ _ rfl)
        rintro d _ rfl
        have wr : (B.write m.i_ m.at_ data).2.steps = if decide (¬ B.bad m.i_) = true then B.steps + 1 else B.steps := by
          rw [(write_pow hf).2.2]
          by_cases hb : B.bad m.i_ <;> simp [hb]
        have fr : (B.flush m.i_).2.steps = if decide (¬ B.bad m.i_) = true then B.steps + 1 else B.steps := by
          rw [(flush_pow hf).2.2]
          by_cases hb : B.bad m.i_ <;> simp [hb]
        cases d
        · refine cf rfl ?_
          by_cases h2 : bAnd .i64 m.do_ 7 = 2
          · refine ct (by simp [h2]) ?_
            simp only [addr_add, load_eq, Nat.zero_add, Nat.add_zero, Nat.mul_one, Nat.one_mul, Nat.zero_mul, Nat.reduceAdd, List.setIfInBounds_toArray, List.set_cons_zero, List.set_cons_succ, List.getElem?_toArray, List.getElem?_cons_zero, List.getElem?_cons_succ, some_and, int_eq, bool_eq, str_eq, slc_eq, ptr_eq, nn_eq, M.val, cond_true, cond_false, Bool.not_true, Bool.not_false, cell_in ht]
            refine bFlush hwd (by omega) (by omega) fun h9 w9 => hJ2 _ _ ⟨_, w9, fine_flush hF, (flush_pow hf).1, by rw [(flush_pow hf).2.1]; exact hlf, fr⟩
          refine cf (by simp [h2]) ?_
          by_cases h3 : bAnd .i64 m.do_ 7 = 3
          · refine ct (by simp [h3]) ?_
            refine bSpend hwd (by omega) (by omega) fun h9 w9 => hJ2 _ _ ⟨_, w9, fine_up (fine_ds hF B.spend_ds), by rw [spend_p hp]; exact hf, by rw [spend_p hp]; simp [hf, hlf], by rw [spend_p hp]; simp⟩
          refine cf (by simp [h3]) ?_
          by_cases h4 : bAnd .i64 m.do_ 7 = 4
          · refine ct (by simp [h4]) ?_
            simp only [addr_add, load_eq, Nat.zero_add, Nat.add_zero, Nat.mul_one, Nat.one_mul, Nat.zero_mul, Nat.reduceAdd, List.setIfInBounds_toArray, List.set_cons_zero, List.set_cons_succ, List.getElem?_toArray, List.getElem?_cons_zero, List.getElem?_cons_succ, some_and, int_eq, bool_eq, str_eq, slc_eq, ptr_eq, nn_eq, M.val, cond_true, cond_false, Bool.not_true, Bool.not_false, cell_in ht]
            refine bRead hwd ?_
            exact hJ2 _ _ ⟨B, hwd, fine_up hF, hf, hlf, by simp⟩
          refine cf (by simp [h4]) ?_
          by_cases h5 : bAnd .i64 m.do_ 7 = 5
          · refine ct (by simp [h5]) ?_
            simp only [addr_add, load_eq, Nat.zero_add, Nat.add_zero, Nat.mul_one, Nat.one_mul, Nat.zero_mul, Nat.reduceAdd, List.setIfInBounds_toArray, List.set_cons_zero, List.set_cons_succ, List.getElem?_toArray, List.getElem?_cons_zero, List.getElem?_cons_succ, some_and, int_eq, bool_eq, str_eq, slc_eq, ptr_eq, nn_eq, M.val, cond_true, cond_false, Bool.not_true, Bool.not_false, cell_in ht]
            refine lists_spec ha.lists w.keep ha.kc fun la lc h9 vs hvl hvs w3 => ?_
            have w := w.join w3
            obtain ⟨hx, k0, k1, wx, wr, back⟩ := w.on (i := 0) rfl
            obtain ⟨_, _, hn2, hr2⟩ := wr.slrow 1 rfl
            refine bCrash (ks := cutLists m.kept) wx (fun D hD => by have := (hF.alive D hD).2.2; omega) (lists_of rfl hvl hvs k0 (fun e => (hn2 e).2) hr2) fun h10 w1 => ?_
            have w := ((back _ _ w1).drop (i := 2) rfl).drop (i := 1) rfl
            exact hJ2 _ _ ⟨_, w, fine_up (fine_crash hF okd _), rfl, rfl, by simp [BankM.crash]⟩
          refine cf (by simp [h5]) ?_
          by_cases h6 : bAnd .i64 m.do_ 7 = 6
          · refine ct (by simp [h6]) ?_
            simp only [addr_add, load_eq, Nat.zero_add, Nat.add_zero, Nat.mul_one, Nat.one_mul, Nat.zero_mul, Nat.reduceAdd, List.setIfInBounds_toArray, List.set_cons_zero, List.set_cons_succ, List.getElem?_toArray, List.getElem?_cons_zero, List.getElem?_cons_succ, some_and, int_eq, bool_eq, str_eq, slc_eq, ptr_eq, nn_eq, M.val, cond_true, cond_false, Bool.not_true, Bool.not_false, cell_in ht]
            refine bDisk hwd (fun hb => Flush_nil (hJ2 _ _ ⟨B, hwd, fine_up hF, hf, hlf, by simp⟩)) fun hb p h9 _ _ w9 back => ?_
            refine Flush_spec w9 fun h10 w10 => hJ2 _ _ ⟨_, back _ _ w10, ?_, hf, hlf, by simp [BankM.set]⟩
            have h1 := hF.alive _ (disk_mem hb)
            have h2 := (B.disk m.i_).flush_len
            exact fine_set hF rfl ⟨by rw [h2.2.2]; exact h1.1, by omega, by omega⟩
          refine cf (by simp [h6]) ?_
          simp only [addr_add, load_eq, Nat.zero_add, Nat.add_zero, Nat.mul_one, Nat.one_mul, Nat.zero_mul, Nat.reduceAdd, List.setIfInBounds_toArray, List.set_cons_zero, List.set_cons_succ, List.getElem?_toArray, List.getElem?_cons_zero, List.getElem?_cons_succ, some_and, int_eq, bool_eq, str_eq, slc_eq, ptr_eq, nn_eq, M.val, cond_true, cond_false, Bool.not_true, Bool.not_false, cell_in ht]
          refine bDisk hwd (fun hb => M.still_in ht ht (M.still_in ht ht (Tamper_nil fun h9 k9 => hJ2 _ _ ⟨B, hwd.keeps k9, fine_up hF, hf, hlf, by simp⟩))) fun hb p h9 _ _ w9 back => ?_
          refine M.still_in ht ht (M.still_in ht ht ?_)
          have h1 := hF.alive _ (disk_mem hb)
          refine Tamper_spec w9 (by omega) fun h10 w10 => hJ2 _ _ ⟨_, back _ _ w10, ?_, hf, hlf, by simp [BankM.set]⟩
          have h2 := (B.disk m.i_).tamper_len m.at_ data
          exact fine_set hF rfl ⟨by rw [h2.2.2]; exact h1.1, by omega, by omega⟩
        · refine ct rfl ?_
          simp only [addr_add, load_eq, Nat.zero_add, Nat.add_zero, Nat.mul_one, Nat.one_mul, Nat.zero_mul, Nat.reduceAdd, List.setIfInBounds_toArray, List.set_cons_zero, List.set_cons_succ, List.getElem?_toArray, List.getElem?_cons_zero, List.getElem?_cons_succ, some_and, int_eq, bool_eq, str_eq, slc_eq, ptr_eq, nn_eq, M.val, cond_true, cond_false, Bool.not_true, Bool.not_false, cell_in ht]
          refine bWrite hwd (by omega) (by omega) (waits_any hF (by omega) _) fun h9 w9 => hJ2 _ _ ⟨_, w9, fine_write hF, (write_pow hf).1, by rw [(write_pow hf).2.1]; exact hlf, wr⟩
      rintro made h9 ⟨B', w, hF', hf', hlf', hst'⟩
      refine M.join_of (fun d h' => d = false ∧ h9 = h') (fun J3 hJ3 => ?_) ?_
      · refine bSteps w ?_
        simp only [M.val, wst B.steps hst0 (by omega)]
        cases made
        · simp only [Bool.false_eq_true, if_false] at hst'
          refine cf (by rw [hst']; simp; omega) (ct rfl ?_)
          refine bSteps w ?_
          rw [hst']
          exact hJ3 _ _ ⟨by simp, rfl⟩
        · simp only [if_true] at hst'
          refine cf (by rw [hst']; simp) (cf rfl ?_)
          exact hJ3 _ _ ⟨rfl, rfl⟩
      rintro _ _ ⟨rfl, rfl⟩
      refine cf rfl ?_
      rw [wrap1 hi0 (show i ≤ 1000000000 by omega)]
      exact hJ _ _ ⟨by omega, by omega, B', w, by rw [hni]; exact hF', hf', hlf', by rw [hst']; split <;> omega⟩ (by omega)
  · simp only [hlt, decide_false, cond_false]
    exact wakes10 fun h6 k6 => k _ (w.keep.trans k6)
end
end Go.Proofs.Ytkfokpkpobjoeaa

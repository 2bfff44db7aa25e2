/- One act on both disks: they answer alike. -/
import Derived.Test.YtkfokpkpobjoeaaDkL
namespace Go.Proofs.Ytkfokpkpobjoeaa
open Go.Sh Go.RowKit
set_option linter.unusedSimpArgs false
set_option linter.unusedVariables false

/-- A variable that holds texts. -/
def imgC (b : Nat) (img : List ByteArray) : Chunk := Wd.obj (α := Option Addr × Nat × Nat) (fun v => v.2.1 = img.length ∧ img.length ≤ 512)
  fun v => [.blk b (.cells #[.slice v.1 v.2.1 v.2.2] 22 (0, 0)), .sl 9 1 v.1 v.2.1 v.2.2 (img.map Value.string)]
namespace DiskM
theorem write_len (D : DiskM) (a : Int) (s : ByteArray) : (D.write a s).2.W.length ≤ D.W.length + 1 ∧ (D.write a s).2.N.length = D.N.length ∧ (D.write a s).2.dead = D.dead := by
  unfold write
  split
  · exact ⟨by simp, rfl, rfl⟩
  · split
    · exact ⟨by simp, rfl, rfl⟩
    · simp
theorem flush_len (D : DiskM) : D.flush.2.W.length ≤ D.W.length ∧ D.flush.2.N.length = D.N.length ∧ D.flush.2.dead = D.dead := by
  unfold flush
  split <;> simp
theorem crash_len {D : DiskM} (o : D.Ok) (ks : List Bool) : (D.crash ks).W.length ≤ D.W.length ∧ (D.crash ks).N.length = D.N.length ∧ (D.crash ks).dead = D.dead := by
  unfold crash
  split
  · simp
  · simp [crashL_length, o.len]
theorem tamper_len (D : DiskM) (a : Int) (s : ByteArray) : (D.tamper a s).2.W.length ≤ D.W.length ∧ (D.tamper a s).2.N.length = D.N.length ∧ (D.tamper a s).2.dead = D.dead := by
  unfold tamper
  split
  · simp
  · exact ⟨List.length_filter_le _ _, by simp, rfl⟩
theorem restore_len (D : DiskM) (img : List ByteArray) : (D.restore img).W.length ≤ D.W.length ∧ (D.restore img).N.length = D.N.length ∧ (D.restore img).dead = D.dead := by
  unfold restore
  split
  · simp
  · simp [ofImage_length]
theorem image_len {D : DiskM} (o : D.Ok) : D.image.length ≤ 512 := by
  unfold image
  split
  · simp
  · exact o.small
end DiskM
section
variable {h0 h : H} {d : Nat} {D : DiskM} {at_ : Int} {s : ByteArray}
theorem diskC_ok (w : Wd h0 h [diskC d D]) : D.Ok := by
  obtain ⟨_, ⟨ok, _⟩, _⟩ := w.opn 0 rfl
  exact ok
theorem diskOk {L : List Chunk} (w : Wd h0 h L) (i : Nat) (hi : L[i]? = some (diskC d D)) : D.Ok := by
  obtain ⟨hx, _, _, wx, _, _⟩ := w.on hi
  exact diskC_ok wx
theorem z8 (n : Int) : -7 ≤ Int.tmod n 8 ∧ Int.tmod n 8 ≤ 7 := by
  rcases Int.le_total 0 n with h | h
  · have := tmod_lt h (show (0 : Int) < 8 by omega)
    omega
  · have := tmod_lt (show 0 ≤ -n by omega) (show (0 : Int) < 8 by omega)
    rw [Int.neg_tmod] at this
    omega
theorem act_spec {r ib : Nat} {img : List ByteArray} {m : ActM} {Q : Bool → H → Prop} (w : Wd h0 h [diskC d D, refC r D, imgC ib img]) (hW : D.W.length < 999999999) (ha : ActAt h0 m)
    (k : ∀ h' D' img', Wd h0 h' [diskC d D', refC r D', imgC ib img'] → D'.W.length ≤ D.W.length + 1 → D'.N.length = D.N.length → (Int.tmod m.do_ 8 ≠ 7 → Int.tmod m.do_ 8 ≠ -7 → D'.dead = D.dead) → Q true h') :
    law09_act (some ⟨d, 0, none⟩) (some ⟨r, 0, none⟩) (some ⟨ib, 0, none⟩) m.do_ m.at_ m.data m.long m.ka m.kl m.kc m.die h Q := by
  have ok := diskOk w 0 rfl
  unfold law09_act law09_act.g
  refine M.new_w w fun b h1 w => ?_
  have hb := w.blk 3 rfl
  have hmn : (mn ((m.kl : Nat) : Int) 100).toNat = min m.kl 100 := by unfold mn; split <;> omega
  have hmn0 : (0 : Int) ≤ mn ((m.kl : Nat) : Int) 100 ∧ mn ((m.kl : Nat) : Int) 100 ≤ m.kc := by have := ha.kc; unfold mn; split <;> omega
  simp only [addr_add, load_eq, Nat.zero_add, Nat.add_zero, Nat.mul_one, Nat.one_mul, Nat.zero_mul, Nat.reduceAdd, List.setIfInBounds_toArray, List.set_cons_zero, List.set_cons_succ, List.getElem?_toArray, List.getElem?_cons_zero, List.getElem?_cons_succ, some_and, int_eq, bool_eq, str_eq, slc_eq, ptr_eq, nn_eq, M.val, cond_true, cond_false, Bool.not_true, Bool.not_false, cell_in hb, nz_eq]
  refine M.sub0 hmn0.1 hmn0.2 ?_
  refine M.put_w w 3 rfl rfl (by simp) fun h2 w => ?_
  have hb := w.blk 3 rfl
  simp only [addr_add, load_eq, Nat.zero_add, Nat.add_zero, Nat.mul_one, Nat.one_mul, Nat.zero_mul, Nat.reduceAdd, List.setIfInBounds_toArray, List.set_cons_zero, List.set_cons_succ, List.getElem?_toArray, List.getElem?_cons_zero, List.getElem?_cons_succ, some_and, int_eq, bool_eq, str_eq, slc_eq, ptr_eq, nn_eq, M.val, cond_true, cond_false, Bool.not_true, Bool.not_false, cell_in hb, hmn]
  refine ⟨by omega, ?_⟩
  have hz := z8 m.do_
  have hkl : (m.kept.take (min m.kl 100)).length = min m.kl 100 := by simp [ha.kl]
  have hkr : ∀ b, m.ka = some b → Sh.rowAt h0 b ((m.kept.take (min m.kl 100)).map Value.bool) := fun b e i hi => by
    have := ha.row b e i (by simp at hi ⊢; omega)
    rw [this, List.getElem?_map, List.getElem?_map, List.getElem?_take, if_pos (by simp at hi; omega)]
  have hk0 : m.ka = none → min m.kl 100 = 0 := fun e => by rw [ha.k0 e]; simp
  have beq_or : ∀ z : Int, ∀ K : Bool → H → Prop, (∀ h', h' = h2 → K (decide (Int.tmod m.do_ 8 = z ∨ Int.tmod m.do_ 8 = -z)) h') → (bif Int.tmod m.do_ 8 == z then K (Int.tmod m.do_ 8 == z) h2 else K (Int.tmod m.do_ 8 == -z) h2) := by
    intro z K hk
    have := hk h2 rfl
    have e : decide (Int.tmod m.do_ 8 = z ∨ Int.tmod m.do_ 8 = -z) = (Int.tmod m.do_ 8 == z || Int.tmod m.do_ 8 == -z) := by
      rw [Bool.decide_or]; rfl
    rw [e] at this
    cases hh : (Int.tmod m.do_ 8 == z)
    · rw [hh] at this; simpa using this
    · rw [hh] at this; simpa using this
  refine M.join_of (fun b h' => b = decide (Int.tmod m.do_ 8 = 2 ∨ Int.tmod m.do_ 8 = -2) ∧ h2 = h') (fun J hJ => beq_or 2 J fun h' e => hJ _ _ ⟨rfl, e.symm⟩) ?_
  rintro _ _ ⟨rfl, rfl⟩
  by_cases c2 : Int.tmod m.do_ 8 = 2 ∨ Int.tmod m.do_ 8 = -2
  · simp only [addr_add, load_eq, Nat.zero_add, Nat.add_zero, Nat.mul_one, Nat.one_mul, Nat.zero_mul, Nat.reduceAdd, List.setIfInBounds_toArray, List.set_cons_zero, List.set_cons_succ, List.getElem?_toArray, List.getElem?_cons_zero, List.getElem?_cons_succ, some_and, int_eq, bool_eq, str_eq, slc_eq, ptr_eq, nn_eq, M.val, cond_true, cond_false, Bool.not_true, Bool.not_false, c2, decide_true, cell_in hb]
    obtain ⟨hx, k0, k1, wx, wr, _⟩ := w.on (i := 0) rfl
    refine Read_spec wx ?_
    simp only [addr_add, load_eq, Nat.zero_add, Nat.add_zero, Nat.mul_one, Nat.one_mul, Nat.zero_mul, Nat.reduceAdd, List.setIfInBounds_toArray, List.set_cons_zero, List.set_cons_succ, List.getElem?_toArray, List.getElem?_cons_zero, List.getElem?_cons_succ, some_and, int_eq, bool_eq, str_eq, slc_eq, ptr_eq, nn_eq, M.val, cond_true, cond_false, Bool.not_true, Bool.not_false, cell_in hb]
    obtain ⟨hx, k0, k1, wx, wr, _⟩ := w.on (i := 1) rfl
    refine rRead wx (by omega) ?_
    refine M.jn ?_
    simp only [strEq_iff.2 rfl, cond_true, beq_self_eq_true]
    exact k _ _ _ (w.drop (i := 3) rfl) (by omega) rfl fun _ _ => rfl
  simp only [c2, decide_false, cond_false]
  refine M.join_of (fun b h' => b = decide (Int.tmod m.do_ 8 = 3 ∨ Int.tmod m.do_ 8 = -3) ∧ h2 = h') (fun J hJ => beq_or 3 J fun h' e => hJ _ _ ⟨rfl, e.symm⟩) ?_
  rintro _ _ ⟨rfl, rfl⟩
  by_cases c3 : Int.tmod m.do_ 8 = 3 ∨ Int.tmod m.do_ 8 = -3
  · simp only [c3, decide_true, cond_true]
    obtain ⟨hx, k0, k1, wx, wr, back⟩ := w.on (i := 0) rfl
    refine Flush_spec wx fun h3 w1 => ?_
    have w := back _ _ w1
    obtain ⟨hx, k0, k1, wx, wr, back⟩ := w.on (i := 1) rfl
    refine rFlush wx (by omega) fun h4 w1 => ?_
    have w := back _ _ w1
    simp only [beq_self_eq_true]
    have hl := D.flush_len
    exact k _ _ _ (w.drop (i := 3) rfl) (by omega) hl.2.1 fun _ _ => hl.2.2
  simp only [c3, decide_false, cond_false]
  refine M.join_of (fun b h' => b = decide (Int.tmod m.do_ 8 = 4 ∨ Int.tmod m.do_ 8 = -4) ∧ h2 = h') (fun J hJ => beq_or 4 J fun h' e => hJ _ _ ⟨rfl, e.symm⟩) ?_
  rintro _ _ ⟨rfl, rfl⟩
  by_cases c4 : Int.tmod m.do_ 8 = 4 ∨ Int.tmod m.do_ 8 = -4
  · simp only [addr_add, load_eq, Nat.zero_add, Nat.add_zero, Nat.mul_one, Nat.one_mul, Nat.zero_mul, Nat.reduceAdd, List.setIfInBounds_toArray, List.set_cons_zero, List.set_cons_succ, List.getElem?_toArray, List.getElem?_cons_zero, List.getElem?_cons_succ, some_and, int_eq, bool_eq, str_eq, slc_eq, ptr_eq, nn_eq, M.val, cond_true, cond_false, Bool.not_true, Bool.not_false, c4, decide_true, cell_in hb, hmn]
    obtain ⟨hx, k0, k1, wx, wr, back⟩ := w.on (i := 0) rfl
    refine Crash_spec (kept := m.kept.take (min m.kl 100)) wx (by omega) hkl hk0 (fun b e => k0.row (hkr b e)) fun h3 w1 => ?_
    have w := back _ _ w1
    have hb := w.blk 3 rfl
    simp only [addr_add, load_eq, Nat.zero_add, Nat.add_zero, Nat.mul_one, Nat.one_mul, Nat.zero_mul, Nat.reduceAdd, List.setIfInBounds_toArray, List.set_cons_zero, List.set_cons_succ, List.getElem?_toArray, List.getElem?_cons_zero, List.getElem?_cons_succ, some_and, int_eq, bool_eq, str_eq, slc_eq, ptr_eq, nn_eq, M.val, cond_true, cond_false, Bool.not_true, Bool.not_false, cell_in hb, hmn]
    obtain ⟨hx, k0, k1, wx, wr, back⟩ := w.on (i := 1) rfl
    refine rCrash (kept := m.kept.take (min m.kl 100)) wx (by omega) hkl hk0 (fun b e => k0.row (hkr b e)) fun h4 w1 => ?_
    have w := back _ _ w1
    have hl := DiskM.crash_len ok (m.kept.take (min m.kl 100))
    exact k _ _ _ (w.drop (i := 3) rfl) (by omega) hl.2.1 fun _ _ => hl.2.2
  simp only [c4, decide_false, cond_false]
  refine M.join_of (fun b h' => b = decide (Int.tmod m.do_ 8 = 5 ∨ Int.tmod m.do_ 8 = -5) ∧ h2 = h') (fun J hJ => beq_or 5 J fun h' e => hJ _ _ ⟨rfl, e.symm⟩) ?_
  rintro _ _ ⟨rfl, rfl⟩
  by_cases c5 : Int.tmod m.do_ 8 = 5 ∨ Int.tmod m.do_ 8 = -5
  · simp only [addr_add, load_eq, Nat.zero_add, Nat.add_zero, Nat.mul_one, Nat.one_mul, Nat.zero_mul, Nat.reduceAdd, List.setIfInBounds_toArray, List.set_cons_zero, List.set_cons_succ, List.getElem?_toArray, List.getElem?_cons_zero, List.getElem?_cons_succ, some_and, int_eq, bool_eq, str_eq, slc_eq, ptr_eq, nn_eq, M.val, cond_true, cond_false, Bool.not_true, Bool.not_false, c5, decide_true, cell_in hb]
    refine bytes_spec fun h3 k3 => ?_
    have w := w.keeps k3
    have hb3 := w.blk 3 rfl
    refine M.still_in hb hb3 (M.still_in hb hb3 (M.still_in hb hb3 ?_))
    obtain ⟨hx, k0, k1, wx, wr, back⟩ := w.on (i := 0) rfl
    refine Tamper_spec wx (by omega) fun h4 w1 => ?_
    have w := back _ _ w1
    have hb4 := w.blk 3 rfl
    refine M.still_in hb hb4 (M.still_in hb hb4 ?_)
    refine bytes_spec fun h5 k5 => ?_
    have w := w.keeps k5
    have hb5 := w.blk 3 rfl
    refine M.still_in hb hb5 ?_
    obtain ⟨hx, k0, k1, wx, wr, back⟩ := w.on (i := 1) rfl
    refine rTamper wx (by omega) fun h6 w1 => ?_
    have w := back _ _ w1
    simp only [beq_self_eq_true]
    have hl := D.tamper_len m.at_ (bytesZ m.data m.long)
    exact k _ _ _ (w.drop (i := 3) rfl) (by omega) hl.2.1 fun _ _ => hl.2.2
  simp only [c5, decide_false, cond_false]
  refine M.join_of (fun b h' => b = decide (Int.tmod m.do_ 8 = 6 ∨ Int.tmod m.do_ 8 = -6) ∧ h2 = h') (fun J hJ => beq_or 6 J fun h' e => hJ _ _ ⟨rfl, e.symm⟩) ?_
  rintro _ _ ⟨rfl, rfl⟩
  by_cases c6 : Int.tmod m.do_ 8 = 6 ∨ Int.tmod m.do_ 8 = -6
  · simp only [addr_add, load_eq, Nat.zero_add, Nat.add_zero, Nat.mul_one, Nat.one_mul, Nat.zero_mul, Nat.reduceAdd, List.setIfInBounds_toArray, List.set_cons_zero, List.set_cons_succ, List.getElem?_toArray, List.getElem?_cons_zero, List.getElem?_cons_succ, some_and, int_eq, bool_eq, str_eq, slc_eq, ptr_eq, nn_eq, M.val, cond_true, cond_false, Bool.not_true, Bool.not_false, c6, decide_true, cell_in hb]
    by_cases hb1 : bAnd .i64 m.at_ 1 = 0
    · simp only [hb1, beq_self_eq_true, cond_true]
      obtain ⟨hx, k0, k1, wx, wr, _⟩ := w.on (i := 0) rfl
      refine Image_spec wx fun a' c' h3 w3 => ?_
      have w := w.join w3
      obtain ⟨⟨ia, il, ic⟩, ⟨hil, _⟩, w⟩ := w.opn 2 rfl
      refine M.put_w w 4 rfl rfl (by simp) fun h4 w => ?_
      have hi := w.blk 4 rfl
      have w := w.drop (i := 5) rfl
      simp only [addr_add, load_eq, Nat.zero_add, Nat.add_zero, Nat.mul_one, Nat.one_mul, Nat.zero_mul, Nat.reduceAdd, List.setIfInBounds_toArray, List.set_cons_zero, List.set_cons_succ, List.getElem?_toArray, List.getElem?_cons_zero, List.getElem?_cons_succ, some_and, int_eq, bool_eq, str_eq, slc_eq, ptr_eq, nn_eq, M.val, cond_true, cond_false, Bool.not_true, Bool.not_false, cell_in hi]
      obtain ⟨hx, k0, k1, wx, wr, _⟩ := w.on (i := 1) rfl
      refine rImage wx (by omega) fun a2 c2 h5 w5 => ?_
      have w := w.join w5
      refine M.still_in hi (w.blk 4 rfl) ?_
      obtain ⟨_, _, hn1, hr1⟩ := w.slrow 3 rfl
      obtain ⟨_, _, hn2, hr2⟩ := w.slrow 5 rfl
      refine equal_spec rfl rfl (fun e => (hn1 e).2) (fun e => (hn2 e).2) hr1 hr2 (by have := DiskM.image_len ok; omega) ?_
      simp only [decide_true]
      have w := w.drop (i := 5) rfl
      have w := w.drop (i := 2) rfl
      have w := w.mv (i := 2) rfl
      exact k _ D D.image (w.close 2 (a', D.image.length, c') rfl ⟨rfl, DiskM.image_len ok⟩) (by omega) rfl fun _ _ => rfl
    · have hb2 : (bAnd .i64 m.at_ 1 == 0) = false := by simpa using hb1
      obtain ⟨⟨ia, il, ic⟩, ⟨hil, himg⟩, w⟩ := w.opn 2 rfl
      have hi := w.blk 3 rfl
      obtain ⟨hsl, _, hn1, hr1⟩ := w.slrow 4 rfl
      simp only at hil
      subst hil
      simp only [addr_add, load_eq, Nat.zero_add, Nat.add_zero, Nat.mul_one, Nat.one_mul, Nat.zero_mul, Nat.reduceAdd, List.setIfInBounds_toArray, List.set_cons_zero, List.set_cons_succ, List.getElem?_toArray, List.getElem?_cons_zero, List.getElem?_cons_succ, some_and, int_eq, bool_eq, str_eq, slc_eq, ptr_eq, nn_eq, M.val, cond_true, cond_false, Bool.not_true, Bool.not_false, hb2, cell_in hi]
      obtain ⟨hx, k0, k1, wx, wr, back⟩ := w.on (i := 0) rfl
      obtain ⟨_, _, hn2, hr2⟩ := wr.slrow 3 rfl
      refine Restore_spec (img := img) wx rfl (fun e => (hn2 e).2) hr2 fun h3 w1 => ?_
      have w := back _ _ w1
      have hi := w.blk 3 rfl
      simp only [addr_add, load_eq, Nat.zero_add, Nat.add_zero, Nat.mul_one, Nat.one_mul, Nat.zero_mul, Nat.reduceAdd, List.setIfInBounds_toArray, List.set_cons_zero, List.set_cons_succ, List.getElem?_toArray, List.getElem?_cons_zero, List.getElem?_cons_succ, some_and, int_eq, bool_eq, str_eq, slc_eq, ptr_eq, nn_eq, M.val, cond_true, cond_false, Bool.not_true, Bool.not_false, cell_in hi]
      obtain ⟨hx, k0, k1, wx, wr, back⟩ := w.on (i := 1) rfl
      obtain ⟨_, _, hn2, hr2⟩ := wr.slrow 3 rfl
      refine rRestore (img := img) wx rfl (fun e => (hn2 e).2) hr2 fun h4 w1 => ?_
      have w := back _ _ w1
      have w := w.drop (i := 2) rfl
      have hl := D.restore_len img
      exact k _ _ img (w.close 2 (ia, img.length, ic) rfl ⟨rfl, himg⟩) (by omega) hl.2.1 fun _ _ => hl.2.2
  simp only [c6, decide_false, cond_false]
  refine M.join_of (fun b h' => b = decide (Int.tmod m.do_ 8 = 7 ∨ Int.tmod m.do_ 8 = -7) ∧ h2 = h') (fun J hJ => beq_or 7 J fun h' e => hJ _ _ ⟨rfl, e.symm⟩) ?_
  rintro _ _ ⟨rfl, rfl⟩
  by_cases c7 : Int.tmod m.do_ 8 = 7 ∨ Int.tmod m.do_ 8 = -7
  · simp only [addr_add, load_eq, Nat.zero_add, Nat.add_zero, Nat.mul_one, Nat.one_mul, Nat.zero_mul, Nat.reduceAdd, List.setIfInBounds_toArray, List.set_cons_zero, List.set_cons_succ, List.getElem?_toArray, List.getElem?_cons_zero, List.getElem?_cons_succ, some_and, int_eq, bool_eq, str_eq, slc_eq, ptr_eq, nn_eq, M.val, cond_true, cond_false, Bool.not_true, Bool.not_false, c7, decide_true, cell_in hb]
    have fin : ∀ h3 D', Wd h0 h3 [diskC d D', refC r D', imgC ib img] → D'.W.length ≤ D.W.length → D'.N.length = D.N.length → (M.load h3 ⟨r, 2, none⟩ fun v144 => M.bool v144 fun b145 => disk_Disk_Dead (some ⟨d, 0, none⟩) h3 fun b146 h147 => M.still h3 ⟨r, 2, none⟩ 1 h147 (Q (b146 == b145) h147)) := by
      intro h3 D' w hl1 hl2
      have w0 := w
      obtain ⟨v, ⟨_, _⟩, w⟩ := w.opn 1 rfl
      have hr := w.blk 2 rfl
      simp only [addr_add, load_eq, Nat.zero_add, Nat.add_zero, Nat.mul_one, Nat.one_mul, Nat.zero_mul, Nat.reduceAdd, List.setIfInBounds_toArray, List.set_cons_zero, List.set_cons_succ, List.getElem?_toArray, List.getElem?_cons_zero, List.getElem?_cons_succ, some_and, int_eq, bool_eq, str_eq, slc_eq, ptr_eq, nn_eq, M.val, cond_true, cond_false, Bool.not_true, Bool.not_false, cell_in hr]
      obtain ⟨hx, k0, k1, wx, wr, _⟩ := w.on (i := 0) rfl
      refine Dead_spec wx ?_
      refine M.still_in hr hr ?_
      simp only [beq_self_eq_true]
      exact k _ _ _ w0 (by omega) hl2 fun h1 h2 => by omega
    refine M.jn ?_
    cases hd : m.die
    · simp only [cond_false]
      exact fin _ _ (w.drop (i := 3) rfl) (by omega) rfl
    · simp only [cond_true]
      obtain ⟨hx, k0, k1, wx, wr, back⟩ := w.on (i := 0) rfl
      refine Fail_spec wx fun h3 w1 => ?_
      have w := back _ _ w1
      obtain ⟨hx, k0, k1, wx, wr, back⟩ := w.on (i := 1) rfl
      refine rFail wx fun h4 w1 => ?_
      have w := back _ _ w1
      exact fin _ _ (w.drop (i := 3) rfl) (by simp [DiskM.fail]) rfl
  simp only [c7, decide_false, cond_false]
  simp only [addr_add, load_eq, Nat.zero_add, Nat.add_zero, Nat.mul_one, Nat.one_mul, Nat.zero_mul, Nat.reduceAdd, List.setIfInBounds_toArray, List.set_cons_zero, List.set_cons_succ, List.getElem?_toArray, List.getElem?_cons_zero, List.getElem?_cons_succ, some_and, int_eq, bool_eq, str_eq, slc_eq, ptr_eq, nn_eq, M.val, cond_true, cond_false, Bool.not_true, Bool.not_false, cell_in hb]
  refine bytes_spec fun h3 k3 => ?_
  have w := w.keeps k3
  have hb3 := w.blk 3 rfl
  refine M.still_in hb hb3 (M.still_in hb hb3 (M.still_in hb hb3 ?_))
  obtain ⟨hx, k0, k1, wx, wr, back⟩ := w.on (i := 0) rfl
  refine Write_spec wx (by omega) fun h4 w1 => ?_
  have w := back _ _ w1
  have hb4 := w.blk 3 rfl
  refine M.still_in hb hb4 (M.still_in hb hb4 ?_)
  refine bytes_spec fun h5 k5 => ?_
  have w := w.keeps k5
  have hb5 := w.blk 3 rfl
  refine M.still_in hb hb5 ?_
  obtain ⟨hx, k0, k1, wx, wr, back⟩ := w.on (i := 1) rfl
  refine rPut wx (by omega) fun h6 w1 => ?_
  have w := back _ _ w1
  simp only [beq_self_eq_true]
  have hl := D.write_len m.at_ (bytesZ m.data m.long)
  exact k _ _ _ (w.drop (i := 3) rfl) (by omega) hl.2.1 fun _ _ => hl.2.2
end
end Go.Proofs.Ytkfokpkpobjoeaa

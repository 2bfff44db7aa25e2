/- The program's disk, walked: what each function leaves. -/
import Derived.Test.YtkfokpkpobjoeaaShF
import Derived.Test.YtkfokpkpobjoeaaDkM
namespace Go.Proofs.Ytkfokpkpobjoeaa
open Go.Sh Go.RowKit
set_option linter.unusedSimpArgs false
set_option linter.unusedVariables false

/-- A disk of the program, at a block. -/
def diskC (d : Nat) (M : DiskM) : Chunk := Wd.obj (α := Nat × Nat × Option Addr × Nat × Nat) (fun v => M.Ok ∧ v.2.2.2.1 = M.W.length)
  fun v => [.blk d (.cells #[.slice (some ⟨v.1, 0, none⟩) M.N.length M.N.length, .slice (some ⟨v.2.1, 0, none⟩) M.N.length M.N.length, .slice v.2.2.1 v.2.2.2.1 v.2.2.2.2, .bool M.dead] 84 (0, 0)),
    .blk v.1 (.cells (strs M.L) 9 (0, 0)), .blk v.2.1 (.cells (strs M.N) 9 (0, 0)), .sl 86 2 v.2.2.1 v.2.2.2.1 v.2.2.2.2 (wr M.W)]
section
variable {h0 h : H} {d : Nat} {D : DiskM} {at_ : Int} {s : ByteArray}
theorem usable_spec {Q : Int → H → Prop} (w : Wd h0 h [diskC d D]) (k : Q (D.usable at_) h) : disk_Disk_usable (some ⟨d, 0, none⟩) at_ h Q := by
  obtain ⟨v, ⟨ok, hl⟩, w⟩ := w.opn 0 rfl
  have hd := w.blk 0 rfl
  unfold disk_Disk_usable
  unfold DiskM.usable at k
  simp only [addr_add, load_eq, Nat.zero_add, Nat.add_zero, Nat.mul_one, Nat.one_mul, Nat.zero_mul, Nat.reduceAdd, List.setIfInBounds_toArray, List.set_cons_zero, List.set_cons_succ, List.getElem?_toArray, List.getElem?_cons_zero, List.getElem?_cons_succ, some_and, int_eq, bool_eq, str_eq, slc_eq, ptr_eq, nn_eq, M.val, cond_true, cond_false, Bool.not_true, Bool.not_false, M.join, Option.isNone_some, cell_in hd]
  cases hdead : D.dead
  · simp only [hdead, Bool.false_eq_true, if_false] at k
    simp only [cond_false]
    by_cases h1 : at_ < 0
    · simpa [h1] using k
    · by_cases h2 : at_ ≥ D.N.length
      · simpa [h1, h2] using k
      · simpa [h1, h2] using k
  · simpa [hdead] using k
theorem usable_nil {Q : Int → H → Prop} (k : Q 1 h) : disk_Disk_usable none at_ h Q := k
theorem strs_size (l : List ByteArray) : (strs l).size = l.length := by simp [strs]
theorem strs_get (l : List ByteArray) (i : Nat) : (strs l)[i]? = (l[i]?).map Value.string := by simp [strs]
theorem strs_set (l : List ByteArray) (i : Nat) (s : ByteArray) : (strs l).setIfInBounds i (.string s) = strs (l.set i s) := by simp [strs]
theorem Write_spec {Q : Int → H → Prop} (w : Wd h0 h [diskC d D]) (hW : D.W.length < 1000000000) (k : ∀ h', Wd h0 h' [diskC d (D.write at_ s).2] → Q (D.write at_ s).1 h') : disk_Disk_Write (some ⟨d, 0, none⟩) at_ s h Q := by
  unfold disk_Disk_Write disk_Disk_Write.g
  refine usable_spec w ?_
  unfold DiskM.write at k
  by_cases hu : D.usable at_ = 0
  · have hu' := DiskM.usable_zero.1 hu
    simp only [hu, ne_eq, not_true, if_false] at k
    simp only [hu, bne_self_eq_false, cond_false]
    by_cases hs : (s.size : Int) > 2048
    · simp only [hs, if_true] at k
      simpa [hs] using k h w
    · simp only [hs, if_false] at k
      simp only [hs, decide_false, cond_false]
      obtain ⟨⟨bl, bn, a, l, c⟩, ⟨ok, hl⟩, w⟩ := w.opn 0 rfl
      simp only at hl
      subst hl
      have hd := w.blk 0 rfl
      simp only [addr_add, load_eq, Nat.zero_add, Nat.add_zero, Nat.mul_one, Nat.one_mul, Nat.zero_mul, Nat.reduceAdd, List.setIfInBounds_toArray, List.set_cons_zero, List.set_cons_succ, List.getElem?_toArray, List.getElem?_cons_zero, List.getElem?_cons_succ, some_and, int_eq, bool_eq, str_eq, slc_eq, ptr_eq, nn_eq, M.val, cond_true, cond_false, Bool.not_true, Bool.not_false, cell_in hd]
      refine M.idx_of hu'.2.1 (by simpa using hu'.2.2) ?_
      simp only [addr_add, load_eq, Nat.zero_add, Nat.add_zero, Nat.mul_one, Nat.one_mul, Nat.zero_mul, Nat.reduceAdd, List.setIfInBounds_toArray, List.set_cons_zero, List.set_cons_succ, List.getElem?_toArray, List.getElem?_cons_zero, List.getElem?_cons_succ, some_and, int_eq, bool_eq, str_eq, slc_eq, ptr_eq, nn_eq, M.val, cond_true, cond_false, Bool.not_true, Bool.not_false, cell_in hd]
      refine M.put_w w 2 rfl rfl (by rw [strs_size]; omega) fun h1 w => ?_
      rw [strs_set] at w
      have hd := w.blk 0 rfl
      simp only [addr_add, load_eq, Nat.zero_add, Nat.add_zero, Nat.mul_one, Nat.one_mul, Nat.zero_mul, Nat.reduceAdd, List.setIfInBounds_toArray, List.set_cons_zero, List.set_cons_succ, List.getElem?_toArray, List.getElem?_cons_zero, List.getElem?_cons_succ, some_and, int_eq, bool_eq, str_eq, slc_eq, ptr_eq, nn_eq, M.val, cond_true, cond_false, Bool.not_true, Bool.not_false, cell_in hd]
      refine M.new_t w fun b h2 hb w => ?_
      refine cellsOf_in hb rfl ?_
      refine M.app_w w 3 rfl rfl rfl (by simp [isPlainCell]) (by omega) (by omega) fun a' c' h3 w => ?_
      refine M.put_w w 0 rfl rfl (by simp) fun h4 w => ?_
      refine k h4 (w.close 0 (bl, bn, a', D.W.length + 1, c') ?_ ⟨?_, by simp⟩)
      · simp [wr_append, wr, strs]
      · have := DiskM.write_ok ok at_ s
        simpa only [DiskM.write, hu, ne_eq, not_true, if_false, hs] using this
  · simp only [hu, ne_eq, not_false_iff, if_true] at k
    have : (D.usable at_ != 0) = true := by simpa using hu
    simp only [this, cond_true]
    exact k h w
theorem Read_spec {Q : ByteArray → Int → H → Prop} (w : Wd h0 h [diskC d D]) (k : Q (D.read at_).1 (D.read at_).2 h) : disk_Disk_Read (some ⟨d, 0, none⟩) at_ h Q := by
  unfold disk_Disk_Read disk_Disk_Read.g
  refine usable_spec w ?_
  unfold DiskM.read at k
  by_cases hu : D.usable at_ = 0
  · have hu' := DiskM.usable_zero.1 hu
    simp only [hu, ne_eq, not_true, if_false] at k
    simp only [hu, bne_self_eq_false, cond_false]
    obtain ⟨⟨bl, bn, a, l, c⟩, ⟨ok, hl⟩, w⟩ := w.opn 0 rfl
    have hd := w.blk 0 rfl
    have hn := w.blk 2 rfl
    simp only [addr_add, load_eq, Nat.zero_add, Nat.add_zero, Nat.mul_one, Nat.one_mul, Nat.zero_mul, Nat.reduceAdd, List.setIfInBounds_toArray, List.set_cons_zero, List.set_cons_succ, List.getElem?_toArray, List.getElem?_cons_zero, List.getElem?_cons_succ, some_and, int_eq, bool_eq, str_eq, slc_eq, ptr_eq, nn_eq, M.val, cond_true, cond_false, Bool.not_true, Bool.not_false, cell_in hd]
    refine M.idx_of hu'.2.1 (by simpa using hu'.2.2) ?_
    have : at_.toNat < D.N.length := by omega
    simp only [addr_add, load_eq, Nat.zero_add, Nat.add_zero, Nat.mul_one, Nat.one_mul, Nat.zero_mul, Nat.reduceAdd, List.setIfInBounds_toArray, List.set_cons_zero, List.set_cons_succ, List.getElem?_toArray, List.getElem?_cons_zero, List.getElem?_cons_succ, some_and, int_eq, bool_eq, str_eq, slc_eq, ptr_eq, nn_eq, M.val, cond_true, cond_false, Bool.not_true, Bool.not_false, cell_in hn, strs_get, List.getElem?_eq_getElem this, Option.map_some]
    simpa [List.getD_eq_getElem?_getD, this] using k
  · simp only [hu, ne_eq, not_false_iff, if_true] at k
    have : (D.usable at_ != 0) = true := by simpa using hu
    simp only [this, cond_true]
    exact k
theorem strs_eq (l : List ByteArray) : (l.map Value.string).toArray = strs l := rfl
theorem strs_toList (l : List ByteArray) : (strs l).toList = l.map Value.string := by simp [strs]
theorem splice_strs {l l' : List ByteArray} (e : l'.length = l.length) : splice (strs l) 0 (l'.map Value.string) = strs l' := by
  rw [splice_all (by simp [strs_size, e])]; rfl
theorem Flush_spec {Q : Int → H → Prop} (w : Wd h0 h [diskC d D]) (k : ∀ h', Wd h0 h' [diskC d D.flush.2] → Q D.flush.1 h') : disk_Disk_Flush (some ⟨d, 0, none⟩) h Q := by
  unfold disk_Disk_Flush disk_Disk_Flush.g
  refine usable_spec w ?_
  unfold DiskM.flush at k
  cases hdead : D.dead
  · simp only [hdead, Bool.false_eq_true, if_false] at k
    obtain ⟨⟨bl, bn, a, l, c⟩, ⟨ok, hl⟩, w⟩ := w.opn 0 rfl
    have hu : D.usable 0 = 0 := DiskM.usable_zero.2 ⟨hdead, by omega, by have := ok.pos; omega⟩
    have hd := w.blk 0 rfl
    have hn := w.blk 2 rfl
    simp only [addr_add, load_eq, Nat.zero_add, Nat.add_zero, Nat.mul_one, Nat.one_mul, Nat.zero_mul, Nat.reduceAdd, List.setIfInBounds_toArray, List.set_cons_zero, List.set_cons_succ, List.getElem?_toArray, List.getElem?_cons_zero, List.getElem?_cons_succ, some_and, int_eq, bool_eq, str_eq, slc_eq, ptr_eq, nn_eq, M.val, cond_true, cond_false, Bool.not_true, Bool.not_false, hu, bne_self_eq_false, cell_in hd, Nat.min_self]
    refine cellsOf_in hn (strs_size _) ?_
    refine M.copy_w w 1 rfl (by simp [strs_toList, isPlainCell]) (by simp [strs_toList, strs_size, ok.len]) fun h1 w => ?_
    rw [strs_toList, splice_strs ok.len.symm] at w
    have hd := w.blk 0 rfl
    refine M.put_w w 0 rfl rfl (by simp) fun h2 w => ?_
    have w := (w.drop (i := 3) rfl).nilsl 86 2
    refine k h2 (w.close 0 (bl, bn, none, 0, 0) (by simp [hdead, wr]) ⟨?_, rfl⟩)
    have := DiskM.flush_ok ok
    simpa only [DiskM.flush, hdead, Bool.false_eq_true, if_false] using this
  · have hu : D.usable 0 = 20 := by simp [DiskM.usable, hdead]
    simp only [hdead, if_true] at k
    simp only [hu]
    exact k h w
theorem Size_spec {Q : Int → H → Prop} (w : Wd h0 h [diskC d D]) (k : Q D.N.length h) : disk_Disk_Size (some ⟨d, 0, none⟩) h Q := by
  obtain ⟨⟨bl, bn, a, l, c⟩, ⟨ok, hl⟩, w⟩ := w.opn 0 rfl
  have hd := w.blk 0 rfl
  unfold disk_Disk_Size
  simp only [addr_add, load_eq, Nat.zero_add, Nat.add_zero, Nat.mul_one, Nat.one_mul, Nat.zero_mul, Nat.reduceAdd, List.setIfInBounds_toArray, List.set_cons_zero, List.set_cons_succ, List.getElem?_toArray, List.getElem?_cons_zero, List.getElem?_cons_succ, some_and, int_eq, bool_eq, str_eq, slc_eq, ptr_eq, nn_eq, M.val, cond_true, cond_false, Bool.not_true, Bool.not_false, Option.isNone_some, cell_in hd]
  exact k
theorem Waiting_spec {Q : Int → H → Prop} (w : Wd h0 h [diskC d D]) (k : Q D.W.length h) : disk_Disk_Waiting (some ⟨d, 0, none⟩) h Q := by
  obtain ⟨⟨bl, bn, a, l, c⟩, ⟨ok, hl⟩, w⟩ := w.opn 0 rfl
  have hd := w.blk 0 rfl
  unfold disk_Disk_Waiting
  simp only [addr_add, load_eq, Nat.zero_add, Nat.add_zero, Nat.mul_one, Nat.one_mul, Nat.zero_mul, Nat.reduceAdd, List.setIfInBounds_toArray, List.set_cons_zero, List.set_cons_succ, List.getElem?_toArray, List.getElem?_cons_zero, List.getElem?_cons_succ, some_and, int_eq, bool_eq, str_eq, slc_eq, ptr_eq, nn_eq, M.val, cond_true, cond_false, Bool.not_true, Bool.not_false, Option.isNone_some, cell_in hd]
  simp only at hl
  rw [hl]; exact k
theorem Dead_spec {Q : Bool → H → Prop} (w : Wd h0 h [diskC d D]) (k : Q D.dead h) : disk_Disk_Dead (some ⟨d, 0, none⟩) h Q := by
  obtain ⟨⟨bl, bn, a, l, c⟩, ⟨ok, hl⟩, w⟩ := w.opn 0 rfl
  have hd := w.blk 0 rfl
  unfold disk_Disk_Dead
  simp only [addr_add, load_eq, Nat.zero_add, Nat.add_zero, Nat.mul_one, Nat.one_mul, Nat.zero_mul, Nat.reduceAdd, List.setIfInBounds_toArray, List.set_cons_zero, List.set_cons_succ, List.getElem?_toArray, List.getElem?_cons_zero, List.getElem?_cons_succ, some_and, int_eq, bool_eq, str_eq, slc_eq, ptr_eq, nn_eq, M.val, cond_true, cond_false, Bool.not_true, Bool.not_false, M.join, Option.isNone_some, cell_in hd]
  exact k
theorem Fail_spec {Q : H → Prop} (w : Wd h0 h [diskC d D]) (k : ∀ h', Wd h0 h' [diskC d D.fail] → Q h') : disk_Disk_Fail (some ⟨d, 0, none⟩) h Q := by
  obtain ⟨⟨bl, bn, a, l, c⟩, ⟨ok, hl⟩, w⟩ := w.opn 0 rfl
  unfold disk_Disk_Fail
  simp only [addr_add, load_eq, Nat.zero_add, Nat.add_zero, Nat.mul_one, Nat.one_mul, Nat.zero_mul, Nat.reduceAdd, List.setIfInBounds_toArray, List.set_cons_zero, List.set_cons_succ, List.getElem?_toArray, List.getElem?_cons_zero, List.getElem?_cons_succ, some_and, int_eq, bool_eq, str_eq, slc_eq, ptr_eq, nn_eq, M.val, cond_true, cond_false, Bool.not_true, Bool.not_false, Option.isNone_some]
  refine M.put_w w 0 rfl rfl (by simp) fun h1 w => ?_
  refine M.put_w w 0 rfl rfl (by simp) fun h2 w => ?_
  have w := (w.drop (i := 3) rfl).nilsl 86 2
  exact k h2 (w.close 0 (bl, bn, none, 0, 0) rfl ⟨DiskM.fail_ok ok, rfl⟩)
theorem Clone_spec {Q : Option Addr → Nat → Nat → H → Prop} {b : Addr} {l c : Nat} {xs : List ByteArray} (hl : xs.length = l) (hr : Sh.rowAt h b (xs.map Value.string))
    (hmax : l ≤ 1000000000) (k : ∀ a' c' h', Wd h h' [.sl 9 1 a' l c' (xs.map Value.string)] → Q a' l c' h') : slices_Clonestring_string (some b) l c h Q := by
  unfold slices_Clonestring_string
  simp only [addr_add, load_eq, Nat.zero_add, Nat.add_zero, Nat.mul_one, Nat.one_mul, Nat.zero_mul, Nat.reduceAdd, List.setIfInBounds_toArray, List.set_cons_zero, List.set_cons_succ, List.getElem?_toArray, List.getElem?_cons_zero, List.getElem?_cons_succ, some_and, int_eq, bool_eq, str_eq, slc_eq, ptr_eq, nn_eq, M.val, cond_true, cond_false, Bool.not_true, Bool.not_false, Option.isNone_some]
  refine M.new_w (Wd.start h) fun b1 h1 w => ?_
  have w := w.blkSl (i := 0) (size := 1) rfl
  refine M.cellsOf_row (xs := xs.map Value.string) (by simpa using hl) (fun e => by simp at e) (fun b' e => ?_) ?_
  · simp only [Option.some.injEq] at e
    subst e
    exact w.keep.row hr
  · refine M.app_w w 0 rfl rfl (by simpa using hl) (by simp [isPlainCell]) (by omega) (by omega) fun a' c' h' w => ?_
    simpa using k a' c' h' (by simpa using w)
theorem Image_spec {Q : Option Addr → Nat → Nat → H → Prop} (w : Wd h0 h [diskC d D]) (k : ∀ a' c' h', Wd h h' [.sl 9 1 a' D.image.length c' (D.image.map Value.string)] → Q a' D.image.length c' h') : disk_Disk_Image (some ⟨d, 0, none⟩) h Q := by
  unfold disk_Disk_Image disk_Disk_Image.g
  refine usable_spec w ?_
  unfold DiskM.image at k
  cases hdead : D.dead
  · simp only [hdead, Bool.false_eq_true, if_false] at k
    obtain ⟨⟨bl, bn, a, l, c⟩, ⟨ok, hl⟩, w⟩ := w.opn 0 rfl
    have hu : D.usable 0 = 0 := DiskM.usable_zero.2 ⟨hdead, by omega, by have := ok.pos; omega⟩
    have hd := w.blk 0 rfl
    have hn := w.blk 2 rfl
    simp only [addr_add, load_eq, Nat.zero_add, Nat.add_zero, Nat.mul_one, Nat.one_mul, Nat.zero_mul, Nat.reduceAdd, List.setIfInBounds_toArray, List.set_cons_zero, List.set_cons_succ, List.getElem?_toArray, List.getElem?_cons_zero, List.getElem?_cons_succ, some_and, int_eq, bool_eq, str_eq, slc_eq, ptr_eq, nn_eq, M.val, cond_true, cond_false, Bool.not_true, Bool.not_false, hu, bne_self_eq_false, cell_in hd]
    refine Clone_spec (xs := D.N) rfl (fun i hi => ?_) (by have := ok.small; omega) k
    simp only [addr_add, load_eq, Nat.zero_add, Nat.add_zero, Nat.mul_one, Nat.one_mul, Nat.zero_mul, Nat.reduceAdd, List.setIfInBounds_toArray, List.set_cons_zero, List.set_cons_succ, List.getElem?_toArray, List.getElem?_cons_zero, List.getElem?_cons_succ, some_and, int_eq, bool_eq, str_eq, slc_eq, ptr_eq, nn_eq, M.val, cond_true, cond_false, Bool.not_true, Bool.not_false, cell_in hn, strs]
  · have hu : D.usable 0 = 20 := by simp [DiskM.usable, hdead]
    simp only [hdead, if_true] at k
    simp only [hu]
    exact k none 0 h ((Wd.start h).nilsl _ _)
theorem Restore_spec {Q : H → Prop} {ia : Option Addr} {il ic : Nat} {img : List ByteArray} (w : Wd h0 h [diskC d D]) (hl : img.length = il) (h0i : ia = none → il = 0) (hr : ∀ b, ia = some b → Sh.rowAt h0 b (img.map Value.string))
    (k : ∀ h', Wd h0 h' [diskC d (D.restore img)] → Q h') : disk_Disk_Restore (some ⟨d, 0, none⟩) ia il ic h Q := by
  unfold disk_Disk_Restore disk_Disk_Restore.g
  refine usable_spec w ?_
  unfold DiskM.restore at k
  cases hdead : D.dead
  · simp only [hdead, Bool.false_eq_true, if_false] at k
    obtain ⟨⟨bl, bn, a, l, c⟩, ⟨ok, hlw⟩, w⟩ := w.opn 0 rfl
    have hu : D.usable 0 = 0 := DiskM.usable_zero.2 ⟨hdead, by omega, by have := ok.pos; omega⟩
    have hd := w.blk 0 rfl
    have hlen := DiskM.ofImage_length D.N.length img
    simp only [addr_add, load_eq, Nat.zero_add, Nat.add_zero, Nat.mul_one, Nat.one_mul, Nat.zero_mul, Nat.reduceAdd, List.setIfInBounds_toArray, List.set_cons_zero, List.set_cons_succ, List.getElem?_toArray, List.getElem?_cons_zero, List.getElem?_cons_succ, some_and, int_eq, bool_eq, str_eq, slc_eq, ptr_eq, nn_eq, M.val, cond_true, cond_false, Bool.not_true, Bool.not_false, hu, bne_self_eq_false, cell_in hd]
    refine M.jn ?_
    have hs : ∀ (i : Nat) (l : List ByteArray), i < l.length → l.length = D.N.length → (((DiskM.ofImage D.N.length img).take i ++ l.drop i).set i ((DiskM.ofImage D.N.length img).getD i ByteArray.empty)) = (DiskM.ofImage D.N.length img).take (i + 1) ++ l.drop (i + 1) := by
      intro i l hi hll
      apply List.ext_getElem?
      intro x
      rw [List.getElem?_set]
      by_cases hx : i = x
      · subst hx
        rw [if_pos rfl, if_pos (by simp; omega), List.getElem?_append_left (by simp; omega), List.getElem?_take, if_pos (by omega), List.getD_eq_getElem?_getD, List.getElem?_eq_getElem (by omega)]; rfl
      · rw [if_neg hx]
        by_cases h1 : x < i
        · rw [List.getElem?_append_left (by simp; omega), List.getElem?_append_left (by simp; omega), List.getElem?_take, List.getElem?_take, if_pos h1, if_pos (by omega)]
        · rw [List.getElem?_append_right (by simp; omega), List.getElem?_append_right (by simp; omega)]
          simp only [List.length_take, hlen, List.getElem?_drop]
          congr 1; omega
    refine M.loop_of (I := fun (i : Int) h' => 0 ≤ i ∧ i ≤ D.N.length ∧ Wd h0 h' [.blk d (.cells #[.slice (some ⟨bl, 0, none⟩) D.N.length D.N.length, .slice (some ⟨bn, 0, none⟩) D.N.length D.N.length, .slice a l c, .bool false] 84 (0, 0)),
        .blk bl (.cells (strs ((DiskM.ofImage D.N.length img).take i.toNat ++ D.L.drop i.toNat)) 9 (0, 0)), .blk bn (.cells (strs ((DiskM.ofImage D.N.length img).take i.toNat ++ D.N.drop i.toNat)) 9 (0, 0)), .sl 86 2 a l c (wr D.W)]) (μ := fun i => (D.N.length - i).toNat)
      ⟨by omega, by omega, by simpa [hdead] using w⟩ ?_
    intro i h1 J ⟨hi0, hi1, w⟩ hJ
    have hd := w.blk 0 rfl
    have hsm := ok.small
    have hw1 : IntKind.wrap .i64 (i + 1) = i + 1 := by rw [IntKind.wrap_i64]; omega
    have hnext : (i + 1).toNat = i.toNat + 1 := by omega
    by_cases hlt : i < D.N.length
    · have hlt' : i.toNat < D.N.length := by omega
      have hg : (DiskM.ofImage D.N.length img).getD i.toNat ByteArray.empty = if i.toNat < img.length ∧ ((img.getD i.toNat ByteArray.empty).size : Int) ≤ 2048 then img.getD i.toNat ByteArray.empty else ByteArray.empty := by
        rw [List.getD_eq_getElem?_getD]
        simp [DiskM.ofImage, hlt']
      simp only [hlt, decide_true, cond_true]
      refine M.join_of (fun s h' => s = (DiskM.ofImage D.N.length img).getD i.toNat ByteArray.empty ∧ h' = h1) (fun J2 hJ2 => ?_) ?_
      · refine M.jn ?_
        by_cases hi2 : i < il
        · have hi3 : i.toNat < img.length := by omega
          cases ia with
          | none => have := h0i rfl; omega
          | some ib =>
            have ck : h1.cell (ib.add i.toNat) = some (.string img[i.toNat]) := w.keep.cell (by rw [hr ib rfl _ (by simpa using hi3)]; simp [hi3])
            have hgd : img.getD i.toNat ByteArray.empty = img[i.toNat] := by simp [List.getD_eq_getElem?_getD, hi3]
            simp only [hi2, decide_true, cond_true]
            refine M.idx_of hi0 hi2 ?_
            simp only [addr_add, load_eq, Nat.zero_add, Nat.add_zero, Nat.mul_one, Nat.one_mul, Nat.zero_mul, Nat.reduceAdd, List.setIfInBounds_toArray, List.set_cons_zero, List.set_cons_succ, List.getElem?_toArray, List.getElem?_cons_zero, List.getElem?_cons_succ, some_and, int_eq, bool_eq, str_eq, slc_eq, ptr_eq, nn_eq, M.val, cond_true, cond_false, Bool.not_true, Bool.not_false, ck]
            simp only [hgd, hi3, true_and] at hg
            by_cases hsz : (img[i.toNat].size : Int) ≤ 2048
            · simp only [hsz, if_true] at hg
              simp only [hsz, decide_true, cond_true]
              refine M.idx_of hi0 hi2 ?_
              simp only [addr_add, load_eq, Nat.zero_add, Nat.add_zero, Nat.mul_one, Nat.one_mul, Nat.zero_mul, Nat.reduceAdd, List.setIfInBounds_toArray, List.set_cons_zero, List.set_cons_succ, List.getElem?_toArray, List.getElem?_cons_zero, List.getElem?_cons_succ, some_and, int_eq, bool_eq, str_eq, slc_eq, ptr_eq, nn_eq, M.val, cond_true, cond_false, Bool.not_true, Bool.not_false, ck]
              exact hJ2 _ _ ⟨hg.symm, rfl⟩
            · simp only [hsz, if_false] at hg
              simp only [hsz, decide_false, cond_false]
              exact hJ2 _ _ ⟨hg.symm, rfl⟩
        · have hi3 : ¬ i.toNat < img.length := by omega
          simp only [hi3, false_and, if_false] at hg
          simp only [hi2, decide_false, cond_false]
          exact hJ2 _ _ ⟨hg.symm, rfl⟩
      · rintro s h2 ⟨rfl, rfl⟩
        simp only [addr_add, load_eq, Nat.zero_add, Nat.add_zero, Nat.mul_one, Nat.one_mul, Nat.zero_mul, Nat.reduceAdd, List.setIfInBounds_toArray, List.set_cons_zero, List.set_cons_succ, List.getElem?_toArray, List.getElem?_cons_zero, List.getElem?_cons_succ, some_and, int_eq, bool_eq, str_eq, slc_eq, ptr_eq, nn_eq, M.val, cond_true, cond_false, Bool.not_true, Bool.not_false, cell_in hd]
        refine M.idx_of hi0 hlt ?_
        simp only [addr_add, load_eq, Nat.zero_add, Nat.add_zero, Nat.mul_one, Nat.one_mul, Nat.zero_mul, Nat.reduceAdd, List.setIfInBounds_toArray, List.set_cons_zero, List.set_cons_succ, List.getElem?_toArray, List.getElem?_cons_zero, List.getElem?_cons_succ, some_and, int_eq, bool_eq, str_eq, slc_eq, ptr_eq, nn_eq, M.val, cond_true, cond_false, Bool.not_true, Bool.not_false]
        refine M.put_w w 1 rfl rfl (by rw [strs_size]; simp [hlen, ok.len]; omega) fun h3 w => ?_
        refine M.idx_of hi0 hlt ?_
        simp only [addr_add, load_eq, Nat.zero_add, Nat.add_zero, Nat.mul_one, Nat.one_mul, Nat.zero_mul, Nat.reduceAdd, List.setIfInBounds_toArray, List.set_cons_zero, List.set_cons_succ, List.getElem?_toArray, List.getElem?_cons_zero, List.getElem?_cons_succ, some_and, int_eq, bool_eq, str_eq, slc_eq, ptr_eq, nn_eq, M.val, cond_true, cond_false, Bool.not_true, Bool.not_false, hw1]
        refine M.put_w w 2 rfl rfl (by rw [strs_size]; simp [hlen]; omega) fun h4 w => ?_
        rw [strs_set, strs_set, hs _ _ (by rw [ok.len]; omega) ok.len, hs _ _ hlt' rfl] at w
        exact hJ _ _ ⟨by omega, by omega, by rw [hnext]; exact w⟩ (by omega)
    · simp only [hlt, decide_false, cond_false]
      have hi : i.toNat = D.N.length := by omega
      rw [hi] at w
      rw [List.take_of_length_le (by omega), List.drop_eq_nil_of_le (by rw [ok.len]; omega), List.append_nil, List.drop_length, List.append_nil] at w
      refine M.put_w w 0 rfl rfl (by simp) fun h2 w => ?_
      have w := (w.drop (i := 3) rfl).nilsl 86 2
      refine k h2 (w.close 0 (bl, bn, none, 0, 0) (by simp [hlen, hdead, wr]) ⟨?_, rfl⟩)
      have := DiskM.restore_ok ok img
      simpa only [DiskM.restore, hdead, Bool.false_eq_true, if_false] using this
  · have hu : D.usable 0 = 20 := by simp [DiskM.usable, hdead]
    simp only [hdead, if_true] at k
    simp only [hu]
    exact k h w
/-- What was lost and what kept: the loop. -/
theorem Crash_spec {Q : H → Prop} {ka : Option Addr} {kl kc : Nat} {kept : List Bool} (w : Wd h0 h [diskC d D]) (hW : D.W.length < 1000000000) (hk : kept.length = kl) (h0k : ka = none → kl = 0) (hr : ∀ b, ka = some b → Sh.rowAt h0 b (kept.map Value.bool))
    (k : ∀ h', Wd h0 h' [diskC d (D.crash kept)] → Q h') : disk_Disk_Crash (some ⟨d, 0, none⟩) ka kl kc h Q := by
  unfold disk_Disk_Crash disk_Disk_Crash.g
  refine usable_spec w ?_
  unfold DiskM.crash at k
  cases hdead : D.dead
  · simp only [hdead, Bool.false_eq_true, if_false] at k
    have w0 := w
    obtain ⟨⟨bl, bn, a, l, c⟩, ⟨ok, hl⟩, w⟩ := w.opn 0 rfl
    simp only at hl
    subst hl
    have hu : D.usable 0 = 0 := DiskM.usable_zero.2 ⟨hdead, by omega, by have := ok.pos; omega⟩
    have hd := w.blk 0 rfl
    simp only [addr_add, load_eq, Nat.zero_add, Nat.add_zero, Nat.mul_one, Nat.one_mul, Nat.zero_mul, Nat.reduceAdd, List.setIfInBounds_toArray, List.set_cons_zero, List.set_cons_succ, List.getElem?_toArray, List.getElem?_cons_zero, List.getElem?_cons_succ, some_and, int_eq, bool_eq, str_eq, slc_eq, ptr_eq, nn_eq, M.val, cond_true, cond_false, Bool.not_true, Bool.not_false, M.join, hu, bne_self_eq_false, cell_in hd]
    refine M.loop_of (I := fun (i : Int) h' => 0 ≤ i ∧ i ≤ D.W.length ∧ ∃ L', L'.length = D.N.length ∧ DiskM.crashL (D.W.drop i.toNat) (kept.drop i.toNat) L' = DiskM.crashL D.W kept D.L ∧ Wd h0 h' [.blk d (.cells #[.slice (some ⟨bl, 0, none⟩) D.N.length D.N.length, .slice (some ⟨bn, 0, none⟩) D.N.length D.N.length, .slice a D.W.length c, .bool false] 84 (0, 0)),
        .blk bl (.cells (strs L') 9 (0, 0)), .blk bn (.cells (strs D.N) 9 (0, 0)), .sl 86 2 a D.W.length c (wr D.W)]) (μ := fun i => (D.W.length - i).toNat)
      ⟨by omega, by omega, D.L, ok.len, rfl, by simpa [hdead] using w⟩ ?_
    intro i h1 J ⟨hi0, hi1, L', hL', hcr, w⟩ hJ
    have hd := w.blk 0 rfl
    by_cases hlt : i < D.W.length
    · have hlt' : i.toNat < D.W.length := by omega
      simp only [hlt, decide_true, cond_true]
      obtain ⟨hsl, _, hsn, hsr⟩ := w.slrow 3 rfl
      cases a with
      | none => have := (hsn rfl).2; omega
      | some ab =>
        have hrow := hsr ab rfl
        have hg := wr_get D.W i.toNat D.W[i.toNat] (List.getElem?_eq_getElem hlt')
        have hin := ok.at_ D.W[i.toNat] (List.getElem_mem _)
        have hlen := wr_length D.W
        have c0 : h1.cell (ab.add (i.toNat * 2)) = some (.int .i64 D.W[i.toNat].1) := by rw [hrow _ (by omega)]; exact hg.1
        have c1 : h1.cell (ab.add (i.toNat * 2 + 1)) = some (.string D.W[i.toNat].2) := by rw [hrow _ (by omega)]; exact hg.2
        refine M.idx_of hi0 hlt ?_
        simp only [addr_add, load_eq, Nat.zero_add, Nat.add_zero, Nat.mul_one, Nat.one_mul, Nat.zero_mul, Nat.reduceAdd, List.setIfInBounds_toArray, List.set_cons_zero, List.set_cons_succ, List.getElem?_toArray, List.getElem?_cons_zero, List.getElem?_cons_succ, some_and, int_eq, bool_eq, str_eq, slc_eq, ptr_eq, nn_eq, M.val, cond_true, cond_false, Bool.not_true, Bool.not_false, add2, c0, c1]
        refine M.new_w w fun b h2 w => ⟨rfl, ?_⟩
        refine M.puts_w0 w 4 rfl (by simp [isPlainCell]) rfl fun h3 w => ?_
        have fin : ∀ (kb : Bool), (kept.drop i.toNat = kb :: kept.drop (i.toNat + 1)) ∨ (kb = false ∧ kept.drop i.toNat = []) → True := fun _ _ => trivial
        have hd := w.blk 0 rfl
        have ht := w.blk 4 rfl
        have hw1 : IntKind.wrap .i64 (i + 1) = i + 1 := by rw [IntKind.wrap_i64]; omega
        have hdrop : D.W.drop i.toNat = D.W[i.toNat] :: D.W.drop (i.toNat + 1) := List.drop_eq_getElem_cons hlt'
        have hnext : (i + 1).toNat = i.toNat + 1 := by omega
        by_cases hk1 : i < kl
        · have hk1' : i.toNat < kept.length := by omega
          have hkd : kept.drop i.toNat = kept[i.toNat] :: kept.drop (i.toNat + 1) := List.drop_eq_getElem_cons hk1'
          simp only [hk1, decide_true, cond_true]
          cases ka with
          | none => have := h0k rfl; omega
          | some kb =>
            refine M.idx_of hi0 hk1 ?_
            have ck : h3.cell (kb.add i.toNat) = some (.bool kept[i.toNat]) := w.keep.cell (by rw [hr kb rfl _ (by simpa using hk1')]; simp [hk1'])
            simp only [addr_add, load_eq, Nat.zero_add, Nat.add_zero, Nat.mul_one, Nat.one_mul, Nat.zero_mul, Nat.reduceAdd, List.setIfInBounds_toArray, List.set_cons_zero, List.set_cons_succ, List.getElem?_toArray, List.getElem?_cons_zero, List.getElem?_cons_succ, some_and, int_eq, bool_eq, str_eq, slc_eq, ptr_eq, nn_eq, M.val, cond_true, cond_false, Bool.not_true, Bool.not_false, ck]
            rw [hdrop, hkd] at hcr
            simp only [DiskM.crashL] at hcr
            cases hkv : kept[i.toNat]
            · simp only [hkv, Bool.false_eq_true, if_false] at hcr
              simp only [cond_false, hw1]
              exact hJ _ _ ⟨by omega, by omega, L', hL', by rw [hnext]; exact hcr, w.drop (i := 4) rfl⟩ (by omega)
            · simp only [hkv, if_true] at hcr
              simp only [addr_add, load_eq, Nat.zero_add, Nat.add_zero, Nat.mul_one, Nat.one_mul, Nat.zero_mul, Nat.reduceAdd, List.setIfInBounds_toArray, List.set_cons_zero, List.set_cons_succ, List.getElem?_toArray, List.getElem?_cons_zero, List.getElem?_cons_succ, some_and, int_eq, bool_eq, str_eq, slc_eq, ptr_eq, nn_eq, M.val, cond_true, cond_false, Bool.not_true, Bool.not_false, cell_in hd, cell_in ht]
              refine M.idx_of hin.1 hin.2 ?_
              simp only [addr_add, load_eq, Nat.zero_add, Nat.add_zero, Nat.mul_one, Nat.one_mul, Nat.zero_mul, Nat.reduceAdd, List.setIfInBounds_toArray, List.set_cons_zero, List.set_cons_succ, List.getElem?_toArray, List.getElem?_cons_zero, List.getElem?_cons_succ, some_and, int_eq, bool_eq, str_eq, slc_eq, ptr_eq, nn_eq, M.val, cond_true, cond_false, Bool.not_true, Bool.not_false]
              refine M.put_w w 1 rfl rfl (by rw [strs_size]; omega) fun h4 w => ?_
              rw [strs_set] at w
              simp only [hw1]
              exact hJ _ _ ⟨by omega, by omega, _, by simpa using hL', by rw [hnext]; exact hcr, w.drop (i := 4) rfl⟩ (by omega)
        · have hkd : kept.drop i.toNat = [] := List.drop_eq_nil_of_le (by omega)
          have hkd2 : kept.drop (i.toNat + 1) = [] := List.drop_eq_nil_of_le (by omega)
          simp only [hk1, decide_false, cond_false, hw1]
          refine hJ _ _ ⟨by omega, by omega, L', hL', ?_, w.drop (i := 4) rfl⟩ (by omega)
          rw [hnext, hkd2, ← hcr, hkd]
          cases D.W.drop (i.toNat + 1) <;> cases D.W.drop i.toNat <;> rfl
    · simp only [hlt, decide_false, cond_false]
      have hi : i.toNat = D.W.length := by omega
      rw [hi, List.drop_length] at hcr
      have hcr' : L' = DiskM.crashL D.W kept D.L := by rw [← hcr]; cases kept.drop D.W.length <;> rfl
      have hl := w.blk 1 rfl
      simp only [addr_add, load_eq, Nat.zero_add, Nat.add_zero, Nat.mul_one, Nat.one_mul, Nat.zero_mul, Nat.reduceAdd, List.setIfInBounds_toArray, List.set_cons_zero, List.set_cons_succ, List.getElem?_toArray, List.getElem?_cons_zero, List.getElem?_cons_succ, some_and, int_eq, bool_eq, str_eq, slc_eq, ptr_eq, nn_eq, M.val, cond_true, cond_false, Bool.not_true, Bool.not_false, cell_in hd, Nat.min_self]
      refine cellsOf_in hl (by rw [strs_size, hL']) ?_
      refine M.copy_w w 2 rfl (by simp [strs_toList, isPlainCell]) (by simp [strs_toList, strs_size, hL']) fun h1 w => ?_
      rw [strs_toList, splice_strs hL'] at w
      refine M.put_w w 0 rfl rfl (by simp) fun h2 w => ?_
      have w := (w.drop (i := 3) rfl).nilsl 86 2
      have hlen : (DiskM.crashL D.W kept D.L).length = D.N.length := by rw [DiskM.crashL_length, ok.len]
      refine k h2 (w.close 0 (bl, bn, none, 0, 0) ?_ ⟨?_, rfl⟩)
      · subst hcr'
        simp [hlen, hdead, wr]
      · have := DiskM.crash_ok ok kept
        simpa only [DiskM.crash, hdead, Bool.false_eq_true, if_false] using this
  · have hu : D.usable 0 = 20 := by simp [DiskM.usable, hdead]
    simp only [hdead, if_true] at k
    simp only [hu]
    exact k h w
end
end Go.Proofs.Ytkfokpkpobjoeaa

/- The document's disk, walked, 2. -/
import Derived.Test.YtkfokpkpobjoeaaDkR
namespace Go.Proofs.Ytkfokpkpobjoeaa
open Go.Sh Go.RowKit
set_option linter.unusedSimpArgs false
set_option linter.unusedVariables false
section
variable {h0 h : H} {d : Nat} {D : DiskM} {at_ : Int} {s : ByteArray}
theorem rTamper {Q : Bool → H → Prop} (w : Wd h0 h [refC d D]) (hW : D.W.length < 1000000000) (k : ∀ h', Wd h0 h' [refC d (D.tamper at_ s).2] → Q (D.tamper at_ s).1 h') : ref09_Tamper (some ⟨d, 0, none⟩) at_ s h Q := by
  have w0 := w
  obtain ⟨⟨bl, a, l, c⟩, ⟨⟨ok, sy⟩, hl⟩, w⟩ := w.opn 0 rfl
  simp only at hl
  subst hl
  have hd := w.blk 0 rfl
  unfold ref09_Tamper
  have t1 := DiskM.tamper_ok ok at_ s
  have t2 := DiskM.tamper_sync ok sy at_ s
  unfold DiskM.tamper at k t1 t2
  refine M.join_of (fun b h' => b = decide (D.usable at_ ≠ 0 ∨ (s.size : Int) > 2048) ∧ h' = h) (fun J hJ => ?_) ?_
  · simp only [addr_add, load_eq, Nat.zero_add, Nat.add_zero, Nat.mul_one, Nat.one_mul, Nat.zero_mul, Nat.reduceAdd, List.setIfInBounds_toArray, List.set_cons_zero, List.set_cons_succ, List.getElem?_toArray, List.getElem?_cons_zero, List.getElem?_cons_succ, some_and, int_eq, bool_eq, str_eq, slc_eq, ptr_eq, nn_eq, M.val, cond_true, cond_false, Bool.not_true, Bool.not_false, cell_in hd]
    cases hdead : D.dead
    · simp only [cond_false]
      by_cases h1 : at_ < 0
      · have : D.usable at_ = 2 := by simp [DiskM.usable, hdead, h1]
        simp only [h1, decide_true, cond_true]
        exact hJ _ _ ⟨by simp [this], rfl⟩
      · simp only [addr_add, load_eq, Nat.zero_add, Nat.add_zero, Nat.mul_one, Nat.one_mul, Nat.zero_mul, Nat.reduceAdd, List.setIfInBounds_toArray, List.set_cons_zero, List.set_cons_succ, List.getElem?_toArray, List.getElem?_cons_zero, List.getElem?_cons_succ, some_and, int_eq, bool_eq, str_eq, slc_eq, ptr_eq, nn_eq, M.val, cond_true, cond_false, Bool.not_true, Bool.not_false, h1, decide_false, cell_in hd]
        by_cases h2 : at_ ≥ D.L.length
        · have : D.usable at_ = 2 := by rw [ok.len] at h2; simp [DiskM.usable, hdead, h2]
          simp only [h2, decide_true, cond_true]
          exact hJ _ _ ⟨by simp [this], rfl⟩
        · have : D.usable at_ = 0 := DiskM.usable_zero.2 ⟨hdead, by omega, by rw [← ok.len]; omega⟩
          simp only [h2, decide_false, cond_false]
          exact hJ _ _ ⟨by simp [this], rfl⟩
    · have : D.usable at_ = 20 := by simp [DiskM.usable, hdead]
      simp only [cond_true]
      exact hJ _ _ ⟨by simp [this], rfl⟩
  · rintro b h' ⟨rfl, rfl⟩
    by_cases hc : D.usable at_ ≠ 0 ∨ (s.size : Int) > 2048
    · simp only [hc, if_true] at k
      simp only [hc, decide_true, cond_true]
      exact k _ w0
    · simp only [hc, if_false] at k t1 t2
      have hu : D.usable at_ = 0 := Decidable.not_not.1 fun e => hc (.inl e)
      have hu' := DiskM.usable_zero.1 hu
      simp only [hc, decide_false, cond_false]
      refine M.jn ?_
      have w := w.nilsl 107 2
      refine M.loop_of (I := fun (p : (Option Addr × Nat × Nat) × Int) h2 => 0 ≤ p.2 ∧ p.2 ≤ D.W.length ∧ p.1.2.1 = ((D.W.take p.2.toNat).filter fun w => w.1 ≠ at_).length ∧
        Wd h0 h2 [.blk d (.cells #[.slice (some ⟨bl, 0, none⟩) D.L.length D.L.length, .slice a D.W.length c, .bool D.dead] 49 (0, 0)), .blk bl (.cells (strs D.L) 9 (0, 0)), .sl 107 2 a D.W.length c (wr D.W),
          .sl 107 2 p.1.1 p.1.2.1 p.1.2.2 (wr ((D.W.take p.2.toNat).filter fun w => w.1 ≠ at_))]) (μ := fun p => (D.W.length - p.2).toNat) ⟨by simp, by simp, by simp, by simpa [wr] using w⟩ ?_
      rintro ⟨⟨a', l', c'⟩, i⟩ h2 J ⟨hi0, hi1, hl', w⟩ hJ
      simp only at hi0 hi1 hl'
      have hd := w.blk 0 rfl
      obtain ⟨_, _, hsn, hsr⟩ := w.slrow 2 rfl
      simp only [addr_add, load_eq, Nat.zero_add, Nat.add_zero, Nat.mul_one, Nat.one_mul, Nat.zero_mul, Nat.reduceAdd, List.setIfInBounds_toArray, List.set_cons_zero, List.set_cons_succ, List.getElem?_toArray, List.getElem?_cons_zero, List.getElem?_cons_succ, some_and, int_eq, bool_eq, str_eq, slc_eq, ptr_eq, nn_eq, M.val, cond_true, cond_false, Bool.not_true, Bool.not_false, cell_in hd]
      by_cases hlt : i < D.W.length
      · have hlt' : i.toNat < D.W.length := by omega
        cases a with
        | none => have : D.W.length = 0 := (hsn rfl).2; omega
        | some ab =>
          have hrow := hsr ab rfl
          have hg := wr_get D.W i.toNat D.W[i.toNat] (List.getElem?_eq_getElem hlt')
          have hlen := wr_length D.W
          have c0 : h2.cell (ab.add (i.toNat * 2)) = some (.int .i64 D.W[i.toNat].1) := by rw [hrow _ (by omega)]; exact hg.1
          have c1 : h2.cell (ab.add (i.toNat * 2 + 1)) = some (.string D.W[i.toNat].2) := by rw [hrow _ (by omega)]; exact hg.2
          have hw1 : IntKind.wrap .i64 (i + 1) = i + 1 := by rw [IntKind.wrap_i64]; omega
          have hni : (i + 1).toNat = i.toNat + 1 := by omega
          have hll : l' ≤ D.W.length := by
            have := List.length_filter_le (fun w => decide (w.1 ≠ at_)) (D.W.take i.toNat)
            rw [hl']; simp at this ⊢; omega
          have htk : (D.W.take (i + 1).toNat).filter (fun w => w.1 ≠ at_) = (D.W.take i.toNat).filter (fun w => w.1 ≠ at_) ++ if D.W[i.toNat].1 = at_ then [] else [D.W[i.toNat]] := by
            rw [hni, List.take_succ_eq_append_getElem hlt', List.filter_append]
            congr 1
            by_cases he : D.W[i.toNat].1 = at_ <;> simp [he]
          simp only [hlt, decide_true, cond_true]
          refine M.jn ?_
          refine M.idx_of hi0 hlt ?_
          simp only [addr_add, load_eq, Nat.zero_add, Nat.add_zero, Nat.mul_one, Nat.one_mul, Nat.zero_mul, Nat.reduceAdd, List.setIfInBounds_toArray, List.set_cons_zero, List.set_cons_succ, List.getElem?_toArray, List.getElem?_cons_zero, List.getElem?_cons_succ, some_and, int_eq, bool_eq, str_eq, slc_eq, ptr_eq, nn_eq, M.val, cond_true, cond_false, Bool.not_true, Bool.not_false, add2, c0, c1, cell_in hd, hw1]
          by_cases he : D.W[i.toNat].1 = at_
          · have : (D.W[i.toNat].1 != at_) = false := by simpa using he
            simp only [this, cond_false]
            simp only [he, if_true, List.append_nil] at htk
            exact hJ _ _ ⟨by simp only; omega, by simp only; omega, by simp only [htk]; exact hl', by simp only [htk]; exact w⟩ (by simp only; omega)
          · have : (D.W[i.toNat].1 != at_) = true := by simpa using he
            simp only [he, if_false] at htk
            simp only [this, cond_true]
            refine M.idx_of hi0 hlt ?_
            simp only [addr_add, load_eq, Nat.zero_add, Nat.add_zero, Nat.mul_one, Nat.one_mul, Nat.zero_mul, Nat.reduceAdd, List.setIfInBounds_toArray, List.set_cons_zero, List.set_cons_succ, List.getElem?_toArray, List.getElem?_cons_zero, List.getElem?_cons_succ, some_and, int_eq, bool_eq, str_eq, slc_eq, ptr_eq, nn_eq, M.val, cond_true, cond_false, Bool.not_true, Bool.not_false, add2, c0, c1, cell_in hd, hw1]
            refine M.new_t w fun b h3 hb w => ?_
            refine cellsOf_in hb rfl ?_
            refine M.app_w w 3 rfl rfl rfl (by simp [isPlainCell]) (by omega) (by omega) fun a2 c2 h4 w => ?_
            refine hJ _ _ ⟨by simp only; omega, by simp only; omega, by simp only [htk, List.length_append, hl']; rfl, ?_⟩ (by simp only; omega)
            simp only [htk, wr_append]
            exact w
      · have : i.toNat = D.W.length := by omega
        rw [this, List.take_length] at w hl'
        simp only [hlt, decide_false, cond_false]
        refine M.put_w w 0 rfl rfl (by simp) fun h3 w => ?_
        have hd := w.blk 0 rfl
        simp only [addr_add, load_eq, Nat.zero_add, Nat.add_zero, Nat.mul_one, Nat.one_mul, Nat.zero_mul, Nat.reduceAdd, List.setIfInBounds_toArray, List.set_cons_zero, List.set_cons_succ, List.getElem?_toArray, List.getElem?_cons_zero, List.getElem?_cons_succ, some_and, int_eq, bool_eq, str_eq, slc_eq, ptr_eq, nn_eq, M.val, cond_true, cond_false, Bool.not_true, Bool.not_false, cell_in hd]
        refine M.idx_of hu'.2.1 (by rw [ok.len]; exact hu'.2.2) ?_
        simp only [addr_add, load_eq, Nat.zero_add, Nat.add_zero, Nat.mul_one, Nat.one_mul, Nat.zero_mul, Nat.reduceAdd, List.setIfInBounds_toArray, List.set_cons_zero, List.set_cons_succ, List.getElem?_toArray, List.getElem?_cons_zero, List.getElem?_cons_succ, some_and, int_eq, bool_eq, str_eq, slc_eq, ptr_eq, nn_eq, M.val, cond_true, cond_false, Bool.not_true, Bool.not_false]
        refine M.put_w w 1 rfl rfl (by rw [strs_size, ok.len]; omega) fun h4 w => ?_
        rw [strs_set] at w
        have w := w.drop (i := 2) rfl
        refine k h4 (w.close 0 (bl, a', l', c') ?_ ⟨⟨t1, t2⟩, hl'⟩)
        simp
theorem rRestore {Q : H → Prop} {ia : Option Addr} {il ic : Nat} {img : List ByteArray} (w : Wd h0 h [refC d D]) (hl : img.length = il) (h0i : ia = none → il = 0) (hr : ∀ b, ia = some b → Sh.rowAt h0 b (img.map Value.string))
    (k : ∀ h', Wd h0 h' [refC d (D.restore img)] → Q h') : ref09_Restore (some ⟨d, 0, none⟩) ia il ic h Q := by
  have w0 := w
  obtain ⟨⟨bl, a, l, c⟩, ⟨⟨ok, sy⟩, hlw⟩, w⟩ := w.opn 0 rfl
  simp only at hlw
  subst hlw
  have hd := w.blk 0 rfl
  unfold ref09_Restore
  have t1 := DiskM.restore_ok ok img
  have t2 := DiskM.restore_sync sy img
  unfold DiskM.restore at k t1 t2
  have hlen := DiskM.ofImage_length D.N.length img
  have hsm := ok.small
  have hol := ok.len
  simp only [addr_add, load_eq, Nat.zero_add, Nat.add_zero, Nat.mul_one, Nat.one_mul, Nat.zero_mul, Nat.reduceAdd, List.setIfInBounds_toArray, List.set_cons_zero, List.set_cons_succ, List.getElem?_toArray, List.getElem?_cons_zero, List.getElem?_cons_succ, some_and, int_eq, bool_eq, str_eq, slc_eq, ptr_eq, nn_eq, M.val, cond_true, cond_false, Bool.not_true, Bool.not_false, cell_in hd]
  cases hdead : D.dead
  · simp only [hdead, Bool.false_eq_true, if_false] at k t1 t2
    simp only [cond_false]
    have hs : ∀ (i : Nat) (l : List ByteArray), i < l.length → l.length = D.N.length → (((DiskM.ofImage D.N.length img).take i ++ l.drop i).set i ((DiskM.ofImage D.N.length img).getD i ByteArray.empty)) = (DiskM.ofImage D.N.length img).take (i + 1) ++ l.drop (i + 1) := by
      intro i l hi hll
      apply List.ext_getElem?
      intro x
      rw [List.getElem?_set]
      by_cases hx : i = x
      · subst hx
        rw [if_pos rfl, if_pos (by simp; omega), List.getElem?_append_left (by simp; omega), List.getElem?_take, if_pos (by omega), List.getD_eq_getElem?_getD, List.getElem?_eq_getElem (by omega)]; rfl
      · rw [if_neg hx]
        by_cases h1 : x < i
        · rw [List.getElem?_append_left (by simp; omega), List.getElem?_append_left (by simp; omega), List.getElem?_take, List.getElem?_take, if_pos h1, if_pos (by omega)]
        · rw [List.getElem?_append_right (by simp; omega), List.getElem?_append_right (by simp; omega)]
          simp only [List.length_take, hlen, List.getElem?_drop]
          congr 1; omega
    refine M.jn ?_
    refine M.loop_of (I := fun (i : Int) h' => 0 ≤ i ∧ i ≤ D.N.length ∧ Wd h0 h' [.blk d (.cells #[.slice (some ⟨bl, 0, none⟩) D.N.length D.N.length, .slice a D.W.length c, .bool false] 49 (0, 0)),
        .blk bl (.cells (strs ((DiskM.ofImage D.N.length img).take i.toNat ++ D.L.drop i.toNat)) 9 (0, 0)), .sl 107 2 a D.W.length c (wr D.W)]) (μ := fun i => (D.N.length - i).toNat)
      ⟨by omega, by omega, by simpa [hdead, ok.len] using w⟩ ?_
    intro i h1 J ⟨hi0, hi1, w⟩ hJ
    have hd := w.blk 0 rfl
    have hw1 : IntKind.wrap .i64 (i + 1) = i + 1 := by rw [IntKind.wrap_i64]; omega
    have hnext : (i + 1).toNat = i.toNat + 1 := by omega
    simp only [addr_add, load_eq, Nat.zero_add, Nat.add_zero, Nat.mul_one, Nat.one_mul, Nat.zero_mul, Nat.reduceAdd, List.setIfInBounds_toArray, List.set_cons_zero, List.set_cons_succ, List.getElem?_toArray, List.getElem?_cons_zero, List.getElem?_cons_succ, some_and, int_eq, bool_eq, str_eq, slc_eq, ptr_eq, nn_eq, M.val, cond_true, cond_false, Bool.not_true, Bool.not_false, cell_in hd]
    by_cases hlt : i < D.N.length
    · have hlt' : i.toNat < D.N.length := by omega
      have hg : (DiskM.ofImage D.N.length img).getD i.toNat ByteArray.empty = if i.toNat < img.length ∧ ((img.getD i.toNat ByteArray.empty).size : Int) ≤ 2048 then img.getD i.toNat ByteArray.empty else ByteArray.empty := by
        rw [List.getD_eq_getElem?_getD]
        simp [DiskM.ofImage, hlt']
      simp only [hlt, decide_true, cond_true]
      refine M.jn ?_
      refine M.idx_of hi0 hlt ?_
      simp only [addr_add, load_eq, Nat.zero_add, Nat.add_zero, Nat.mul_one, Nat.one_mul, Nat.zero_mul, Nat.reduceAdd, List.setIfInBounds_toArray, List.set_cons_zero, List.set_cons_succ, List.getElem?_toArray, List.getElem?_cons_zero, List.getElem?_cons_succ, some_and, int_eq, bool_eq, str_eq, slc_eq, ptr_eq, nn_eq, M.val, cond_true, cond_false, Bool.not_true, Bool.not_false, hw1]
      refine M.put_w w 1 rfl rfl (by rw [strs_size]; simp [hlen, ok.len]; omega) fun h2 w => ?_
      rw [strs_set] at w
      have hfin : ∀ h', Wd h0 h' [.blk d (.cells #[.slice (some ⟨bl, 0, none⟩) D.N.length D.N.length, .slice a D.W.length c, .bool false] 49 (0, 0)),
          .blk bl (.cells (strs (((DiskM.ofImage D.N.length img).take i.toNat ++ D.L.drop i.toNat).set i.toNat ((DiskM.ofImage D.N.length img).getD i.toNat ByteArray.empty))) 9 (0, 0)), .sl 107 2 a D.W.length c (wr D.W)] → J (i + 1) h' := by
        intro h' w
        rw [hs _ _ (by rw [ok.len]; omega) ok.len] at w
        exact hJ _ _ ⟨by omega, by omega, by rw [hnext]; exact w⟩ (by omega)
      by_cases hi2 : i < il
      · have hi3 : i.toNat < img.length := by omega
        cases ia with
        | none => have := h0i rfl; omega
        | some ib =>
          have ck : ∀ h', Keep h0 h' → h'.cell (ib.add i.toNat) = some (.string img[i.toNat]) := fun h' kk => kk.cell (by rw [hr ib rfl _ (by simpa using hi3)]; simp [hi3])
          have hgd : img.getD i.toNat ByteArray.empty = img[i.toNat] := by simp [List.getD_eq_getElem?_getD, hi3]
          simp only [hi2, decide_true, cond_true]
          refine M.jn ?_
          refine M.idx_of hi0 hi2 ?_
          simp only [addr_add, load_eq, Nat.zero_add, Nat.add_zero, Nat.mul_one, Nat.one_mul, Nat.zero_mul, Nat.reduceAdd, List.setIfInBounds_toArray, List.set_cons_zero, List.set_cons_succ, List.getElem?_toArray, List.getElem?_cons_zero, List.getElem?_cons_succ, some_and, int_eq, bool_eq, str_eq, slc_eq, ptr_eq, nn_eq, M.val, cond_true, cond_false, Bool.not_true, Bool.not_false, ck _ w.keep]
          simp only [hgd, hi3, true_and] at hg
          by_cases hsz : (img[i.toNat].size : Int) ≤ 2048
          · simp only [hsz, if_true] at hg
            have hd := w.blk 0 rfl
            simp only [addr_add, load_eq, Nat.zero_add, Nat.add_zero, Nat.mul_one, Nat.one_mul, Nat.zero_mul, Nat.reduceAdd, List.setIfInBounds_toArray, List.set_cons_zero, List.set_cons_succ, List.getElem?_toArray, List.getElem?_cons_zero, List.getElem?_cons_succ, some_and, int_eq, bool_eq, str_eq, slc_eq, ptr_eq, nn_eq, M.val, cond_true, cond_false, Bool.not_true, Bool.not_false, hsz, decide_true, cell_in hd]
            refine M.idx_of hi0 hi2 ?_
            simp only [addr_add, load_eq, Nat.zero_add, Nat.add_zero, Nat.mul_one, Nat.one_mul, Nat.zero_mul, Nat.reduceAdd, List.setIfInBounds_toArray, List.set_cons_zero, List.set_cons_succ, List.getElem?_toArray, List.getElem?_cons_zero, List.getElem?_cons_succ, some_and, int_eq, bool_eq, str_eq, slc_eq, ptr_eq, nn_eq, M.val, cond_true, cond_false, Bool.not_true, Bool.not_false, ck _ w.keep]
            refine M.idx_of hi0 hlt ?_
            simp only [addr_add, load_eq, Nat.zero_add, Nat.add_zero, Nat.mul_one, Nat.one_mul, Nat.zero_mul, Nat.reduceAdd, List.setIfInBounds_toArray, List.set_cons_zero, List.set_cons_succ, List.getElem?_toArray, List.getElem?_cons_zero, List.getElem?_cons_succ, some_and, int_eq, bool_eq, str_eq, slc_eq, ptr_eq, nn_eq, M.val, cond_true, cond_false, Bool.not_true, Bool.not_false]
            refine M.put_w w 1 rfl rfl (by rw [strs_size]; simp [hlen, ok.len]; omega) fun h3 w => ?_
            rw [strs_set, ← hg] at w
            simp only [List.set_set] at w
            exact hfin _ w
          · simp only [hsz, if_false] at hg
            simp only [hsz, decide_false, cond_false]
            rw [← hg] at w
            exact hfin _ w
      · have hi3 : ¬ i.toNat < img.length := by omega
        simp only [hi3, false_and, if_false] at hg
        simp only [hi2, decide_false, cond_false]
        refine M.jn ?_
        simp only [cond_false]
        rw [← hg] at w
        exact hfin _ w
    · simp only [hlt, decide_false, cond_false]
      have hi : i.toNat = D.N.length := by omega
      rw [hi] at w
      rw [List.take_of_length_le (by omega), List.drop_eq_nil_of_le (by rw [ok.len]; omega), List.append_nil] at w
      refine M.put_w w 0 rfl rfl (by simp) fun h2 w => ?_
      have w := (w.drop (i := 2) rfl).nilsl 107 2
      refine k h2 (w.close 0 (bl, none, 0, 0) ?_ ⟨⟨t1, t2⟩, rfl⟩)
      simp [hlen, hdead, wr]
  · simp only [hdead, if_true] at k
    simp only [cond_true]
    exact k _ w0
theorem rImage {Q : Option Addr → Nat → Nat → H → Prop} (w : Wd h0 h [refC d D]) (hW : D.W.length < 1000000000) (k : ∀ a' c' h', Wd h h' [.sl 9 1 a' D.image.length c' (D.image.map Value.string)] → Q a' D.image.length c' h') : ref09_Image (some ⟨d, 0, none⟩) h Q := by
  have w0 := w
  obtain ⟨⟨bl, a, l, c⟩, ⟨⟨ok, sy⟩, hl⟩, w⟩ := w.opn 0 rfl
  have hd := w.blk 0 rfl
  unfold ref09_Image ref09_Image.g
  unfold DiskM.image at k
  have hsm := ok.small
  have hol := ok.len
  simp only [addr_add, load_eq, Nat.zero_add, Nat.add_zero, Nat.mul_one, Nat.one_mul, Nat.zero_mul, Nat.reduceAdd, List.setIfInBounds_toArray, List.set_cons_zero, List.set_cons_succ, List.getElem?_toArray, List.getElem?_cons_zero, List.getElem?_cons_succ, some_and, int_eq, bool_eq, str_eq, slc_eq, ptr_eq, nn_eq, M.val, cond_true, cond_false, Bool.not_true, Bool.not_false, cell_in hd]
  cases hdead : D.dead
  · simp only [hdead, Bool.false_eq_true, if_false] at k
    simp only [cond_false]
    refine M.loop_of (I := fun (p : (Option Addr × Nat × Nat) × Int) h2 => 0 ≤ p.2 ∧ p.2 ≤ D.N.length ∧ p.1.2.1 = p.2.toNat ∧ Wd h h2 [.sl 9 1 p.1.1 p.1.2.1 p.1.2.2 ((D.N.take p.2.toNat).map Value.string)]) (μ := fun p => (D.N.length - p.2).toNat)
      ⟨by simp, by simp, by simp, by simpa using (Wd.start h).nilsl 9 1⟩ ?_
    rintro ⟨⟨a', l', c'⟩, i⟩ h2 J ⟨hi0, hi1, hl', w2⟩ hJ
    simp only at hi0 hi1 hl'
    have wk := w0.keeps w2.keep
    have hd := w2.keep _ _ hd
    simp only [addr_add, load_eq, Nat.zero_add, Nat.add_zero, Nat.mul_one, Nat.one_mul, Nat.zero_mul, Nat.reduceAdd, List.setIfInBounds_toArray, List.set_cons_zero, List.set_cons_succ, List.getElem?_toArray, List.getElem?_cons_zero, List.getElem?_cons_succ, some_and, int_eq, bool_eq, str_eq, slc_eq, ptr_eq, nn_eq, M.val, cond_true, cond_false, Bool.not_true, Bool.not_false, cell_in hd]
    by_cases hlt : i < D.N.length
    · have hlt' : i.toNat < D.N.length := by omega
      have hw1 : IntKind.wrap .i64 (i + 1) = i + 1 := by rw [IntKind.wrap_i64]; omega
      have hni : (i + 1).toNat = i.toNat + 1 := by omega
      have hlt2 : i < D.L.length := by omega
      simp only [hlt2, decide_true, cond_true]
      refine rRead wk hW ?_
      have hu : D.usable i = 0 := DiskM.usable_zero.2 ⟨hdead, hi0, hlt⟩
      have hrd : D.read i = (D.N[i.toNat], 0) := by simp [DiskM.read, hu, List.getD_eq_getElem?_getD, hlt']
      rw [hrd]
      simp only
      refine M.new_t w2 fun b h3 hb w => ?_
      refine cellsOf_in hb rfl ?_
      refine M.app_w w 0 rfl rfl rfl (by simp [isPlainCell]) (by omega) (by omega) fun a2 c2 h4 w => ?_
      simp only [M.val, hw1]
      refine hJ _ _ ⟨by simp only; omega, by simp only; omega, by simp only; omega, ?_⟩ (by simp only; omega)
      simp only [hni]
      rw [List.take_succ_eq_append_getElem hlt', List.map_append]
      exact w
    · have hlt2 : ¬ i < D.L.length := by omega
      have hi : i.toNat = D.N.length := by omega
      simp only [hlt2, decide_false, cond_false]
      rw [hi, List.take_length] at w2
      rw [hi] at hl'
      subst hl'
      exact k _ _ _ w2
  · simp only [hdead, if_true] at k
    simp only [cond_true]
    exact k none 0 h ((Wd.start h).nilsl _ _)
end
end Go.Proofs.Ytkfokpkpobjoeaa

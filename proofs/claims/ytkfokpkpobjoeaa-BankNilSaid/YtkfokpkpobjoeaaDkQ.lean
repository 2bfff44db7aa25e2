/- The program's disk, walked, 2: a new one; tampering. -/
import Derived.Test.YtkfokpkpobjoeaaDkP
namespace Go.Proofs.Ytkfokpkpobjoeaa
open Go.Sh Go.RowKit
set_option linter.unusedSimpArgs false
set_option linter.unusedVariables false
section
variable {h0 h : H} {d : Nat} {D : DiskM} {at_ : Int} {s : ByteArray}
theorem zeros_strs (n : Nat) : (zerosOf [.string ByteArray.empty] n).toArray = strs (List.replicate n ByteArray.empty) := by
  unfold zerosOf strs
  rw [List.map_replicate]
  congr 1
  induction n with
  | zero => rfl
  | succ n ih => rw [List.replicate_succ, List.flatten_cons, ih]; rfl
theorem New_spec {n : Int} {Q : Option Addr → H → Prop} (k : ∀ d h', Wd h h' [diskC d (DiskM.new n)] → Q (some ⟨d, 0, none⟩) h') : disk_New n h Q := by
  have hn := DiskM.new_len n
  have fin : ∀ b1 b2 b h', Wd h h' [.blk b1 (.cells (zerosOf [.string ByteArray.empty] (mx 1 (mn n 512)).toNat).toArray 9), .blk b2 (.cells (zerosOf [.string ByteArray.empty] (mx 1 (mn n 512)).toNat).toArray 9),
      .blk b (.cells #[.slice (some ⟨b1, 0, none⟩) (mx 1 (mn n 512)).toNat (mx 1 (mn n 512)).toNat, .slice (some ⟨b2, 0, none⟩) (mx 1 (mn n 512)).toNat (mx 1 (mn n 512)).toNat, .slice none 0 0, .bool false] 84)] → Q (some ⟨b, 0, none⟩) h' := by
    intro b1 b2 b h' w
    have w := ((w.mv (i := 0) rfl).mv (i := 0) rfl).nilsl 86 2
    refine k b h' (w.close 0 (b1, b2, none, 0, 0) ?_ ⟨DiskM.new_ok n, rfl⟩)
    simp [DiskM.new, zeros_strs, wr]
  unfold disk_New
  refine M.jn ⟨?_, ?_⟩
  · refine M.mk_w (Wd.start h) (by omega) (by omega) (by omega) (by omega) fun b1 h1 w => ?_
    refine M.mk_w w (by omega) (by omega) (by omega) (by omega) fun b2 h2 w => ?_
    exact M.new_w w fun b h3 w => fin b1 b2 b h3 w
  · refine M.mk_w (Wd.start h) (by omega) (by omega) (by omega) (by omega) fun b1 h1 w => ?_
    refine M.mk_w w (by omega) (by omega) (by omega) (by omega) fun b2 h2 w => ?_
    exact M.new_w w fun b h3 w => fin b2 b1 b h3 (by
      have := w.mv (i := 0) rfl
      exact this.mv (i := 1) rfl)
theorem pred_spec {a : Addr} {n : Int} {Q : Bool → H → Prop} (hc : h.cell a = some (.int .i64 at_)) (k : ∀ h', Keep h h' → Q (n == at_) h') : disk_Disk_Tamper_1 n s a h Q := by
  unfold disk_Disk_Tamper_1
  refine M.new_of fun b h1 _ k1 hb => ?_
  simp only [addr_add, load_eq, Nat.zero_add, Nat.add_zero, Nat.mul_one, Nat.one_mul, Nat.zero_mul, Nat.reduceAdd, List.setIfInBounds_toArray, List.set_cons_zero, List.set_cons_succ, List.getElem?_toArray, List.getElem?_cons_zero, List.getElem?_cons_succ, some_and, int_eq, bool_eq, str_eq, slc_eq, ptr_eq, nn_eq, M.val, cond_true, cond_false, Bool.not_true, Bool.not_false, cell_in hb, k1.cell hc]
  exact k h1 k1
theorem Index_spec {a : Option Addr} {l c : Nat} {ca : Addr} {W : List (Int × ByteArray)} {Q : Int → H → Prop} (hc : h.cell ca = some (.int .i64 at_)) (hl : W.length = l) (hmax : l < 1000000000) (h0a : a = none → l = 0) (hr : ∀ b, a = some b → Sh.rowAt h b (wr W))
    (k : ∀ h', Keep h h' → Q (match W.findIdx? (fun w => w.1 == at_) with | some i => (i : Int) | none => -1) h') : slices_IndexFuncdisk_write_disk_write_disk_Disk_Tamper_1 a l c ca h Q := by
  unfold slices_IndexFuncdisk_write_disk_write_disk_Disk_Tamper_1 slices_IndexFuncdisk_write_disk_write_disk_Disk_Tamper_1.g
  refine M.loop_of (I := fun (i : Int) h' => 0 ≤ i ∧ i ≤ l ∧ Keep h h' ∧ ∀ j, j < i.toNat → ∀ w, W[j]? = some w → (w.1 == at_) = false) (μ := fun i => (l - i).toNat) ⟨by omega, by omega, Keep.refl h, fun j hj => by simp at hj⟩ ?_
  intro i h1 J ⟨hi0, hi1, hk, hno⟩ hJ
  by_cases hlt : i < l
  · have hlt' : i.toNat < W.length := by omega
    simp only [hlt, decide_true, cond_true]
    cases a with
    | none => have := h0a rfl; omega
    | some ab =>
      have hrow := hk.row (hr ab rfl)
      have hg := wr_get W i.toNat W[i.toNat] (List.getElem?_eq_getElem hlt')
      have hlen := wr_length W
      have c0 : h1.cell (ab.add (i.toNat * 2)) = some (.int .i64 W[i.toNat].1) := by rw [hrow _ (by omega)]; exact hg.1
      have c1 : h1.cell (ab.add (i.toNat * 2 + 1)) = some (.string W[i.toNat].2) := by rw [hrow _ (by omega)]; exact hg.2
      have hw1 : IntKind.wrap .i64 (i + 1) = i + 1 := by rw [IntKind.wrap_i64]; omega
      refine M.idx_of hi0 hlt ?_
      simp only [addr_add, load_eq, Nat.zero_add, Nat.add_zero, Nat.mul_one, Nat.one_mul, Nat.zero_mul, Nat.reduceAdd, List.setIfInBounds_toArray, List.set_cons_zero, List.set_cons_succ, List.getElem?_toArray, List.getElem?_cons_zero, List.getElem?_cons_succ, some_and, int_eq, bool_eq, str_eq, slc_eq, ptr_eq, nn_eq, M.val, cond_true, cond_false, Bool.not_true, Bool.not_false, add2, c0, c1]
      refine pred_spec (hk.cell hc) fun h2 k2 => ?_
      by_cases he : (W[i.toNat].1 == at_) = true
      · rw [he]
        have : W.findIdx? (fun w => w.1 == at_) = some i.toNat := by
          rw [List.findIdx?_eq_some_iff_getElem]
          exact ⟨hlt', he, fun j hj => by simpa using hno j hj W[j] (List.getElem?_eq_getElem (by omega))⟩
        rw [this] at k
        have := k h2 (hk.trans k2)
        have e : ((i.toNat : Nat) : Int) = i := by omega
        simp only [e, cond_true] at this ⊢
        exact this
      · rw [Bool.not_eq_true] at he
        rw [he]
        simp only [cond_false, hw1]
        refine hJ _ _ ⟨by omega, by omega, hk.trans k2, fun j hj w hw => ?_⟩ (by omega)
        by_cases hji : j = i.toNat
        · subst hji
          rw [List.getElem?_eq_getElem hlt'] at hw
          simp only [Option.some.injEq] at hw
          rw [← hw]; exact he
        · exact hno j (by omega) w hw
  · simp only [hlt, decide_false, cond_false]
    have : W.findIdx? (fun w => w.1 == at_) = none := by
      rw [List.findIdx?_eq_none_iff]
      intro w hw
      obtain ⟨j, hj, rfl⟩ := List.getElem_of_mem hw
      exact hno j (by omega) _ (List.getElem?_eq_getElem hj)
    rw [this] at k
    exact k h1 hk
theorem Delete_spec {a : Option Addr} {l c cb : Nat} {W : List (Int × ByteArray)} {Q : Option Addr → Nat → Nat → H → Prop} (w : Wd h0 h [.blk cb (.cells #[.int .i64 at_] 3), .sl 86 2 a l c (wr W)]) (hl : W.length = l) (hmax : l < 1000000000)
    (k : ∀ l' h', l' = (W.filter fun w => w.1 ≠ at_).length → Wd h0 h' [.blk cb (.cells #[.int .i64 at_] 3), .sl 86 2 a l' c (wr (W.filter fun w => w.1 ≠ at_))] → Q a l' c h') : slices_DeleteFuncdisk_write_disk_write_disk_Disk_Tamper_1 a l c ⟨cb, 0, none⟩ h Q := by
  unfold slices_DeleteFuncdisk_write_disk_write_disk_Disk_Tamper_1 slices_DeleteFuncdisk_write_disk_write_disk_Disk_Tamper_1.g
  have hcb := w.blk 0 rfl
  obtain ⟨hsl, hlc, hsn, hsr⟩ := w.slrow 1 rfl
  refine Index_spec (W := W) (at_ := at_) (by rw [cell_in hcb]; rfl) hl hmax (fun e => (hsn e).2) hsr fun h1 k1 => ?_
  have w := w.keeps k1
  cases hf : W.findIdx? (fun w => w.1 == at_) with
  | none =>
    rw [List.findIdx?_eq_none_iff] at hf
    have hfl : (W.filter fun w => w.1 ≠ at_) = W := List.filter_eq_self.2 fun w hw => by simpa using hf w hw
    rw [hfl] at k
    simpa using k l h1 hl.symm w
  | some i0 =>
    rw [List.findIdx?_eq_some_iff_getElem] at hf
    obtain ⟨hi0, hp0, hno⟩ := hf
    have hne : (((i0 : Nat) : Int) == -1) = false := by simp
    have hw1 : IntKind.wrap .i64 ((i0 : Int) + 1) = (i0 : Int) + 1 := by rw [IntKind.wrap_i64]; omega
    simp only [hne, cond_false]
    refine M.jn ?_
    simp only [addr_add, load_eq, Nat.zero_add, Nat.add_zero, Nat.mul_one, Nat.one_mul, Nat.zero_mul, Nat.reduceAdd, List.setIfInBounds_toArray, List.set_cons_zero, List.set_cons_succ, List.getElem?_toArray, List.getElem?_cons_zero, List.getElem?_cons_succ, some_and, int_eq, bool_eq, str_eq, slc_eq, ptr_eq, nn_eq, M.val, cond_true, cond_false, Bool.not_true, Bool.not_false, hw1]
    cases a with
    | none => have := (hsn rfl).2; omega
    | some ab =>
    have e0 : (W.take (i0 + 1)).filter (fun w => w.1 ≠ at_) = W.take i0 := by
      rw [List.take_succ_eq_append_getElem hi0, List.filter_append]
      have : (W.take i0).filter (fun w => w.1 ≠ at_) = W.take i0 := List.filter_eq_self.2 fun w hw => by
        obtain ⟨j, hj, rfl⟩ := List.getElem_of_mem hw
        simp at hj
        have := hno j (by omega)
        simpa using this
      rw [this]
      simp only [beq_iff_eq] at hp0
      simp [hp0]
    refine M.loop_of (I := fun (p : Int × Int) h' => 0 ≤ p.1 ∧ p.1 < p.2 ∧ p.2 ≤ l ∧ ∃ V : List (Int × ByteArray), V.length = l ∧ V.take p.1.toNat = (W.take p.2.toNat).filter (fun w => w.1 ≠ at_) ∧ V.drop p.2.toNat = W.drop p.2.toNat ∧
        Wd h0 h' [.blk cb (.cells #[.int .i64 at_] 3), .sl 86 2 (some ab) l c (wr V)]) (μ := fun p => (l - p.2).toNat)
      ⟨by simp, by simp only; omega, by simp only; omega, W, hl, ?_, rfl, w⟩ ?_
    · rw [show ((i0 : Int) + 1).toNat = i0 + 1 by omega, e0]; simp
    rintro ⟨i, j⟩ h2 J ⟨hi, hij, hj, V, hV, hVi, hVj, w⟩ hJ
    simp only at hi hij hj hVi hVj ⊢
    obtain ⟨_, _, _, hsr2⟩ := w.slrow 1 rfl
    have hlenV := wr_length V
    by_cases hlt : j < l
    · have hlt' : j.toNat < V.length := by omega
      have hltW : j.toNat < W.length := by omega
      have hVW : V[j.toNat] = W[j.toNat] := by
        have h1 := congrArg (fun z => z[0]?) hVj
        simp only [List.getElem?_drop, Nat.add_zero, List.getElem?_eq_getElem hlt', List.getElem?_eq_getElem hltW, Option.some.injEq] at h1
        exact h1
      simp only [hlt, decide_true, cond_true]
      have hrow := hsr2 ab rfl
      have hg := wr_get V j.toNat V[j.toNat] (List.getElem?_eq_getElem hlt')
      have c0 : h2.cell (ab.add (j.toNat * 2)) = some (.int .i64 V[j.toNat].1) := by rw [hrow _ (by omega)]; exact hg.1
      have c1 : h2.cell (ab.add (j.toNat * 2 + 1)) = some (.string V[j.toNat].2) := by rw [hrow _ (by omega)]; exact hg.2
      have hw2 : IntKind.wrap .i64 (j + 1) = j + 1 := by rw [IntKind.wrap_i64]; omega
      have hw3 : IntKind.wrap .i64 (i + 1) = i + 1 := by rw [IntKind.wrap_i64]; omega
      have hnx : (j + 1).toNat = j.toNat + 1 := by omega
      refine M.jn ?_
      refine M.idx_of (by omega) hlt ?_
      simp only [addr_add, load_eq, Nat.zero_add, Nat.add_zero, Nat.mul_one, Nat.one_mul, Nat.zero_mul, Nat.reduceAdd, List.setIfInBounds_toArray, List.set_cons_zero, List.set_cons_succ, List.getElem?_toArray, List.getElem?_cons_zero, List.getElem?_cons_succ, some_and, int_eq, bool_eq, str_eq, slc_eq, ptr_eq, nn_eq, M.val, cond_true, cond_false, Bool.not_true, Bool.not_false, add2, c0, c1, hw2, hw3]
      refine M.new_w w fun b h3 w => ⟨rfl, ?_⟩
      refine M.puts_w0 w 2 rfl (by simp [isPlainCell]) rfl fun h4 w => ?_
      have hb := w.blk 2 rfl
      have hcb := w.blk 0 rfl
      simp only [addr_add, load_eq, Nat.zero_add, Nat.add_zero, Nat.mul_one, Nat.one_mul, Nat.zero_mul, Nat.reduceAdd, List.setIfInBounds_toArray, List.set_cons_zero, List.set_cons_succ, List.getElem?_toArray, List.getElem?_cons_zero, List.getElem?_cons_succ, some_and, int_eq, bool_eq, str_eq, slc_eq, ptr_eq, nn_eq, M.val, cond_true, cond_false, Bool.not_true, Bool.not_false, cell_in hb]
      refine pred_spec (at_ := at_) (by rw [cell_in hcb]; rfl) fun h5 k5 => ?_
      have w := w.keeps k5
      have hb := w.blk 2 rfl
      simp only [addr_add, load_eq, Nat.zero_add, Nat.add_zero, Nat.mul_one, Nat.one_mul, Nat.zero_mul, Nat.reduceAdd, List.setIfInBounds_toArray, List.set_cons_zero, List.set_cons_succ, List.getElem?_toArray, List.getElem?_cons_zero, List.getElem?_cons_succ, some_and, int_eq, bool_eq, str_eq, slc_eq, ptr_eq, nn_eq, M.val, cond_true, cond_false, Bool.not_true, Bool.not_false, cell_in hb]
      have htk : (W.take (j.toNat + 1)).filter (fun w => w.1 ≠ at_) = (W.take j.toNat).filter (fun w => w.1 ≠ at_) ++ if V[j.toNat].1 = at_ then [] else [V[j.toNat]] := by
        rw [List.take_succ_eq_append_getElem hltW, List.filter_append, hVW]
        congr 1
        by_cases he : W[j.toNat].1 = at_ <;> simp [he]
      by_cases he : V[j.toNat].1 = at_
      · have : (V[j.toNat].1 == at_) = true := by simpa using he
        simp only [this, Bool.not_true, cond_false]
        refine hJ _ _ ⟨hi, by simp only; omega, by simp only; omega, V, hV, ?_, ?_, w.drop (i := 2) rfl⟩ (by simp only; omega)
        · simp only [hnx, htk, he, if_true, List.append_nil]; exact hVi
        · simp only [hnx]
          have := congrArg (List.drop 1) hVj
          simpa [List.drop_drop] using this
      · have : (V[j.toNat].1 == at_) = false := by simpa using he
        simp only [this, Bool.not_false, cond_true]
        refine M.idx_of hi (by omega) ⟨rfl, ?_⟩
        refine M.puts_sl w 1 rfl (by simp [isPlainCell]) (by simp; omega) fun h6 w => ?_
        have e2 : List.take (i.toNat * 2) (wr V) ++ [Value.int .i64 V[j.toNat].1, Value.string V[j.toNat].2] ++ List.drop (i.toNat * 2 + [Value.int IntKind.i64 V[j.toNat].1, Value.string V[j.toNat].2].length) (wr V) = wr (V.set i.toNat V[j.toNat]) := wr_set V i.toNat V[j.toNat] (by omega)
        rw [e2] at w
        have hni : (i + 1).toNat = i.toNat + 1 := by omega
        refine hJ _ _ ⟨by simp only; omega, by simp only; omega, by simp only; omega, V.set i.toNat V[j.toNat], by simpa using hV, ?_, ?_, w.drop (i := 2) rfl⟩ (by simp only; omega)
        · simp only [hnx, hni, htk, he, if_false]
          rw [List.take_succ_eq_append_getElem (by simp; omega), List.take_set_of_le (Nat.le_refl _), hVi]
          simp
        · simp only [hnx]
          rw [List.drop_set_of_lt (by omega)]
          have := congrArg (List.drop 1) hVj
          simpa [List.drop_drop] using this
    · simp only [hlt, decide_false, cond_false]
      have hjl : j.toNat = W.length := by omega
      rw [hjl, List.take_length] at hVi
      have hil : i.toNat ≤ l := by omega
      have hfl : (W.filter fun w => w.1 ≠ at_).length = i.toNat := by rw [← hVi]; simp; omega
      refine ⟨hi, by omega, by omega, ?_⟩
      have hlc2 : l ≤ c := by omega
      have hnc : ¬ c = i.toNat := by omega
      have es : sliceAddr (some ab) c i.toNat 2 = some (ab.add (i.toNat * 2)) := by simp [sliceAddr, hnc]
      have hll : (((l : Nat) : Int).toNat - i.toNat) = l - i.toNat := by omega
      simp only [es, hll]
      refine ⟨fun e => by simp at e, fun a' ea => ?_⟩
      simp only [Option.some.injEq] at ea
      subst ea
      refine M.puts_sl w 1 rfl (fun v hv => ?_) (by rw [zerosOf_length, hlenV]; simp; omega) fun h6 w => ?_
      · unfold zerosOf at hv
        simp only [List.mem_flatten, List.mem_replicate] at hv
        obtain ⟨z, ⟨_, rfl⟩, hz⟩ := hv
        simp at hz
        rcases hz with rfl | rfl <;> rfl
      · have w := w.shrink (i := 1) (l' := i.toNat) rfl hil
        have e3 : (List.take (i.toNat * 2) (wr V) ++ zerosOf [Value.int .i64 0, Value.string ByteArray.empty] (l - i.toNat) ++ List.drop (i.toNat * 2 + (zerosOf [Value.int .i64 0, Value.string ByteArray.empty] (l - i.toNat)).length) (wr V)).take (i.toNat * 2) = wr (W.filter fun w => w.1 ≠ at_) := by
          rw [List.append_assoc, List.take_append_of_le_length (by simp; omega), List.take_take, Nat.min_self, wr_take, hVi]
        rw [e3] at w
        refine M.sub0 hi (by omega) ?_
        exact k _ _ hfl.symm w
theorem Tamper_spec {Q : Bool → H → Prop} (w : Wd h0 h [diskC d D]) (hW : D.W.length < 1000000000) (k : ∀ h', Wd h0 h' [diskC d (D.tamper at_ s).2] → Q (D.tamper at_ s).1 h') : disk_Disk_Tamper (some ⟨d, 0, none⟩) at_ s h Q := by
  unfold disk_Disk_Tamper disk_Disk_Tamper.g
  refine M.new_w w fun cb h1 w => ?_
  refine M.jn ?_
  have hcb := w.blk 1 rfl
  simp only [addr_add, load_eq, Nat.zero_add, Nat.add_zero, Nat.mul_one, Nat.one_mul, Nat.zero_mul, Nat.reduceAdd, List.setIfInBounds_toArray, List.set_cons_zero, List.set_cons_succ, List.getElem?_toArray, List.getElem?_cons_zero, List.getElem?_cons_succ, some_and, int_eq, bool_eq, str_eq, slc_eq, ptr_eq, nn_eq, M.val, cond_true, cond_false, Bool.not_true, Bool.not_false, cell_in hcb]
  have wd := w
  obtain ⟨hx, _, kx, wx, _, _⟩ := w.on (i := 0) rfl
  refine usable_spec wx ?_
  unfold DiskM.tamper at k
  by_cases hu : D.usable at_ = 0
  · have hu' := DiskM.usable_zero.1 hu
    by_cases hs : (s.size : Int) > 2048
    · simp only [hu, hs, or_true, if_true] at k
      simp only [hu, hs, bne_self_eq_false, cond_false, decide_true, cond_true]
      exact k _ (w.drop (i := 1) rfl)
    · simp only [hu, hs, ne_eq, not_true, or_self, if_false] at k
      simp only [addr_add, load_eq, Nat.zero_add, Nat.add_zero, Nat.mul_one, Nat.one_mul, Nat.zero_mul, Nat.reduceAdd, List.setIfInBounds_toArray, List.set_cons_zero, List.set_cons_succ, List.getElem?_toArray, List.getElem?_cons_zero, List.getElem?_cons_succ, some_and, int_eq, bool_eq, str_eq, slc_eq, ptr_eq, nn_eq, M.val, cond_true, cond_false, Bool.not_true, Bool.not_false, hu, hs, bne_self_eq_false, decide_false]
      obtain ⟨⟨bl, bn, a, l, c⟩, ⟨ok, hl⟩, w⟩ := w.opn 0 rfl
      simp only at hl
      have hd := w.blk 1 rfl
      simp only [addr_add, load_eq, Nat.zero_add, Nat.add_zero, Nat.mul_one, Nat.one_mul, Nat.zero_mul, Nat.reduceAdd, List.setIfInBounds_toArray, List.set_cons_zero, List.set_cons_succ, List.getElem?_toArray, List.getElem?_cons_zero, List.getElem?_cons_succ, some_and, int_eq, bool_eq, str_eq, slc_eq, ptr_eq, nn_eq, M.val, cond_true, cond_false, Bool.not_true, Bool.not_false, cell_in hd]
      have w := (w.mv (i := 1) rfl).mv (i := 1) rfl
      have w := w.mv (i := 1) rfl
      have wq := w
      obtain ⟨h2, _, k2, w2, w3, back⟩ := w.split 2
      refine Delete_spec w2 hl.symm (by omega) fun l' h3 hl' w4 => ?_
      have w := back _ _ w4
      refine M.put_w w 2 rfl rfl (by simp) fun h4 w => ?_
      have hd := w.blk 2 rfl
      have hcb := w.blk 0 rfl
      have hat : at_.toNat < D.N.length := by omega
      simp only [addr_add, load_eq, Nat.zero_add, Nat.add_zero, Nat.mul_one, Nat.one_mul, Nat.zero_mul, Nat.reduceAdd, List.setIfInBounds_toArray, List.set_cons_zero, List.set_cons_succ, List.getElem?_toArray, List.getElem?_cons_zero, List.getElem?_cons_succ, some_and, int_eq, bool_eq, str_eq, slc_eq, ptr_eq, nn_eq, M.val, cond_true, cond_false, Bool.not_true, Bool.not_false, cell_in hd, cell_in hcb]
      refine M.idx_of hu'.2.1 hu'.2.2 ?_
      simp only [addr_add, load_eq, Nat.zero_add, Nat.add_zero, Nat.mul_one, Nat.one_mul, Nat.zero_mul, Nat.reduceAdd, List.setIfInBounds_toArray, List.set_cons_zero, List.set_cons_succ, List.getElem?_toArray, List.getElem?_cons_zero, List.getElem?_cons_succ, some_and, int_eq, bool_eq, str_eq, slc_eq, ptr_eq, nn_eq, M.val, cond_true, cond_false, Bool.not_true, Bool.not_false]
      refine M.put_w w 3 rfl rfl (by rw [strs_size, ok.len]; exact hat) fun h5 w => ?_
      refine M.still_in hcb (w.blk 0 rfl) ?_
      refine M.idx_of hu'.2.1 hu'.2.2 ?_
      simp only [addr_add, load_eq, Nat.zero_add, Nat.add_zero, Nat.mul_one, Nat.one_mul, Nat.zero_mul, Nat.reduceAdd, List.setIfInBounds_toArray, List.set_cons_zero, List.set_cons_succ, List.getElem?_toArray, List.getElem?_cons_zero, List.getElem?_cons_succ, some_and, int_eq, bool_eq, str_eq, slc_eq, ptr_eq, nn_eq, M.val, cond_true, cond_false, Bool.not_true, Bool.not_false]
      refine M.put_w w 4 rfl rfl (by rw [strs_size]; exact hat) fun h6 w => ?_
      rw [strs_set, strs_set] at w
      have w := (w.drop (i := 0) rfl).mv (i := 0) rfl
      refine k _ (w.close 0 (bl, bn, a, l', c) ?_ ⟨?_, hl'⟩)
      · simp
      · have := DiskM.tamper_ok ok at_ s
        simpa only [DiskM.tamper, hu, hs, ne_eq, not_true, or_self, if_false] using this
  · simp only [hu, ne_eq, not_false_iff, true_or, if_true] at k
    have : (D.usable at_ != 0) = true := by simpa using hu
    simp only [this, cond_true]
    exact k _ (w.drop (i := 1) rfl)
end
end Go.Proofs.Ytkfokpkpobjoeaa

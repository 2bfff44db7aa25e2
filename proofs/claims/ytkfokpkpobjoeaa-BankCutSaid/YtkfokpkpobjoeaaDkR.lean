/- The document's disk, walked: it is the program's disk where what is, is what lasts with the writes laid over it. -/
import Derived.Test.YtkfokpkpobjoeaaDkQ
namespace Go.Proofs.Ytkfokpkpobjoeaa
open Go.Sh Go.RowKit
set_option linter.unusedSimpArgs false
set_option linter.unusedVariables false

def applyW (W : List (Int × ByteArray)) (L : List ByteArray) : List ByteArray := W.foldl (fun L w => L.set w.1.toNat w.2) L
theorem applyW_length : ∀ (W : List (Int × ByteArray)) (L : List ByteArray), (applyW W L).length = L.length
  | [], _ => rfl
  | w :: W, L => by rw [show applyW (w :: W) L = applyW W (L.set w.1.toNat w.2) from rfl, applyW_length]; simp
theorem applyW_append (W V : List (Int × ByteArray)) (L : List ByteArray) : applyW (W ++ V) L = applyW V (applyW W L) := List.foldl_append
theorem applyW_off : ∀ (W : List (Int × ByteArray)) (L : List ByteArray) (i : Nat), (∀ w ∈ W, w.1.toNat ≠ i) → (applyW W L)[i]? = L[i]?
  | [], _, _, _ => rfl
  | w :: W, L, i, h => by
    rw [show applyW (w :: W) L = applyW W (L.set w.1.toNat w.2) from rfl, applyW_off W _ i fun v hv => h v (by simp [hv]), List.getElem?_set_ne (h w (by simp))]
theorem applyW_filter : ∀ (W : List (Int × ByteArray)) (L : List ByteArray) (a : Int) (s : ByteArray), 0 ≤ a → (∀ w ∈ W, 0 ≤ w.1) → applyW (W.filter fun w => w.1 ≠ a) (L.set a.toNat s) = (applyW W L).set a.toNat s
  | [], _, _, _, _, _ => rfl
  | w :: W, L, a, s, ha, hW => by
    have ih := fun L => applyW_filter W L a s ha fun v hv => hW v (by simp [hv])
    have hw := hW w (by simp)
    rw [show applyW (w :: W) L = applyW W (L.set w.1.toNat w.2) from rfl, ← ih, List.filter_cons]
    by_cases he : w.1 = a
    · simp [he, List.set_set]
    · simp only [he, ne_eq, not_false_eq_true, decide_true, if_true]
      rw [show ∀ X, applyW (w :: X) (L.set a.toNat s) = applyW X ((L.set a.toNat s).set w.1.toNat w.2) from fun _ => rfl, List.set_comm _ _ (by omega)]
namespace DiskM
/-- What is, is what lasts with the writes laid over it. -/
def Sync (D : DiskM) : Prop := D.dead = false → D.N = applyW D.W D.L
variable {D : DiskM}
theorem new_sync (n : Int) : (new n).Sync := fun _ => rfl
theorem write_sync (o : D.Sync) (a : Int) (s : ByteArray) : (D.write a s).2.Sync := by
  unfold write
  split
  · exact o
  · split
    · exact o
    · intro hd
      rw [applyW_append, ← o hd]; rfl
theorem flush_sync (o : D.Sync) : D.flush.2.Sync := by
  unfold flush
  split
  · exact o
  · exact fun _ => rfl
theorem crash_sync (o : D.Sync) (ks : List Bool) : (D.crash ks).Sync := by
  unfold crash
  split
  · exact o
  · exact fun _ => rfl
theorem fail_sync : D.fail.Sync := fun h => by simp [fail] at h
theorem tamper_sync (k : D.Ok) (o : D.Sync) (a : Int) (s : ByteArray) : (D.tamper a s).2.Sync := by
  unfold tamper
  split
  · exact o
  · rename_i h
    intro hd
    have hu : D.usable a = 0 := Decidable.not_not.1 fun e => h (.inl e)
    simp only
    rw [o hd, applyW_filter _ _ _ _ (usable_zero.1 hu).2.1 fun w hw => (k.at_ w hw).1]
theorem restore_sync (o : D.Sync) (img : List ByteArray) : (D.restore img).Sync := by
  unfold restore
  split
  · exact o
  · exact fun _ => rfl
end DiskM
/-- The document's disk, at a block. -/
def refC (d : Nat) (D : DiskM) : Chunk := Wd.obj (α := Nat × Option Addr × Nat × Nat) (fun v => (D.Ok ∧ D.Sync) ∧ v.2.2.1 = D.W.length)
  fun v => [.blk d (.cells #[.slice (some ⟨v.1, 0, none⟩) D.L.length D.L.length, .slice v.2.1 v.2.2.1 v.2.2.2, .bool D.dead] 49 (0, 0)),
    .blk v.1 (.cells (strs D.L) 9 (0, 0)), .sl 107 2 v.2.1 v.2.2.1 v.2.2.2 (wr D.W)]
section
variable {h0 h : H} {d : Nat} {D : DiskM} {at_ : Int} {s : ByteArray}
theorem rNew {n : Int} {Q : Option Addr → H → Prop} (k : ∀ d h', Wd h h' [refC d (DiskM.new n)] → Q (some ⟨d, 0, none⟩) h') : ref09_New n h Q := by
  have hn := DiskM.new_len n
  have fin : ∀ m h1, h1 = h → m = mx 1 (mn n 512) → M.mk h1 9 [(.string (ByteArray.empty))] 16 m m fun a8 l9 c10 h11 => M.new h11 (.cells (#[(.slice a8 l9 c10), (.slice none 0 0), (.bool false)] : Array Value) 49) fun b12 h13 => Q (some (⟨b12, 0, none⟩ : Addr)) h13 := by
    rintro m h1 rfl rfl
    refine M.mk_w (Wd.start _) (by omega) (by omega) (by omega) (by omega) fun b1 h1 w => ?_
    refine M.new_w w fun b h3 w => ?_
    have w := (w.mv (i := 0) rfl).nilsl 107 2
    refine k b h3 (w.close 0 (b1, none, 0, 0) ?_ ⟨⟨DiskM.new_ok n, DiskM.new_sync n⟩, rfl⟩)
    simp [DiskM.new, zeros_strs, wr]
  unfold ref09_New
  refine M.jn ?_
  unfold M.join
  by_cases h1 : n < 1
  · simp only [h1, decide_true, cond_true]
    exact fin _ _ rfl (by unfold mx mn; split <;> split <;> omega)
  · simp only [h1, decide_false, cond_false]
    by_cases h2 : n > 512
    · simp only [h2, decide_true, cond_true]
      exact fin _ _ rfl (by unfold mx mn; split <;> split <;> omega)
    · simp only [h2, decide_false, cond_false]
      exact fin _ _ rfl (by unfold mx mn; split <;> split <;> omega)
theorem rPut {Q : Int → H → Prop} (w : Wd h0 h [refC d D]) (hW : D.W.length < 1000000000) (k : ∀ h', Wd h0 h' [refC d (D.write at_ s).2] → Q (D.write at_ s).1 h') : ref09_Put (some ⟨d, 0, none⟩) at_ s h Q := by
  have w0 := w
  obtain ⟨⟨bl, a, l, c⟩, ⟨⟨ok, sy⟩, hl⟩, w⟩ := w.opn 0 rfl
  simp only at hl
  subst hl
  have hd := w.blk 0 rfl
  unfold ref09_Put
  simp only [addr_add, load_eq, Nat.zero_add, Nat.add_zero, Nat.mul_one, Nat.one_mul, Nat.zero_mul, Nat.reduceAdd, List.setIfInBounds_toArray, List.set_cons_zero, List.set_cons_succ, List.getElem?_toArray, List.getElem?_cons_zero, List.getElem?_cons_succ, some_and, int_eq, bool_eq, str_eq, slc_eq, ptr_eq, nn_eq, M.val, cond_true, cond_false, Bool.not_true, Bool.not_false, cell_in hd]
  cases hdead : D.dead
  · simp only [cond_false]
    refine M.join_of (fun b h' => b = decide (at_ < 0 ∨ at_ ≥ D.N.length) ∧ h' = h) (fun J hJ => ?_) ?_
    · by_cases h1 : at_ < 0
      · simp only [h1, decide_true, cond_true]
        exact hJ _ _ ⟨by simp [h1], rfl⟩
      · simp only [addr_add, load_eq, Nat.zero_add, Nat.add_zero, Nat.mul_one, Nat.one_mul, Nat.zero_mul, Nat.reduceAdd, List.setIfInBounds_toArray, List.set_cons_zero, List.set_cons_succ, List.getElem?_toArray, List.getElem?_cons_zero, List.getElem?_cons_succ, some_and, int_eq, bool_eq, str_eq, slc_eq, ptr_eq, nn_eq, M.val, cond_true, cond_false, Bool.not_true, Bool.not_false, h1, decide_false, cell_in hd]
        exact hJ _ _ ⟨by simp [h1, ok.len], rfl⟩
    · rintro b h' ⟨rfl, rfl⟩
      unfold DiskM.write at k
      by_cases hr : at_ < 0 ∨ at_ ≥ D.N.length
      · have hu : D.usable at_ = 2 := by simp [DiskM.usable, hdead, hr]
        simp only [hu, ne_eq, show ¬ ((2 : Int) = 0) by omega, not_false_iff, if_true] at k
        simp only [hr, decide_true, cond_true]
        exact k _ w0
      · have hu : D.usable at_ = 0 := DiskM.usable_zero.2 ⟨hdead, by omega, by omega⟩
        simp only [hr, decide_false, cond_false]
        by_cases hs : (s.size : Int) > 2048
        · simp only [hu, hs, ne_eq, not_true, if_false, if_true] at k
          simp only [hs, decide_true, cond_true]
          exact k _ w0
        · simp only [hu, hs, ne_eq, not_true, if_false] at k
          simp only [addr_add, load_eq, Nat.zero_add, Nat.add_zero, Nat.mul_one, Nat.one_mul, Nat.zero_mul, Nat.reduceAdd, List.setIfInBounds_toArray, List.set_cons_zero, List.set_cons_succ, List.getElem?_toArray, List.getElem?_cons_zero, List.getElem?_cons_succ, some_and, int_eq, bool_eq, str_eq, slc_eq, ptr_eq, nn_eq, M.val, cond_true, cond_false, Bool.not_true, Bool.not_false, hs, decide_false, cell_in hd]
          refine M.new_t w fun b h2 hb w => ?_
          refine cellsOf_in hb rfl ?_
          refine M.app_w w 2 rfl rfl rfl (by simp [isPlainCell]) (by omega) (by omega) fun a' c' h3 w => ?_
          refine M.put_w w 0 rfl rfl (by simp) fun h4 w => ?_
          refine k h4 (w.close 0 (bl, a', D.W.length + 1, c') ?_ ⟨?_, by simp⟩)
          · simp [wr_append, wr, hdead]
          · have h1 := DiskM.write_ok ok at_ s
            have h2 := DiskM.write_sync sy at_ s
            simp only [DiskM.write, hu, ne_eq, not_true, if_false, hs] at h1 h2
            exact ⟨h1, h2⟩
  · have hu : D.usable at_ = 20 := by simp [DiskM.usable, hdead]
    simp only [DiskM.write, hu, ne_eq, show ¬ ((20 : Int) = 0) by omega, not_false_iff, if_true] at k
    simp only [cond_true]
    exact k _ w0
theorem rRead {Q : ByteArray → Int → H → Prop} (w : Wd h0 h [refC d D]) (hW : D.W.length < 1000000000) (k : Q (D.read at_).1 (D.read at_).2 h) : ref09_Read (some ⟨d, 0, none⟩) at_ h Q := by
  have w0 := w
  obtain ⟨⟨bl, a, l, c⟩, ⟨⟨ok, sy⟩, hl⟩, w⟩ := w.opn 0 rfl
  simp only at hl
  subst hl
  have hd := w.blk 0 rfl
  have hbl := w.blk 1 rfl
  obtain ⟨_, _, hsn, hsr⟩ := w.slrow 2 rfl
  unfold ref09_Read
  unfold DiskM.read at k
  simp only [addr_add, load_eq, Nat.zero_add, Nat.add_zero, Nat.mul_one, Nat.one_mul, Nat.zero_mul, Nat.reduceAdd, List.setIfInBounds_toArray, List.set_cons_zero, List.set_cons_succ, List.getElem?_toArray, List.getElem?_cons_zero, List.getElem?_cons_succ, some_and, int_eq, bool_eq, str_eq, slc_eq, ptr_eq, nn_eq, M.val, cond_true, cond_false, Bool.not_true, Bool.not_false, cell_in hd]
  cases hdead : D.dead
  · simp only [cond_false]
    refine M.join_of (fun b h' => b = decide (at_ < 0 ∨ at_ ≥ D.N.length) ∧ h' = h) (fun J hJ => ?_) ?_
    · by_cases h1 : at_ < 0
      · simp only [h1, decide_true, cond_true, cond_false]
        exact hJ _ _ ⟨by simp [h1], rfl⟩
      · simp only [addr_add, load_eq, Nat.zero_add, Nat.add_zero, Nat.mul_one, Nat.one_mul, Nat.zero_mul, Nat.reduceAdd, List.setIfInBounds_toArray, List.set_cons_zero, List.set_cons_succ, List.getElem?_toArray, List.getElem?_cons_zero, List.getElem?_cons_succ, some_and, int_eq, bool_eq, str_eq, slc_eq, ptr_eq, nn_eq, M.val, cond_true, cond_false, Bool.not_true, Bool.not_false, h1, decide_false, cell_in hd]
        exact hJ _ _ ⟨by simp [h1, ok.len], rfl⟩
    · rintro b h' ⟨rfl, rfl⟩
      by_cases hr : at_ < 0 ∨ at_ ≥ D.N.length
      · have hu : D.usable at_ = 2 := by simp [DiskM.usable, hdead, hr]
        simp only [hu, ne_eq, show ¬ ((2 : Int) = 0) by omega, not_false_iff, if_true] at k
        simp only [hr, decide_true, cond_true]
        exact k
      · have hu : D.usable at_ = 0 := DiskM.usable_zero.2 ⟨hdead, by omega, by omega⟩
        have hat : at_.toNat < D.L.length := by rw [ok.len]; omega
        simp only [hu, ne_eq, not_true, if_false, sy hdead] at k
        have hw : IntKind.wrap .i64 (((D.W.length : Nat) : Int) - 1) = (D.W.length : Int) - 1 := by rw [IntKind.wrap_i64]; omega
        simp only [addr_add, load_eq, Nat.zero_add, Nat.add_zero, Nat.mul_one, Nat.one_mul, Nat.zero_mul, Nat.reduceAdd, List.setIfInBounds_toArray, List.set_cons_zero, List.set_cons_succ, List.getElem?_toArray, List.getElem?_cons_zero, List.getElem?_cons_succ, some_and, int_eq, bool_eq, str_eq, slc_eq, ptr_eq, nn_eq, M.val, cond_true, cond_false, Bool.not_true, Bool.not_false, hr, decide_false, cell_in hd, hw]
        refine M.jn ?_
        refine M.loop_of (I := fun (i : Int) h2 => h2 = h' ∧ -1 ≤ i ∧ i < D.W.length ∧ ∀ (j : Nat) (w : Int × ByteArray), i < (j : Int) → D.W[j]? = some w → w.1 ≠ at_) (μ := fun i => (i + 1).toNat) ⟨rfl, by omega, by omega, fun j w hj hw => ?_⟩ ?_
        · have := (List.getElem?_eq_some_iff.1 hw).1
          omega
        · rintro i h2 J ⟨rfl, hi0, hi1, hno⟩ hJ
          simp only [addr_add, load_eq, Nat.zero_add, Nat.add_zero, Nat.mul_one, Nat.one_mul, Nat.zero_mul, Nat.reduceAdd, List.setIfInBounds_toArray, List.set_cons_zero, List.set_cons_succ, List.getElem?_toArray, List.getElem?_cons_zero, List.getElem?_cons_succ, some_and, int_eq, bool_eq, str_eq, slc_eq, ptr_eq, nn_eq, M.val, cond_true, cond_false, Bool.not_true, Bool.not_false, cell_in hd]
          by_cases hlt : i ≥ 0
          · have hlt' : i.toNat < D.W.length := by omega
            cases a with
            | none => have : D.W.length = 0 := (hsn rfl).2; omega
            | some ab =>
              have hrow := hsr ab rfl
              have hg := wr_get D.W i.toNat D.W[i.toNat] (List.getElem?_eq_getElem hlt')
              have hlen := wr_length D.W
              have c0 : h2.cell (ab.add (i.toNat * 2)) = some (.int .i64 D.W[i.toNat].1) := by rw [hrow _ (by omega)]; exact hg.1
              have c1 : h2.cell (ab.add (i.toNat * 2 + 1)) = some (.string D.W[i.toNat].2) := by rw [hrow _ (by omega)]; exact hg.2
              simp only [hlt, decide_true, cond_true]
              refine M.idx_of hlt hi1 ?_
              simp only [addr_add, load_eq, Nat.zero_add, Nat.add_zero, Nat.mul_one, Nat.one_mul, Nat.zero_mul, Nat.reduceAdd, List.setIfInBounds_toArray, List.set_cons_zero, List.set_cons_succ, List.getElem?_toArray, List.getElem?_cons_zero, List.getElem?_cons_succ, some_and, int_eq, bool_eq, str_eq, slc_eq, ptr_eq, nn_eq, M.val, cond_true, cond_false, Bool.not_true, Bool.not_false, add2, c0, c1]
              have hdr : D.W = D.W.take i.toNat ++ (D.W[i.toNat] :: D.W.drop (i.toNat + 1)) := by rw [← List.drop_eq_getElem_cons hlt', List.take_append_drop]
              by_cases he : D.W[i.toNat].1 = at_
              · simp only [he, beq_self_eq_true, cond_true]
                refine M.idx_of hlt hi1 ?_
                simp only [addr_add, load_eq, Nat.zero_add, Nat.add_zero, Nat.mul_one, Nat.one_mul, Nat.zero_mul, Nat.reduceAdd, List.setIfInBounds_toArray, List.set_cons_zero, List.set_cons_succ, List.getElem?_toArray, List.getElem?_cons_zero, List.getElem?_cons_succ, some_and, int_eq, bool_eq, str_eq, slc_eq, ptr_eq, nn_eq, M.val, cond_true, cond_false, Bool.not_true, Bool.not_false, add2, c0, c1]
                have e1 : (applyW D.W D.L)[at_.toNat]? = some D.W[i.toNat].2 := by
                  conv => lhs; rw [hdr]
                  rw [applyW_append, show ∀ X Y, applyW (D.W[i.toNat] :: X) Y = applyW X (Y.set D.W[i.toNat].1.toNat D.W[i.toNat].2) from fun _ _ => rfl, applyW_off]
                  · rw [he, List.getElem?_set_self (by rw [applyW_length]; exact hat)]
                  · intro v hv
                    obtain ⟨j, hj, rfl⟩ := List.getElem_of_mem hv
                    have hjl : i.toNat + 1 + j < D.W.length := by simp at hj; omega
                    rw [List.getElem_drop]
                    have h1 := hno (i.toNat + 1 + j) _ (by omega) (List.getElem?_eq_getElem hjl)
                    have h2 := (ok.at_ _ (List.getElem_mem hjl)).1
                    omega
                rw [List.getD_eq_getElem?_getD, e1] at k
                exact k
              · have he' : (D.W[i.toNat].1 == at_) = false := by simpa using he
                have hw2 : IntKind.wrap .i64 (i - 1) = i - 1 := by rw [IntKind.wrap_i64]; omega
                simp only [he', cond_false, hw2]
                refine hJ _ _ ⟨rfl, by omega, by omega, fun j w hj hw => ?_⟩ (by omega)
                by_cases hji : j = i.toNat
                · subst hji
                  rw [List.getElem?_eq_getElem hlt'] at hw
                  simp only [Option.some.injEq] at hw
                  rw [← hw]; exact he
                · exact hno j w (by omega) hw
          · simp only [hlt, decide_false, cond_false]
            refine M.idx_of (by omega) (by rw [ok.len]; omega) ?_
            have e1 : (applyW D.W D.L)[at_.toNat]? = D.L[at_.toNat]? := applyW_off _ _ _ fun v hv => by
              obtain ⟨j, hj, rfl⟩ := List.getElem_of_mem hv
              have h1 := hno j _ (by omega) (List.getElem?_eq_getElem hj)
              have h2 := (ok.at_ _ (List.getElem_mem hj)).1
              omega
            simp only [addr_add, load_eq, Nat.zero_add, Nat.add_zero, Nat.mul_one, Nat.one_mul, Nat.zero_mul, Nat.reduceAdd, List.setIfInBounds_toArray, List.set_cons_zero, List.set_cons_succ, List.getElem?_toArray, List.getElem?_cons_zero, List.getElem?_cons_succ, some_and, int_eq, bool_eq, str_eq, slc_eq, ptr_eq, nn_eq, M.val, cond_true, cond_false, Bool.not_true, Bool.not_false, cell_in hbl, strs_get, List.getElem?_eq_getElem hat, Option.map_some]
            rw [List.getD_eq_getElem?_getD, e1, List.getElem?_eq_getElem hat] at k
            exact k
  · have hu : D.usable at_ = 20 := by simp [DiskM.usable, hdead]
    simp only [hu, ne_eq, show ¬ ((20 : Int) = 0) by omega, not_false_iff, if_true] at k
    simp only [cond_true]
    exact k
theorem rFlush {Q : Int → H → Prop} (w : Wd h0 h [refC d D]) (hW : D.W.length < 1000000000) (k : ∀ h', Wd h0 h' [refC d D.flush.2] → Q D.flush.1 h') : ref09_Flush (some ⟨d, 0, none⟩) h Q := by
  have w0 := w
  obtain ⟨⟨bl, a, l, c⟩, ⟨⟨ok, sy⟩, hl⟩, w⟩ := w.opn 0 rfl
  simp only at hl
  subst hl
  have hd := w.blk 0 rfl
  unfold ref09_Flush
  have h1 := DiskM.flush_ok ok
  have h2 := DiskM.flush_sync sy
  unfold DiskM.flush at k h1 h2
  simp only [addr_add, load_eq, Nat.zero_add, Nat.add_zero, Nat.mul_one, Nat.one_mul, Nat.zero_mul, Nat.reduceAdd, List.setIfInBounds_toArray, List.set_cons_zero, List.set_cons_succ, List.getElem?_toArray, List.getElem?_cons_zero, List.getElem?_cons_succ, some_and, int_eq, bool_eq, str_eq, slc_eq, ptr_eq, nn_eq, M.val, cond_true, cond_false, Bool.not_true, Bool.not_false, cell_in hd]
  cases hdead : D.dead
  · simp only [hdead, Bool.false_eq_true, if_false] at k h1 h2
    simp only [cond_false]
    refine M.jn ?_
    refine M.loop_of (I := fun (i : Int) h' => 0 ≤ i ∧ i ≤ D.W.length ∧ Wd h0 h' [.blk d (.cells #[.slice (some ⟨bl, 0, none⟩) D.L.length D.L.length, .slice a D.W.length c, .bool false] 49 (0, 0)),
        .blk bl (.cells (strs (applyW (D.W.take i.toNat) D.L)) 9 (0, 0)), .sl 107 2 a D.W.length c (wr D.W)]) (μ := fun i => (D.W.length - i).toNat) ⟨by omega, by omega, by simpa [hdead, applyW] using w⟩ ?_
    rintro i h1' J ⟨hi0, hi1, w⟩ hJ
    have hd := w.blk 0 rfl
    obtain ⟨_, _, hsn, hsr⟩ := w.slrow 2 rfl
    simp only [addr_add, load_eq, Nat.zero_add, Nat.add_zero, Nat.mul_one, Nat.one_mul, Nat.zero_mul, Nat.reduceAdd, List.setIfInBounds_toArray, List.set_cons_zero, List.set_cons_succ, List.getElem?_toArray, List.getElem?_cons_zero, List.getElem?_cons_succ, some_and, int_eq, bool_eq, str_eq, slc_eq, ptr_eq, nn_eq, M.val, cond_true, cond_false, Bool.not_true, Bool.not_false, cell_in hd]
    by_cases hlt : i < D.W.length
    · have hlt' : i.toNat < D.W.length := by omega
      cases a with
      | none => have : D.W.length = 0 := (hsn rfl).2; omega
      | some ab =>
        have hrow := hsr ab rfl
        have hg := wr_get D.W i.toNat D.W[i.toNat] (List.getElem?_eq_getElem hlt')
        have hlen := wr_length D.W
        have hin := ok.at_ D.W[i.toNat] (List.getElem_mem _)
        have c0 : h1'.cell (ab.add (i.toNat * 2)) = some (.int .i64 D.W[i.toNat].1) := by rw [hrow _ (by omega)]; exact hg.1
        have c1 : h1'.cell (ab.add (i.toNat * 2 + 1)) = some (.string D.W[i.toNat].2) := by rw [hrow _ (by omega)]; exact hg.2
        have hw1 : IntKind.wrap .i64 (i + 1) = i + 1 := by rw [IntKind.wrap_i64]; omega
        simp only [hlt, decide_true, cond_true]
        refine M.idx_of hi0 hlt ?_
        simp only [addr_add, load_eq, Nat.zero_add, Nat.add_zero, Nat.mul_one, Nat.one_mul, Nat.zero_mul, Nat.reduceAdd, List.setIfInBounds_toArray, List.set_cons_zero, List.set_cons_succ, List.getElem?_toArray, List.getElem?_cons_zero, List.getElem?_cons_succ, some_and, int_eq, bool_eq, str_eq, slc_eq, ptr_eq, nn_eq, M.val, cond_true, cond_false, Bool.not_true, Bool.not_false, add2, c0, c1, cell_in hd]
        refine M.idx_of hi0 hlt ?_
        simp only [addr_add, load_eq, Nat.zero_add, Nat.add_zero, Nat.mul_one, Nat.one_mul, Nat.zero_mul, Nat.reduceAdd, List.setIfInBounds_toArray, List.set_cons_zero, List.set_cons_succ, List.getElem?_toArray, List.getElem?_cons_zero, List.getElem?_cons_succ, some_and, int_eq, bool_eq, str_eq, slc_eq, ptr_eq, nn_eq, M.val, cond_true, cond_false, Bool.not_true, Bool.not_false, add2, c0, c1]
        refine M.idx_of hin.1 (by rw [ok.len]; exact hin.2) ?_
        simp only [addr_add, load_eq, Nat.zero_add, Nat.add_zero, Nat.mul_one, Nat.one_mul, Nat.zero_mul, Nat.reduceAdd, List.setIfInBounds_toArray, List.set_cons_zero, List.set_cons_succ, List.getElem?_toArray, List.getElem?_cons_zero, List.getElem?_cons_succ, some_and, int_eq, bool_eq, str_eq, slc_eq, ptr_eq, nn_eq, M.val, cond_true, cond_false, Bool.not_true, Bool.not_false]
        refine M.put_w w 1 rfl rfl (by rw [strs_size, applyW_length, ok.len]; omega) fun h2' w => ?_
        rw [strs_set] at w
        rw [hw1]
        refine hJ _ _ ⟨by omega, by omega, ?_⟩ (by omega)
        have : applyW (D.W.take (i + 1).toNat) D.L = (applyW (D.W.take i.toNat) D.L).set D.W[i.toNat].1.toNat D.W[i.toNat].2 := by
          rw [show (i + 1).toNat = i.toNat + 1 by omega, List.take_succ_eq_append_getElem hlt', applyW_append]; rfl
        rw [this]; exact w
    · simp only [hlt, decide_false, cond_false]
      have : i.toNat = D.W.length := by omega
      rw [this, List.take_length] at w
      refine M.put_w w 0 rfl rfl (by simp) fun h2' w => ?_
      have w := (w.drop (i := 2) rfl).nilsl 107 2
      refine k h2' (w.close 0 (bl, none, 0, 0) ?_ ⟨⟨h1, h2⟩, rfl⟩)
      simp [sy hdead, applyW_length, wr, hdead]
  · simp only [hdead, if_true] at k
    simp only [cond_true]
    exact k _ w0
theorem rFail {Q : H → Prop} (w : Wd h0 h [refC d D]) (k : ∀ h', Wd h0 h' [refC d D.fail] → Q h') : ref09_Fail (some ⟨d, 0, none⟩) h Q := by
  obtain ⟨⟨bl, a, l, c⟩, ⟨⟨ok, sy⟩, hl⟩, w⟩ := w.opn 0 rfl
  unfold ref09_Fail
  simp only [addr_add, load_eq, Nat.zero_add, Nat.add_zero, Nat.mul_one, Nat.one_mul, Nat.zero_mul, Nat.reduceAdd, List.setIfInBounds_toArray, List.set_cons_zero, List.set_cons_succ, List.getElem?_toArray, List.getElem?_cons_zero, List.getElem?_cons_succ, some_and, int_eq, bool_eq, str_eq, slc_eq, ptr_eq, nn_eq, M.val, cond_true, cond_false, Bool.not_true, Bool.not_false]
  refine M.put_w w 0 rfl rfl (by simp) fun h1 w => ?_
  refine M.put_w w 0 rfl rfl (by simp) fun h2 w => ?_
  have w := (w.drop (i := 2) rfl).nilsl 107 2
  exact k h2 (w.close 0 (bl, none, 0, 0) rfl ⟨⟨DiskM.fail_ok ok, DiskM.fail_sync⟩, rfl⟩)
theorem rCrash {Q : H → Prop} {ka : Option Addr} {kl kc : Nat} {kept : List Bool} (w : Wd h0 h [refC d D]) (hW : D.W.length < 1000000000) (hk : kept.length = kl) (h0k : ka = none → kl = 0) (hr : ∀ b, ka = some b → Sh.rowAt h0 b (kept.map Value.bool))
    (k : ∀ h', Wd h0 h' [refC d (D.crash kept)] → Q h') : ref09_Crash (some ⟨d, 0, none⟩) ka kl kc h Q := by
  have w0 := w
  obtain ⟨⟨bl, a, l, c⟩, ⟨⟨ok, sy⟩, hl⟩, w⟩ := w.opn 0 rfl
  simp only at hl
  subst hl
  have hd := w.blk 0 rfl
  unfold ref09_Crash
  have h1 := DiskM.crash_ok ok kept
  have h2 := DiskM.crash_sync sy kept
  unfold DiskM.crash at k h1 h2
  simp only [addr_add, load_eq, Nat.zero_add, Nat.add_zero, Nat.mul_one, Nat.one_mul, Nat.zero_mul, Nat.reduceAdd, List.setIfInBounds_toArray, List.set_cons_zero, List.set_cons_succ, List.getElem?_toArray, List.getElem?_cons_zero, List.getElem?_cons_succ, some_and, int_eq, bool_eq, str_eq, slc_eq, ptr_eq, nn_eq, M.val, cond_true, cond_false, Bool.not_true, Bool.not_false, cell_in hd]
  cases hdead : D.dead
  · simp only [hdead, Bool.false_eq_true, if_false] at k h1 h2
    simp only [cond_false]
    refine M.jn ?_
    refine M.loop_of (I := fun (i : Int) h' => 0 ≤ i ∧ i ≤ D.W.length ∧ ∃ L', L'.length = D.L.length ∧ DiskM.crashL (D.W.drop i.toNat) (kept.drop i.toNat) L' = DiskM.crashL D.W kept D.L ∧ Wd h0 h' [.blk d (.cells #[.slice (some ⟨bl, 0, none⟩) D.L.length D.L.length, .slice a D.W.length c, .bool false] 49 (0, 0)),
        .blk bl (.cells (strs L') 9 (0, 0)), .sl 107 2 a D.W.length c (wr D.W)]) (μ := fun i => (D.W.length - i).toNat) ⟨by omega, by omega, D.L, rfl, rfl, by simpa [hdead] using w⟩ ?_
    rintro i h1' J ⟨hi0, hi1, L', hL', hcr, w⟩ hJ
    have hd := w.blk 0 rfl
    obtain ⟨_, _, hsn, hsr⟩ := w.slrow 2 rfl
    have fin : ∀ h', L' = DiskM.crashL D.W kept D.L → Wd h0 h' [.blk d (.cells #[.slice (some ⟨bl, 0, none⟩) D.L.length D.L.length, .slice a D.W.length c, .bool false] 49 (0, 0)), .blk bl (.cells (strs L') 9 (0, 0)), .sl 107 2 a D.W.length c (wr D.W)] →
        (M.put h' ⟨d, 1, none⟩ (.slice none 0 0) fun h53 => Q h53) := by
      intro h' e w
      refine M.put_w w 0 rfl rfl (by simp) fun h2' w => ?_
      have w := (w.drop (i := 2) rfl).nilsl 107 2
      refine k h2' (w.close 0 (bl, none, 0, 0) ?_ ⟨⟨h1, h2⟩, rfl⟩)
      simp [← e, hL', wr, hdead]
    refine M.join_of (fun b h' => b = decide (i < D.W.length ∧ i < kl) ∧ h' = h1') (fun J2 hJ2 => ?_) ?_
    · simp only [addr_add, load_eq, Nat.zero_add, Nat.add_zero, Nat.mul_one, Nat.one_mul, Nat.zero_mul, Nat.reduceAdd, List.setIfInBounds_toArray, List.set_cons_zero, List.set_cons_succ, List.getElem?_toArray, List.getElem?_cons_zero, List.getElem?_cons_succ, some_and, int_eq, bool_eq, str_eq, slc_eq, ptr_eq, nn_eq, M.val, cond_true, cond_false, Bool.not_true, Bool.not_false, cell_in hd]
      by_cases hlt : i < D.W.length
      · simp only [hlt, decide_true, cond_true]
        exact hJ2 _ _ ⟨by simp [hlt], rfl⟩
      · simp only [hlt, decide_false, cond_false]
        exact hJ2 _ _ ⟨by simp [hlt], rfl⟩
    · rintro b h2' ⟨rfl, rfl⟩
      by_cases hlt : i < D.W.length ∧ i < kl
      · have hlt' : i.toNat < D.W.length := by omega
        have hk1' : i.toNat < kept.length := by omega
        have hdrop : D.W.drop i.toNat = D.W[i.toNat] :: D.W.drop (i.toNat + 1) := List.drop_eq_getElem_cons hlt'
        have hkd : kept.drop i.toNat = kept[i.toNat] :: kept.drop (i.toNat + 1) := List.drop_eq_getElem_cons hk1'
        have hw1 : IntKind.wrap .i64 (i + 1) = i + 1 := by rw [IntKind.wrap_i64]; omega
        have hnext : (i + 1).toNat = i.toNat + 1 := by omega
        rw [hdrop, hkd] at hcr
        simp only [DiskM.crashL] at hcr
        simp only [hlt, and_self, decide_true, cond_true]
        cases ka with
        | none => have := h0k rfl; omega
        | some kb =>
        cases a with
        | none => have : D.W.length = 0 := (hsn rfl).2; omega
        | some ab =>
          have hrow := hsr ab rfl
          have hg := wr_get D.W i.toNat D.W[i.toNat] (List.getElem?_eq_getElem hlt')
          have hlen := wr_length D.W
          have hin := ok.at_ D.W[i.toNat] (List.getElem_mem _)
          have c0 : h2'.cell (ab.add (i.toNat * 2)) = some (.int .i64 D.W[i.toNat].1) := by rw [hrow _ (by omega)]; exact hg.1
          have c1 : h2'.cell (ab.add (i.toNat * 2 + 1)) = some (.string D.W[i.toNat].2) := by rw [hrow _ (by omega)]; exact hg.2
          have ck : h2'.cell (kb.add i.toNat) = some (.bool kept[i.toNat]) := w.keep.cell (by rw [hr kb rfl _ (by simpa using hk1')]; simp [hk1'])
          refine M.jn ?_
          refine M.idx_of hi0 hlt.2 ?_
          simp only [addr_add, load_eq, Nat.zero_add, Nat.add_zero, Nat.mul_one, Nat.one_mul, Nat.zero_mul, Nat.reduceAdd, List.setIfInBounds_toArray, List.set_cons_zero, List.set_cons_succ, List.getElem?_toArray, List.getElem?_cons_zero, List.getElem?_cons_succ, some_and, int_eq, bool_eq, str_eq, slc_eq, ptr_eq, nn_eq, M.val, cond_true, cond_false, Bool.not_true, Bool.not_false, ck, hw1]
          cases hkv : kept[i.toNat]
          · simp only [hkv, Bool.false_eq_true, if_false] at hcr
            simp only [cond_false]
            exact hJ _ _ ⟨by omega, by omega, L', hL', by rw [hnext]; exact hcr, w⟩ (by omega)
          · simp only [hkv, if_true] at hcr
            simp only [addr_add, load_eq, Nat.zero_add, Nat.add_zero, Nat.mul_one, Nat.one_mul, Nat.zero_mul, Nat.reduceAdd, List.setIfInBounds_toArray, List.set_cons_zero, List.set_cons_succ, List.getElem?_toArray, List.getElem?_cons_zero, List.getElem?_cons_succ, some_and, int_eq, bool_eq, str_eq, slc_eq, ptr_eq, nn_eq, M.val, cond_true, cond_false, Bool.not_true, Bool.not_false, cell_in hd]
            refine M.idx_of hi0 hlt.1 ?_
            simp only [addr_add, load_eq, Nat.zero_add, Nat.add_zero, Nat.mul_one, Nat.one_mul, Nat.zero_mul, Nat.reduceAdd, List.setIfInBounds_toArray, List.set_cons_zero, List.set_cons_succ, List.getElem?_toArray, List.getElem?_cons_zero, List.getElem?_cons_succ, some_and, int_eq, bool_eq, str_eq, slc_eq, ptr_eq, nn_eq, M.val, cond_true, cond_false, Bool.not_true, Bool.not_false, add2, c0, c1, cell_in hd]
            refine M.idx_of hi0 hlt.1 ?_
            simp only [addr_add, load_eq, Nat.zero_add, Nat.add_zero, Nat.mul_one, Nat.one_mul, Nat.zero_mul, Nat.reduceAdd, List.setIfInBounds_toArray, List.set_cons_zero, List.set_cons_succ, List.getElem?_toArray, List.getElem?_cons_zero, List.getElem?_cons_succ, some_and, int_eq, bool_eq, str_eq, slc_eq, ptr_eq, nn_eq, M.val, cond_true, cond_false, Bool.not_true, Bool.not_false, add2, c0, c1]
            refine M.idx_of hin.1 (by rw [ok.len]; exact hin.2) ?_
            simp only [addr_add, load_eq, Nat.zero_add, Nat.add_zero, Nat.mul_one, Nat.one_mul, Nat.zero_mul, Nat.reduceAdd, List.setIfInBounds_toArray, List.set_cons_zero, List.set_cons_succ, List.getElem?_toArray, List.getElem?_cons_zero, List.getElem?_cons_succ, some_and, int_eq, bool_eq, str_eq, slc_eq, ptr_eq, nn_eq, M.val, cond_true, cond_false, Bool.not_true, Bool.not_false]
            refine M.put_w w 1 rfl rfl (by rw [strs_size, hL', ok.len]; omega) fun h4 w => ?_
            rw [strs_set] at w
            exact hJ _ _ ⟨by omega, by omega, _, by simpa using hL', by rw [hnext]; exact hcr, w⟩ (by omega)
      · simp only [hlt, decide_false, cond_false]
        refine fin _ ?_ w
        rw [← hcr]
        by_cases hlt1 : i < D.W.length
        · have : kept.drop i.toNat = [] := List.drop_eq_nil_of_le (by omega)
          rw [this]
          cases D.W.drop i.toNat <;> rfl
        · have : D.W.drop i.toNat = [] := List.drop_eq_nil_of_le (by omega)
          rw [this]
          cases kept.drop i.toNat <;> rfl
  · simp only [hdead, if_true] at k
    simp only [cond_true]
    exact k _ w0
end
end Go.Proofs.Ytkfokpkpobjoeaa

/- The disk's statements, walked: DiskDead, DiskAll. -/
import Derived.Test.YtkfokpkpobjoeaaDkB
namespace Go.Proofs.Ytkfokpkpobjoeaa
open Go.Sh Go.RowKit
set_option linter.unusedSimpArgs false
set_option linter.unusedVariables false
section
variable {h0 h : H} {d : Nat} {D : DiskM} {at_ : Int} {s : ByteArray}
theorem Write_nil {Q : Int → H → Prop} (k : Q 1 h) : disk_Disk_Write none at_ s h Q := k
theorem Read_nil {Q : ByteArray → Int → H → Prop} (k : Q ByteArray.empty 1 h) : disk_Disk_Read none at_ h Q := k
theorem Flush_nil {Q : Int → H → Prop} (k : Q 1 h) : disk_Disk_Flush none h Q := k
theorem Crash_nil {Q : H → Prop} {a : Option Addr} {l c : Nat} (k : Q h) : disk_Disk_Crash none a l c h Q := k
theorem Restore_nil {Q : H → Prop} {a : Option Addr} {l c : Nat} (k : Q h) : disk_Disk_Restore none a l c h Q := k
theorem Tamper_nil {Q : Bool → H → Prop} (k : ∀ h', Keep h h' → Q false h') : disk_Disk_Tamper none at_ s h Q := by
  unfold disk_Disk_Tamper disk_Disk_Tamper.g
  refine M.new_of fun b h1 _ k1 hb => ?_
  refine M.jn ?_
  simp only [addr_add, load_eq, Nat.zero_add, Nat.add_zero, Nat.mul_one, Nat.one_mul, Nat.zero_mul, Nat.reduceAdd, List.setIfInBounds_toArray, List.set_cons_zero, List.set_cons_succ, List.getElem?_toArray, List.getElem?_cons_zero, List.getElem?_cons_succ, some_and, int_eq, bool_eq, str_eq, slc_eq, ptr_eq, nn_eq, M.val, cond_true, cond_false, Bool.not_true, Bool.not_false, cell_in hb]
  exact k h1 k1
theorem Image_nil {Q : Option Addr → Nat → Nat → H → Prop} (k : Q none 0 0 h) : disk_Disk_Image none h Q := k
theorem Waiting_nil {Q : Int → H → Prop} (k : Q 0 h) : disk_Disk_Waiting none h Q := k
theorem Dead_nil {Q : Bool → H → Prop} (k : Q false h) : disk_Disk_Dead none h Q := k
theorem Size_nil {Q : Int → H → Prop} (k : Q 0 h) : disk_Disk_Size none h Q := k
theorem dead {m : ActM} {Q : Bool → H → Prop} (ha : ActAt h m) (k : ∀ h', Keep h h' → Q true h') : law09_DiskDead m.do_ m.at_ m.data m.long m.ka m.kl m.kc m.die h Q := by
  unfold law09_DiskDead law09_DiskDead.g
  refine M.new_w (Wd.start h) fun b2 h1 w => ?_
  refine New_spec fun d h2 w2 => ?_
  have w := w.join w2
  obtain ⟨hx, k0, k1, wx, wr, back⟩ := w.on (i := 1) rfl
  refine Write_spec wx (by decide) fun h3 w1 => ?_
  have w := back _ _ w1
  obtain ⟨hx, k0, k1, wx, wr, back⟩ := w.on (i := 1) rfl
  refine Fail_spec wx fun h4 w1 => ?_
  have w := back _ _ w1
  generalize hD : (((DiskM.new 5).write 1 ⟨#[120]⟩).2.fail) = D at w
  have hdead : D.dead = true := by rw [← hD]; rfl
  have hW : D.W = [] := by rw [← hD]; rfl
  have hN : D.N.length = 5 := by rw [← hD]; decide +kernel
  have hu : ∀ a, D.usable a = 20 := fun a => by simp [DiskM.usable, hdead]
  refine M.jn ?_
  refine M.new_w w fun b10 h5 w => ?_
  refine M.loop_of (I := fun (i : Int) h' => 0 ≤ i ∧ i ≤ 2 ∧ Wd h h' [.blk b2 (.cells #[.int .i64 m.do_, .int .i64 m.at_, .string m.data, .int .i64 m.long, .slice m.ka m.kl m.kc, .bool m.die] 34 (0, 0)), diskC d D,
    .blk b10 (.cells #[.pointer none, .pointer (some ⟨d, 0, none⟩)] 25 (0, 0))]) (μ := fun i => (2 - i).toNat) ⟨by omega, by omega, w⟩ ?_
  rintro i h6 J ⟨hi0, hi1, w⟩ hJ
  by_cases hlt : i < ((2 : Nat) : Int)
  · simp only [hlt, decide_true, cond_true]
    refine M.idx_of hi0 hlt ?_
    have hb10 := w.blk 2 rfl
    have hb2 := w.blk 0 rfl
    rcases (show i = 0 ∨ i = 1 by omega) with rfl | rfl
    · simp only [addr_add, load_eq, Nat.zero_add, Nat.add_zero, Nat.mul_one, Nat.one_mul, Nat.zero_mul, Nat.reduceAdd, List.setIfInBounds_toArray, List.set_cons_zero, List.set_cons_succ, List.getElem?_toArray, List.getElem?_cons_zero, List.getElem?_cons_succ, some_and, int_eq, bool_eq, str_eq, slc_eq, ptr_eq, nn_eq, M.val, cond_true, cond_false, Bool.not_true, Bool.not_false, cell_in hb10, show Int.toNat 0 = 0 from rfl]
      refine M.new_t w fun b19 h7 hb19 w => ?_
      refine M.idx_of (by omega) (by omega) ?_
      have hb2 := w.blk 0 rfl
      simp only [addr_add, load_eq, Nat.zero_add, Nat.add_zero, Nat.mul_one, Nat.one_mul, Nat.zero_mul, Nat.reduceAdd, List.setIfInBounds_toArray, List.set_cons_zero, List.set_cons_succ, List.getElem?_toArray, List.getElem?_cons_zero, List.getElem?_cons_succ, some_and, int_eq, bool_eq, str_eq, slc_eq, ptr_eq, nn_eq, M.val, cond_true, cond_false, Bool.not_true, Bool.not_false, cell_in hb19, cell_in hb2, show Int.toNat 0 = 0 from rfl]
      refine Read_nil ?_
      simp only [addr_add, load_eq, Nat.zero_add, Nat.add_zero, Nat.mul_one, Nat.one_mul, Nat.zero_mul, Nat.reduceAdd, List.setIfInBounds_toArray, List.set_cons_zero, List.set_cons_succ, List.getElem?_toArray, List.getElem?_cons_zero, List.getElem?_cons_succ, some_and, int_eq, bool_eq, str_eq, slc_eq, ptr_eq, nn_eq, M.val, cond_true, cond_false, Bool.not_true, Bool.not_false, cell_in hb2]
      refine Crash_nil ?_
      refine M.new_t w fun b35 h8 hb35 w => ?_
      refine Restore_nil ?_
      refine M.jn ?_
      have hb2 := w.blk 0 rfl
      simp only [addr_add, load_eq, Nat.zero_add, Nat.add_zero, Nat.mul_one, Nat.one_mul, Nat.zero_mul, Nat.reduceAdd, List.setIfInBounds_toArray, List.set_cons_zero, List.set_cons_succ, List.getElem?_toArray, List.getElem?_cons_zero, List.getElem?_cons_succ, some_and, int_eq, bool_eq, str_eq, slc_eq, ptr_eq, nn_eq, M.val, cond_true, cond_false, Bool.not_true, Bool.not_false, cell_in hb2]
      refine bytes_spec fun h9 k9 => ?_
      have w := w.keeps k9
      have hb2' := w.blk 0 rfl
      refine M.still_in hb2 hb2' ?_
      refine Write_nil ?_
      simp only [bne_self_eq_false, cond_false]
      refine Flush_nil ?_
      simp only [addr_add, load_eq, Nat.zero_add, Nat.add_zero, Nat.mul_one, Nat.one_mul, Nat.zero_mul, Nat.reduceAdd, List.setIfInBounds_toArray, List.set_cons_zero, List.set_cons_succ, List.getElem?_toArray, List.getElem?_cons_zero, List.getElem?_cons_succ, some_and, int_eq, bool_eq, str_eq, slc_eq, ptr_eq, nn_eq, M.val, cond_true, cond_false, Bool.not_true, Bool.not_false, cell_in hb2', bne_self_eq_false]
      refine Tamper_nil fun h10 k10 => ?_
      have w := w.keeps k10
      simp only [cond_false]
      refine Image_nil ?_
      simp only [Int.natCast_zero, bne_self_eq_false, cond_false]
      refine Waiting_nil ?_
      simp only [bne_self_eq_false, cond_false]
      refine Dead_nil ?_
      exact hJ 1 _ ⟨by omega, by omega, w⟩ (by decide)
    · simp only [addr_add, load_eq, Nat.zero_add, Nat.add_zero, Nat.mul_one, Nat.one_mul, Nat.zero_mul, Nat.reduceAdd, List.setIfInBounds_toArray, List.set_cons_zero, List.set_cons_succ, List.getElem?_toArray, List.getElem?_cons_zero, List.getElem?_cons_succ, some_and, int_eq, bool_eq, str_eq, slc_eq, ptr_eq, nn_eq, M.val, cond_true, cond_false, Bool.not_true, Bool.not_false, cell_in hb10, show Int.toNat 1 = 1 from rfl]
      refine M.new_t w fun b19 h7 hb19 w => ?_
      refine M.idx_of (by omega) (by omega) ?_
      have hb2 := w.blk 0 rfl
      simp only [addr_add, load_eq, Nat.zero_add, Nat.add_zero, Nat.mul_one, Nat.one_mul, Nat.zero_mul, Nat.reduceAdd, List.setIfInBounds_toArray, List.set_cons_zero, List.set_cons_succ, List.getElem?_toArray, List.getElem?_cons_zero, List.getElem?_cons_succ, some_and, int_eq, bool_eq, str_eq, slc_eq, ptr_eq, nn_eq, M.val, cond_true, cond_false, Bool.not_true, Bool.not_false, cell_in hb19, cell_in hb2, show Int.toNat 1 = 1 from rfl]
      obtain ⟨hx, k0, k1, wx, wr, _⟩ := w.on (i := 1) rfl
      refine Read_spec wx ?_
      have e1 : D.read m.at_ = (ByteArray.empty, 20) := by simp [DiskM.read, hu]
      simp only [addr_add, load_eq, Nat.zero_add, Nat.add_zero, Nat.mul_one, Nat.one_mul, Nat.zero_mul, Nat.reduceAdd, List.setIfInBounds_toArray, List.set_cons_zero, List.set_cons_succ, List.getElem?_toArray, List.getElem?_cons_zero, List.getElem?_cons_succ, some_and, int_eq, bool_eq, str_eq, slc_eq, ptr_eq, nn_eq, M.val, cond_true, cond_false, Bool.not_true, Bool.not_false, e1, cell_in hb2]
      obtain ⟨hx, k0, k1, wx, wr, back⟩ := w.on (i := 1) rfl
      refine Crash_spec (kept := m.kept) wx (by rw [hW]; decide) ha.kl ha.k0 (fun b e => (w.keep.trans (Keep.refl _) |> fun _ => k0.row (ha.row b e))) fun h8 w1 => ?_
      have w := back _ _ w1
      have e2 : D.crash m.kept = D := by simp [DiskM.crash, hdead]
      rw [e2] at w
      refine M.new_w w fun b35 h9 w => ?_
      obtain ⟨hx, k0, k1, wx, wr, back⟩ := w.on (i := 1) rfl
      refine Restore_spec (img := [⟨#[121]⟩]) wx rfl (fun e => by simp at e) (fun b e => ?_) fun h10 w1 => ?_
      · simp only [Option.some.injEq] at e
        subst e
        have := wr.blk 2 rfl
        intro j hj
        rw [addr_add, cell_in this]
        simp
      have w := (back _ _ w1).drop (i := 3) rfl
      have e3 : D.restore [⟨#[121]⟩] = D := by simp [DiskM.restore, hdead]
      rw [e3] at w
      refine M.jn ?_
      have hb2 := w.blk 0 rfl
      simp only [addr_add, load_eq, Nat.zero_add, Nat.add_zero, Nat.mul_one, Nat.one_mul, Nat.zero_mul, Nat.reduceAdd, List.setIfInBounds_toArray, List.set_cons_zero, List.set_cons_succ, List.getElem?_toArray, List.getElem?_cons_zero, List.getElem?_cons_succ, some_and, int_eq, bool_eq, str_eq, slc_eq, ptr_eq, nn_eq, M.val, cond_true, cond_false, Bool.not_true, Bool.not_false, cell_in hb2]
      refine bytes_spec fun h11 k11 => ?_
      have w := w.keeps k11
      have hb2' := w.blk 0 rfl
      refine M.still_in hb2 hb2' ?_
      obtain ⟨hx, k0, k1, wx, wr, back⟩ := w.on (i := 1) rfl
      refine Write_spec wx (by rw [hW]; decide) fun h12 w1 => ?_
      have w := back _ _ w1
      have e4 : ∀ a s, D.write a s = (20, D) := fun a s => by simp [DiskM.write, hu]
      rw [e4] at w
      simp only [e4, bne_self_eq_false, cond_false]
      obtain ⟨hx, k0, k1, wx, wr, back⟩ := w.on (i := 1) rfl
      refine Flush_spec wx fun h13 w1 => ?_
      have w := back _ _ w1
      have e5 : D.flush = (20, D) := by simp [DiskM.flush, hdead]
      rw [e5] at w
      have hb2 := w.blk 0 rfl
      simp only [addr_add, load_eq, Nat.zero_add, Nat.add_zero, Nat.mul_one, Nat.one_mul, Nat.zero_mul, Nat.reduceAdd, List.setIfInBounds_toArray, List.set_cons_zero, List.set_cons_succ, List.getElem?_toArray, List.getElem?_cons_zero, List.getElem?_cons_succ, some_and, int_eq, bool_eq, str_eq, slc_eq, ptr_eq, nn_eq, M.val, cond_true, cond_false, Bool.not_true, Bool.not_false, e5, cell_in hb2, bne_self_eq_false]
      obtain ⟨hx, k0, k1, wx, wr, back⟩ := w.on (i := 1) rfl
      refine Tamper_spec wx (by rw [hW]; decide) fun h14 w1 => ?_
      have w := back _ _ w1
      have e6 : ∀ a s, D.tamper a s = (false, D) := fun a s => by simp [DiskM.tamper, hu]
      rw [e6] at w
      simp only [e6, cond_false]
      obtain ⟨hx, k0, k1, wx, wr, back⟩ := w.on (i := 1) rfl
      refine Image_spec wx fun a' c' h15 w15 => ?_
      have e7 : D.image = [] := by simp [DiskM.image, hdead]
      have w := w.keeps w15.keep
      simp only [e7, List.length_nil, Int.natCast_zero, bne_self_eq_false, cond_false]
      obtain ⟨hx, k0, k1, wx, wr, _⟩ := w.on (i := 1) rfl
      refine Waiting_spec wx ?_
      simp only [hW, List.length_nil, Int.natCast_zero, bne_self_eq_false, cond_false]
      refine Dead_spec wx ?_
      simp only [hdead]
      exact hJ 2 _ ⟨by omega, by omega, w⟩ (by decide)
  · simp only [hlt, decide_false, cond_false]
    refine M.jn ?_
    refine wakes_spec fun h7 k7 => ?_
    have w := w.keeps k7
    simp only [cond_true]
    refine Size_nil ?_
    simp only [beq_self_eq_true, cond_true]
    obtain ⟨hx, k0, k1, wx, wr, _⟩ := w.on (i := 1) rfl
    refine Size_spec wx ?_
    simp only [hN]
    exact k _ w.keep
theorem crashL_all : ∀ (W : List (Int × ByteArray)) (ks : List Bool) (L : List ByteArray), W.length ≤ ks.length → (∀ i, i < W.length → ks[i]? = some true) → DiskM.crashL W ks L = applyW W L
  | [], ks, L, _, _ => by cases ks <;> rfl
  | w :: W, [], L, h, _ => by simp at h
  | w :: W, k :: ks, L, h, hk => by
    have hk0 : k = true := by simpa using hk 0 (by simp)
    subst hk0
    rw [DiskM.crashL, if_pos rfl, crashL_all W ks _ (by simpa using h) fun i hi => by simpa using hk (i + 1) (by simpa using hi)]
    rfl
end
end Go.Proofs.Ytkfokpkpobjoeaa

/- The disk's statements, walked: DiskAll. -/
import Derived.Test.YtkfokpkpobjoeaaDkE
namespace Go.Proofs.Ytkfokpkpobjoeaa
open Go.Sh Go.RowKit
set_option linter.unusedSimpArgs false
set_option linter.unusedVariables false
section
variable {h0 h : H} {d : Nat} {D : DiskM} {at_ : Int} {s : ByteArray}
theorem bools_set (bs : List Bool) (i : Nat) (b : Bool) : (bs.map Value.bool).toArray.setIfInBounds i (.bool b) = ((bs.set i b).map Value.bool).toArray := by simp
theorem all {sa ma : Option Addr} {sl sc ml mc : Nat} {ms mm : List ActM} {Q : Bool → H → Prop} (hs : Acts h sa sl ms) (hc : sl ≤ sc) (hm : Acts h ma ml mm) (hmc : ml ≤ mc) (k : ∀ h', Keep h h' → Q true h') : law09_DiskAll sa sl sc ma ml mc h Q := by
  unfold law09_DiskAll law09_DiskAll.g
  refine New_spec fun a h1 w => ?_
  refine New_spec fun b h2 w2 => ?_
  have w := w.join w2
  refine New_spec fun c h3 w3 => ?_
  have w := w.join w3
  have n30 : (DiskM.new 30).N.length = 30 := by decide +kernel
  refine M.jn ?_
  obtain ⟨hm1, hm2, hm3⟩ := mn_take (l := sl) (n := 30) (by omega)
  refine M.sub0 hm2 (by omega) ?_
  have hs := hs.take (min sl 30) (Nat.min_le_left _ _)
  rw [show (mn ((sl : Nat) : Int) (30 : Int)).toNat = min sl 30 from hm1]
  have hl30 : min sl 30 ≤ 30 := by omega
  generalize min sl 30 = l at hs hl30
  generalize ms.take l = ms at hs
  refine M.loop_of (I := fun (i : Int) h' => 0 ≤ i ∧ i ≤ l ∧ ∃ D, Wd h h' [diskC a D, diskC b D, diskC c D] ∧ D.W.length ≤ i.toNat ∧ D.N.length = 30 ∧ D.dead = false ∧ D.Sync) (μ := fun i => (l - i).toNat) ⟨by omega, by omega, _, w, by simp [DiskM.new], n30, rfl, DiskM.new_sync 30⟩ ?_
  rintro i h5 J ⟨hi0, hi1, D, w, hW, hn30, hdead, hsy⟩ hJ
  by_cases hlt : i < l
  · have hlt' : i.toNat < ms.length := by rw [hs.len]; omega
    cases sa with
    | none => have := hs.nil rfl; omega
    | some ab =>
      obtain ⟨hrow, ha⟩ := hs.row ab rfl i.toNat _ (List.getElem?_eq_getElem hlt')
      generalize ms[i.toNat] = m at hrow ha
      obtain ⟨c0, c1, c2, c3, c4, c5⟩ := act_cells (w.keep.row hrow)
      simp only [hlt, decide_true, cond_true]
      refine M.idx_of hi0 hlt ?_
      simp only [addr_add, load_eq, Nat.zero_add, Nat.add_zero, Nat.mul_one, Nat.one_mul, Nat.zero_mul, Nat.reduceAdd, List.setIfInBounds_toArray, List.set_cons_zero, List.set_cons_succ, List.getElem?_toArray, List.getElem?_cons_zero, List.getElem?_cons_succ, some_and, int_eq, bool_eq, str_eq, slc_eq, ptr_eq, nn_eq, M.val, cond_true, cond_false, Bool.not_true, Bool.not_false, add2, c0, c1, c2, c3, c4, c5]
      refine M.new_w w fun t h6 w => ⟨rfl, ?_⟩
      refine M.puts_w0 w 3 rfl (by simp [isPlainCell]) rfl fun h7 w => ?_
      refine M.new_w w fun t2 h8 w => ?_
      have hl := D.write_len m.at_ (bytesZ m.data m.long)
      refine M.loop_of (I := fun (j : Int) h' => 0 ≤ j ∧ j ≤ 3 ∧ Wd h h' [diskC a (if 0 < j then (D.write m.at_ (bytesZ m.data m.long)).2 else D), diskC b (if 1 < j then (D.write m.at_ (bytesZ m.data m.long)).2 else D), diskC c (if 2 < j then (D.write m.at_ (bytesZ m.data m.long)).2 else D),
          .blk t (.cells #[.int .i64 m.do_, .int .i64 m.at_, .string m.data, .int .i64 m.long, .slice m.ka m.kl m.kc, .bool m.die] 34 (0, 0)), .blk t2 (.cells #[.pointer (some ⟨a, 0, none⟩), .pointer (some ⟨b, 0, none⟩), .pointer (some ⟨c, 0, none⟩)] 25 (0, 0))]) (μ := fun j => (3 - j).toNat) ⟨by omega, by omega, w⟩ ?_
      rintro j h9 J2 ⟨hj0, hj1, w⟩ hJ2
      by_cases hj : j < ((3 : Nat) : Int)
      · simp only [hj, decide_true, cond_true]
        refine M.idx_of hj0 hj ?_
        have ht2 := w.blk 4 rfl
        have ht := w.blk 3 rfl
        have rest : ∀ h10, Wd h h10 [diskC a (if 0 < j then (D.write m.at_ (bytesZ m.data m.long)).2 else D), diskC b (if 1 < j then (D.write m.at_ (bytesZ m.data m.long)).2 else D), diskC c (if 2 < j then (D.write m.at_ (bytesZ m.data m.long)).2 else D),
          .blk t (.cells #[.int .i64 m.do_, .int .i64 m.at_, .string m.data, .int .i64 m.long, .slice m.ka m.kl m.kc, .bool m.die] 34 (0, 0)), .blk t2 (.cells #[.pointer (some ⟨a, 0, none⟩), .pointer (some ⟨b, 0, none⟩), .pointer (some ⟨c, 0, none⟩)] 25 (0, 0))] →
            disk_Disk_Write (if j = 0 then some ⟨a, 0, none⟩ else if j = 1 then some ⟨b, 0, none⟩ else some ⟨c, 0, none⟩) m.at_ (bytesZ m.data m.long) h10 fun n61 h62 => J2 (IntKind.wrap .i64 (j + 1)) h62 := by
          intro h10 w
          rcases (show j = 0 ∨ j = 1 ∨ j = 2 by omega) with rfl | rfl | rfl
          · simp only [if_true]
            obtain ⟨hx, k0, k1, wx, wr, back⟩ := w.on (i := 0) rfl
            refine Write_spec wx (by simp; omega) fun h11 w1 => ?_
            have w := back _ _ w1
            exact hJ2 _ _ ⟨by decide, by decide, w⟩ (by decide)
          · simp only [show ¬ ((1 : Int) = 0) by omega, if_false, if_true]
            obtain ⟨hx, k0, k1, wx, wr, back⟩ := w.on (i := 1) rfl
            refine Write_spec wx (by simp; omega) fun h11 w1 => ?_
            have w := back _ _ w1
            exact hJ2 _ _ ⟨by decide, by decide, w⟩ (by decide)
          · simp only [show ¬ ((2 : Int) = 0) by omega, show ¬ ((2 : Int) = 1) by omega, if_false]
            obtain ⟨hx, k0, k1, wx, wr, back⟩ := w.on (i := 2) rfl
            refine Write_spec wx (by simp; omega) fun h11 w1 => ?_
            have w := back _ _ w1
            exact hJ2 _ _ ⟨by decide, by decide, w⟩ (by decide)
        have hp : h9.cell ⟨t2, j.toNat, none⟩ = some (.pointer (if j = 0 then some ⟨a, 0, none⟩ else if j = 1 then some ⟨b, 0, none⟩ else some ⟨c, 0, none⟩)) := by
          rw [cell_in ht2]
          rcases (show j = 0 ∨ j = 1 ∨ j = 2 by omega) with rfl | rfl | rfl <;> rfl
        simp only [addr_add, load_eq, Nat.zero_add, Nat.add_zero, Nat.mul_one, Nat.one_mul, Nat.zero_mul, Nat.reduceAdd, List.setIfInBounds_toArray, List.set_cons_zero, List.set_cons_succ, List.getElem?_toArray, List.getElem?_cons_zero, List.getElem?_cons_succ, some_and, int_eq, bool_eq, str_eq, slc_eq, ptr_eq, nn_eq, M.val, cond_true, cond_false, Bool.not_true, Bool.not_false, hp, cell_in ht]
        refine bytes_spec fun h10 k10 => ?_
        have w := w.keeps k10
        refine M.still_in ht (w.blk 3 rfl) ?_
        exact rest h10 w
      · have : j = 3 := by omega
        subst this
        have w : Wd h h9 [diskC a (D.write m.at_ (bytesZ m.data m.long)).2, diskC b (D.write m.at_ (bytesZ m.data m.long)).2, diskC c (D.write m.at_ (bytesZ m.data m.long)).2] := (w.drop (i := 4) rfl).drop (i := 3) rfl
        simp only [hj, decide_false, cond_false, M.val, wrap1 hi0 (show i ≤ 1000000000 by omega)]
        exact hJ _ _ ⟨by omega, by omega, _, w, by omega, by omega, by rw [hl.2.2]; exact hdead, DiskM.write_sync hsy _ _⟩ (by omega)
  · simp only [hlt, decide_false, cond_false]
    clear hJ
    refine M.jn ?_
    refine M.new_w w fun t h6 w => ?_
    have hfl : D.flush.2 = { D with L := D.N, W := [] } := by simp [DiskM.flush, hdead]
    refine M.loop_of (I := fun (j : Int) h' => 0 ≤ j ∧ j ≤ 3 ∧ Wd h h' [diskC a (if 0 < j then D.flush.2 else D), diskC b (if 1 < j then D.flush.2 else D), diskC c (if 2 < j then D.flush.2 else D),
        .blk t (.cells #[.pointer (some ⟨a, 0, none⟩), .pointer (some ⟨b, 0, none⟩), .pointer (some ⟨c, 0, none⟩)] 25 (0, 0))]) (μ := fun j => (3 - j).toNat) ⟨by omega, by omega, w⟩ ?_
    rintro j h9 J2 ⟨hj0, hj1, w⟩ hJ2
    by_cases hj : j < ((3 : Nat) : Int)
    · simp only [hj, decide_true, cond_true]
      refine M.idx_of hj0 hj ?_
      have ht := w.blk 3 rfl
      rcases (show j = 0 ∨ j = 1 ∨ j = 2 by omega) with rfl | rfl | rfl
      · simp only [addr_add, load_eq, Nat.zero_add, Nat.add_zero, Nat.mul_one, Nat.one_mul, Nat.zero_mul, Nat.reduceAdd, List.setIfInBounds_toArray, List.set_cons_zero, List.set_cons_succ, List.getElem?_toArray, List.getElem?_cons_zero, List.getElem?_cons_succ, some_and, int_eq, bool_eq, str_eq, slc_eq, ptr_eq, nn_eq, M.val, cond_true, cond_false, Bool.not_true, Bool.not_false, cell_in ht, show Int.toNat 0 = 0 from rfl]
        obtain ⟨hx, k0, k1, wx, wr, back⟩ := w.on (i := 0) rfl
        refine Flush_spec wx fun h11 w1 => ?_
        have w := back _ _ w1
        exact hJ2 _ _ ⟨by decide, by decide, w⟩ (by decide)
      · simp only [addr_add, load_eq, Nat.zero_add, Nat.add_zero, Nat.mul_one, Nat.one_mul, Nat.zero_mul, Nat.reduceAdd, List.setIfInBounds_toArray, List.set_cons_zero, List.set_cons_succ, List.getElem?_toArray, List.getElem?_cons_zero, List.getElem?_cons_succ, some_and, int_eq, bool_eq, str_eq, slc_eq, ptr_eq, nn_eq, M.val, cond_true, cond_false, Bool.not_true, Bool.not_false, cell_in ht, show Int.toNat 1 = 1 from rfl]
        obtain ⟨hx, k0, k1, wx, wr, back⟩ := w.on (i := 1) rfl
        refine Flush_spec wx fun h11 w1 => ?_
        have w := back _ _ w1
        exact hJ2 _ _ ⟨by decide, by decide, w⟩ (by decide)
      · simp only [addr_add, load_eq, Nat.zero_add, Nat.add_zero, Nat.mul_one, Nat.one_mul, Nat.zero_mul, Nat.reduceAdd, List.setIfInBounds_toArray, List.set_cons_zero, List.set_cons_succ, List.getElem?_toArray, List.getElem?_cons_zero, List.getElem?_cons_succ, some_and, int_eq, bool_eq, str_eq, slc_eq, ptr_eq, nn_eq, M.val, cond_true, cond_false, Bool.not_true, Bool.not_false, cell_in ht, show Int.toNat 2 = 2 from rfl]
        obtain ⟨hx, k0, k1, wx, wr, back⟩ := w.on (i := 2) rfl
        refine Flush_spec wx fun h11 w1 => ?_
        have w := back _ _ w1
        exact hJ2 _ _ ⟨by decide, by decide, w⟩ (by decide)
    · have : j = 3 := by omega
      subst this
      have w : Wd h h9 [diskC a D.flush.2, diskC b D.flush.2, diskC c D.flush.2] := w.drop (i := 3) rfl
      simp only [hj, decide_false, cond_false]
      clear hJ2
      refine M.mk_w w (by omega) (by omega) (by omega) (by omega) fun ab h10 w => ?_
      have e0 : (zerosOf [Value.bool false] (Int.toNat 30)).toArray = ((List.replicate 30 false).map Value.bool).toArray := rfl
      rw [e0] at w
      refine M.jn ?_
      obtain ⟨hm1, hm2, hm3⟩ := mn_take (l := ml) (n := 30) (by omega)
      refine M.sub0 hm2 (by omega) ?_
      have hm := hm.take (min ml 30) (Nat.min_le_left _ _)
      rw [show (mn ((ml : Nat) : Int) (30 : Int)).toNat = min ml 30 from hm1]
      have hml : min ml 30 ≤ 30 := by omega
      generalize min ml 30 = l2 at hm hml
      generalize mm.take l2 = mm at hm
      refine M.loop_of (I := fun (i : Int) h' => 0 ≤ i ∧ i ≤ l2 ∧ ∃ (E : DiskM) (bs : List Bool), Wd h h' [diskC a E, diskC b E, diskC c D.flush.2, .blk ab (.cells (bs.map Value.bool).toArray 4 (0, 0))] ∧ E.W.length ≤ i.toNat ∧ E.N.length = 30 ∧ E.L = D.N ∧ E.dead = false ∧ E.Sync ∧
        bs.length = 30 ∧ ∀ x, x < i.toNat → bs[x]? = some true) (μ := fun i => (l2 - i).toNat) ⟨by omega, by omega, D.flush.2, _, w, by simp [hfl], by simp [hfl, hn30], by simp [hfl], by simp [hfl, hdead], DiskM.flush_sync hsy, by simp, fun x hx => by simp at hx⟩ ?_
      rintro i h11 J3 ⟨hi0, hi1, E, bs, w, hEW, hEN, hEL, hEd, hEs, hbl, hbt⟩ hJ3
      by_cases hlt : i < l2
      · have hlt' : i.toNat < mm.length := by rw [hm.len]; omega
        cases ma with
        | none => have := hm.nil rfl; omega
        | some mb =>
          obtain ⟨hrow, ha⟩ := hm.row mb rfl i.toNat _ (List.getElem?_eq_getElem hlt')
          generalize mm[i.toNat] = m at hrow ha
          obtain ⟨c0, c1, c2, c3, c4, c5⟩ := act_cells (w.keep.row hrow)
          simp only [hlt, decide_true, cond_true]
          refine M.idx_of hi0 hlt ?_
          simp only [addr_add, load_eq, Nat.zero_add, Nat.add_zero, Nat.mul_one, Nat.one_mul, Nat.zero_mul, Nat.reduceAdd, List.setIfInBounds_toArray, List.set_cons_zero, List.set_cons_succ, List.getElem?_toArray, List.getElem?_cons_zero, List.getElem?_cons_succ, some_and, int_eq, bool_eq, str_eq, slc_eq, ptr_eq, nn_eq, M.val, cond_true, cond_false, Bool.not_true, Bool.not_false, add2, c0, c1, c2, c3, c4, c5]
          refine M.new_w w fun t h12 w => ⟨rfl, ?_⟩
          refine M.puts_w0 w 4 rfl (by simp [isPlainCell]) rfl fun h13 w => ?_
          refine M.idx_of hi0 (by omega) ?_
          simp only [addr_add, load_eq, Nat.zero_add, Nat.add_zero, Nat.mul_one, Nat.one_mul, Nat.zero_mul, Nat.reduceAdd, List.setIfInBounds_toArray, List.set_cons_zero, List.set_cons_succ, List.getElem?_toArray, List.getElem?_cons_zero, List.getElem?_cons_succ, some_and, int_eq, bool_eq, str_eq, slc_eq, ptr_eq, nn_eq, M.val, cond_true, cond_false, Bool.not_true, Bool.not_false]
          refine M.put_w w 3 rfl rfl (by simp; omega) fun h14 w => ?_
          rw [bools_set] at w
          have hl := E.write_len m.at_ (bytesZ m.data m.long)
          have hL : (E.write m.at_ (bytesZ m.data m.long)).2.L = E.L := by
            unfold DiskM.write
            split
            · rfl
            · split <;> rfl
          have ht := w.blk 4 rfl
          simp only [addr_add, load_eq, Nat.zero_add, Nat.add_zero, Nat.mul_one, Nat.one_mul, Nat.zero_mul, Nat.reduceAdd, List.setIfInBounds_toArray, List.set_cons_zero, List.set_cons_succ, List.getElem?_toArray, List.getElem?_cons_zero, List.getElem?_cons_succ, some_and, int_eq, bool_eq, str_eq, slc_eq, ptr_eq, nn_eq, M.val, cond_true, cond_false, Bool.not_true, Bool.not_false, cell_in ht]
          refine bytes_spec fun h15 k15 => ?_
          have w := w.keeps k15
          refine M.still_in ht (w.blk 4 rfl) ?_
          obtain ⟨hx, k0, k1, wx, wr, back⟩ := w.on (i := 0) rfl
          refine Write_spec wx (by omega) fun h16 w1 => ?_
          have w := back _ _ w1
          have ht := w.blk 4 rfl
          simp only [addr_add, load_eq, Nat.zero_add, Nat.add_zero, Nat.mul_one, Nat.one_mul, Nat.zero_mul, Nat.reduceAdd, List.setIfInBounds_toArray, List.set_cons_zero, List.set_cons_succ, List.getElem?_toArray, List.getElem?_cons_zero, List.getElem?_cons_succ, some_and, int_eq, bool_eq, str_eq, slc_eq, ptr_eq, nn_eq, M.val, cond_true, cond_false, Bool.not_true, Bool.not_false, cell_in ht]
          refine bytes_spec fun h17 k17 => ?_
          have w := w.keeps k17
          refine M.still_in ht (w.blk 4 rfl) ?_
          obtain ⟨hx, k0, k1, wx, wr, back⟩ := w.on (i := 1) rfl
          refine Write_spec wx (by omega) fun h18 w1 => ?_
          have w := back _ _ w1
          have w := w.drop (i := 4) rfl
          rw [wrap1 hi0 (show i ≤ 1000000000 by omega)]
          refine hJ3 _ _ ⟨by omega, by omega, _, _, w, by omega, by omega, by rw [hL]; exact hEL, by rw [hl.2.2]; exact hEd, DiskM.write_sync hEs _ _, by simpa using hbl, fun x hx => ?_⟩ (by omega)
          rw [List.getElem?_set]
          by_cases hxi : i.toNat = x
          · rw [if_pos hxi, if_pos (by omega)]
          · rw [if_neg hxi]; exact hbt x (by omega)
      · simp only [hlt, decide_false, cond_false]
        clear hJ3
        have okE := diskOk w 0 rfl
        obtain ⟨hx, k0, k1, wx, wr, _⟩ := w.on (i := 1) rfl
        refine Waiting_spec wx ?_
        obtain ⟨hx, k0, k1, wx, wr, back⟩ := w.on (i := 1) rfl
        refine Image_spec wx fun wa wc h12 w12 => ?_
        have w := w.join w12
        obtain ⟨hx, k0, k1, wx, wr, back⟩ := w.on (i := 0) rfl
        refine Crash_spec (kept := []) wx (by omega) rfl (fun _ => rfl) (fun b e => by simp at e) fun h13 w1 => ?_
        have w := back _ _ w1
        obtain ⟨hx, k0, k1, wx, wr, back⟩ := w.on (i := 1) rfl
        have hbw := wr.blk 2 rfl
        refine Crash_spec (kept := bs) wx (by omega) (by rw [hbl]; rfl) (fun e => by simp at e) (fun b' e => ?_) fun h14 w1 => ?_
        · simp only [Option.some.injEq] at e
          subst e
          intro x hx
          rw [addr_add, cell_in hbw]
          simp
        have w := back _ _ w1
        refine M.jn ?_
        refine wakes_spec fun h15 k15 => ?_
        have w := w.keeps k15
        have hle : decide ((E.W.length : Int) ≤ 30) = true := decide_eq_true (by omega)
        simp only [hle, cond_true]
        have ia : (E.crash []).image = D.N := by
          have : ∀ X, DiskM.crashL E.W [] X = X := fun X => by cases E.W <;> rfl
          simp [DiskM.image, DiskM.crash, hEd, this, hEL]
        have ic : D.flush.2.image = D.N := by simp [DiskM.image, DiskM.flush, hdead]
        have ib : (E.crash bs).image = E.N := by
          have := crashL_all E.W bs E.L (by omega) (fun x hx => hbt x (by omega))
          simp [DiskM.image, DiskM.crash, hEd, this, hEs hEd]
        have iw : E.image = E.N := by simp [DiskM.image, hEd]
        obtain ⟨hx, k0, k1, wx, wr, back⟩ := w.on (i := 0) rfl
        refine Image_spec wx fun a1 c1 h16 w16 => ?_
        have w := w.join w16
        obtain ⟨hx, k0, k1, wx, wr, back⟩ := w.on (i := 2) rfl
        refine Image_spec wx fun a2 c2 h17 w17 => ?_
        have w := w.join w17
        obtain ⟨_, _, hn1, hr1⟩ := w.slrow 5 rfl
        obtain ⟨_, _, hn2, hr2⟩ := w.slrow 6 rfl
        refine equal_spec rfl rfl (fun e => (hn1 e).2) (fun e => (hn2 e).2) hr1 hr2 (by rw [ia]; omega) ?_
        rw [ia, ic]
        simp only [decide_true, cond_true]
        have w := (w.drop (i := 6) rfl).drop (i := 5) rfl
        obtain ⟨hx, k0, k1, wx, wr, back⟩ := w.on (i := 1) rfl
        refine Image_spec wx fun a3 c3 h18 w18 => ?_
        have w := w.join w18
        obtain ⟨_, _, hn1, hr1⟩ := w.slrow 5 rfl
        obtain ⟨_, _, hn2, hr2⟩ := w.slrow 4 rfl
        refine equal_spec rfl rfl (fun e => (hn1 e).2) (fun e => (hn2 e).2) hr1 hr2 (by rw [ib]; omega) ?_
        rw [ib, iw]
        simp only [decide_true]
        exact k _ w.keep
end
end Go.Proofs.Ytkfokpkpobjoeaa

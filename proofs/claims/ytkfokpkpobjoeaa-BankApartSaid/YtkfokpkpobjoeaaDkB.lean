/- The disk's statements, walked: DiskPlays, DiskRestores, DiskDead. -/
import Derived.Test.YtkfokpkpobjoeaaDkA
namespace Go.Proofs.Ytkfokpkpobjoeaa
open Go.Sh Go.RowKit
set_option linter.unusedSimpArgs false
set_option linter.unusedVariables false
section
variable {h0 h : H} {d : Nat} {D : DiskM} {at_ : Int} {s : ByteArray}
theorem act_cells {h : H} {b : Addr} {i : Nat} {m : ActM} (r : Sh.rowAt h (b.add (i * 6)) m.cells) : h.cell (b.add (i * 6)) = some (.int .i64 m.do_) ∧ h.cell (b.add (i * 6 + 1)) = some (.int .i64 m.at_) ∧ h.cell (b.add (i * 6 + 2)) = some (.string m.data) ∧
    h.cell (b.add (i * 6 + 3)) = some (.int .i64 m.long) ∧ h.cell (b.add (i * 6 + 4)) = some (.slice m.ka m.kl m.kc) ∧ h.cell (b.add (i * 6 + 5)) = some (.bool m.die) := by
  have h0 := r 0 (by simp [ActM.cells])
  have h1 := r 1 (by simp [ActM.cells])
  have h2 := r 2 (by simp [ActM.cells])
  have h3 := r 3 (by simp [ActM.cells])
  have h4 := r 4 (by simp [ActM.cells])
  have h5 := r 5 (by simp [ActM.cells])
  simp only [add2, Nat.add_zero, ActM.cells, List.getElem?_cons_zero, List.getElem?_cons_succ] at h0 h1 h2 h3 h4 h5
  exact ⟨h0, h1, h2, h3, h4, h5⟩
theorem mn_take {l : Nat} {n : Int} (hn : 0 ≤ n) : (mn ((l : Nat) : Int) n).toNat = min l n.toNat ∧ (0 : Int) ≤ mn ((l : Nat) : Int) n ∧ mn ((l : Nat) : Int) n ≤ l := by unfold mn; split <;> omega
theorem wrap1 {i : Int} (h0 : 0 ≤ i) (h1 : i ≤ 1000000000) : IntKind.wrap .i64 (i + 1) = i + 1 := by rw [IntKind.wrap_i64]; omega
theorem plays {n : Int} {sa : Option Addr} {sl sc : Nat} {ms : List ActM} {Q : Bool → H → Prop} (hs : Acts h sa sl ms) (hc : sl ≤ sc) (k : ∀ h', Keep h h' → Q true h') : law09_DiskPlays n sa sl sc h Q := by
  unfold law09_DiskPlays law09_DiskPlays.g
  refine New_spec fun d h1 w => ?_
  refine rNew fun r h2 w2 => ?_
  have w := w.join w2
  refine M.new_w w fun ib h3 w => ?_
  have w : Wd h h3 [diskC d (DiskM.new n), refC r (DiskM.new n), imgC ib []] := (w.nilsl 9 1).close 2 (none, 0, 0) rfl ⟨rfl, by simp⟩
  refine M.join_of (fun b h' => b = false ∧ Wd h h' [diskC d (DiskM.new n), refC r (DiskM.new n), imgC ib []]) (fun J hJ => ?_) ?_
  · refine wakes_spec fun h4 k4 => ?_
    have w := w.keeps k4
    simp only [Bool.not_true, cond_false]
    have w' := w
    obtain ⟨v, ⟨⟨ok, _⟩, _⟩, w'⟩ := w'.opn 1 rfl
    have hr := w'.blk 2 rfl
    simp only [addr_add, load_eq, Nat.zero_add, Nat.add_zero, Nat.mul_one, Nat.one_mul, Nat.zero_mul, Nat.reduceAdd, List.setIfInBounds_toArray, List.set_cons_zero, List.set_cons_succ, List.getElem?_toArray, List.getElem?_cons_zero, List.getElem?_cons_succ, some_and, int_eq, bool_eq, str_eq, slc_eq, ptr_eq, nn_eq, M.val, cond_true, cond_false, Bool.not_true, Bool.not_false, cell_in hr]
    obtain ⟨hx, k0, k1, wx, wr, _⟩ := w.on (i := 0) rfl
    refine Size_spec wx ?_
    refine M.still_in hr hr ?_
    have e : (((DiskM.new n).N.length : Int) != ((DiskM.new n).L.length : Int)) = false := by simp [ok.len]
    rw [e]
    exact hJ _ _ ⟨rfl, w⟩
  · rintro _ h4 ⟨rfl, w⟩
    simp only [cond_false]
    obtain ⟨hm1, hm2, hm3⟩ := mn_take (l := sl) (n := 60) (by omega)
    refine M.jn ?_
    refine M.sub0 hm2 (by omega) ?_
    have hs := hs.take (min sl 60) (Nat.min_le_left _ _)
    rw [show (mn ((sl : Nat) : Int) (60 : Int)).toNat = min sl 60 from hm1]
    generalize hml : min sl 60 = l at hs
    have hl60 : l ≤ 60 := by omega
    refine M.loop_of (I := fun (i : Int) h' => 0 ≤ i ∧ i ≤ l ∧ ∃ D img, Wd h h' [diskC d D, refC r D, imgC ib img] ∧ D.W.length ≤ i.toNat) (μ := fun i => (l - i).toNat) ⟨by omega, by omega, _, _, w, by simp [DiskM.new]⟩ ?_
    rintro i h5 J ⟨hi0, hi1, D, img, w, hW⟩ hJ
    by_cases hlt : i < l
    · have hlt' : i.toNat < (ms.take l).length := by rw [hs.len]; omega
      cases sa with
      | none => have := hs.nil rfl; omega
      | some b =>
        obtain ⟨hrow, ha⟩ := hs.row b rfl i.toNat _ (List.getElem?_eq_getElem hlt')
        generalize (ms.take l)[i.toNat] = m at hrow ha
        obtain ⟨c0, c1, c2, c3, c4, c5⟩ := act_cells (w.keep.row hrow)
        simp only [hlt, decide_true, cond_true]
        refine M.idx_of hi0 hlt ?_
        simp only [addr_add, load_eq, Nat.zero_add, Nat.add_zero, Nat.mul_one, Nat.one_mul, Nat.zero_mul, Nat.reduceAdd, List.setIfInBounds_toArray, List.set_cons_zero, List.set_cons_succ, List.getElem?_toArray, List.getElem?_cons_zero, List.getElem?_cons_succ, some_and, int_eq, bool_eq, str_eq, slc_eq, ptr_eq, nn_eq, M.val, cond_true, cond_false, Bool.not_true, Bool.not_false, add2, c0, c1, c2, c3, c4, c5]
        refine M.new_w w fun t h6 w => ⟨rfl, ?_⟩
        refine M.puts_w0 w 3 rfl (by simp [isPlainCell]) rfl fun h7 w => ?_
        have ht := w.blk 3 rfl
        have w := w.drop (i := 3) rfl
        simp only [addr_add, load_eq, Nat.zero_add, Nat.add_zero, Nat.mul_one, Nat.one_mul, Nat.zero_mul, Nat.reduceAdd, List.setIfInBounds_toArray, List.set_cons_zero, List.set_cons_succ, List.getElem?_toArray, List.getElem?_cons_zero, List.getElem?_cons_succ, some_and, int_eq, bool_eq, str_eq, slc_eq, ptr_eq, nn_eq, M.val, cond_true, cond_false, Bool.not_true, Bool.not_false, cell_in ht]
        refine M.jn ?_
        refine act_spec w (by omega) ha fun h8 D' img' w hl1 hl2 _ => ?_
        simp only [Bool.not_true, cond_false]
        have w' := w
        obtain ⟨v, ⟨⟨ok, _⟩, hvl⟩, w'⟩ := w'.opn 1 rfl
        have hr := w'.blk 2 rfl
        simp only [addr_add, load_eq, Nat.zero_add, Nat.add_zero, Nat.mul_one, Nat.one_mul, Nat.zero_mul, Nat.reduceAdd, List.setIfInBounds_toArray, List.set_cons_zero, List.set_cons_succ, List.getElem?_toArray, List.getElem?_cons_zero, List.getElem?_cons_succ, some_and, int_eq, bool_eq, str_eq, slc_eq, ptr_eq, nn_eq, M.val, cond_true, cond_false, Bool.not_true, Bool.not_false, cell_in hr]
        obtain ⟨hx, k0, k1, wx, wr, _⟩ := w.on (i := 0) rfl
        refine Waiting_spec wx ?_
        refine M.still_in hr hr ?_
        rw [hvl]
        simp only [bne_self_eq_false, cond_false]
        simp only [addr_add, load_eq, Nat.zero_add, Nat.add_zero, Nat.mul_one, Nat.one_mul, Nat.zero_mul, Nat.reduceAdd, List.setIfInBounds_toArray, List.set_cons_zero, List.set_cons_succ, List.getElem?_toArray, List.getElem?_cons_zero, List.getElem?_cons_succ, some_and, int_eq, bool_eq, str_eq, slc_eq, ptr_eq, nn_eq, M.val, cond_true, cond_false, Bool.not_true, Bool.not_false, cell_in hr]
        refine Dead_spec wx ?_
        refine M.still_in hr hr ?_
        simp only [beq_self_eq_true, Bool.not_true, cond_false, wrap1 hi0 (show i ≤ 1000000000 by omega)]
        exact hJ _ _ ⟨by omega, by omega, _, _, w, by omega⟩ (by omega)
    · simp only [hlt, decide_false, cond_false]
      obtain ⟨hx, k0, k1, wx, wr, _⟩ := w.on (i := 0) rfl
      have ok := diskOk w 0 rfl
      refine Image_spec wx fun a' c' h6 w6 => ?_
      have w := w.join w6
      obtain ⟨hx, k0, k1, wx, wr, _⟩ := w.on (i := 1) rfl
      refine rImage wx (by omega) fun a2 c2 h7 w7 => ?_
      have w := w.join w7
      obtain ⟨_, _, hn1, hr1⟩ := w.slrow 3 rfl
      obtain ⟨_, _, hn2, hr2⟩ := w.slrow 4 rfl
      refine equal_spec rfl rfl (fun e => (hn1 e).2) (fun e => (hn2 e).2) hr1 hr2 (by have := DiskM.image_len ok; omega) ?_
      simp only [decide_true]
      exact k _ w.keep
/-- Texts, as they are given. -/
structure Texts (h : H) (a : Option Addr) (l : Nat) (xs : List ByteArray) : Prop where
  len : xs.length = l
  nil : a = none → l = 0
  row : ∀ b, a = some b → Sh.rowAt h b (xs.map Value.string)
  size : ∀ s ∈ xs, s.size ≤ maxLen
theorem Texts.keep {h h' : H} {a : Option Addr} {l : Nat} {xs : List ByteArray} (x : Texts h a l xs) (k : Keep h h') : Texts h' a l xs := ⟨x.len, x.nil, fun b hb => k.row (x.row b hb), x.size⟩
theorem row_take {h : H} {a : Addr} {vs : List Value} (r : Sh.rowAt h a vs) (n : Nat) : Sh.rowAt h a (vs.take n) := fun i hi => by
  rw [r i (by simp at hi; omega), List.getElem?_take, if_pos (by simp at hi; omega)]
theorem Texts.take {h : H} {a : Option Addr} {l : Nat} {xs : List ByteArray} (x : Texts h a l xs) (n : Nat) (hn : n ≤ l) : Texts h a n (xs.take n) :=
  ⟨by simp [x.len, hn], fun e => by have := x.nil e; omega, fun b hb => by rw [List.map_take]; exact row_take (x.row b hb) n, fun s hs => x.size s (List.mem_of_mem_take hs)⟩
theorem restores {ia sa : Option Addr} {il ic sl sc : Nat} {img : List ByteArray} {ms : List ActM} {Q : Bool → H → Prop} (hi : Texts h ia il img) (hic : il ≤ ic) (hs : Acts h sa sl ms) (hc : sl ≤ sc) (k : ∀ h', Keep h h' → Q true h') :
    law09_DiskRestores ia il ic sa sl sc h Q := by
  unfold law09_DiskRestores law09_DiskRestores.g
  obtain ⟨hm1, hm2, hm3⟩ := mn_take (l := il) (n := 40) (by omega)
  refine M.sub0 hm2 (by omega) ?_
  have hi := hi.take (min il 40) (Nat.min_le_left _ _)
  rw [show (mn ((il : Nat) : Int) (40 : Int)).toNat = min il 40 from hm1]
  have hil : min il 40 ≤ 40 := by omega
  generalize min il 40 = il' at hi hil
  generalize img.take il' = img' at hi
  refine New_spec fun d h1 w => ?_
  refine rNew fun r h2 w2 => ?_
  have w := w.join w2
  refine M.new_w w fun ib h3 w => ?_
  have w : Wd h h3 [diskC d (DiskM.new 30), refC r (DiskM.new 30), imgC ib []] := (w.nilsl 9 1).close 2 (none, 0, 0) rfl ⟨rfl, by simp⟩
  refine M.jn ?_
  obtain ⟨hm1, hm2, hm3⟩ := mn_take (l := sl) (n := 30) (by omega)
  refine M.sub0 hm2 (by omega) ?_
  have hs := hs.take (min sl 30) (Nat.min_le_left _ _)
  rw [show (mn ((sl : Nat) : Int) (30 : Int)).toNat = min sl 30 from hm1]
  have hl60 : min sl 30 ≤ 30 := by omega
  generalize min sl 30 = l at hs hl60
  have n30 : (DiskM.new 30).N.length = 30 := by decide +kernel
  refine M.loop_of (I := fun (i : Int) h' => 0 ≤ i ∧ i ≤ l ∧ ∃ D img, Wd h h' [diskC d D, refC r D, imgC ib img] ∧ D.W.length ≤ i.toNat ∧ D.N.length = 30 ∧ D.dead = false) (μ := fun i => (l - i).toNat) ⟨by omega, by omega, _, _, w, by simp [DiskM.new], n30, rfl⟩ ?_
  rintro i h5 J ⟨hi0, hi1, D, img, w, hW, hn30, hdead⟩ hJ
  by_cases hlt : i < l
  · have hlt' : i.toNat < (ms.take l).length := by rw [hs.len]; omega
    cases sa with
    | none => have := hs.nil rfl; omega
    | some b =>
      obtain ⟨hrow, ha⟩ := hs.row b rfl i.toNat _ (List.getElem?_eq_getElem hlt')
      generalize (ms.take l)[i.toNat] = m at hrow ha
      obtain ⟨c0, c1, c2, c3, c4, c5⟩ := act_cells (w.keep.row hrow)
      simp only [hlt, decide_true, cond_true]
      refine M.idx_of hi0 hlt ?_
      simp only [addr_add, load_eq, Nat.zero_add, Nat.add_zero, Nat.mul_one, Nat.one_mul, Nat.zero_mul, Nat.reduceAdd, List.setIfInBounds_toArray, List.set_cons_zero, List.set_cons_succ, List.getElem?_toArray, List.getElem?_cons_zero, List.getElem?_cons_succ, some_and, int_eq, bool_eq, str_eq, slc_eq, ptr_eq, nn_eq, M.val, cond_true, cond_false, Bool.not_true, Bool.not_false, add2, c0, c1, c2, c3, c4, c5]
      refine M.new_w w fun t h6 w => ⟨rfl, ?_⟩
      refine M.puts_w0 w 3 rfl (by simp [isPlainCell]) rfl fun h7 w => ?_
      have ht := w.blk 3 rfl
      have w := w.drop (i := 3) rfl
      simp only [addr_add, load_eq, Nat.zero_add, Nat.add_zero, Nat.mul_one, Nat.one_mul, Nat.zero_mul, Nat.reduceAdd, List.setIfInBounds_toArray, List.set_cons_zero, List.set_cons_succ, List.getElem?_toArray, List.getElem?_cons_zero, List.getElem?_cons_succ, some_and, int_eq, bool_eq, str_eq, slc_eq, ptr_eq, nn_eq, M.val, cond_true, cond_false, Bool.not_true, Bool.not_false, cell_in ht]
      refine M.join_of (fun b h' => b = decide (Int.tmod m.do_ 8 ≠ 7 ∧ Int.tmod m.do_ 8 ≠ -7) ∧ h7 = h') (fun J2 hJ2 => ⟨by omega, ?_⟩) ?_
      · by_cases e1 : Int.tmod m.do_ 8 = 7
        · have : (Int.tmod m.do_ 8 != 7) = false := by simpa using e1
          simp only [this, cond_false]
          exact hJ2 _ _ ⟨by simp [e1], rfl⟩
        · have : (Int.tmod m.do_ 8 != 7) = true := by simpa using e1
          simp only [this, cond_true]
          refine ⟨by omega, hJ2 _ _ ⟨?_, rfl⟩⟩
          by_cases e2 : Int.tmod m.do_ 8 = -7 <;> simp [e1, e2]
      · rintro _ _ ⟨rfl, rfl⟩
        by_cases hc : Int.tmod m.do_ 8 ≠ 7 ∧ Int.tmod m.do_ 8 ≠ -7
        · simp only [addr_add, load_eq, Nat.zero_add, Nat.add_zero, Nat.mul_one, Nat.one_mul, Nat.zero_mul, Nat.reduceAdd, List.setIfInBounds_toArray, List.set_cons_zero, List.set_cons_succ, List.getElem?_toArray, List.getElem?_cons_zero, List.getElem?_cons_succ, some_and, int_eq, bool_eq, str_eq, slc_eq, ptr_eq, nn_eq, M.val, cond_true, cond_false, Bool.not_true, Bool.not_false, hc, and_self, decide_true, cell_in ht, not_false_eq_true, ne_eq]
          refine act_spec w (by omega) ha fun h8 D' img' w hl1 hl2 hl3 => ?_
          rw [wrap1 hi0 (by omega)]
          exact hJ _ _ ⟨by omega, by omega, _, _, w, by omega, by omega, by rw [hl3 hc.1 hc.2]; exact hdead⟩ (by omega)
        · simp only [addr_add, load_eq, Nat.zero_add, Nat.add_zero, Nat.mul_one, Nat.one_mul, Nat.zero_mul, Nat.reduceAdd, List.setIfInBounds_toArray, List.set_cons_zero, List.set_cons_succ, List.getElem?_toArray, List.getElem?_cons_zero, List.getElem?_cons_succ, some_and, int_eq, bool_eq, str_eq, slc_eq, ptr_eq, nn_eq, M.val, cond_true, cond_false, Bool.not_true, Bool.not_false, hc, decide_false, cell_in ht]
          rw [wrap1 hi0 (by omega)]
          exact hJ _ _ ⟨by omega, by omega, _, _, w, by omega, by omega, hdead⟩ (by omega)
  · simp only [hlt, decide_false, cond_false]
    obtain ⟨hx, k0, k1, wx, wr, back⟩ := w.on (i := 0) rfl
    refine Restore_spec (img := img') wx hi.len hi.nil (fun b e => k0.row (hi.row b e)) fun h6 w1 => ?_
    have w := back _ _ w1
    have hl := D.restore_len img'
    have hrs : (D.restore img').W = [] := by simp [DiskM.restore, hdead]
    refine M.join_of (fun b h' => b = false ∧ Wd h h' [diskC d (D.restore img')]) (fun J2 hJ2 => ?_) ?_
    · refine wakes_spec fun h7 k7 => ?_
      have w := (w.keeps k7).drop (i := 2) rfl
      have w := w.drop (i := 1) rfl
      simp only [Bool.not_true, cond_false]
      refine Waiting_spec w ?_
      rw [hrs]
      exact hJ2 _ _ ⟨rfl, w⟩
    · rintro _ h7 ⟨rfl, w⟩
      simp only [cond_false]
      refine Crash_spec (kept := []) w (by rw [hrs]; simp) rfl (fun _ => rfl) (fun b e => by simp at e) fun h8 w => ?_
      have hN : ((D.restore img').crash []).N = DiskM.ofImage 30 img' := by
        simp [DiskM.restore, DiskM.crash, hdead, DiskM.crashL, hn30]
      have hd2 : ((D.restore img').crash []).dead = false := by simp [DiskM.restore, DiskM.crash, hdead]
      refine M.loop_of (I := fun (i : Int) h' => 0 ≤ i ∧ i ≤ 30 ∧ Wd h h' [diskC d ((D.restore img').crash [])]) (μ := fun i => (30 - i).toNat) ⟨by omega, by omega, w⟩ ?_
      rintro i h9 J3 ⟨hi0, hi1, w⟩ hJ3
      by_cases hlt : i < 30
      · simp only [hlt, decide_true, cond_true]
        refine Read_spec w ?_
        have hu : ((D.restore img').crash []).usable i = 0 := DiskM.usable_zero.2 ⟨hd2, hi0, by rw [hN, DiskM.ofImage_length]; exact hlt⟩
        have hrd : ((D.restore img').crash []).read i = ((DiskM.ofImage 30 img').getD i.toNat ByteArray.empty, 0) := by simp [DiskM.read, hu, hN]
        rw [hrd]
        simp only
        have hg : (DiskM.ofImage 30 img').getD i.toNat ByteArray.empty = if i.toNat < img'.length ∧ ((img'.getD i.toNat ByteArray.empty).size : Int) ≤ 2048 then img'.getD i.toNat ByteArray.empty else ByteArray.empty := by
          rw [List.getD_eq_getElem?_getD]
          simp [DiskM.ofImage, show i.toNat < 30 by omega]
        have fin : ∀ s, s = (DiskM.ofImage 30 img').getD i.toNat ByteArray.empty → J3 (i + 1) h9 := fun s e => hJ3 _ _ ⟨by omega, by omega, w⟩ (by omega)
        refine M.join_of (fun s h' => s = (DiskM.ofImage 30 img').getD i.toNat ByteArray.empty ∧ h9 = h') (fun J4 hJ4 => ?_) ?_
        · refine M.jn ?_
          by_cases hi2 : i < il'
          · have hi3 : i.toNat < img'.length := by rw [hi.len]; omega
            cases ia with
            | none => have := hi.nil rfl; omega
            | some b =>
              have ck : h9.cell (b.add i.toNat) = some (.string img'[i.toNat]) := w.keep.cell (by rw [hi.row b rfl _ (by simpa using hi3)]; simp [hi3])
              have hgd : img'.getD i.toNat ByteArray.empty = img'[i.toNat] := by simp [List.getD_eq_getElem?_getD, hi3]
              simp only [hi2, decide_true, cond_true]
              refine M.idx_of hi0 hi2 ?_
              simp only [addr_add, load_eq, Nat.zero_add, Nat.add_zero, Nat.mul_one, Nat.one_mul, Nat.zero_mul, Nat.reduceAdd, List.setIfInBounds_toArray, List.set_cons_zero, List.set_cons_succ, List.getElem?_toArray, List.getElem?_cons_zero, List.getElem?_cons_succ, some_and, int_eq, bool_eq, str_eq, slc_eq, ptr_eq, nn_eq, M.val, cond_true, cond_false, Bool.not_true, Bool.not_false, ck]
              simp only [hgd, hi3, true_and] at hg
              by_cases hsz : (img'[i.toNat].size : Int) ≤ 2048
              · simp only [hsz, if_true] at hg
                simp only [hsz, decide_true, cond_true]
                refine M.idx_of hi0 hi2 ?_
                simp only [addr_add, load_eq, Nat.zero_add, Nat.add_zero, Nat.mul_one, Nat.one_mul, Nat.zero_mul, Nat.reduceAdd, List.setIfInBounds_toArray, List.set_cons_zero, List.set_cons_succ, List.getElem?_toArray, List.getElem?_cons_zero, List.getElem?_cons_succ, some_and, int_eq, bool_eq, str_eq, slc_eq, ptr_eq, nn_eq, M.val, cond_true, cond_false, Bool.not_true, Bool.not_false, ck]
                exact hJ4 _ _ ⟨hg.symm, rfl⟩
              · simp only [hsz, if_false] at hg
                simp only [hsz, decide_false, cond_false]
                exact hJ4 _ _ ⟨hg.symm, rfl⟩
          · have hi3 : ¬ i.toNat < img'.length := by rw [hi.len]; omega
            simp only [hi3, false_and, if_false] at hg
            simp only [hi2, decide_false, cond_false]
            exact hJ4 _ _ ⟨hg.symm, rfl⟩
        · rintro _ _ ⟨rfl, rfl⟩
          refine M.jn ?_
          simp only [bne_self_eq_false, cond_false, strEq_iff.2 rfl, Bool.not_true, M.val, wrap1 hi0 (show i ≤ 1000000000 by omega)]
          exact fin _ rfl
      · simp only [hlt, decide_false, cond_false]
        exact k _ w.keep
end
end Go.Proofs.Ytkfokpkpobjoeaa

/- The bank's statements, walked. -/
import Derived.Test.YtkfokpkpobjoeaaBkA
namespace Go.Proofs.Ytkfokpkpobjoeaa
open Go.Sh Go.RowKit
set_option linter.unusedSimpArgs false
set_option linter.unusedVariables false
section
variable {h0 h : H} {b : Nat} {B : BankM} {i at_ : Int} {s : ByteArray}
theorem lists_nil : Lists h none 0 [] := ⟨rfl, fun _ => rfl, fun b e => by simp at e⟩
theorem new_waits (n c : Int) : ∀ D ∈ (BankM.new n c).ds, D.W.length ≤ 0 := by
  intro D hD
  rw [(List.mem_replicate.1 hD).2]
  simp [DiskM.new]
theorem wakes10 {Q : Bool → H → Prop} (k : ∀ h', Keep h h' → Q true h') : law10_wakes h Q := by
  unfold law10_wakes law10_wakes.g
  refine bNew fun b h1 w => ?_
  refine bCut w fun h2 w => ?_
  refine bWrite w (by decide) (by decide) (by decide +kernel) fun h3 w => ?_
  refine bWrite w (by decide +kernel) (by decide +kernel) (by decide +kernel) fun h4 w => ?_
  refine bCrash (ks := []) w (by decide +kernel) lists_nil fun h5 w => ?_
  refine bRead w ?_
  have e1 : (((BankM.new 2 4).cut 1).write 0 0 ⟨#[97]⟩).1 = 0 := by decide +kernel
  have e2 : ((((BankM.new 2 4).cut 1).write 0 0 ⟨#[97]⟩).2.write 1 0 ⟨#[98]⟩).1 = 21 := by decide +kernel
  have e3 : (((((BankM.new 2 4).cut 1).write 0 0 ⟨#[97]⟩).2.write 1 0 ⟨#[98]⟩).2.crash []).read 0 0 = (ByteArray.empty, 0) := by decide +kernel
  have e4 : (((((BankM.new 2 4).cut 1).write 0 0 ⟨#[97]⟩).2.write 1 0 ⟨#[98]⟩).2.crash []).steps = 1 := by decide +kernel
  have e5 : (((((BankM.new 2 4).cut 1).write 0 0 ⟨#[97]⟩).2.write 1 0 ⟨#[98]⟩).2.crash []).ds.length = 2 := by decide +kernel
  refine M.jn ?_
  simp only [e1, e2, e3, beq_self_eq_true, cond_true, strEq_iff.2 rfl]
  refine bSteps w ?_
  simp only [e4, beq_self_eq_true, cond_true]
  refine bSize w ?_
  rw [e5]
  exact k _ w.keep
theorem bankPlays {n c : Int} {sa : Option Addr} {sl sc : Nat} {ms : List Act10} {Q : Bool → H → Prop} (hs : Acts10 h sa sl ms) (hc : sl ≤ sc) (k : ∀ h', Keep h h' → Q true h') : law10_BankPlays n c sa sl sc h Q := by
  unfold law10_BankPlays law10_BankPlays.g
  refine bNew fun b h1 w => ?_
  refine rbNew fun r h2 w2 => ?_
  have w := w.join w2
  refine M.join_of (fun d h' => d = false ∧ Wd h h' [bankC b (BankM.new n c), rbankC r (BankM.new n c)]) (fun J hJ => ?_) ?_
  · refine wakes10 fun h4 k4 => ?_
    have w := w.keeps k4
    have w' := w
    obtain ⟨v, ⟨_, _⟩, w'⟩ := w'.opn 1 rfl
    have hr := w'.blk 1 rfl
    simp only [addr_add, load_eq, Nat.zero_add, Nat.add_zero, Nat.mul_one, Nat.one_mul, Nat.zero_mul, Nat.reduceAdd, List.setIfInBounds_toArray, List.set_cons_zero, List.set_cons_succ, List.getElem?_toArray, List.getElem?_cons_zero, List.getElem?_cons_succ, some_and, int_eq, bool_eq, str_eq, slc_eq, ptr_eq, nn_eq, M.val, cond_true, cond_false, Bool.not_true, Bool.not_false, cell_in hr]
    obtain ⟨hx, k0, k1, wx, wr, _⟩ := w.on (i := 0) rfl
    refine bSize wx ?_
    refine M.still_in hr hr ?_
    simp only [bne_self_eq_false]
    exact hJ _ _ ⟨rfl, w⟩
  rintro _ h4 ⟨rfl, w⟩
  simp only [cond_false]
  obtain ⟨hm1, hm2, hm3⟩ := mn_take (l := sl) (n := 60) (by omega)
  refine M.jn ?_
  refine M.sub0 hm2 (by omega) ?_
  have hs := hs.take (min sl 60) (Nat.min_le_left _ _)
  rw [show (mn ((sl : Nat) : Int) (60 : Int)).toNat = min sl 60 from hm1]
  have hl60 : min sl 60 ≤ 60 := by omega
  generalize min sl 60 = l at hs hl60
  generalize ms.take l = ms at hs
  refine M.loop_of (I := fun (i : Int) h' => 0 ≤ i ∧ i ≤ l ∧ ∃ B : BankM, Wd h h' [bankC b B, rbankC r B] ∧ (∀ D ∈ B.ds, D.W.length ≤ i.toNat) ∧ B.steps ≤ i ∧ B.left ≤ 9223372036854775807) (μ := fun i => (l - i).toNat) ⟨by omega, by omega, _, w, new_waits n c, by simp [BankM.new], by simp [BankM.new]⟩ ?_
  rintro i h5 J ⟨hi0, hi1, B, w, hW, hst, hlf⟩ hJ
  by_cases hlt : i < l
  · have hlt' : i.toNat < ms.length := by rw [hs.len]; omega
    cases sa with
    | none => have := hs.nil rfl; omega
    | some sb =>
      obtain ⟨hrow, ha⟩ := hs.row sb rfl i.toNat _ (List.getElem?_eq_getElem hlt')
      generalize ms[i.toNat] = m at hrow ha
      obtain ⟨c0, c1, c2, c3, c4, c5⟩ := act10_cells (w.keep.row hrow)
      simp only [hlt, decide_true, cond_true]
      refine M.idx_of hi0 hlt ?_
      simp only [addr_add, load_eq, Nat.zero_add, Nat.add_zero, Nat.mul_one, Nat.one_mul, Nat.zero_mul, Nat.reduceAdd, List.setIfInBounds_toArray, List.set_cons_zero, List.set_cons_succ, List.getElem?_toArray, List.getElem?_cons_zero, List.getElem?_cons_succ, some_and, int_eq, bool_eq, str_eq, slc_eq, ptr_eq, nn_eq, M.val, cond_true, cond_false, Bool.not_true, Bool.not_false, add2, c0, c1, c2, c3, c4, c5]
      refine M.new_w w fun t h6 w => ⟨rfl, ?_⟩
      refine M.puts_w0 w 2 rfl (by simp [isPlainCell]) rfl fun h7 w => ?_
      have ht := w.blk 2 rfl
      have w := w.drop (i := 2) rfl
      simp only [addr_add, load_eq, Nat.zero_add, Nat.add_zero, Nat.mul_one, Nat.one_mul, Nat.zero_mul, Nat.reduceAdd, List.setIfInBounds_toArray, List.set_cons_zero, List.set_cons_succ, List.getElem?_toArray, List.getElem?_cons_zero, List.getElem?_cons_succ, some_and, int_eq, bool_eq, str_eq, slc_eq, ptr_eq, nn_eq, M.val, cond_true, cond_false, Bool.not_true, Bool.not_false, cell_in ht]
      refine M.jn ?_
      refine act10_spec w hW (by omega) (by omega) hlf ha fun h8 B' w hN => ?_
      simp only [Bool.not_true, cond_false]
      have w' := w
      obtain ⟨v, ⟨_, _⟩, w'⟩ := w'.opn 1 rfl
      have hr := w'.blk 1 rfl
      simp only [addr_add, load_eq, Nat.zero_add, Nat.add_zero, Nat.mul_one, Nat.one_mul, Nat.zero_mul, Nat.reduceAdd, List.setIfInBounds_toArray, List.set_cons_zero, List.set_cons_succ, List.getElem?_toArray, List.getElem?_cons_zero, List.getElem?_cons_succ, some_and, int_eq, bool_eq, str_eq, slc_eq, ptr_eq, nn_eq, M.val, cond_true, cond_false, Bool.not_true, Bool.not_false, cell_in hr]
      obtain ⟨hx, k0, k1, wx, wr, _⟩ := w.on (i := 0) rfl
      refine bSteps wx ?_
      refine M.still_in hr hr ?_
      simp only [bne_self_eq_false, cond_false, wrap1 hi0 (show i ≤ 1000000000 by omega)]
      have hni : (i + 1).toNat = i.toNat + 1 := by omega
      exact hJ _ _ ⟨by omega, by omega, _, w, by rw [hni]; exact hN.waits hW, by have := hN.steps; omega, hN.left hlf⟩ (by omega)
  · simp only [hlt, decide_false, cond_false]
    clear hJ
    have hWd : ∀ D ∈ B.ds, D.W.length < 1000000000 := fun D hD => by have := hW D hD; omega
    have w' := w
    obtain ⟨⟨ra, rc, rps⟩, ⟨rok, _⟩, w'⟩ := w'.opn 1 rfl
    have hr0 := w'.blk 1 rfl
    have hsm := rok.small
    simp only [addr_add, load_eq, Nat.zero_add, Nat.add_zero, Nat.mul_one, Nat.one_mul, Nat.zero_mul, Nat.reduceAdd, List.setIfInBounds_toArray, List.set_cons_zero, List.set_cons_succ, List.getElem?_toArray, List.getElem?_cons_zero, List.getElem?_cons_succ, some_and, int_eq, bool_eq, str_eq, slc_eq, ptr_eq, nn_eq, M.val, cond_true, cond_false, Bool.not_true, Bool.not_false, cell_in hr0]
    refine M.loop_of (I := fun (j : Int) h' => 0 ≤ j ∧ j ≤ B.ds.length ∧ Keep h5 h') (μ := fun j => (B.ds.length - j).toNat) ⟨by omega, by omega, Keep.refl _⟩ ?_
    rintro j h6 J2 ⟨hj0, hj1, k6⟩ hJ2
    have w := w.keeps k6
    by_cases hj : j < B.ds.length
    · have hbad : ¬ B.bad j := BankM.not_bad.2 ⟨hj0, hj⟩
      have hWj := hWd _ (disk_mem hbad)
      obtain ⟨hx, k0, k1, wx, wr, back⟩ := w.on (i := 1) rfl
      obtain ⟨a', c', p, h7, hrb, hpc, k2, k3, w2, back2⟩ := rb_ptr wx hbad
      have hr1 := k6 _ _ hr0
      rw [hrb] at hr1
      simp only [Option.some.injEq, Obj.cells.injEq, Array.mk.injEq, List.cons.injEq, Value.slice.injEq] at hr1
      obtain ⟨⟨⟨rfl, _, rfl⟩, _⟩, _⟩ := hr1
      simp only [hj, decide_true, cond_true]
      refine M.idx_of hj0 hj ?_
      simp only [addr_add, load_eq, Nat.zero_add, Nat.add_zero, Nat.mul_one, Nat.one_mul, Nat.zero_mul, Nat.reduceAdd, List.setIfInBounds_toArray, List.set_cons_zero, List.set_cons_succ, List.getElem?_toArray, List.getElem?_cons_zero, List.getElem?_cons_succ, some_and, int_eq, bool_eq, str_eq, slc_eq, ptr_eq, nn_eq, M.val, cond_true, cond_false, Bool.not_true, Bool.not_false, hpc]
      obtain ⟨hx2, k02, k12, wx2, wr2, _⟩ := w.on (i := 0) rfl
      refine bDisk wx2 (fun e => absurd e hbad) fun _ pd h8 _ _ w8 _ => ?_
      refine Image_spec w8 fun a1 c1 h9 w9 => ?_
      refine rImage (w2.keeps w9.keep) hWj fun a2 c2 h10 w10 => ?_
      have kk : Keep h6 h10 := w9.keep.trans w10.keep
      have wq := w9.join w10
      obtain ⟨_, _, hn1, hr1⟩ := wq.slrow 0 rfl
      obtain ⟨_, _, hn2, hr2⟩ := wq.slrow 1 rfl
      have okD := diskOk w8 0 rfl
      have hil := DiskM.image_len okD
      refine M.jn ?_
      simp only [bne_self_eq_false, cond_false]
      have w3 := w2.keeps kk
      obtain ⟨v3, ⟨_, hvl⟩, w3'⟩ := w3.opn 0 rfl
      have hp := w3'.blk 0 rfl
      simp only [addr_add, load_eq, Nat.zero_add, Nat.add_zero, Nat.mul_one, Nat.one_mul, Nat.zero_mul, Nat.reduceAdd, List.setIfInBounds_toArray, List.set_cons_zero, List.set_cons_succ, List.getElem?_toArray, List.getElem?_cons_zero, List.getElem?_cons_succ, some_and, int_eq, bool_eq, str_eq, slc_eq, ptr_eq, nn_eq, M.val, cond_true, cond_false, Bool.not_true, Bool.not_false, cell_in hp]
      have wx3 := wx2.keeps kk
      refine bDisk wx3 (fun e => absurd e hbad) fun _ pd2 h11 _ _ w11 _ => ?_
      refine M.still_in hp hp ?_
      refine Waiting_spec w11 ?_
      refine M.still_in hp hp ?_
      rw [hvl]
      simp only [bne_self_eq_false, cond_false]
      refine M.loop_of (I := fun (x : Int) h' => 0 ≤ x ∧ x ≤ (B.disk j).image.length ∧ h10 = h') (μ := fun x => ((B.disk j).image.length - x).toNat) ⟨by omega, by omega, rfl⟩ ?_
      rintro x h12 J3 ⟨hx0, hx1, rfl⟩ hJ3
      by_cases hlx : x < (B.disk j).image.length
      · have hx' : x.toNat < (B.disk j).image.length := by omega
        cases a1 with
        | none => have : (B.disk j).image.length = 0 := (hn1 rfl).2; omega
        | some a1 =>
        cases a2 with
        | none => have : (B.disk j).image.length = 0 := (hn2 rfl).2; omega
        | some a2 =>
          have q1 : h10.cell (a1.add x.toNat) = some (.string (B.disk j).image[x.toNat]) := by rw [hr1 a1 rfl x.toNat (by simpa using hx')]; simp [hx']
          have q2 : h10.cell (a2.add x.toNat) = some (.string (B.disk j).image[x.toNat]) := by rw [hr2 a2 rfl x.toNat (by simpa using hx')]; simp [hx']
          simp only [hlx, decide_true, cond_true]
          refine M.idx_of hx0 hlx ?_
          simp only [addr_add, load_eq, Nat.zero_add, Nat.add_zero, Nat.mul_one, Nat.one_mul, Nat.zero_mul, Nat.reduceAdd, List.setIfInBounds_toArray, List.set_cons_zero, List.set_cons_succ, List.getElem?_toArray, List.getElem?_cons_zero, List.getElem?_cons_succ, some_and, int_eq, bool_eq, str_eq, slc_eq, ptr_eq, nn_eq, M.val, cond_true, cond_false, Bool.not_true, Bool.not_false, q1]
          refine M.idx_of hx0 hlx ?_
          simp only [addr_add, load_eq, Nat.zero_add, Nat.add_zero, Nat.mul_one, Nat.one_mul, Nat.zero_mul, Nat.reduceAdd, List.setIfInBounds_toArray, List.set_cons_zero, List.set_cons_succ, List.getElem?_toArray, List.getElem?_cons_zero, List.getElem?_cons_succ, some_and, int_eq, bool_eq, str_eq, slc_eq, ptr_eq, nn_eq, M.val, cond_true, cond_false, Bool.not_true, Bool.not_false, q2, strEq_iff.2 rfl, wrap1 hx0 (show x ≤ 1000000000 by omega)]
          exact hJ3 _ _ ⟨by omega, by omega, rfl⟩ (by omega)
      · simp only [hlx, decide_false, cond_false, M.val, wrap1 hj0 (show j ≤ 1000000000 by omega)]
        exact hJ2 _ _ ⟨by omega, by omega, k6.trans kk⟩ (by omega)
    · simp only [hj, decide_false, cond_false]
      exact k _ w.keep
end
end Go.Proofs.Ytkfokpkpobjoeaa

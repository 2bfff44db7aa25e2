/- The bank's statements, walked: BankCut, BankNil, BankApart, BankSteps. -/
import Derived.Test.YtkfokpkpobjoeaaBkB
namespace Go.Proofs.Ytkfokpkpobjoeaa
open Go.Sh Go.RowKit
set_option linter.unusedSimpArgs false
set_option linter.unusedVariables false
theorem ct {c : Bool} {A B : Prop} (h : c = true) (k : A) : bif c then A else B := by subst h; exact k
theorem cf {c : Bool} {A B : Prop} (h : c = false) (k : B) : bif c then A else B := by subst h; exact k
theorem vl {n m : Int} {K : Int → Prop} (e : n = m) (k : K m) : M.val n K := by subst e; exact k
section
variable {h0 h : H} {b : Nat} {B : BankM} {i at_ : Int} {s : ByteArray}
theorem bRead_nil {Q : ByteArray → Int → H → Prop} (k : Q ByteArray.empty 1 h) : bank_Bank_Read none i at_ h Q := k
theorem bWrite_nil {Q : Int → H → Prop} (k : Q 1 h) : bank_Bank_Write none i at_ s h Q := k
theorem bFlush_nil {Q : Int → H → Prop} (k : Q 1 h) : bank_Bank_Flush none i h Q := k
theorem bSpend_nil {Q : Int → H → Prop} (k : Q 1 h) : bank_Bank_Spend none h Q := k
theorem bCut_nil {Q : H → Prop} (k : Q h) : bank_Bank_Cut none i h Q := k
theorem bCrash_nil {a : Option Addr} {l c : Nat} {Q : H → Prop} (k : Q h) : bank_Bank_Crash none a l c h Q := k
theorem bSize_nil {Q : Int → H → Prop} (k : Q 0 h) : bank_Bank_Size none h Q := k
theorem bSteps_nil {Q : Int → H → Prop} (k : Q 0 h) : bank_Bank_Steps none h Q := k
theorem bDisk_nil {Q : Option Addr → H → Prop} (k : Q none h) : bank_Bank_Disk none i h Q := k
theorem bankNil {m : Act10} {Q : Bool → H → Prop} (k : ∀ h', Keep h h' → Q true h') : law10_BankNil m.do_ m.i_ m.at_ m.data m.ka m.kl m.kc m.die h Q := by
  unfold law10_BankNil law10_BankNil.g
  refine M.new_w (Wd.start h) fun t h1 w => ?_
  refine bNew fun b h2 w2 => ?_
  have w := w.join w2
  have ht := w.blk 0 rfl
  simp only [addr_add, load_eq, Nat.zero_add, Nat.add_zero, Nat.mul_one, Nat.one_mul, Nat.zero_mul, Nat.reduceAdd, List.setIfInBounds_toArray, List.set_cons_zero, List.set_cons_succ, List.getElem?_toArray, List.getElem?_cons_zero, List.getElem?_cons_succ, some_and, int_eq, bool_eq, str_eq, slc_eq, ptr_eq, nn_eq, M.val, cond_true, cond_false, Bool.not_true, Bool.not_false, cell_in ht]
  refine bRead_nil ?_
  simp only [addr_add, load_eq, Nat.zero_add, Nat.add_zero, Nat.mul_one, Nat.one_mul, Nat.zero_mul, Nat.reduceAdd, List.setIfInBounds_toArray, List.set_cons_zero, List.set_cons_succ, List.getElem?_toArray, List.getElem?_cons_zero, List.getElem?_cons_succ, some_and, int_eq, bool_eq, str_eq, slc_eq, ptr_eq, nn_eq, M.val, cond_true, cond_false, Bool.not_true, Bool.not_false, cell_in ht]
  refine bCut_nil (bCrash_nil ?_)
  refine M.join_of (fun d h' => d = false ∧ Wd h h' [.blk t (.cells #[.int .i64 m.do_, .int .i64 m.i_, .int .i64 m.at_, .string m.data, .slice m.ka m.kl m.kc, .bool m.die] 65), bankC b (BankM.new 2 3)]) (fun J hJ => ?_) ?_
  · refine wakes10 fun h3 k3 => ?_
    have w := w.keeps k3
    have ht := w.blk 0 rfl
    simp only [Bool.not_true, cond_false]
    refine bSize_nil ?_
    simp only [addr_add, load_eq, Nat.zero_add, Nat.add_zero, Nat.mul_one, Nat.one_mul, Nat.zero_mul, Nat.reduceAdd, List.setIfInBounds_toArray, List.set_cons_zero, List.set_cons_succ, List.getElem?_toArray, List.getElem?_cons_zero, List.getElem?_cons_succ, some_and, int_eq, bool_eq, str_eq, slc_eq, ptr_eq, nn_eq, M.val, cond_true, cond_false, Bool.not_true, Bool.not_false, cell_in ht, bne_self_eq_false]
    refine bDisk_nil ?_
    simp only [addr_add, load_eq, Nat.zero_add, Nat.add_zero, Nat.mul_one, Nat.one_mul, Nat.zero_mul, Nat.reduceAdd, List.setIfInBounds_toArray, List.set_cons_zero, List.set_cons_succ, List.getElem?_toArray, List.getElem?_cons_zero, List.getElem?_cons_succ, some_and, int_eq, bool_eq, str_eq, slc_eq, ptr_eq, nn_eq, M.val, cond_true, cond_false, Bool.not_true, Bool.not_false, cell_in ht, Option.isNone_none]
    refine bWrite_nil ?_
    simp only [addr_add, load_eq, Nat.zero_add, Nat.add_zero, Nat.mul_one, Nat.one_mul, Nat.zero_mul, Nat.reduceAdd, List.setIfInBounds_toArray, List.set_cons_zero, List.set_cons_succ, List.getElem?_toArray, List.getElem?_cons_zero, List.getElem?_cons_succ, some_and, int_eq, bool_eq, str_eq, slc_eq, ptr_eq, nn_eq, M.val, cond_true, cond_false, Bool.not_true, Bool.not_false, cell_in ht, bne_self_eq_false]
    refine bFlush_nil ?_
    simp only [bne_self_eq_false, cond_false]
    refine bSpend_nil ?_
    simp only [bne_self_eq_false, cond_false]
    refine bSteps_nil ?_
    exact hJ _ _ ⟨rfl, w⟩
  rintro _ h3 ⟨rfl, w⟩
  simp only [cond_false]
  have ht := w.blk 0 rfl
  have hbad : (BankM.new 2 3).bad m.i_ ↔ ¬ (0 ≤ m.i_ ∧ m.i_ < 2) := by
    have : (BankM.new 2 3).ds.length = 2 := by decide +kernel
    unfold BankM.bad
    rw [this]; omega
  refine M.join_of (fun d h' => d = decide (0 ≤ m.i_ ∧ m.i_ < 2) ∧ h3 = h') (fun J hJ => ?_) ?_
  · simp only [addr_add, load_eq, Nat.zero_add, Nat.add_zero, Nat.mul_one, Nat.one_mul, Nat.zero_mul, Nat.reduceAdd, List.setIfInBounds_toArray, List.set_cons_zero, List.set_cons_succ, List.getElem?_toArray, List.getElem?_cons_zero, List.getElem?_cons_succ, some_and, int_eq, bool_eq, str_eq, slc_eq, ptr_eq, nn_eq, M.val, cond_true, cond_false, Bool.not_true, Bool.not_false, cell_in ht]
    by_cases h0 : m.i_ ≥ 0
    · simp only [h0, decide_true, cond_true]
      exact hJ _ _ ⟨by simp; omega, rfl⟩
    · simp only [h0, decide_false, cond_false]
      exact hJ _ _ ⟨by simp; omega, rfl⟩
  rintro _ _ ⟨rfl, rfl⟩
  by_cases hi : 0 ≤ m.i_ ∧ m.i_ < 2
  · simp only [addr_add, load_eq, Nat.zero_add, Nat.add_zero, Nat.mul_one, Nat.one_mul, Nat.zero_mul, Nat.reduceAdd, List.setIfInBounds_toArray, List.set_cons_zero, List.set_cons_succ, List.getElem?_toArray, List.getElem?_cons_zero, List.getElem?_cons_succ, some_and, int_eq, bool_eq, str_eq, slc_eq, ptr_eq, nn_eq, M.val, cond_true, cond_false, Bool.not_true, Bool.not_false, hi, and_self, decide_true, cell_in ht]
    obtain ⟨hx, k0, k1, wx, wr, _⟩ := w.on (i := 1) rfl
    refine bDisk wx (fun e => absurd hi (hbad.1 e)) fun _ pd h8 _ _ w8 _ => ?_
    exact k _ w.keep
  · have hb := hbad.2 hi
    simp only [addr_add, load_eq, Nat.zero_add, Nat.add_zero, Nat.mul_one, Nat.one_mul, Nat.zero_mul, Nat.reduceAdd, List.setIfInBounds_toArray, List.set_cons_zero, List.set_cons_succ, List.getElem?_toArray, List.getElem?_cons_zero, List.getElem?_cons_succ, some_and, int_eq, bool_eq, str_eq, slc_eq, ptr_eq, nn_eq, M.val, cond_true, cond_false, Bool.not_true, Bool.not_false, hi, decide_false, cell_in ht]
    obtain ⟨hx, k0, k1, wx, wr, _⟩ := w.on (i := 1) rfl
    refine bRead wx ?_
    have e1 : (BankM.new 2 3).read m.i_ m.at_ = (ByteArray.empty, 11) := by simp [BankM.read, hb]
    have e2 : (BankM.new 2 3).write m.i_ m.at_ m.data = (11, BankM.new 2 3) := by simp [BankM.write, hb]
    have e3 : (BankM.new 2 3).flush m.i_ = (11, BankM.new 2 3) := by simp [BankM.flush, hb]
    refine M.jn ?_
    simp only [addr_add, load_eq, Nat.zero_add, Nat.add_zero, Nat.mul_one, Nat.one_mul, Nat.zero_mul, Nat.reduceAdd, List.setIfInBounds_toArray, List.set_cons_zero, List.set_cons_succ, List.getElem?_toArray, List.getElem?_cons_zero, List.getElem?_cons_succ, some_and, int_eq, bool_eq, str_eq, slc_eq, ptr_eq, nn_eq, M.val, cond_true, cond_false, Bool.not_true, Bool.not_false, e1, cell_in ht]
    refine bDisk wx (fun _ => ?_) fun e => absurd hb e
    simp only [addr_add, load_eq, Nat.zero_add, Nat.add_zero, Nat.mul_one, Nat.one_mul, Nat.zero_mul, Nat.reduceAdd, List.setIfInBounds_toArray, List.set_cons_zero, List.set_cons_succ, List.getElem?_toArray, List.getElem?_cons_zero, List.getElem?_cons_succ, some_and, int_eq, bool_eq, str_eq, slc_eq, ptr_eq, nn_eq, M.val, cond_true, cond_false, Bool.not_true, Bool.not_false, Option.isNone_none, cell_in ht]
    have hWi : ((BankM.new 2 3).disk m.i_).W.length < 1000000000 := by
      have : (BankM.new 2 3).disk m.i_ = ⟨[], [], [], true⟩ ∨ (BankM.new 2 3).disk m.i_ ∈ (BankM.new 2 3).ds := by
        unfold BankM.disk
        rw [List.getD_eq_getElem?_getD]
        cases e : (BankM.new 2 3).ds[m.i_.toNat]? with
        | none => exact .inl rfl
        | some D => exact .inr (List.mem_of_getElem? e)
      rcases this with e | e
      · rw [e]; decide
      · have := new_waits 2 3 _ e; omega
    obtain ⟨hx, k0, k1, wx, wr, back⟩ := w.on (i := 1) rfl
    refine bWrite wx (by decide) (by decide) hWi fun h4 w1 => ?_
    have w := back _ _ w1
    rw [e2] at w
    have ht := w.blk 0 rfl
    simp only [addr_add, load_eq, Nat.zero_add, Nat.add_zero, Nat.mul_one, Nat.one_mul, Nat.zero_mul, Nat.reduceAdd, List.setIfInBounds_toArray, List.set_cons_zero, List.set_cons_succ, List.getElem?_toArray, List.getElem?_cons_zero, List.getElem?_cons_succ, some_and, int_eq, bool_eq, str_eq, slc_eq, ptr_eq, nn_eq, M.val, cond_true, cond_false, Bool.not_true, Bool.not_false, e2, beq_self_eq_true, cell_in ht]
    obtain ⟨hx, k0, k1, wx, wr, back⟩ := w.on (i := 1) rfl
    refine bFlush wx (by decide) (by decide) fun h5 w1 => ?_
    have w := back _ _ w1
    rw [e3] at w
    simp only [e3, beq_self_eq_true, cond_true]
    obtain ⟨hx, k0, k1, wx, wr, _⟩ := w.on (i := 1) rfl
    refine bSteps wx ?_
    exact k _ w.keep
/-- A bank of so many disks, each alive, of so many cells. -/
structure BankM.Fine (B : BankM) (n c w : Nat) : Prop where
  len : B.ds.length = n
  alive : ∀ D ∈ B.ds, D.dead = false ∧ D.N.length = c ∧ D.W.length ≤ w
theorem fine_set {n c w : Nat} {B1 : BankM} {D' : DiskM} (f : B.Fine n c w) (h1 : B1.ds = B.ds) (hD : D'.dead = false ∧ D'.N.length = c ∧ D'.W.length ≤ w + 1) : (B1.set i D').Fine n c (w + 1) := by
  refine ⟨by simp [BankM.set, h1, f.len], fun D hm => ?_⟩
  simp only [BankM.set, h1] at hm
  rcases List.mem_or_eq_of_mem_set hm with hm | rfl
  · have := f.alive D hm; exact ⟨this.1, this.2.1, by omega⟩
  · exact hD
theorem fine_up {n c w : Nat} (f : B.Fine n c w) : B.Fine n c (w + 1) := ⟨f.len, fun D hm => by have := f.alive D hm; exact ⟨this.1, this.2.1, by omega⟩⟩
theorem fine_ds {n c w : Nat} {B1 : BankM} (f : B.Fine n c w) (h1 : B1.ds = B.ds) : B1.Fine n c w := ⟨by rw [h1]; exact f.len, fun D hm => f.alive D (by rw [← h1]; exact hm)⟩
theorem fine_new (n c : Int) : (BankM.new n c).Fine (mx 1 (mn n 12)).toNat (mx 1 (mn c 512)).toNat 0 :=
  ⟨by simp [BankM.new], fun D hD => by rw [(List.mem_replicate.1 hD).2]; simp [DiskM.new]⟩
theorem fine_write {n c w : Nat} (f : B.Fine n c w) : (B.write i at_ s).2.Fine n c (w + 1) := by
  unfold BankM.write
  split
  · exact fine_up f
  · rename_i hb
    split
    · exact fine_up f
    · have h1 := f.alive _ (disk_mem hb)
      have h2 := (B.disk i).write_len at_ s
      exact fine_set f B.spend_ds ⟨by rw [h2.2.2]; exact h1.1, by omega, by omega⟩
theorem fine_flush {n c w : Nat} (f : B.Fine n c w) : (B.flush i).2.Fine n c (w + 1) := by
  unfold BankM.flush
  split
  · exact fine_up f
  · rename_i hb
    split
    · exact fine_up f
    · have h1 := f.alive _ (disk_mem hb)
      have h2 := (B.disk i).flush_len
      exact fine_set f B.spend_ds ⟨by rw [h2.2.2]; exact h1.1, by omega, by omega⟩
theorem fine_crash {n c w : Nat} (f : B.Fine n c w) (hok : ∀ D ∈ B.ds, D.Ok) (ks : List (List Bool)) : (B.crash ks).Fine n c w := by
  refine ⟨by simp [BankM.crash, f.len], fun D hD => ?_⟩
  simp only [BankM.crash, List.mem_mapIdx] at hD
  obtain ⟨j, hj, rfl⟩ := hD
  have h1 := f.alive _ (List.getElem_mem hj)
  have h2 := DiskM.crash_len (hok _ (List.getElem_mem hj)) (ks.getD j [])
  exact ⟨by rw [h2.2.2]; exact h1.1, by omega, by omega⟩
theorem write_pw (hb : ¬ B.bad i) (hp : B.noPower) : B.write i at_ s = (21, B) := by simp [BankM.write, hb, hp]
theorem write_ok1 {n c w : Nat} (f : B.Fine n c w) (hb : ¬ B.bad i) (hp : ¬ B.noPower) (ha : 0 ≤ at_ ∧ at_ < c) (hs : s.size ≤ 2048) : (B.write i at_ s).1 = 0 := by
  have h1 := f.alive _ (disk_mem hb)
  have hu : (B.disk i).usable at_ = 0 := DiskM.usable_zero.2 ⟨h1.1, ha.1, by omega⟩
  have hs' : ¬ (s.size : Int) > 2048 := by omega
  simp [BankM.write, hb, hp, DiskM.write, hu, hs']
theorem flush_ok1 {n c w : Nat} (f : B.Fine n c w) (hb : ¬ B.bad i) (hp : ¬ B.noPower) : (B.flush i).1 = 0 := by
  have h1 := f.alive _ (disk_mem hb)
  simp [BankM.flush, hb, hp, DiskM.flush, h1.1]
theorem spend_p (hp : ¬ B.noPower) : B.spend = (0, { B with left := if B.fails = true then B.left - 1 else B.left, steps := B.steps + 1 }) := by simp [BankM.spend, hp]
theorem bankCut {n : Int} {sa : Option Addr} {sl sc : Nat} {ms : List Act10} {Q : Bool → H → Prop} (hn : n ≤ 9223372036854775807) (hs : Acts10 h sa sl ms) (hc : sl ≤ sc) (k : ∀ h', Keep h h' → Q true h') : law10_BankCut n sa sl sc h Q := by
  unfold law10_BankCut law10_BankCut.g
  refine bNew fun b h1 w => ?_
  refine bCut w fun h2 w => ?_
  obtain ⟨hm1, hm2, hm3⟩ := mn_take (l := sl) (n := 60) (by omega)
  refine M.jn ?_
  refine M.sub0 hm2 (by omega) ?_
  have hs := hs.take (min sl 60) (Nat.min_le_left _ _)
  rw [show (mn ((sl : Nat) : Int) (60 : Int)).toNat = min sl 60 from hm1]
  have hl60 : min sl 60 ≤ 60 := by omega
  generalize min sl 60 = l at hs hl60
  generalize ms.take l = ms at hs
  have hmx : mx 0 n ≤ 9223372036854775807 ∧ 0 ≤ mx 0 n ∧ (0 < n → mx 0 n = n) ∧ (n ≤ 0 → mx 0 n = 0) := by unfold mx; split <;> omega
  have f0 : ((BankM.new 3 8).cut n).Fine 3 8 0 := by
    have := fine_new 3 8
    rw [show (mx 1 (mn 3 12)).toNat = 3 by decide, show (mx 1 (mn 8 512)).toNat = 8 by decide] at this
    exact fine_ds this rfl
  refine M.loop_of (I := fun (p : Int × Int) h' => 0 ≤ p.2 ∧ p.2 ≤ l ∧ ∃ B : BankM, Wd h h' [bankC b B] ∧ B.Fine 3 8 p.2.toNat ∧ B.fails = true ∧ 0 ≤ p.1 ∧ p.1 ≤ p.2 ∧ B.steps = p.1 ∧ B.left = mx 0 n - p.1) (μ := fun p => (l - p.2).toNat)
    ⟨by simp, by simp only; omega, _, w, f0, rfl, by simp, by simp, rfl, by simp [BankM.cut]⟩ ?_
  rintro ⟨made, i⟩ h5 J ⟨hi0, hi1, B, w, hF, hf, hm0, hmi, hst, hlf⟩ hJ
  simp only at hi0 hi1 hF hm0 hmi hst hlf ⊢
  have ok := bank_ok w
  have hleft := ok.left
  have hnp : B.noPower ↔ ¬ made < n := by
    unfold BankM.noPower
    rw [hlf]
    simp only [hf, true_and]
    rcases Int.lt_or_le 0 n with h0 | h0
    · rw [hmx.2.2.1 h0] at hlf ⊢; omega
    · rw [hmx.2.2.2 h0] at hlf ⊢; omega
  by_cases hlt : i < l
  · have hlt' : i.toNat < ms.length := by rw [hs.len]; omega
    cases sa with
    | none => have := hs.nil rfl; omega
    | some sb =>
      obtain ⟨hrow, ha⟩ := hs.row sb rfl i.toNat _ (List.getElem?_eq_getElem hlt')
      generalize ms[i.toNat] = m at hrow ha
      obtain ⟨c0, c1, c2, c3, c4, c5⟩ := act10_cells (w.keep.row hrow)
      have hni : (i + 1).toNat = i.toNat + 1 := by omega
      simp only [hlt, decide_true, cond_true]
      refine M.idx_of hi0 hlt ?_
      simp only [addr_add, load_eq, Nat.zero_add, Nat.add_zero, Nat.mul_one, Nat.one_mul, Nat.zero_mul, Nat.reduceAdd, List.setIfInBounds_toArray, List.set_cons_zero, List.set_cons_succ, List.getElem?_toArray, List.getElem?_cons_zero, List.getElem?_cons_succ, some_and, int_eq, bool_eq, str_eq, slc_eq, ptr_eq, nn_eq, M.val, cond_true, cond_false, Bool.not_true, Bool.not_false, add2, c0, c1, c2, c3, c4, c5]
      refine M.new_w w fun t h6 w => ⟨rfl, ?_⟩
      refine M.puts_w0 w 1 rfl (by simp [isPlainCell]) rfl fun h7 w => ?_
      have ht := w.blk 1 rfl
      have w := w.drop (i := 1) rfl
      have hz3 := tmod_lt (mx0 m.i_) (show (0 : Int) < 3 by omega)
      have hz8 := tmod_lt (mx0 m.at_) (show (0 : Int) < 8 by omega)
      simp only [addr_add, load_eq, Nat.zero_add, Nat.add_zero, Nat.mul_one, Nat.one_mul, Nat.zero_mul, Nat.reduceAdd, List.setIfInBounds_toArray, List.set_cons_zero, List.set_cons_succ, List.getElem?_toArray, List.getElem?_cons_zero, List.getElem?_cons_succ, some_and, int_eq, bool_eq, str_eq, slc_eq, ptr_eq, nn_eq, M.val, cond_true, cond_false, Bool.not_true, Bool.not_false, cell_in ht, nz_eq]
      refine ⟨by omega, ?_⟩
      generalize Int.tmod (mx 0 m.i_) 3 = z at hz3
      have hb : ¬ B.bad z := BankM.not_bad.2 ⟨hz3.1, by rw [hF.len]; exact hz3.2⟩
      have hWz : (B.disk z).W.length < 1000000000 := by have := (hF.alive _ (disk_mem hb)).2.2; omega
      refine M.join_of (fun e h' => ∃ B' : BankM, Wd h h' [bankC b B'] ∧ B'.Fine 3 8 (i.toNat + 1) ∧ ((made < n ∧ e = 0 ∧ B'.fails = true ∧ B'.steps = made + 1 ∧ B'.left = mx 0 n - (made + 1)) ∨ (¬ made < n ∧ e = 21 ∧ B = B'))) (fun J2 hJ2 => ?_) ?_
      · have sp : ¬ B.noPower → B.spend.2.fails = true ∧ B.spend.2.steps = made + 1 ∧ B.spend.2.left = mx 0 n - (made + 1) := fun hp => by
          rw [spend_p hp]
          simp only [hf, if_true, hst, hlf, true_and]
          omega
        by_cases b0 : bAnd .i64 m.do_ 3 = 0
        · simp only [b0, beq_self_eq_true, cond_true]
          refine bSpend w (by omega) (by omega) fun h8 w => hJ2 _ _ ⟨_, w, ?_, ?_⟩
          · exact fine_up (fine_ds hF B.spend_ds)
          · by_cases hp : B.noPower
            · exact .inr ⟨hnp.1 hp, by simp [BankM.spend, hp], by simp [BankM.spend, hp]⟩
            · exact .inl ⟨Decidable.not_not.1 fun e => hp (hnp.2 e), by rw [spend_p hp], sp hp⟩
        · have b0' : (bAnd .i64 m.do_ 3 == 0) = false := by simpa using b0
          simp only [b0', cond_false]
          by_cases b1 : bAnd .i64 m.do_ 3 = 1
          · simp only [b1, beq_self_eq_true, cond_true]
            refine bFlush w (by omega) (by omega) fun h8 w => hJ2 _ _ ⟨_, w, fine_flush hF, ?_⟩
            by_cases hp : B.noPower
            · exact .inr ⟨hnp.1 hp, by simp [BankM.flush, hp, hb], by simp [BankM.flush, hp, hb]⟩
            · refine .inl ⟨Decidable.not_not.1 fun e => hp (hnp.2 e), flush_ok1 hF hb hp, ?_⟩
              have := sp hp
              simpa [BankM.flush, hb, hp, BankM.set] using this
          · have b1' : (bAnd .i64 m.do_ 3 == 1) = false := by simpa using b1
            simp only [addr_add, load_eq, Nat.zero_add, Nat.add_zero, Nat.mul_one, Nat.one_mul, Nat.zero_mul, Nat.reduceAdd, List.setIfInBounds_toArray, List.set_cons_zero, List.set_cons_succ, List.getElem?_toArray, List.getElem?_cons_zero, List.getElem?_cons_succ, some_and, int_eq, bool_eq, str_eq, slc_eq, ptr_eq, nn_eq, M.val, cond_true, cond_false, Bool.not_true, Bool.not_false, b1', cell_in ht]
            refine ⟨by omega, ?_⟩
            refine bWrite w (by omega) (by omega) hWz fun h8 w => hJ2 _ _ ⟨_, w, fine_write hF, ?_⟩
            by_cases hp : B.noPower
            · exact .inr ⟨hnp.1 hp, by rw [write_pw hb hp], by rw [write_pw hb hp]⟩
            · refine .inl ⟨Decidable.not_not.1 fun e => hp (hnp.2 e), write_ok1 hF hb hp hz8 (by decide), ?_⟩
              have := sp hp
              simpa [BankM.write, hb, hp, BankM.set] using this
      rintro e h8 ⟨B', w, hF', hcase⟩
      have hb' : ¬ B'.bad z := BankM.not_bad.2 ⟨hz3.1, by rw [hF'.len]; exact hz3.2⟩
      have hal := hF'.alive _ (disk_mem hb')
      have hrd : ¬ B'.noPower → (B'.read z 0).2 = 0 := fun hp => by
        have hu : (B'.disk z).usable 0 = 0 := DiskM.usable_zero.2 ⟨hal.1, by omega, by omega⟩
        simp [BankM.read, hb', hp, DiskM.read, hu]
      have hrp : B'.noPower → (B'.read z 0).2 = 21 := fun hp => by simp [BankM.read, hb', hp]
      rcases hcase with ⟨hmn, he, hf', hst', hlf'⟩ | ⟨hmn, rfl, rfl⟩
      · refine M.join_of (fun d h' => d = false ∧ h8 = h') (fun J3 hJ3 => ?_) ?_
        · have e1 : (!((e == 0) == decide (made < n))) = false := by rw [decide_eq_true hmn, he]; rfl
          have e2 : (e != 0) = false := by rw [he]; rfl
          simp only [e1, e2, cond_false]
          exact hJ3 false h8 ⟨rfl, rfl⟩
        rintro _ _ ⟨rfl, rfl⟩
        simp only [cond_false]
        refine M.jn ?_
        have e3 : (e == 0) = true := by rw [he]; rfl
        refine ct e3 ?_
        rw [wrap1 hm0 (show made ≤ 1000000000 by omega)]
        refine bRead w ?_
        have hnp' : B'.noPower ↔ made + 1 ≥ n := by
          unfold BankM.noPower
          rw [hlf']
          simp only [hf', true_and]
          rw [hmx.2.2.1 (by omega)]
          omega
        have : ((B'.read z 0).2 == 21) = decide (made + 1 ≥ n) := by
          by_cases hp : B'.noPower
          · rw [hrp hp]; simp [hnp'.1 hp]
          · have h9 : ¬ (made + 1 ≥ n) := fun e => hp (hnp'.2 e)
            rw [hrd hp]; simp; omega
        simp only [this, beq_self_eq_true, Bool.not_true, cond_false, wrap1 hi0 (show i ≤ 1000000000 by omega)]
        exact hJ _ _ ⟨by simp only; omega, by simp only; omega, B', w, by simp only [hni]; exact hF', hf', by simp only; omega, by simp only; omega, hst', hlf'⟩ (by simp only; omega)
      · refine M.join_of (fun d h' => d = false ∧ h8 = h') (fun J3 hJ3 => ?_) ?_
        · simp only [show ((21 : Int) == 0) = false by decide, show ((21 : Int) != 0) = true by decide, hmn, decide_false, beq_self_eq_true, Bool.not_true, cond_false, cond_true, bne_self_eq_false]
          exact hJ3 _ _ ⟨rfl, rfl⟩
        rintro _ _ ⟨rfl, rfl⟩
        simp only [cond_false]
        refine M.jn ?_
        simp only [show ((21 : Int) == 0) = false by decide, cond_false]
        refine bRead w ?_
        have : ((B.read z 0).2 == 21) = decide (made ≥ n) := by
          rw [hrp (hnp.2 hmn)]; simp; omega
        simp only [this, beq_self_eq_true, Bool.not_true, cond_false, M.val, wrap1 hi0 (show i ≤ 1000000000 by omega)]
        exact hJ _ _ ⟨by simp only; omega, by simp only; omega, B, w, by simp only [hni]; exact hF', hf, by simp only; omega, by simp only; omega, hst, hlf⟩ (by simp only; omega)
  · simp only [hlt, decide_false, cond_false]
    clear hJ
    have okd := bank_disks w
    refine bSteps w ?_
    refine bCrash (ks := []) w (fun D hD => by have := (hF.alive D hD).2.2; omega) lists_nil fun h6 w => ?_
    refine M.jn ?_
    refine wakes10 fun h7 k7 => ?_
    have w := w.keeps k7
    simp only [cond_true, hst, beq_self_eq_true]
    have hFc := fine_crash hF okd []
    have hp : ¬ (B.crash []).noPower := fun e => by simp [BankM.noPower, BankM.crash] at e
    refine bSpend w (by show B.steps < _; omega) (by simp [BankM.crash]) fun h8 w => ?_
    have hsp := spend_p hp
    have hF2 : (B.crash []).spend.2.Fine 3 8 i.toNat := fine_ds hFc (BankM.spend_ds _)
    have e1 : (B.crash []).spend.1 = 0 := by rw [hsp]
    have hp2 : ¬ (B.crash []).spend.2.noPower := fun e => by rw [hsp] at e; simp [BankM.noPower, BankM.crash] at e
    have hst2 : (B.crash []).spend.2.steps < 1000000000 := by rw [hsp]; show B.steps + 1 < _; omega
    have hlf2 : (B.crash []).spend.2.left ≤ 9223372036854775807 := by rw [hsp]; simp [BankM.crash]
    generalize (B.crash []).spend.2 = B2 at w hF2 hp2 hst2 hlf2
    have hb2 : ¬ B2.bad 2 := BankM.not_bad.2 ⟨by omega, by rw [hF2.len]; decide⟩
    simp only [e1, beq_self_eq_true, cond_true]
    refine bWrite w hst2 hlf2 (by have := (hF2.alive _ (disk_mem hb2)).2.2; omega) fun h9 w => ?_
    rw [write_ok1 hF2 hb2 hp2 (by decide) (by decide)]
    exact k _ w.keep
end
end Go.Proofs.Ytkfokpkpobjoeaa

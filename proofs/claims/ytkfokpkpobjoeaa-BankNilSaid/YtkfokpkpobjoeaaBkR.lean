/- The document's bank, walked. -/
import Derived.Test.YtkfokpkpobjoeaaBkP
namespace Go.Proofs.Ytkfokpkpobjoeaa
open Go.Sh Go.RowKit
set_option linter.unusedSimpArgs false
set_option linter.unusedVariables false

def BankM.rleft (B : BankM) : Int := if B.fails = true then B.left else -1
/-- The document's bank, at a block. -/
def rbankC (b : Nat) (B : BankM) : Chunk := Wd.obj (α := Option Addr × Nat × List Nat) (fun v => B.Ok ∧ v.2.2.length = B.ds.length)
  fun v => [.blk b (.cells #[.slice v.1 B.ds.length v.2.1, .int .i64 B.steps, .int .i64 B.rleft] 77 (0, 0)), .sl 45 1 v.1 B.ds.length v.2.1 (ptrs v.2.2), .sep (List.zipWith refC v.2.2 B.ds)]
section
variable {h0 h : H} {b : Nat} {B : BankM} {i at_ : Int} {s : ByteArray}
theorem noPower_iff (o : B.Ok) : B.rleft = 0 ↔ B.noPower := by
  unfold BankM.rleft BankM.noPower
  cases B.fails <;> simp
theorem rbGo {Q : Option Addr → Prop} (w : Wd h0 h [rbankC b B]) (hb : ¬ B.bad i)
    (k : ∀ p h1, Keep h0 h1 → Keep h1 h → Wd h1 h [refC p (B.disk i)] → (∀ h' D', Wd h1 h' [refC p D'] → Wd h0 h' [rbankC b (B.set i D')]) → Q (some ⟨p, 0, none⟩)) :
    M.nn (some ⟨b, 0, none⟩) fun a6 => M.load h (Addr.add a6 0) fun v7 => M.slc v7 fun a8 l9 c10 => M.idx a8 l9 i fun a11 j12 => M.load h (Addr.add a11 (j12 * 1)) fun v13 => M.ptr v13 fun p14 => Q p14 := by
  obtain ⟨⟨a, c, ps⟩, ⟨ok, hl⟩, w⟩ := w.opn 0 rfl
  have hbb := w.blk 0 rfl
  obtain ⟨_, _, hsn, hsr⟩ := w.slrow 1 rfl
  simp only at hl hsn hsr
  obtain ⟨hj, hd⟩ := BankM.disk_at hb
  have hi := BankM.not_bad.1 hb
  simp only [addr_add, load_eq, Nat.zero_add, Nat.add_zero, Nat.mul_one, Nat.one_mul, Nat.zero_mul, Nat.reduceAdd, List.setIfInBounds_toArray, List.set_cons_zero, List.set_cons_succ, List.getElem?_toArray, List.getElem?_cons_zero, List.getElem?_cons_succ, some_and, int_eq, bool_eq, str_eq, slc_eq, ptr_eq, nn_eq, M.val, cond_true, cond_false, Bool.not_true, Bool.not_false, cell_in hbb]
  cases a with
  | none => have := (hsn rfl).2; omega
  | some ab =>
    refine M.idx_of hi.1 hi.2 ?_
    have hc : h.cell (ab.add i.toNat) = some (.pointer (some ⟨ps[i.toNat], 0, none⟩)) := by
      rw [hsr ab rfl i.toNat (by rw [ptrs_len]; omega), ptrs_get (by omega)]
    simp only [addr_add, load_eq, Nat.zero_add, Nat.add_zero, Nat.mul_one, Nat.one_mul, Nat.zero_mul, Nat.reduceAdd, List.setIfInBounds_toArray, List.set_cons_zero, List.set_cons_succ, List.getElem?_toArray, List.getElem?_cons_zero, List.getElem?_cons_succ, some_and, int_eq, bool_eq, str_eq, slc_eq, ptr_eq, nn_eq, M.val, cond_true, cond_false, Bool.not_true, Bool.not_false, hc]
    obtain ⟨h1, k0, k1, w1, wr, back⟩ := disks_on (f := refC) (k := 2) w rfl (j := i.toNat) (by show i.toNat < ps.length; omega) hj
    rw [hd] at w1
    refine k ps[i.toNat] h1 k0 k1 w1 fun h' D' w' => ?_
    refine (back h' D' w').close 0 (some ab, c, ps) ?_ ⟨BankM.set_ok ok i D', by simpa [BankM.set] using hl⟩
    simp [BankM.set, BankM.rleft]
    rfl
theorem rbBad {K : Bool → Prop} (w : Wd h0 h [rbankC b B]) (k : K (decide (B.bad i))) :
    (bif (decide (i < (0 : Int))) then K true else M.nn (some ⟨b, 0, none⟩) fun a3 => M.load h (Addr.add a3 0) fun v4 => M.slc v4 fun a5 l6 c7 => K (decide (i ≥ ((l6 : Nat) : Int)))) := by
  obtain ⟨v, ⟨ok, hl⟩, w⟩ := w.opn 0 rfl
  have hb := w.blk 0 rfl
  by_cases h1 : i < 0
  · simp only [h1, decide_true, cond_true]
    have : decide (B.bad i) = true := decide_eq_true (.inl h1)
    rwa [this] at k
  · simp only [addr_add, load_eq, Nat.zero_add, Nat.add_zero, Nat.mul_one, Nat.one_mul, Nat.zero_mul, Nat.reduceAdd, List.setIfInBounds_toArray, List.set_cons_zero, List.set_cons_succ, List.getElem?_toArray, List.getElem?_cons_zero, List.getElem?_cons_succ, some_and, int_eq, bool_eq, str_eq, slc_eq, ptr_eq, nn_eq, M.val, cond_true, cond_false, Bool.not_true, Bool.not_false, h1, decide_false, cell_in hb]
    have : decide (B.bad i) = decide (i ≥ B.ds.length) := by simp [BankM.bad, h1]
    rwa [this] at k
theorem rbSpend {Q : Int → H → Prop} (w : Wd h0 h [rbankC b B]) (hs : B.steps < 1000000000) (hlx : B.left ≤ 9223372036854775807) (k : ∀ h', Wd h0 h' [rbankC b B.spend.2] → Q B.spend.1 h') : ref10_Spend (some ⟨b, 0, none⟩) h Q := by
  have w0 := w
  obtain ⟨⟨a, c, ps⟩, ⟨ok, hl⟩, w⟩ := w.opn 0 rfl
  have hb := w.blk 0 rfl
  have ok2 := BankM.spend_ok ok
  have hst := ok.st0
  have hlf := ok.left
  have hw1 : IntKind.wrap .i64 (B.steps + 1) = B.steps + 1 := by rw [IntKind.wrap_i64]; omega
  unfold ref10_Spend
  unfold BankM.spend at k ok2
  by_cases hp : B.noPower
  · simp only [hp, if_true] at k
    have hr := (noPower_iff ok).2 hp
    simp only [addr_add, load_eq, Nat.zero_add, Nat.add_zero, Nat.mul_one, Nat.one_mul, Nat.zero_mul, Nat.reduceAdd, List.setIfInBounds_toArray, List.set_cons_zero, List.set_cons_succ, List.getElem?_toArray, List.getElem?_cons_zero, List.getElem?_cons_succ, some_and, int_eq, bool_eq, str_eq, slc_eq, ptr_eq, nn_eq, M.val, cond_true, cond_false, Bool.not_true, Bool.not_false, cell_in hb, hr, beq_self_eq_true]
    exact k _ w0
  · simp only [hp, if_false] at k ok2
    have hr : (B.rleft == 0) = false := by
      have : ¬ B.rleft = 0 := fun e => hp ((noPower_iff ok).1 e)
      simpa using this
    simp only [addr_add, load_eq, Nat.zero_add, Nat.add_zero, Nat.mul_one, Nat.one_mul, Nat.zero_mul, Nat.reduceAdd, List.setIfInBounds_toArray, List.set_cons_zero, List.set_cons_succ, List.getElem?_toArray, List.getElem?_cons_zero, List.getElem?_cons_succ, some_and, int_eq, bool_eq, str_eq, slc_eq, ptr_eq, nn_eq, M.val, cond_true, cond_false, Bool.not_true, Bool.not_false, cell_in hb, hr]
    refine M.jn ?_
    cases hf : B.fails
    · simp only [hf, Bool.false_eq_true, if_false] at k ok2
      have hrl : B.rleft = -1 := by simp [BankM.rleft, hf]
      simp only [addr_add, load_eq, Nat.zero_add, Nat.add_zero, Nat.mul_one, Nat.one_mul, Nat.zero_mul, Nat.reduceAdd, List.setIfInBounds_toArray, List.set_cons_zero, List.set_cons_succ, List.getElem?_toArray, List.getElem?_cons_zero, List.getElem?_cons_succ, some_and, int_eq, bool_eq, str_eq, slc_eq, ptr_eq, nn_eq, M.val, cond_true, cond_false, Bool.not_true, Bool.not_false, hrl, show decide ((-1 : Int) > 0) = false by decide, cell_in hb, hw1]
      refine M.put_w w 0 rfl rfl (by simp) fun h1 w => ?_
      exact k _ (w.close 0 (a, c, ps) (by simp [hf, BankM.rleft]) ⟨ok2, hl⟩)
    · simp only [hf, if_true] at k ok2
      have hrl : B.rleft = B.left := by simp [BankM.rleft, hf]
      have hl0 : B.left ≠ 0 := fun e => hp ⟨hf, e⟩
      have hw2 : IntKind.wrap .i64 (B.left - 1) = B.left - 1 := by rw [IntKind.wrap_i64]; omega
      have hgt : decide (B.left > 0) = true := decide_eq_true (by omega)
      simp only [addr_add, load_eq, Nat.zero_add, Nat.add_zero, Nat.mul_one, Nat.one_mul, Nat.zero_mul, Nat.reduceAdd, List.setIfInBounds_toArray, List.set_cons_zero, List.set_cons_succ, List.getElem?_toArray, List.getElem?_cons_zero, List.getElem?_cons_succ, some_and, int_eq, bool_eq, str_eq, slc_eq, ptr_eq, nn_eq, M.val, cond_true, cond_false, Bool.not_true, Bool.not_false, hrl, hgt, hw2]
      refine M.put_w w 0 rfl rfl (by simp) fun h1 w => ?_
      have hb := w.blk 0 rfl
      simp only [addr_add, load_eq, Nat.zero_add, Nat.add_zero, Nat.mul_one, Nat.one_mul, Nat.zero_mul, Nat.reduceAdd, List.setIfInBounds_toArray, List.set_cons_zero, List.set_cons_succ, List.getElem?_toArray, List.getElem?_cons_zero, List.getElem?_cons_succ, some_and, int_eq, bool_eq, str_eq, slc_eq, ptr_eq, nn_eq, M.val, cond_true, cond_false, Bool.not_true, Bool.not_false, cell_in hb, hw1]
      refine M.put_w w 0 rfl rfl (by simp) fun h2 w => ?_
      exact k _ (w.close 0 (a, c, ps) (by simp [hf, BankM.rleft]) ⟨ok2, hl⟩)
theorem rbWrite {Q : Int → H → Prop} (w : Wd h0 h [rbankC b B]) (hs : B.steps < 1000000000) (hlx : B.left ≤ 9223372036854775807) (hW : (B.disk i).W.length < 1000000000) (k : ∀ h', Wd h0 h' [rbankC b (B.write i at_ s).2] → Q (B.write i at_ s).1 h') : ref10_Write (some ⟨b, 0, none⟩) i at_ s h Q := by
  unfold ref10_Write ref10_Write.g
  unfold BankM.write at k
  refine M.join_of (fun d h' => d = decide (B.bad i) ∧ h = h') (fun J hJ => rbBad (K := fun d => J d h) w (hJ _ _ ⟨rfl, rfl⟩)) ?_
  rintro _ _ ⟨rfl, rfl⟩
  by_cases hb : B.bad i
  · simp only [hb, if_true] at k
    simp only [hb, decide_true, cond_true]
    exact k _ w
  · simp only [hb, if_false] at k
    simp only [hb, decide_false, cond_false]
    refine rbSpend w hs hlx fun h1 w => ?_
    by_cases hp : B.noPower
    · have e : B.spend = (21, B) := by simp [BankM.spend, hp]
      rw [e] at w ⊢
      simp only [hp, if_true] at k
      exact k _ w
    · have e : B.spend.1 = 0 := by simp [BankM.spend, hp]
      simp only [hp, if_false] at k
      simp only [e, bne_self_eq_false, cond_false]
      refine rbGo w (fun x => hb (spend_bad.1 x)) fun p h2 k0 k1 w2 back => ?_
      rw [spend_disk] at w2
      exact rPut w2 hW fun h' w3 => k h' (back _ _ w3)
theorem rbFlush {Q : Int → H → Prop} (w : Wd h0 h [rbankC b B]) (hs : B.steps < 1000000000) (hlx : B.left ≤ 9223372036854775807) (hW : (B.disk i).W.length < 1000000000) (k : ∀ h', Wd h0 h' [rbankC b (B.flush i).2] → Q (B.flush i).1 h') : ref10_Flush (some ⟨b, 0, none⟩) i h Q := by
  unfold ref10_Flush ref10_Flush.g
  unfold BankM.flush at k
  refine M.join_of (fun d h' => d = decide (B.bad i) ∧ h = h') (fun J hJ => rbBad (K := fun d => J d h) w (hJ _ _ ⟨rfl, rfl⟩)) ?_
  rintro _ _ ⟨rfl, rfl⟩
  by_cases hb : B.bad i
  · simp only [hb, if_true] at k
    simp only [hb, decide_true, cond_true]
    exact k _ w
  · simp only [hb, if_false] at k
    simp only [hb, decide_false, cond_false]
    refine rbSpend w hs hlx fun h1 w => ?_
    by_cases hp : B.noPower
    · have e : B.spend = (21, B) := by simp [BankM.spend, hp]
      rw [e] at w ⊢
      simp only [hp, if_true] at k
      exact k _ w
    · have e : B.spend.1 = 0 := by simp [BankM.spend, hp]
      simp only [hp, if_false] at k
      simp only [e, bne_self_eq_false, cond_false]
      refine rbGo w (fun x => hb (spend_bad.1 x)) fun p h2 k0 k1 w2 back => ?_
      rw [spend_disk] at w2
      exact rFlush w2 hW fun h' w3 => k h' (back _ _ w3)
theorem rbRead {Q : ByteArray → Int → H → Prop} (w : Wd h0 h [rbankC b B]) (hW : (B.disk i).W.length < 1000000000) (k : Q (B.read i at_).1 (B.read i at_).2 h) : ref10_Read (some ⟨b, 0, none⟩) i at_ h Q := by
  unfold ref10_Read ref10_Read.g
  unfold BankM.read at k
  refine M.join_of (fun d h' => d = decide (B.bad i) ∧ h = h') (fun J hJ => rbBad (K := fun d => J d h) w (hJ _ _ ⟨rfl, rfl⟩)) ?_
  rintro _ _ ⟨rfl, rfl⟩
  by_cases hb : B.bad i
  · simp only [hb, if_true] at k
    simp only [hb, decide_true, cond_true]
    exact k
  · simp only [hb, if_false] at k
    simp only [hb, decide_false, cond_false]
    have w' := w
    obtain ⟨v, ⟨ok, hl⟩, w'⟩ := w'.opn 0 rfl
    have hbb := w'.blk 0 rfl
    have e1 : ∀ K : Int → Prop, K B.rleft → (M.nn (some ⟨b, 0, none⟩) fun a11 => M.load h (Addr.add a11 2) fun v12 => M.int .i64 v12 fun n13 => K n13) := by
      intro K hK
      simp only [addr_add, load_eq, Nat.zero_add, Nat.add_zero, Nat.mul_one, Nat.one_mul, Nat.zero_mul, Nat.reduceAdd, List.setIfInBounds_toArray, List.set_cons_zero, List.set_cons_succ, List.getElem?_toArray, List.getElem?_cons_zero, List.getElem?_cons_succ, some_and, int_eq, bool_eq, str_eq, slc_eq, ptr_eq, nn_eq, M.val, cond_true, cond_false, Bool.not_true, Bool.not_false, cell_in hbb]
      exact hK
    refine e1 _ ?_
    by_cases hp : B.noPower
    · have hr := (noPower_iff ok).2 hp
      simp only [hp, if_true] at k
      simp only [hr, beq_self_eq_true, cond_true]
      exact k
    · have hr : (B.rleft == 0) = false := by
        have : ¬ B.rleft = 0 := fun e => hp ((noPower_iff ok).1 e)
        simpa using this
      simp only [hp, if_false] at k
      simp only [hr, cond_false]
      exact rbGo w hb fun p h2 k0 k1 w2 back => rRead w2 hW k
theorem rbCut {n : Int} {Q : H → Prop} (w : Wd h0 h [rbankC b B]) (k : ∀ h', Wd h0 h' [rbankC b (B.cut n)] → Q h') : ref10_Cut (some ⟨b, 0, none⟩) n h Q := by
  obtain ⟨⟨a, c, ps⟩, ⟨ok, hl⟩, w⟩ := w.opn 0 rfl
  unfold ref10_Cut
  refine M.join_of (fun d h' => d = mx 0 n ∧ h = h') (fun J hJ => ?_) ?_
  · by_cases h1 : n < 0
    · simp only [h1, decide_true, cond_true]
      exact hJ _ _ ⟨by unfold mx; split <;> omega, rfl⟩
    · simp only [h1, decide_false, cond_false]
      exact hJ _ _ ⟨by unfold mx; split <;> omega, rfl⟩
  · rintro _ _ ⟨rfl, rfl⟩
    simp only [addr_add, load_eq, Nat.zero_add, Nat.add_zero, Nat.mul_one, Nat.one_mul, Nat.zero_mul, Nat.reduceAdd, List.setIfInBounds_toArray, List.set_cons_zero, List.set_cons_succ, List.getElem?_toArray, List.getElem?_cons_zero, List.getElem?_cons_succ, some_and, int_eq, bool_eq, str_eq, slc_eq, ptr_eq, nn_eq, M.val, cond_true, cond_false, Bool.not_true, Bool.not_false]
    refine M.put_w w 0 rfl rfl (by simp) fun h2 w => ?_
    exact k _ (w.close 0 (a, c, ps) (by simp [BankM.cut, BankM.rleft]) ⟨BankM.cut_ok ok n, hl⟩)
theorem rbCrash {a : Option Addr} {l c : Nat} {ks : List (List Bool)} {Q : H → Prop} (w : Wd h0 h [rbankC b B]) (hW : ∀ D ∈ B.ds, D.W.length < 1000000000) (hk : Lists h0 a l ks) (k : ∀ h', Wd h0 h' [rbankC b (B.crash ks)] → Q h') :
    ref10_Crash (some ⟨b, 0, none⟩) a l c h Q := by
  unfold ref10_Crash ref10_Crash.g
  obtain ⟨⟨pa, pc, ps⟩, ⟨ok, hl⟩, w⟩ := w.opn 0 rfl
  simp only at hl
  have hsm := ok.small
  refine M.jn ?_
  refine M.loop_of (I := fun (i : Int) h' => 0 ≤ i ∧ i ≤ B.ds.length ∧ Wd h0 h' [.blk b (.cells #[.slice pa B.ds.length pc, .int .i64 B.steps, .int .i64 B.rleft] 77 (0, 0)), .sl 45 1 pa B.ds.length pc (ptrs ps),
      .sep (List.zipWith refC ps (B.ds.mapIdx fun j D => if j < i.toNat then D.crash (ks.getD j []) else D))]) (μ := fun i => (B.ds.length - i).toNat) ⟨by omega, by omega, ?_⟩ ?_
  · have : B.ds.mapIdx (fun j D => if j < (0 : Int).toNat then D.crash (ks.getD j []) else D) = B.ds := by
      apply List.ext_getElem?
      intro x
      simp
    rw [this]; exact w
  rintro i h1 J ⟨hi0, hi1, w⟩ hJ
  obtain ⟨_, _, hsn, hsr⟩ := w.slrow 1 rfl
  have hb := w.blk 0 rfl
  simp only [addr_add, load_eq, Nat.zero_add, Nat.add_zero, Nat.mul_one, Nat.one_mul, Nat.zero_mul, Nat.reduceAdd, List.setIfInBounds_toArray, List.set_cons_zero, List.set_cons_succ, List.getElem?_toArray, List.getElem?_cons_zero, List.getElem?_cons_succ, some_and, int_eq, bool_eq, str_eq, slc_eq, ptr_eq, nn_eq, M.val, cond_true, cond_false, Bool.not_true, Bool.not_false, cell_in hb]
  by_cases hlt : i < B.ds.length
  · have hj : i.toNat < B.ds.length := by omega
    have hjp : i.toNat < ps.length := by omega
    have hw1 : IntKind.wrap .i64 (i + 1) = i + 1 := by rw [IntKind.wrap_i64]; omega
    simp only [hlt, decide_true, cond_true]
    cases pa with
    | none => have : B.ds.length = 0 := (hsn rfl).2; omega
    | some ab =>
      have hc : h1.cell (ab.add i.toNat) = some (.pointer (some ⟨ps[i.toNat], 0, none⟩)) := by
        rw [hsr ab rfl i.toNat (by rw [ptrs_len]; exact hjp), ptrs_get hjp]
      obtain ⟨h2, k0, k1, w2, wr, back⟩ := disks_on (f := refC) (k := 2) (Ds := B.ds.mapIdx fun j D => if j < i.toNat then D.crash (ks.getD j []) else D) w rfl (j := i.toNat) hjp (by simpa using hj)
      have hD : (B.ds.mapIdx fun j D => if j < i.toNat then D.crash (ks.getD j []) else D)[i.toNat]'(by simpa using hj) = B.ds[i.toNat] := by simp; omega
      rw [hD] at w2
      have fin : ∀ h', Wd h2 h' [refC ps[i.toNat] (B.ds[i.toNat].crash (ks.getD i.toNat []))] → J (i + 1) h' := by
        intro h' w'
        have w3 := back h' _ w'
        refine hJ _ _ ⟨by omega, by omega, ?_⟩ (by omega)
        have e : (B.ds.mapIdx fun j D => if j < i.toNat then D.crash (ks.getD j []) else D).set i.toNat (B.ds[i.toNat].crash (ks.getD i.toNat [])) = B.ds.mapIdx fun j D => if j < (i + 1).toNat then D.crash (ks.getD j []) else D := by
          apply List.ext_getElem?
          intro x
          rw [List.getElem?_set]
          by_cases hx : i.toNat = x
          · subst hx
            have : i.toNat < (i + 1).toNat := by omega
            simp [hj, this]; omega
          · rw [if_neg hx, List.getElem?_mapIdx, List.getElem?_mapIdx]
            have : x < i.toNat ↔ x < (i + 1).toNat := by omega
            simp [this]
        rw [e] at w3
        exact w3
      have hWi := hW _ (List.getElem_mem hj)
      refine M.join_of (fun v h' => h1 = h' ∧ (ks.getD i.toNat []).length = v.2.1 ∧ (v.1 = none → v.2.1 = 0) ∧ ∀ y, v.1 = some y → Sh.rowAt h0 y ((ks.getD i.toNat []).map Value.bool)) (fun J2 hJ2 => ?_) ?_
      · by_cases hil : i < l
        · have hik : i.toNat < ks.length := by rw [hk.len]; omega
          simp only [hil, decide_true, cond_true]
          cases a with
          | none => have := hk.nil rfl; omega
          | some kb =>
            obtain ⟨ya, yl, yc, hyc, hy1, hy2, hy3, hy4⟩ := hk.row kb rfl i.toNat _ (List.getElem?_eq_getElem hik)
            have hg : ks.getD i.toNat [] = ks[i.toNat] := by simp [List.getD_eq_getElem?_getD, hik]
            refine M.idx_of hi0 hil ?_
            simp only [addr_add, load_eq, Nat.zero_add, Nat.add_zero, Nat.mul_one, Nat.one_mul, Nat.zero_mul, Nat.reduceAdd, List.setIfInBounds_toArray, List.set_cons_zero, List.set_cons_succ, List.getElem?_toArray, List.getElem?_cons_zero, List.getElem?_cons_succ, some_and, int_eq, bool_eq, str_eq, slc_eq, ptr_eq, nn_eq, M.val, cond_true, cond_false, Bool.not_true, Bool.not_false, w.keep.cell hyc]
            exact hJ2 _ _ ⟨rfl, by rw [hg]; exact hy1, hy3, fun y e => by rw [hg]; exact hy4 y e⟩
        · have hg : ks.getD i.toNat [] = [] := by
            rw [List.getD_eq_getElem?_getD, List.getElem?_eq_none (by rw [hk.len]; omega)]; rfl
          simp only [hil, decide_false, cond_false]
          exact hJ2 _ _ ⟨rfl, by rw [hg]; rfl, fun _ => rfl, fun y e => by simp at e⟩
      · rintro ⟨va, vl, vc⟩ _ ⟨rfl, hv1, hv2, hv3⟩
        simp only [addr_add, load_eq, Nat.zero_add, Nat.add_zero, Nat.mul_one, Nat.one_mul, Nat.zero_mul, Nat.reduceAdd, List.setIfInBounds_toArray, List.set_cons_zero, List.set_cons_succ, List.getElem?_toArray, List.getElem?_cons_zero, List.getElem?_cons_succ, some_and, int_eq, bool_eq, str_eq, slc_eq, ptr_eq, nn_eq, M.val, cond_true, cond_false, Bool.not_true, Bool.not_false, cell_in hb]
        refine M.idx_of hi0 hlt ?_
        simp only [addr_add, load_eq, Nat.zero_add, Nat.add_zero, Nat.mul_one, Nat.one_mul, Nat.zero_mul, Nat.reduceAdd, List.setIfInBounds_toArray, List.set_cons_zero, List.set_cons_succ, List.getElem?_toArray, List.getElem?_cons_zero, List.getElem?_cons_succ, some_and, int_eq, bool_eq, str_eq, slc_eq, ptr_eq, nn_eq, M.val, cond_true, cond_false, Bool.not_true, Bool.not_false, hc, hw1]
        exact rCrash w2 hWi hv1 hv2 (fun y e => k0.row (hv3 y e)) fin
  · simp only [hlt, decide_false, cond_false]
    have hi : i.toNat = B.ds.length := by omega
    have e : (B.ds.mapIdx fun j D => if j < i.toNat then D.crash (ks.getD j []) else D) = B.ds.mapIdx fun j D => D.crash (ks.getD j []) := by
      apply List.ext_getElem?
      intro x
      rw [List.getElem?_mapIdx, List.getElem?_mapIdx]
      by_cases hx : x < B.ds.length
      · rw [hi]; simp [hx]
      · simp [Nat.le_of_not_lt hx]
    rw [e] at w
    refine M.put_w w 0 rfl rfl (by simp) fun h2 w => ?_
    exact k _ (w.close 0 (pa, pc, ps) (by simp [BankM.crash, BankM.rleft]) ⟨BankM.crash_ok ok ks, by simpa [BankM.crash] using hl⟩)
theorem rbNew {n cells : Int} {Q : Option Addr → H → Prop} (k : ∀ b h', Wd h h' [rbankC b (BankM.new n cells)] → Q (some ⟨b, 0, none⟩) h') : ref10_New n cells h Q := by
  unfold ref10_New ref10_New.g
  have hn := BankM.new_len n
  refine M.join_of (fun d h' => d = mx 1 n ∧ h = h') (fun J hJ => ?_) ?_
  · by_cases h1 : n < 1
    · simp only [h1, decide_true, cond_true]
      exact hJ _ _ ⟨by unfold mx; split <;> omega, rfl⟩
    · simp only [h1, decide_false, cond_false]
      exact hJ _ _ ⟨by unfold mx; split <;> omega, rfl⟩
  rintro _ _ ⟨rfl, rfl⟩
  refine M.join_of (fun d h' => d = mx 1 (mn n 12) ∧ h = h') (fun J hJ => ?_) ?_
  · by_cases h1 : mx 1 n > 12
    · simp only [h1, decide_true, cond_true]
      exact hJ _ _ ⟨by unfold mx mn at *; split <;> split <;> (try split at h1) <;> omega, rfl⟩
    · simp only [h1, decide_false, cond_false]
      exact hJ _ _ ⟨by unfold mx mn at *; split <;> split <;> (try split at h1) <;> (try split) <;> omega, rfl⟩
  rintro _ _ ⟨rfl, rfl⟩
  refine M.new_w (Wd.start h) fun b h1 w => ?_
  have w := w.nilsl 45 1
  have w : Wd h h1 [.blk b (.cells #[.slice none 0 0, .int .i64 0, .int .i64 (-1)] 77 (0, 0)), .sl 45 1 none 0 0 (ptrs []), .sep (List.zipWith refC [] [])] :=
    w.fold 2 (c := .sep (List.zipWith refC [] [])) (Chunk.Le.refl _)
  refine M.loop_of (I := fun (i : Int) h' => 0 ≤ i ∧ i ≤ mx 1 (mn n 12) ∧ ∃ a c ps, ps.length = i.toNat ∧ Wd h h' [.blk b (.cells #[.slice a i.toNat c, .int .i64 0, .int .i64 (-1)] 77 (0, 0)), .sl 45 1 a i.toNat c (ptrs ps),
      .sep (List.zipWith refC ps (List.replicate i.toNat (DiskM.new cells)))]) (μ := fun i => (mx 1 (mn n 12) - i).toNat) ⟨by omega, by omega, none, 0, [], rfl, w⟩ ?_
  rintro i h2 J ⟨hi0, hi1, a, c, ps, hps, w⟩ hJ
  by_cases hlt : i < mx 1 (mn n 12)
  · have hw1 : IntKind.wrap .i64 (i + 1) = i + 1 := by rw [IntKind.wrap_i64]; omega
    simp only [hlt, decide_true, cond_true]
    refine rNew fun d h3 w3 => ?_
    have w := w.join w3
    have hb := w.blk 0 rfl
    simp only [addr_add, load_eq, Nat.zero_add, Nat.add_zero, Nat.mul_one, Nat.one_mul, Nat.zero_mul, Nat.reduceAdd, List.setIfInBounds_toArray, List.set_cons_zero, List.set_cons_succ, List.getElem?_toArray, List.getElem?_cons_zero, List.getElem?_cons_succ, some_and, int_eq, bool_eq, str_eq, slc_eq, ptr_eq, nn_eq, M.val, cond_true, cond_false, Bool.not_true, Bool.not_false, cell_in hb, hw1]
    refine M.new_t w fun t h4 ht w => ?_
    refine cellsOf_in ht rfl ?_
    refine M.app_w w 1 rfl rfl rfl (by simp [isPlainCell]) (by omega) (by omega) fun a' c' h5 w => ?_
    refine M.put_w w 0 rfl rfl (by simp) fun h6 w => ?_
    have hni : (i + 1).toNat = i.toNat + 1 := by omega
    have w := w.fold 2 (c := .sep (List.zipWith refC (ps ++ [d]) (List.replicate (i.toNat + 1) (DiskM.new cells)))) (by
      rw [List.replicate_succ', List.zipWith_append (by simp [hps])]
      exact (Chunk.star_mono (Chunk.Le.refl _) (Chunk.Le.refl _)).trans (Chunk.app_sep _ _))
    refine hJ _ _ ⟨by omega, by omega, a', c', ps ++ [d], by simp [hps, hni], ?_⟩ (by omega)
    rw [hni]
    simpa [ptrs] using w
  · simp only [hlt, decide_false, cond_false]
    have hi : i = mx 1 (mn n 12) := by omega
    subst hi
    refine k b _ (w.close 0 (a, c, ps) ?_ ⟨BankM.new_ok n cells, by simpa [BankM.new] using hps⟩)
    simp [BankM.new, BankM.rleft]
end
end Go.Proofs.Ytkfokpkpobjoeaa

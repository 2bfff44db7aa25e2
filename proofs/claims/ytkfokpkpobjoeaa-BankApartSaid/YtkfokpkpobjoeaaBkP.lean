/- The program's bank, walked. -/
import Derived.Test.YtkfokpkpobjoeaaDkE
namespace Go.Proofs.Ytkfokpkpobjoeaa
open Go.Sh Go.RowKit
set_option linter.unusedSimpArgs false
set_option linter.unusedVariables false

structure BankM where
  ds : List DiskM
  steps : Int
  fails : Bool
  left : Int
/-- A disk that there is. -/
def BankM.bad (B : BankM) (i : Int) : Prop := i < 0 ∨ i ≥ B.ds.length
instance (B : BankM) (i : Int) : Decidable (B.bad i) := by unfold BankM.bad; infer_instance
structure BankM.Ok (B : BankM) : Prop where
  pos : 0 < B.ds.length
  small : B.ds.length ≤ 12
  left : 0 ≤ B.left
  st0 : 0 ≤ B.steps
namespace BankM
variable (B : BankM)
def there (i : Int) : Int := if B.bad i then 11 else 0
def disk (i : Int) : DiskM := B.ds.getD i.toNat ⟨[], [], [], true⟩
def set (i : Int) (D : DiskM) : BankM := { B with ds := B.ds.set i.toNat D }
def noPower : Prop := B.fails = true ∧ B.left = 0
instance : Decidable B.noPower := by unfold noPower; infer_instance
def spend : Int × BankM := if B.noPower then (21, B) else (0, { B with left := if B.fails = true then B.left - 1 else B.left, steps := B.steps + 1 })
def write (i at_ : Int) (s : ByteArray) : Int × BankM :=
  if B.bad i then (11, B) else if B.noPower then (21, B) else (((B.disk i).write at_ s).1, B.spend.2.set i ((B.disk i).write at_ s).2)
def flush (i : Int) : Int × BankM :=
  if B.bad i then (11, B) else if B.noPower then (21, B) else ((B.disk i).flush.1, B.spend.2.set i (B.disk i).flush.2)
def read (i at_ : Int) : ByteArray × Int := if B.bad i then (ByteArray.empty, 11) else if B.noPower then (ByteArray.empty, 21) else (B.disk i).read at_
def cut (n : Int) : BankM := { B with fails := true, left := mx 0 n }
def crash (kept : List (List Bool)) : BankM := { B with ds := B.ds.mapIdx fun i D => D.crash (kept.getD i []), fails := false, left := 0 }
def new (n cells : Int) : BankM := ⟨List.replicate (mx 1 (mn n 12)).toNat (DiskM.new cells), 0, false, 0⟩
theorem spend_ds : B.spend.2.ds = B.ds := by unfold spend; split <;> rfl
variable {B}
theorem not_bad {i : Int} : ¬ B.bad i ↔ 0 ≤ i ∧ i < B.ds.length := by unfold bad; omega
theorem disk_at {i : Int} (hi : ¬ B.bad i) : ∃ h : i.toNat < B.ds.length, B.ds[i.toNat] = B.disk i := by
  have := not_bad.1 hi
  have h : i.toNat < B.ds.length := by omega
  exact ⟨h, by simp [disk, List.getD_eq_getElem?_getD, h]⟩
theorem new_len (n : Int) : 0 < (mx 1 (mn n 12)).toNat ∧ (mx 1 (mn n 12)).toNat ≤ 12 := by
  unfold mx mn
  split <;> split <;> omega
theorem new_ok (n c : Int) : (new n c).Ok := ⟨by simpa [new] using (new_len n).1, by simpa [new] using (new_len n).2, by simp [new], by simp [new]⟩
theorem spend_ok (o : B.Ok) : B.spend.2.Ok := by
  unfold spend
  split
  · exact o
  · rename_i h
    refine ⟨o.pos, o.small, ?_, by have := o.st0; simp only; omega⟩
    simp only
    by_cases hf : B.fails = true
    · have := o.left
      have : B.left ≠ 0 := fun e => h ⟨hf, e⟩
      rw [if_pos hf]; omega
    · rw [if_neg hf]; exact o.left
theorem set_ok (o : B.Ok) (i : Int) (D : DiskM) : (B.set i D).Ok := ⟨by simpa [set] using o.pos, by simpa [set] using o.small, o.left, o.st0⟩
theorem write_ok (o : B.Ok) (i a : Int) (s : ByteArray) : (B.write i a s).2.Ok := by
  unfold write
  split
  · exact o
  · split
    · exact o
    · exact set_ok (spend_ok o) _ _
theorem flush_ok (o : B.Ok) (i : Int) : (B.flush i).2.Ok := by
  unfold flush
  split
  · exact o
  · split
    · exact o
    · exact set_ok (spend_ok o) _ _
theorem cut_ok (o : B.Ok) (n : Int) : (B.cut n).Ok := ⟨o.pos, o.small, mx0 n, o.st0⟩
theorem crash_ok (o : B.Ok) (ks : List (List Bool)) : (B.crash ks).Ok := ⟨by simpa [crash] using o.pos, by simpa [crash] using o.small, Int.le_refl 0, o.st0⟩
end BankM
def ptrs (l : List Nat) : List Value := l.map fun d => Value.pointer (some ⟨d, 0, none⟩)
theorem ptrs_len (l : List Nat) : (ptrs l).length = l.length := by simp [ptrs]
theorem ptrs_get {l : List Nat} {i : Nat} (h : i < l.length) : (ptrs l)[i]? = some (.pointer (some ⟨l[i], 0, none⟩)) := by simp [ptrs, h]
/-- One of several disks is taken out. -/
theorem disks_on {f : Nat → DiskM → Chunk} {h0 h : H} {L : List Chunk} {k : Nat} {ps : List Nat} {Ds : List DiskM} (w : Wd h0 h L) (hk : L[k]? = some (.sep (List.zipWith f ps Ds))) {j : Nat} (hp : j < ps.length) (hD : j < Ds.length) :
    ∃ h1, Keep h0 h1 ∧ Keep h1 h ∧ Wd h1 h [f ps[j] Ds[j]] ∧ Wd h0 h1 (L.eraseIdx k) ∧ ∀ h' D', Wd h1 h' [f ps[j] D'] → Wd h0 h' (L.set k (.sep (List.zipWith f ps (Ds.set j D')))) := by
  obtain ⟨h1, k0, k1, w1, wr, back⟩ := w.on hk
  have w1' : Wd h1 h (List.zipWith f ps Ds) := w1.le (Chunk.sep_one _)
  have hj : (List.zipWith f ps Ds)[j]? = some (f ps[j] Ds[j]) := by rw [List.getElem?_zipWith]; simp [hp, hD]
  obtain ⟨h2, k2, k3, w2, wr2, back2⟩ := w1'.on hj
  refine ⟨h2, k0.trans k2, k3, w2, wr.keeps k2, fun h' D' w' => back _ _ ?_⟩
  have := back2 _ _ w'
  have e : (List.zipWith f ps Ds).set j (f ps[j] D') = List.zipWith f ps (Ds.set j D') := by
    apply List.ext_getElem?
    intro x
    rw [List.getElem?_set, List.getElem?_zipWith, List.getElem?_zipWith, List.getElem?_set]
    by_cases hx : j = x
    · subst hx
      simp [hp, hD]; omega
    · simp [hx]
  rw [e] at this
  exact this.le (Chunk.one_sep _)
/-- The program's bank, at a block. -/
def bankC (b : Nat) (B : BankM) : Chunk := Wd.obj (α := Option Addr × Nat × List Nat) (fun v => B.Ok ∧ v.2.2.length = B.ds.length)
  fun v => [.blk b (.cells #[.slice v.1 B.ds.length v.2.1, .int .i64 B.steps, .bool B.fails, .int .i64 B.left] 99 (0, 0)), .sl 25 1 v.1 B.ds.length v.2.1 (ptrs v.2.2), .sep (List.zipWith diskC v.2.2 B.ds)]
section
variable {h0 h : H} {b : Nat} {B : BankM} {i at_ : Int} {s : ByteArray}
theorem bank_ok (w : Wd h0 h [bankC b B]) : B.Ok := by
  obtain ⟨_, ⟨ok, _⟩, _⟩ := w.opn 0 rfl
  exact ok
theorem bSize {Q : Int → H → Prop} (w : Wd h0 h [bankC b B]) (k : Q B.ds.length h) : bank_Bank_Size (some ⟨b, 0, none⟩) h Q := by
  obtain ⟨v, ⟨ok, hl⟩, w⟩ := w.opn 0 rfl
  have hb := w.blk 0 rfl
  unfold bank_Bank_Size
  simp only [addr_add, load_eq, Nat.zero_add, Nat.add_zero, Nat.mul_one, Nat.one_mul, Nat.zero_mul, Nat.reduceAdd, List.setIfInBounds_toArray, List.set_cons_zero, List.set_cons_succ, List.getElem?_toArray, List.getElem?_cons_zero, List.getElem?_cons_succ, some_and, int_eq, bool_eq, str_eq, slc_eq, ptr_eq, nn_eq, M.val, cond_true, cond_false, Bool.not_true, Bool.not_false, Option.isNone_some, cell_in hb]
  exact k
theorem bSteps {Q : Int → H → Prop} (w : Wd h0 h [bankC b B]) (k : Q B.steps h) : bank_Bank_Steps (some ⟨b, 0, none⟩) h Q := by
  obtain ⟨v, ⟨ok, hl⟩, w⟩ := w.opn 0 rfl
  have hb := w.blk 0 rfl
  unfold bank_Bank_Steps
  simp only [addr_add, load_eq, Nat.zero_add, Nat.add_zero, Nat.mul_one, Nat.one_mul, Nat.zero_mul, Nat.reduceAdd, List.setIfInBounds_toArray, List.set_cons_zero, List.set_cons_succ, List.getElem?_toArray, List.getElem?_cons_zero, List.getElem?_cons_succ, some_and, int_eq, bool_eq, str_eq, slc_eq, ptr_eq, nn_eq, M.val, cond_true, cond_false, Bool.not_true, Bool.not_false, Option.isNone_some, cell_in hb]
  exact k
theorem bDisk {Q : Option Addr → H → Prop} (w : Wd h0 h [bankC b B]) (kn : B.bad i → Q none h)
    (k : ¬ B.bad i → ∀ p h1, Keep h0 h1 → Keep h1 h → Wd h1 h [diskC p (B.disk i)] → (∀ h' D', Wd h1 h' [diskC p D'] → Wd h0 h' [bankC b (B.set i D')]) → Q (some ⟨p, 0, none⟩) h) : bank_Bank_Disk (some ⟨b, 0, none⟩) i h Q := by
  obtain ⟨⟨a, c, ps⟩, ⟨ok, hl⟩, w⟩ := w.opn 0 rfl
  have hb := w.blk 0 rfl
  obtain ⟨_, _, hsn, hsr⟩ := w.slrow 1 rfl
  simp only at hl hsn hsr
  unfold bank_Bank_Disk
  refine M.join_of (fun d h' => d = decide (B.bad i) ∧ h = h') (fun J hJ => ?_) ?_
  · simp only [addr_add, load_eq, Nat.zero_add, Nat.add_zero, Nat.mul_one, Nat.one_mul, Nat.zero_mul, Nat.reduceAdd, List.setIfInBounds_toArray, List.set_cons_zero, List.set_cons_succ, List.getElem?_toArray, List.getElem?_cons_zero, List.getElem?_cons_succ, some_and, int_eq, bool_eq, str_eq, slc_eq, ptr_eq, nn_eq, M.val, cond_true, cond_false, Bool.not_true, Bool.not_false, Option.isNone_some, cell_in hb]
    by_cases h1 : i < 0
    · simp only [h1, decide_true, cond_true]
      exact hJ _ _ ⟨(decide_eq_true (.inl h1)).symm, rfl⟩
    · simp only [h1, decide_false, cond_false]
      exact hJ _ _ ⟨by simp [BankM.bad, h1], rfl⟩
  · rintro _ _ ⟨rfl, rfl⟩
    by_cases hbad : B.bad i
    · simp only [hbad, decide_true, cond_true]
      exact kn hbad
    · obtain ⟨hj, hd⟩ := BankM.disk_at hbad
      have hi := BankM.not_bad.1 hbad
      simp only [addr_add, load_eq, Nat.zero_add, Nat.add_zero, Nat.mul_one, Nat.one_mul, Nat.zero_mul, Nat.reduceAdd, List.setIfInBounds_toArray, List.set_cons_zero, List.set_cons_succ, List.getElem?_toArray, List.getElem?_cons_zero, List.getElem?_cons_succ, some_and, int_eq, bool_eq, str_eq, slc_eq, ptr_eq, nn_eq, M.val, cond_true, cond_false, Bool.not_true, Bool.not_false, hbad, decide_false, cell_in hb]
      cases a with
      | none => have := (hsn rfl).2; omega
      | some ab =>
        refine M.idx_of hi.1 hi.2 ?_
        have hc : h.cell (ab.add i.toNat) = some (.pointer (some ⟨ps[i.toNat], 0, none⟩)) := by
          rw [hsr ab rfl i.toNat (by rw [ptrs_len]; omega), ptrs_get (by omega)]
        simp only [addr_add, load_eq, Nat.zero_add, Nat.add_zero, Nat.mul_one, Nat.one_mul, Nat.zero_mul, Nat.reduceAdd, List.setIfInBounds_toArray, List.set_cons_zero, List.set_cons_succ, List.getElem?_toArray, List.getElem?_cons_zero, List.getElem?_cons_succ, some_and, int_eq, bool_eq, str_eq, slc_eq, ptr_eq, nn_eq, M.val, cond_true, cond_false, Bool.not_true, Bool.not_false, hc]
        obtain ⟨h1, k0, k1, w1, wr, back⟩ := disks_on (f := diskC) (k := 2) w rfl (j := i.toNat) (by show i.toNat < ps.length; omega) hj
        rw [hd] at w1
        refine k hbad ps[i.toNat] h1 k0 k1 w1 fun h' D' w' => ?_
        have w2 := back h' D' w'
        refine w2.close 0 (some ab, c, ps) ?_ ⟨BankM.set_ok ok i D', by simpa [BankM.set] using hl⟩
        simp [BankM.set]
theorem bThere {Q : Int → H → Prop} (w : Wd h0 h [bankC b B]) (k : Q (B.there i) h) : bank_Bank_there (some ⟨b, 0, none⟩) i h Q := by
  unfold bank_Bank_there bank_Bank_there.g
  simp only [Option.isNone_some, cond_false]
  unfold BankM.there at k
  refine bDisk w (fun hb => ?_) fun hb p h1 _ _ _ _ => ?_
  · simpa [hb] using k
  · simpa [hb] using k
theorem bSpend {Q : Int → H → Prop} (w : Wd h0 h [bankC b B]) (hs : B.steps < 1000000000) (hlx : B.left ≤ 9223372036854775807) (k : ∀ h', Wd h0 h' [bankC b B.spend.2] → Q B.spend.1 h') : bank_Bank_Spend (some ⟨b, 0, none⟩) h Q := by
  have w0 := w
  obtain ⟨⟨a, c, ps⟩, ⟨ok, hl⟩, w⟩ := w.opn 0 rfl
  have hb := w.blk 0 rfl
  have ok2 := BankM.spend_ok ok
  have hst := ok.st0
  have hlf := ok.left
  have hw1 : IntKind.wrap .i64 (B.steps + 1) = B.steps + 1 := by rw [IntKind.wrap_i64]; omega
  unfold bank_Bank_Spend
  unfold BankM.spend at k ok2
  by_cases hp : B.noPower
  · simp only [hp, if_true] at k
    simp only [addr_add, load_eq, Nat.zero_add, Nat.add_zero, Nat.mul_one, Nat.one_mul, Nat.zero_mul, Nat.reduceAdd, List.setIfInBounds_toArray, List.set_cons_zero, List.set_cons_succ, List.getElem?_toArray, List.getElem?_cons_zero, List.getElem?_cons_succ, some_and, int_eq, bool_eq, str_eq, slc_eq, ptr_eq, nn_eq, M.val, cond_true, cond_false, Bool.not_true, Bool.not_false, M.join, Option.isNone_some, cell_in hb, hp.1, hp.2, beq_self_eq_true]
    exact k _ w0
  · simp only [hp, if_false] at k ok2
    refine M.jn ?_
    simp only [Option.isNone_some, cond_false]
    refine M.join_of (fun d h' => d = false ∧ h = h') (fun J hJ => ?_) ?_
    · simp only [addr_add, load_eq, Nat.zero_add, Nat.add_zero, Nat.mul_one, Nat.one_mul, Nat.zero_mul, Nat.reduceAdd, List.setIfInBounds_toArray, List.set_cons_zero, List.set_cons_succ, List.getElem?_toArray, List.getElem?_cons_zero, List.getElem?_cons_succ, some_and, int_eq, bool_eq, str_eq, slc_eq, ptr_eq, nn_eq, M.val, cond_true, cond_false, Bool.not_true, Bool.not_false, Option.isNone_some, cell_in hb]
      cases hf : B.fails
      · exact hJ _ _ ⟨rfl, rfl⟩
      · have : (B.left == 0) = false := by
          have : B.left ≠ 0 := fun e => hp ⟨hf, e⟩
          simpa using this
        simp only [cond_true, this]
        exact hJ _ _ ⟨rfl, rfl⟩
    · rintro _ _ ⟨rfl, rfl⟩
      simp only [addr_add, load_eq, Nat.zero_add, Nat.add_zero, Nat.mul_one, Nat.one_mul, Nat.zero_mul, Nat.reduceAdd, List.setIfInBounds_toArray, List.set_cons_zero, List.set_cons_succ, List.getElem?_toArray, List.getElem?_cons_zero, List.getElem?_cons_succ, some_and, int_eq, bool_eq, str_eq, slc_eq, ptr_eq, nn_eq, M.val, cond_true, cond_false, Bool.not_true, Bool.not_false, cell_in hb]
      cases hf : B.fails
      · simp only [hf, Bool.false_eq_true, if_false] at k ok2
        simp only [addr_add, load_eq, Nat.zero_add, Nat.add_zero, Nat.mul_one, Nat.one_mul, Nat.zero_mul, Nat.reduceAdd, List.setIfInBounds_toArray, List.set_cons_zero, List.set_cons_succ, List.getElem?_toArray, List.getElem?_cons_zero, List.getElem?_cons_succ, some_and, int_eq, bool_eq, str_eq, slc_eq, ptr_eq, nn_eq, M.val, cond_true, cond_false, Bool.not_true, Bool.not_false, cell_in hb, hw1]
        refine M.put_w w 0 rfl rfl (by simp) fun h1 w => ?_
        exact k _ (w.close 0 (a, c, ps) (by simp [hf]) ⟨ok2, hl⟩)
      · simp only [hf, if_true] at k ok2
        have hw2 : IntKind.wrap .i64 (B.left - 1) = B.left - 1 := by rw [IntKind.wrap_i64]; omega
        simp only [addr_add, load_eq, Nat.zero_add, Nat.add_zero, Nat.mul_one, Nat.one_mul, Nat.zero_mul, Nat.reduceAdd, List.setIfInBounds_toArray, List.set_cons_zero, List.set_cons_succ, List.getElem?_toArray, List.getElem?_cons_zero, List.getElem?_cons_succ, some_and, int_eq, bool_eq, str_eq, slc_eq, ptr_eq, nn_eq, M.val, cond_true, cond_false, Bool.not_true, Bool.not_false, cell_in hb, hw2]
        refine M.put_w w 0 rfl rfl (by simp) fun h1 w => ?_
        have hb := w.blk 0 rfl
        simp only [addr_add, load_eq, Nat.zero_add, Nat.add_zero, Nat.mul_one, Nat.one_mul, Nat.zero_mul, Nat.reduceAdd, List.setIfInBounds_toArray, List.set_cons_zero, List.set_cons_succ, List.getElem?_toArray, List.getElem?_cons_zero, List.getElem?_cons_succ, some_and, int_eq, bool_eq, str_eq, slc_eq, ptr_eq, nn_eq, M.val, cond_true, cond_false, Bool.not_true, Bool.not_false, cell_in hb, hw1]
        refine M.put_w w 0 rfl rfl (by simp) fun h2 w => ?_
        exact k _ (w.close 0 (a, c, ps) (by simp [hf]) ⟨ok2, hl⟩)
/-- From the bank to one of its disks, by the text of the program. -/
theorem bGo {Q : Option Addr → Prop} (w : Wd h0 h [bankC b B]) (hb : ¬ B.bad i)
    (k : ∀ p h1, Keep h0 h1 → Keep h1 h → Wd h1 h [diskC p (B.disk i)] → (∀ h' D', Wd h1 h' [diskC p D'] → Wd h0 h' [bankC b (B.set i D')]) → Q (some ⟨p, 0, none⟩)) :
    M.nn (some ⟨b, 0, none⟩) fun a6 => M.load h (Addr.add a6 0) fun v7 => M.slc v7 fun a8 l9 c10 => M.idx a8 l9 i fun a11 j12 => M.load h (Addr.add a11 (j12 * 1)) fun v13 => M.ptr v13 fun p14 => Q p14 := by
  obtain ⟨⟨a, c, ps⟩, ⟨ok, hl⟩, w⟩ := w.opn 0 rfl
  have hbb := w.blk 0 rfl
  obtain ⟨_, _, hsn, hsr⟩ := w.slrow 1 rfl
  simp only at hl hsn hsr
  obtain ⟨hj, hd⟩ := BankM.disk_at hb
  have hi := BankM.not_bad.1 hb
  simp only [addr_add, load_eq, Nat.zero_add, Nat.add_zero, Nat.mul_one, Nat.one_mul, Nat.zero_mul, Nat.reduceAdd, List.setIfInBounds_toArray, List.set_cons_zero, List.set_cons_succ, List.getElem?_toArray, List.getElem?_cons_zero, List.getElem?_cons_succ, some_and, int_eq, bool_eq, str_eq, slc_eq, ptr_eq, nn_eq, M.val, cond_true, cond_false, Bool.not_true, Bool.not_false, cell_in hbb]
  cases a with
  | none => have := (hsn rfl).2; omega
  | some ab =>
    refine M.idx_of hi.1 hi.2 ?_
    have hc : h.cell (ab.add i.toNat) = some (.pointer (some ⟨ps[i.toNat], 0, none⟩)) := by
      rw [hsr ab rfl i.toNat (by rw [ptrs_len]; omega), ptrs_get (by omega)]
    simp only [addr_add, load_eq, Nat.zero_add, Nat.add_zero, Nat.mul_one, Nat.one_mul, Nat.zero_mul, Nat.reduceAdd, List.setIfInBounds_toArray, List.set_cons_zero, List.set_cons_succ, List.getElem?_toArray, List.getElem?_cons_zero, List.getElem?_cons_succ, some_and, int_eq, bool_eq, str_eq, slc_eq, ptr_eq, nn_eq, M.val, cond_true, cond_false, Bool.not_true, Bool.not_false, hc]
    obtain ⟨h1, k0, k1, w1, wr, back⟩ := disks_on (f := diskC) (k := 2) w rfl (j := i.toNat) (by show i.toNat < ps.length; omega) hj
    rw [hd] at w1
    refine k ps[i.toNat] h1 k0 k1 w1 fun h' D' w' => ?_
    refine (back h' D' w').close 0 (some ab, c, ps) ?_ ⟨BankM.set_ok ok i D', by simpa [BankM.set] using hl⟩
    simp [BankM.set]
theorem spend_disk : B.spend.2.disk i = B.disk i := by simp [BankM.disk, BankM.spend_ds]
theorem spend_bad : B.spend.2.bad i ↔ B.bad i := by simp [BankM.bad, BankM.spend_ds]
theorem bWrite {Q : Int → H → Prop} (w : Wd h0 h [bankC b B]) (hs : B.steps < 1000000000) (hlx : B.left ≤ 9223372036854775807) (hW : (B.disk i).W.length < 1000000000) (k : ∀ h', Wd h0 h' [bankC b (B.write i at_ s).2] → Q (B.write i at_ s).1 h') : bank_Bank_Write (some ⟨b, 0, none⟩) i at_ s h Q := by
  unfold bank_Bank_Write bank_Bank_Write.g
  refine bThere w ?_
  unfold BankM.there
  unfold BankM.write at k
  by_cases hb : B.bad i
  · simp only [hb, if_true] at k ⊢
    exact k _ w
  · simp only [hb, if_false] at k ⊢
    simp only [bne_self_eq_false, cond_false]
    refine bSpend w hs hlx fun h1 w => ?_
    by_cases hp : B.noPower
    · have e : B.spend = (21, B) := by simp [BankM.spend, hp]
      rw [e] at w ⊢
      simp only [hp, if_true] at k
      exact k _ w
    · have e : B.spend.1 = 0 := by simp [BankM.spend, hp]
      simp only [hp, if_false] at k
      simp only [e, bne_self_eq_false, cond_false]
      refine bGo w (fun x => hb (spend_bad.1 x)) fun p h2 k0 k1 w2 back => ?_
      rw [spend_disk] at w2
      exact Write_spec w2 hW fun h' w3 => k h' (back _ _ w3)
theorem bFlush {Q : Int → H → Prop} (w : Wd h0 h [bankC b B]) (hs : B.steps < 1000000000) (hlx : B.left ≤ 9223372036854775807) (k : ∀ h', Wd h0 h' [bankC b (B.flush i).2] → Q (B.flush i).1 h') : bank_Bank_Flush (some ⟨b, 0, none⟩) i h Q := by
  unfold bank_Bank_Flush bank_Bank_Flush.g
  refine bThere w ?_
  unfold BankM.there
  unfold BankM.flush at k
  by_cases hb : B.bad i
  · simp only [hb, if_true] at k ⊢
    exact k _ w
  · simp only [hb, if_false] at k ⊢
    simp only [bne_self_eq_false, cond_false]
    refine bSpend w hs hlx fun h1 w => ?_
    by_cases hp : B.noPower
    · have e : B.spend = (21, B) := by simp [BankM.spend, hp]
      rw [e] at w ⊢
      simp only [hp, if_true] at k
      exact k _ w
    · have e : B.spend.1 = 0 := by simp [BankM.spend, hp]
      simp only [hp, if_false] at k
      simp only [e, bne_self_eq_false, cond_false]
      refine bGo w (fun x => hb (spend_bad.1 x)) fun p h2 k0 k1 w2 back => ?_
      rw [spend_disk] at w2
      exact Flush_spec w2 fun h' w3 => k h' (back _ _ w3)
theorem bRead {Q : ByteArray → Int → H → Prop} (w : Wd h0 h [bankC b B]) (k : Q (B.read i at_).1 (B.read i at_).2 h) : bank_Bank_Read (some ⟨b, 0, none⟩) i at_ h Q := by
  unfold bank_Bank_Read bank_Bank_Read.g
  refine bThere w ?_
  unfold BankM.there
  unfold BankM.read at k
  by_cases hb : B.bad i
  · simp only [hb, if_true] at k ⊢
    exact k
  · simp only [hb, if_false] at k ⊢
    simp only [bne_self_eq_false, cond_false]
    refine M.join_of (fun d h' => d = decide B.noPower ∧ h = h') (fun J hJ => ?_) ?_
    · obtain ⟨v, ⟨ok, hl⟩, w⟩ := w.opn 0 rfl
      have hbb := w.blk 0 rfl
      simp only [addr_add, load_eq, Nat.zero_add, Nat.add_zero, Nat.mul_one, Nat.one_mul, Nat.zero_mul, Nat.reduceAdd, List.setIfInBounds_toArray, List.set_cons_zero, List.set_cons_succ, List.getElem?_toArray, List.getElem?_cons_zero, List.getElem?_cons_succ, some_and, int_eq, bool_eq, str_eq, slc_eq, ptr_eq, nn_eq, M.val, cond_true, cond_false, Bool.not_true, Bool.not_false, cell_in hbb]
      cases hf : B.fails
      · exact hJ _ _ ⟨by simp [BankM.noPower, hf], rfl⟩
      · refine hJ _ _ ⟨?_, rfl⟩
        by_cases h0 : B.left = 0 <;> simp [BankM.noPower, hf, h0]
    · rintro _ _ ⟨rfl, rfl⟩
      by_cases hp : B.noPower
      · simp only [hp, if_true] at k
        simp only [hp, decide_true, cond_true]
        exact k
      · simp only [hp, if_false] at k
        simp only [hp, decide_false, cond_false]
        refine bGo w hb fun p h2 k0 k1 w2 back => ?_
        exact Read_spec w2 k
theorem bCut {n : Int} {Q : H → Prop} (w : Wd h0 h [bankC b B]) (k : ∀ h', Wd h0 h' [bankC b (B.cut n)] → Q h') : bank_Bank_Cut (some ⟨b, 0, none⟩) n h Q := by
  obtain ⟨⟨a, c, ps⟩, ⟨ok, hl⟩, w⟩ := w.opn 0 rfl
  unfold bank_Bank_Cut
  simp only [addr_add, load_eq, Nat.zero_add, Nat.add_zero, Nat.mul_one, Nat.one_mul, Nat.zero_mul, Nat.reduceAdd, List.setIfInBounds_toArray, List.set_cons_zero, List.set_cons_succ, List.getElem?_toArray, List.getElem?_cons_zero, List.getElem?_cons_succ, some_and, int_eq, bool_eq, str_eq, slc_eq, ptr_eq, nn_eq, M.val, cond_true, cond_false, Bool.not_true, Bool.not_false, Option.isNone_some]
  refine M.put_w w 0 rfl rfl (by simp) fun h1 w => ?_
  refine M.put_w w 0 rfl rfl (by simp) fun h2 w => ?_
  exact k _ (w.close 0 (a, c, ps) (by simp [BankM.cut]) ⟨BankM.cut_ok ok n, hl⟩)
/-- Lists of what is kept, as they are given. -/
structure Lists (h : H) (a : Option Addr) (l : Nat) (ks : List (List Bool)) : Prop where
  len : ks.length = l
  nil : a = none → l = 0
  row : ∀ b, a = some b → ∀ i ys, ks[i]? = some ys → ∃ ya yl yc, h.cell (b.add i) = some (.slice ya yl yc) ∧ ys.length = yl ∧ yl ≤ yc ∧ (ya = none → yl = 0) ∧ ∀ y, ya = some y → Sh.rowAt h y (ys.map Value.bool)
theorem Lists.keep {h h' : H} {a : Option Addr} {l : Nat} {ks : List (List Bool)} (x : Lists h a l ks) (k : Keep h h') : Lists h' a l ks :=
  ⟨x.len, x.nil, fun b hb i ys hy => let ⟨ya, yl, yc, h1, h2, h3, h4, h5⟩ := x.row b hb i ys hy; ⟨ya, yl, yc, k.cell h1, h2, h3, h4, fun y e => k.row (h5 y e)⟩⟩
theorem bCrash {a : Option Addr} {l c : Nat} {ks : List (List Bool)} {Q : H → Prop} (w : Wd h0 h [bankC b B]) (hW : ∀ D ∈ B.ds, D.W.length < 1000000000) (hk : Lists h0 a l ks) (k : ∀ h', Wd h0 h' [bankC b (B.crash ks)] → Q h') :
    bank_Bank_Crash (some ⟨b, 0, none⟩) a l c h Q := by
  unfold bank_Bank_Crash bank_Bank_Crash.g
  obtain ⟨⟨pa, pc, ps⟩, ⟨ok, hl⟩, w⟩ := w.opn 0 rfl
  simp only at hl
  have hb := w.blk 0 rfl
  have hsm := ok.small
  simp only [addr_add, load_eq, Nat.zero_add, Nat.add_zero, Nat.mul_one, Nat.one_mul, Nat.zero_mul, Nat.reduceAdd, List.setIfInBounds_toArray, List.set_cons_zero, List.set_cons_succ, List.getElem?_toArray, List.getElem?_cons_zero, List.getElem?_cons_succ, some_and, int_eq, bool_eq, str_eq, slc_eq, ptr_eq, nn_eq, M.val, cond_true, cond_false, Bool.not_true, Bool.not_false, Option.isNone_some, cell_in hb]
  refine M.jn ?_
  refine M.loop_of (I := fun (i : Int) h' => 0 ≤ i ∧ i ≤ B.ds.length ∧ Wd h0 h' [.blk b (.cells #[.slice pa B.ds.length pc, .int .i64 B.steps, .bool B.fails, .int .i64 B.left] 99 (0, 0)), .sl 25 1 pa B.ds.length pc (ptrs ps),
      .sep (List.zipWith diskC ps (B.ds.mapIdx fun j D => if j < i.toNat then D.crash (ks.getD j []) else D))]) (μ := fun i => (B.ds.length - i).toNat) ⟨by omega, by omega, ?_⟩ ?_
  · have : B.ds.mapIdx (fun j D => if j < (0 : Int).toNat then D.crash (ks.getD j []) else D) = B.ds := by
      apply List.ext_getElem?
      intro x
      simp
    rw [this]; exact w
  rintro i h1 J ⟨hi0, hi1, w⟩ hJ
  obtain ⟨_, _, hsn, hsr⟩ := w.slrow 1 rfl
  by_cases hlt : i < B.ds.length
  · have hj : i.toNat < B.ds.length := by omega
    have hjp : i.toNat < ps.length := by omega
    have hw1 : IntKind.wrap .i64 (i + 1) = i + 1 := by rw [IntKind.wrap_i64]; omega
    simp only [hlt, decide_true, cond_true]
    cases pa with
    | none => have : B.ds.length = 0 := (hsn rfl).2; omega
    | some ab =>
      refine M.idx_of hi0 hlt ?_
      have hc : h1.cell (ab.add i.toNat) = some (.pointer (some ⟨ps[i.toNat], 0, none⟩)) := by
        rw [hsr ab rfl i.toNat (by rw [ptrs_len]; exact hjp), ptrs_get hjp]
      simp only [addr_add, load_eq, Nat.zero_add, Nat.add_zero, Nat.mul_one, Nat.one_mul, Nat.zero_mul, Nat.reduceAdd, List.setIfInBounds_toArray, List.set_cons_zero, List.set_cons_succ, List.getElem?_toArray, List.getElem?_cons_zero, List.getElem?_cons_succ, some_and, int_eq, bool_eq, str_eq, slc_eq, ptr_eq, nn_eq, M.val, cond_true, cond_false, Bool.not_true, Bool.not_false, hc, hw1]
      obtain ⟨h2, k0, k1, w2, wr, back⟩ := disks_on (f := diskC) (k := 2) (Ds := B.ds.mapIdx fun j D => if j < i.toNat then D.crash (ks.getD j []) else D) w rfl (j := i.toNat) hjp (by simpa using hj)
      have hD : (B.ds.mapIdx fun j D => if j < i.toNat then D.crash (ks.getD j []) else D)[i.toNat]'(by simpa using hj) = B.ds[i.toNat] := by simp; omega
      rw [hD] at w2
      have fin : ∀ h', Wd h2 h' [diskC ps[i.toNat] (B.ds[i.toNat].crash (ks.getD i.toNat []))] → J (i + 1) h' := by
        intro h' w'
        have w3 := back h' _ w'
        refine hJ _ _ ⟨by omega, by omega, ?_⟩ (by omega)
        have e : (B.ds.mapIdx fun j D => if j < i.toNat then D.crash (ks.getD j []) else D).set i.toNat (B.ds[i.toNat].crash (ks.getD i.toNat [])) = B.ds.mapIdx fun j D => if j < (i + 1).toNat then D.crash (ks.getD j []) else D := by
          apply List.ext_getElem?
          intro x
          rw [List.getElem?_set]
          by_cases hx : i.toNat = x
          · subst hx
            have : i.toNat < (i + 1).toNat := by omega
            simp [hj, this]; omega
          · rw [if_neg hx, List.getElem?_mapIdx, List.getElem?_mapIdx]
            have : x < i.toNat ↔ x < (i + 1).toNat := by omega
            simp [this]
        rw [e] at w3
        exact w3
      have hWi := hW _ (List.getElem_mem hj)
      by_cases hil : i < l
      · have hik : i.toNat < ks.length := by rw [hk.len]; omega
        simp only [hil, decide_true, cond_true]
        cases a with
        | none => have := hk.nil rfl; omega
        | some kb =>
          obtain ⟨ya, yl, yc, hyc, hy1, hy2, hy3, hy4⟩ := hk.row kb rfl i.toNat _ (List.getElem?_eq_getElem hik)
          have hg : ks.getD i.toNat [] = ks[i.toNat] := by simp [List.getD_eq_getElem?_getD, hik]
          refine M.idx_of hi0 hil ?_
          simp only [addr_add, load_eq, Nat.zero_add, Nat.add_zero, Nat.mul_one, Nat.one_mul, Nat.zero_mul, Nat.reduceAdd, List.setIfInBounds_toArray, List.set_cons_zero, List.set_cons_succ, List.getElem?_toArray, List.getElem?_cons_zero, List.getElem?_cons_succ, some_and, int_eq, bool_eq, str_eq, slc_eq, ptr_eq, nn_eq, M.val, cond_true, cond_false, Bool.not_true, Bool.not_false, w.keep.cell hyc]
          rw [hg] at fin
          exact Crash_spec w2 hWi hy1 hy3 (fun y e => k0.row (hy4 y e)) fin
      · have hg : ks.getD i.toNat [] = [] := by
          rw [List.getD_eq_getElem?_getD, List.getElem?_eq_none (by rw [hk.len]; omega)]; rfl
        rw [hg] at fin
        simp only [hil, decide_false, cond_false]
        exact Crash_spec (kept := []) w2 hWi rfl (fun _ => rfl) (fun y e => by simp at e) fin
  · simp only [hlt, decide_false, cond_false]
    have hi : i.toNat = B.ds.length := by omega
    have e : (B.ds.mapIdx fun j D => if j < i.toNat then D.crash (ks.getD j []) else D) = B.ds.mapIdx fun j D => D.crash (ks.getD j []) := by
      apply List.ext_getElem?
      intro x
      rw [List.getElem?_mapIdx, List.getElem?_mapIdx]
      by_cases hx : x < B.ds.length
      · rw [hi]; simp [hx]
      · simp [Nat.le_of_not_lt hx]
    rw [e] at w
    refine M.put_w w 0 rfl rfl (by simp) fun h2 w => ?_
    refine M.put_w w 0 rfl rfl (by simp) fun h3 w => ?_
    exact k _ (w.close 0 (pa, pc, ps) (by simp [BankM.crash]) ⟨BankM.crash_ok ok ks, by simpa [BankM.crash] using hl⟩)
theorem bNew {n cells : Int} {Q : Option Addr → H → Prop} (k : ∀ b h', Wd h h' [bankC b (BankM.new n cells)] → Q (some ⟨b, 0, none⟩) h') : bank_New n cells h Q := by
  unfold bank_New bank_New.g
  have hn := BankM.new_len n
  refine M.new_w (Wd.start h) fun b h1 w => ?_
  have w := w.nilsl 25 1
  have w : Wd h h1 [.blk b (.cells #[.slice none 0 0, .int .i64 0, .bool false, .int .i64 0] 99 (0, 0)), .sl 25 1 none 0 0 (ptrs []), .sep (List.zipWith diskC [] [])] :=
    w.fold 2 (c := .sep (List.zipWith diskC [] [])) (Chunk.Le.refl _)
  refine M.loop_of (I := fun (i : Int) h' => 0 ≤ i ∧ i ≤ mx 1 (mn n 12) ∧ ∃ a c ps, ps.length = i.toNat ∧ Wd h h' [.blk b (.cells #[.slice a i.toNat c, .int .i64 0, .bool false, .int .i64 0] 99 (0, 0)), .sl 25 1 a i.toNat c (ptrs ps),
      .sep (List.zipWith diskC ps (List.replicate i.toNat (DiskM.new cells)))]) (μ := fun i => (mx 1 (mn n 12) - i).toNat) ⟨by omega, by omega, none, 0, [], rfl, w⟩ ?_
  rintro i h2 J ⟨hi0, hi1, a, c, ps, hps, w⟩ hJ
  by_cases hlt : i < mx 1 (mn n 12)
  · have hw1 : IntKind.wrap .i64 (i + 1) = i + 1 := by rw [IntKind.wrap_i64]; omega
    have hb := w.blk 0 rfl
    simp only [addr_add, load_eq, Nat.zero_add, Nat.add_zero, Nat.mul_one, Nat.one_mul, Nat.zero_mul, Nat.reduceAdd, List.setIfInBounds_toArray, List.set_cons_zero, List.set_cons_succ, List.getElem?_toArray, List.getElem?_cons_zero, List.getElem?_cons_succ, some_and, int_eq, bool_eq, str_eq, slc_eq, ptr_eq, nn_eq, M.val, cond_true, cond_false, Bool.not_true, Bool.not_false, hlt, decide_true, cell_in hb, hw1]
    refine New_spec fun d h3 w3 => ?_
    have w := w.join w3
    refine M.still_in hb (w.blk 0 rfl) ?_
    refine M.new_t w fun t h4 ht w => ?_
    refine M.still_in hb (w.blk 0 rfl) ?_
    refine cellsOf_in ht rfl ?_
    refine M.app_w w 1 rfl rfl rfl (by simp [isPlainCell]) (by omega) (by omega) fun a' c' h5 w => ?_
    refine M.put_w w 0 rfl rfl (by simp) fun h6 w => ?_
    have hni : (i + 1).toNat = i.toNat + 1 := by omega
    have w := w.fold 2 (c := .sep (List.zipWith diskC (ps ++ [d]) (List.replicate (i.toNat + 1) (DiskM.new cells)))) (by
      rw [List.replicate_succ', List.zipWith_append (by simp [hps])]
      exact (Chunk.star_mono (Chunk.Le.refl _) (Chunk.Le.refl _)).trans (Chunk.app_sep _ _))
    refine hJ _ _ ⟨by omega, by omega, a', c', ps ++ [d], by simp [hps, hni], ?_⟩ (by omega)
    rw [hni]
    simpa [ptrs] using w
  · simp only [hlt, decide_false, cond_false]
    have hi : i = mx 1 (mn n 12) := by omega
    subst hi
    refine k b _ (w.close 0 (a, c, ps) ?_ ⟨BankM.new_ok n cells, by simpa [BankM.new] using hps⟩)
    simp [BankM.new]
end
end Go.Proofs.Ytkfokpkpobjoeaa

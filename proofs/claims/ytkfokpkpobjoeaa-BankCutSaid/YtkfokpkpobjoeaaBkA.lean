/- The bank's statements: one act on both banks. -/
import Derived.Test.YtkfokpkpobjoeaaBkR
namespace Go.Proofs.Ytkfokpkpobjoeaa
open Go.Sh Go.RowKit
set_option linter.unusedSimpArgs false
set_option linter.unusedVariables false

structure Act10 where
  do_ : Int
  i_ : Int
  at_ : Int
  data : ByteArray
  ka : Option Addr
  kl : Nat
  kc : Nat
  die : Bool
  kept : List (List Bool)
def Act10.cells (m : Act10) : List Value := [.int .i64 m.do_, .int .i64 m.i_, .int .i64 m.at_, .string m.data, .slice m.ka m.kl m.kc, .bool m.die]
structure Act10At (h : H) (m : Act10) : Prop where
  kc : m.kl ≤ m.kc
  lists : Lists h m.ka m.kl m.kept
  atr : m.at_ ≤ 9223372036854775807
theorem Act10At.keep {h h' : H} {m : Act10} (a : Act10At h m) (k : Keep h h') : Act10At h' m := ⟨a.kc, a.lists.keep k, a.atr⟩
structure Acts10 (h : H) (a : Option Addr) (l : Nat) (ms : List Act10) : Prop where
  len : ms.length = l
  nil : a = none → l = 0
  row : ∀ b, a = some b → ∀ i m, ms[i]? = some m → Sh.rowAt h (b.add (i * 6)) m.cells ∧ Act10At h m
theorem Acts10.take {h : H} {a : Option Addr} {l : Nat} {ms : List Act10} (x : Acts10 h a l ms) (n : Nat) (hn : n ≤ l) : Acts10 h a n (ms.take n) :=
  ⟨by simp [x.len, hn], fun e => by have := x.nil e; omega, fun b hb i m hm => by
    rw [List.getElem?_take] at hm
    split at hm
    · exact x.row b hb i m hm
    · simp at hm⟩
theorem act10_cells {h : H} {b : Addr} {i : Nat} {m : Act10} (r : Sh.rowAt h (b.add (i * 6)) m.cells) : h.cell (b.add (i * 6)) = some (.int .i64 m.do_) ∧ h.cell (b.add (i * 6 + 1)) = some (.int .i64 m.i_) ∧ h.cell (b.add (i * 6 + 2)) = some (.int .i64 m.at_) ∧
    h.cell (b.add (i * 6 + 3)) = some (.string m.data) ∧ h.cell (b.add (i * 6 + 4)) = some (.slice m.ka m.kl m.kc) ∧ h.cell (b.add (i * 6 + 5)) = some (.bool m.die) := by
  have h0 := r 0 (by simp [Act10.cells])
  have h1 := r 1 (by simp [Act10.cells])
  have h2 := r 2 (by simp [Act10.cells])
  have h3 := r 3 (by simp [Act10.cells])
  have h4 := r 4 (by simp [Act10.cells])
  have h5 := r 5 (by simp [Act10.cells])
  simp only [add2, Nat.add_zero, Act10.cells, List.getElem?_cons_zero, List.getElem?_cons_succ] at h0 h1 h2 h3 h4 h5
  exact ⟨h0, h1, h2, h3, h4, h5⟩
/-- A list of what is kept, as a cell. -/
def LRow (h : H) (v : Value) (ys : List Bool) : Prop := ∃ ya yl yc, v = .slice ya yl yc ∧ ys.length = yl ∧ yl ≤ yc ∧ (ya = none → yl = 0) ∧ ∀ y, ya = some y → Sh.rowAt h y (ys.map Value.bool)
def cutLists (ks : List (List Bool)) : List (List Bool) := (ks.take 20).map (·.take 60)
section
variable {h0 h : H} {b : Nat} {B : BankM} {i at_ : Int} {s : ByteArray}
theorem lists_spec {hB : H} {a0 a1 a2 : Int} {a3 : ByteArray} {ka : Option Addr} {kl kc : Nat} {a5 : Bool} {ks : List (List Bool)} {Q : Option Addr → Nat → Nat → H → Prop} (hk : Lists hB ka kl ks) (kB : Keep hB h) (hkc : kl ≤ kc)
    (k : ∀ a c h' (vs : List Value), vs.length = (cutLists ks).length → (∀ (i : Nat) v ys, vs[i]? = some v → (cutLists ks)[i]? = some ys → LRow hB v ys) → Wd h h' [.sl 24 1 a (cutLists ks).length c vs] → Q a (cutLists ks).length c h') : law10_lists a0 a1 a2 a3 ka kl kc a5 h Q := by
  unfold law10_lists
  refine M.new_w (Wd.start h) fun b h1 w => ?_
  have hb := w.blk 0 rfl
  obtain ⟨hm1, hm2, hm3⟩ := mn_take (l := kl) (n := 20) (by omega)
  simp only [addr_add, load_eq, Nat.zero_add, Nat.add_zero, Nat.mul_one, Nat.one_mul, Nat.zero_mul, Nat.reduceAdd, List.setIfInBounds_toArray, List.set_cons_zero, List.set_cons_succ, List.getElem?_toArray, List.getElem?_cons_zero, List.getElem?_cons_succ, some_and, int_eq, bool_eq, str_eq, slc_eq, ptr_eq, nn_eq, M.val, cond_true, cond_false, Bool.not_true, Bool.not_false, cell_in hb]
  refine M.sub0 hm2 (by omega) ?_
  rw [show (mn ((kl : Nat) : Int) (20 : Int)).toNat = min kl 20 from hm1]
  have hcl : (cutLists ks).length = min kl 20 := by simp [cutLists, hk.len]; omega
  have w := (w.drop (i := 0) rfl).nilsl 24 1
  refine M.loop_of (I := fun (p : (Option Addr × Nat × Nat) × Int) h2 => 0 ≤ p.2 ∧ p.2 ≤ (min kl 20 : Nat) ∧ p.1.2.1 = p.2.toNat ∧ ∃ vs : List Value, vs.length = p.2.toNat ∧ (∀ (i : Nat) v ys, vs[i]? = some v → (cutLists ks)[i]? = some ys → LRow hB v ys) ∧ Wd h h2 [.sl 24 1 p.1.1 p.1.2.1 p.1.2.2 vs])
    (μ := fun p => ((min kl 20 : Nat) - p.2).toNat) ⟨by simp, by simp only; omega, rfl, [], rfl, fun i v ys hv => by simp at hv, w⟩ ?_
  rintro ⟨⟨a, l, c⟩, i⟩ h2 J ⟨hi0, hi1, hl, vs, hvl, hvs, wi⟩ hJ
  clear hb
  clear w
  simp only at hi0 hi1 hl hvl ⊢
  by_cases hlt : i < (min kl 20 : Nat)
  · have hik : i.toNat < ks.length := by rw [hk.len]; omega
    have hic : i.toNat < (cutLists ks).length := by omega
    simp only [hlt, decide_true, cond_true]
    cases ka with
    | none => have := hk.nil rfl; omega
    | some kb =>
      obtain ⟨ya, yl, yc, hyc, hy1, hy2, hy3, hy4⟩ := hk.row kb rfl i.toNat _ (List.getElem?_eq_getElem hik)
      obtain ⟨hm1, hm2, hm3⟩ := mn_take (l := yl) (n := 60) (by omega)
      refine M.idx_of hi0 hlt ?_
      simp only [addr_add, load_eq, Nat.zero_add, Nat.add_zero, Nat.mul_one, Nat.one_mul, Nat.zero_mul, Nat.reduceAdd, List.setIfInBounds_toArray, List.set_cons_zero, List.set_cons_succ, List.getElem?_toArray, List.getElem?_cons_zero, List.getElem?_cons_succ, some_and, int_eq, bool_eq, str_eq, slc_eq, ptr_eq, nn_eq, M.val, cond_true, cond_false, Bool.not_true, Bool.not_false, wi.keep.cell (kB.cell hyc)]
      refine M.sub0 hm2 (by omega) ?_
      rw [show (mn ((yl : Nat) : Int) (60 : Int)).toNat = min yl 60 from hm1]
      refine M.new_t wi fun t h3 ht w => ?_
      refine cellsOf_in ht rfl ?_
      refine M.app_w w 0 rfl rfl rfl (by simp [isPlainCell]) (by omega) (by omega) fun a' c' h4 w => ?_
      rw [wrap1 hi0 (by omega)]
      refine hJ _ _ ⟨by simp only; omega, by simp only; omega, by simp only; omega, vs ++ [Value.slice ya (min yl 60) yc], by simp; omega, fun j v ys hv hys => ?_, w⟩ (by simp only; omega)
      by_cases hj : j < vs.length
      · rw [List.getElem?_append_left hj] at hv
        exact hvs j v ys hv hys
      · rw [List.getElem?_append_right (by omega)] at hv
        have : j - vs.length = 0 := by
          have := (List.getElem?_eq_some_iff.1 hv).1
          simp at this; omega
        rw [this] at hv
        simp only [List.getElem?_cons_zero, Option.some.injEq] at hv
        subst hv
        have hji : j = i.toNat := by omega
        subst hji
        have e : ys = ks[i.toNat].take 60 := by
          have : (cutLists ks)[i.toNat]? = some (ks[i.toNat].take 60) := by
            have : i.toNat < 20 := by omega
            simp [cutLists, List.getElem?_take, this, hik]
          rw [this] at hys
          simpa using hys.symm
        subst e
        refine ⟨ya, min yl 60, yc, rfl, by simp [hy1]; omega, by omega, fun e => by have := hy3 e; omega, fun y e => ?_⟩
        rw [List.map_take]
        exact row_take (hy4 y e) 60
  · simp only [hlt, decide_false, cond_false]
    have hi : l = (cutLists ks).length := by omega
    subst hi
    exact k a c h2 vs (by omega) hvs wi
/-- From a slice of such cells to the lists. -/
theorem lists_of {hx : H} {a : Option Addr} {l : Nat} {ks : List (List Bool)} {vs : List Value} (hl : ks.length = l) (hv : vs.length = ks.length) (hr : ∀ (i : Nat) v ys, vs[i]? = some v → ks[i]? = some ys → LRow h v ys) (k : Keep h hx)
    (hn : a = none → l = 0) (hrow : ∀ b, a = some b → Sh.rowAt hx b vs) : Lists hx a l ks := by
  refine ⟨hl, hn, fun b hb i ys hys => ?_⟩
  have hi : i < vs.length := by have := (List.getElem?_eq_some_iff.1 hys).1; omega
  obtain ⟨ya, yl, yc, e, h2, h3, h4, h5⟩ := hr i vs[i] ys (List.getElem?_eq_getElem hi) hys
  refine ⟨ya, yl, yc, ?_, h2, h3, h4, fun y e => k.row (h5 y e)⟩
  rw [hrow b hb i hi, List.getElem?_eq_getElem hi, e]
theorem rb_ptr (w : Wd h0 h [rbankC b B]) (hb : ¬ B.bad i) : ∃ a c p h1, h b = some (.cells #[.slice (some a) B.ds.length c, .int .i64 B.steps, .int .i64 B.rleft] 77 (0, 0)) ∧ h.cell (a.add i.toNat) = some (.pointer (some ⟨p, 0, none⟩)) ∧
    Keep h0 h1 ∧ Keep h1 h ∧ Wd h1 h [refC p (B.disk i)] ∧ ∀ h' D', Wd h1 h' [refC p D'] → Wd h0 h' [rbankC b (B.set i D')] := by
  obtain ⟨⟨a, c, ps⟩, ⟨ok, hl⟩, w⟩ := w.opn 0 rfl
  have hbb := w.blk 0 rfl
  obtain ⟨_, _, hsn, hsr⟩ := w.slrow 1 rfl
  simp only at hl hsn hsr hbb
  obtain ⟨hj, hd⟩ := BankM.disk_at hb
  have hi := BankM.not_bad.1 hb
  cases a with
  | none => have := (hsn rfl).2; omega
  | some ab =>
    have hc : h.cell (ab.add i.toNat) = some (.pointer (some ⟨ps[i.toNat], 0, none⟩)) := by
      rw [hsr ab rfl i.toNat (by rw [ptrs_len]; omega), ptrs_get (by omega)]
    obtain ⟨h1, k0, k1, w1, wr, back⟩ := disks_on (f := refC) (k := 2) w rfl (j := i.toNat) (by show i.toNat < ps.length; omega) hj
    rw [hd] at w1
    refine ⟨ab, c, ps[i.toNat], h1, hbb, hc, k0, k1, w1, fun h' D' w' => ?_⟩
    refine (back h' D' w').close 0 (some ab, c, ps) ?_ ⟨BankM.set_ok ok i D', by simpa [BankM.set] using hl⟩
    simp [BankM.set, BankM.rleft]
    rfl
/-- What an act may turn: not too much. -/
structure BankM.Near (B B' : BankM) (n : Nat) : Prop where
  len : B'.ds.length = B.ds.length
  waits : (∀ D ∈ B.ds, D.W.length ≤ n) → ∀ D ∈ B'.ds, D.W.length ≤ n + 1
  steps : B'.steps ≤ B.steps + 1
  left : B.left ≤ 9223372036854775807 → B'.left ≤ 9223372036854775807
theorem disk_mem (hb : ¬ B.bad i) : B.disk i ∈ B.ds := by
  obtain ⟨hj, hd⟩ := BankM.disk_at hb
  rw [← hd]; exact List.getElem_mem hj
theorem near_refl (n : Nat) : B.Near B n := ⟨rfl, fun h D hD => by have := h D hD; omega, by omega, fun h => h⟩
theorem near_spend (o : B.Ok) (n : Nat) : B.Near B.spend.2 n := by
  have ol := o.left
  unfold BankM.spend
  split
  · exact near_refl n
  · refine ⟨rfl, fun h D hD => by have := h D hD; omega, by simp only; omega, fun h => ?_⟩
    simp only
    split <;> omega
theorem near_set {B1 : BankM} {n : Nat} {D' : DiskM} (h1 : B1.ds = B.ds) (hs : B1.steps ≤ B.steps + 1) (hl : B.left ≤ 9223372036854775807 → B1.left ≤ 9223372036854775807) (hb : ¬ B.bad i) (hW : D'.W.length ≤ (B.disk i).W.length + 1) : B.Near (B1.set i D') n := by
  refine ⟨by simp [BankM.set, h1], fun h D hD => ?_, hs, hl⟩
  simp only [BankM.set, h1] at hD
  rcases List.mem_or_eq_of_mem_set hD with hD | rfl
  · have := h D hD; omega
  · have := h _ (disk_mem hb); omega
theorem near_write (o : B.Ok) (n : Nat) : B.Near (B.write i at_ s).2 n := by
  unfold BankM.write
  split
  · exact near_refl n
  · rename_i hb
    split
    · exact near_refl n
    · have h1 := near_spend o n
      exact near_set B.spend_ds h1.steps h1.left hb ((B.disk i).write_len at_ s).1
theorem near_flush (o : B.Ok) (n : Nat) : B.Near (B.flush i).2 n := by
  unfold BankM.flush
  split
  · exact near_refl n
  · rename_i hb
    split
    · exact near_refl n
    · have h1 := near_spend o n
      exact near_set B.spend_ds h1.steps h1.left hb (by have := (B.disk i).flush_len.1; omega)
theorem near_cut (n : Nat) {m : Int} (hm : m ≤ 9223372036854775807) : B.Near (B.cut m) n :=
  ⟨rfl, fun h D hD => by have := h D hD; omega, by simp [BankM.cut]; omega, fun _ => by show mx 0 m ≤ _; unfold mx; split <;> omega⟩
theorem near_crash (hok : ∀ D ∈ B.ds, D.Ok) (n : Nat) (ks : List (List Bool)) : B.Near (B.crash ks) n := by
  refine ⟨by simp [BankM.crash], fun h D hD => ?_, by simp [BankM.crash]; omega, fun _ => by simp [BankM.crash]⟩
  simp only [BankM.crash, List.mem_mapIdx] at hD
  obtain ⟨j, hj, rfl⟩ := hD
  have h1 := h _ (List.getElem_mem hj)
  have h2 := (DiskM.crash_len (hok _ (List.getElem_mem hj)) (ks.getD j [])).1
  omega
theorem bank_disks (w : Wd h0 h [bankC b B]) : ∀ D ∈ B.ds, D.Ok := by
  intro D hD
  obtain ⟨j, hj, rfl⟩ := List.getElem_of_mem hD
  obtain ⟨⟨a, c, ps⟩, ⟨ok, hl⟩, w⟩ := w.opn 0 rfl
  simp only at hl
  obtain ⟨h1, _, _, w1, _, _⟩ := disks_on (f := diskC) (k := 2) w rfl (j := j) (by show j < ps.length; omega) hj
  exact diskOk w1 0 rfl
theorem bfail {Q : H → Prop} (w : Wd h0 h [bankC b B]) (hb : ¬ B.bad i) (k : ∀ h', Wd h0 h' [bankC b (B.set i (B.disk i).fail)] → Q h') : bank_Bank_Disk (some ⟨b, 0, none⟩) i h fun p h1 => disk_Disk_Fail p h1 Q := by
  refine bDisk w (fun e => absurd e hb) fun _ p h1 k0 k1 w1 back => ?_
  exact Fail_spec w1 fun h' w2 => k h' (back _ _ w2)
theorem act10_spec {r : Nat} {m : Act10} {n : Nat} {Q : Bool → H → Prop} (w : Wd h0 h [bankC b B, rbankC r B]) (hW : ∀ D ∈ B.ds, D.W.length ≤ n) (hn : n < 900000000) (hs : B.steps < 900000000) (hlx : B.left ≤ 9223372036854775807) (ha : Act10At h0 m)
    (k : ∀ h' B', Wd h0 h' [bankC b B', rbankC r B'] → B.Near B' n → Q true h') :
    law10_act (some ⟨b, 0, none⟩) (some ⟨r, 0, none⟩) m.do_ m.i_ m.at_ m.data m.ka m.kl m.kc m.die h Q := by
  have wb := w
  obtain ⟨_, _, _, wx0, _, _⟩ := wb.on (i := 0) rfl
  have ok := bank_ok wx0
  have okd := bank_disks wx0
  have hWd : ∀ D ∈ B.ds, D.W.length < 1000000000 := fun D hD => by have := hW D hD; omega
  have hWi : ¬ B.bad m.i_ → (B.disk m.i_).W.length < 1000000000 := fun hb => hWd _ (disk_mem hb)
  have hWi' : (B.disk m.i_).W.length < 1000000000 := by
    by_cases hb : B.bad m.i_
    · have : B.disk m.i_ = ⟨[], [], [], true⟩ ∨ B.disk m.i_ ∈ B.ds := by
        unfold BankM.disk
        rw [List.getD_eq_getElem?_getD]
        cases e : B.ds[m.i_.toNat]? with
        | none => exact .inl rfl
        | some D => exact .inr (List.mem_of_getElem? e)
      rcases this with e | e
      · rw [e]; decide
      · exact hWd _ e
    · exact hWi hb
  unfold law10_act law10_act.g
  refine M.new_w w fun t h1 w => ?_
  have ht := w.blk 2 rfl
  have e0 : (0 : Int) ≤ mn (m.data.size : Int) 200 ∧ mn (m.data.size : Int) 200 ≤ m.data.size := by unfold mn; split <;> omega
  simp only [addr_add, load_eq, Nat.zero_add, Nat.add_zero, Nat.mul_one, Nat.one_mul, Nat.zero_mul, Nat.reduceAdd, List.setIfInBounds_toArray, List.set_cons_zero, List.set_cons_succ, List.getElem?_toArray, List.getElem?_cons_zero, List.getElem?_cons_succ, some_and, int_eq, bool_eq, str_eq, slc_eq, ptr_eq, nn_eq, M.val, cond_true, cond_false, Bool.not_true, Bool.not_false, cell_in ht, nz_eq]
  refine ⟨Int.le_refl 0, e0.1, e0.2, ?_⟩
  refine M.put_w w 2 rfl rfl (by simp) fun h2 w => ?_
  generalize m.data.extract (Int.toNat 0) (mn (m.data.size : Int) 200).toNat = data at w ⊢
  have ht := w.blk 2 rfl
  simp only [addr_add, load_eq, Nat.zero_add, Nat.add_zero, Nat.mul_one, Nat.one_mul, Nat.zero_mul, Nat.reduceAdd, List.setIfInBounds_toArray, List.set_cons_zero, List.set_cons_succ, List.getElem?_toArray, List.getElem?_cons_zero, List.getElem?_cons_succ, some_and, int_eq, bool_eq, str_eq, slc_eq, ptr_eq, nn_eq, M.val, cond_true, cond_false, Bool.not_true, Bool.not_false, cell_in ht]
  refine ⟨by omega, ?_⟩
  have hz := z8 m.do_
  have beq_or : ∀ z : Int, ∀ K : Bool → H → Prop, (∀ h', h' = h2 → K (decide (Int.tmod m.do_ 8 = z ∨ Int.tmod m.do_ 8 = -z)) h') → (bif Int.tmod m.do_ 8 == z then K (Int.tmod m.do_ 8 == z) h2 else K (Int.tmod m.do_ 8 == -z) h2) := by
    intro z K hk
    have := hk h2 rfl
    have e : decide (Int.tmod m.do_ 8 = z ∨ Int.tmod m.do_ 8 = -z) = (Int.tmod m.do_ 8 == z || Int.tmod m.do_ 8 == -z) := by
      rw [Bool.decide_or]; rfl
    rw [e] at this
    cases hh : (Int.tmod m.do_ 8 == z)
    · rw [hh] at this; simpa using this
    · rw [hh] at this; simpa using this
  refine M.join_of (fun b h' => b = decide (Int.tmod m.do_ 8 = 2 ∨ Int.tmod m.do_ 8 = -2) ∧ h2 = h') (fun J hJ => beq_or 2 J fun h' e => hJ _ _ ⟨rfl, e.symm⟩) ?_
  rintro _ _ ⟨rfl, rfl⟩
  by_cases c2 : Int.tmod m.do_ 8 = 2 ∨ Int.tmod m.do_ 8 = -2
  · simp only [addr_add, load_eq, Nat.zero_add, Nat.add_zero, Nat.mul_one, Nat.one_mul, Nat.zero_mul, Nat.reduceAdd, List.setIfInBounds_toArray, List.set_cons_zero, List.set_cons_succ, List.getElem?_toArray, List.getElem?_cons_zero, List.getElem?_cons_succ, some_and, int_eq, bool_eq, str_eq, slc_eq, ptr_eq, nn_eq, M.val, cond_true, cond_false, Bool.not_true, Bool.not_false, c2, decide_true, cell_in ht]
    obtain ⟨hx, k0, k1, wx, wr, _⟩ := w.on (i := 0) rfl
    refine bRead wx ?_
    simp only [addr_add, load_eq, Nat.zero_add, Nat.add_zero, Nat.mul_one, Nat.one_mul, Nat.zero_mul, Nat.reduceAdd, List.setIfInBounds_toArray, List.set_cons_zero, List.set_cons_succ, List.getElem?_toArray, List.getElem?_cons_zero, List.getElem?_cons_succ, some_and, int_eq, bool_eq, str_eq, slc_eq, ptr_eq, nn_eq, M.val, cond_true, cond_false, Bool.not_true, Bool.not_false, cell_in ht]
    obtain ⟨hx, k0, k1, wx, wr, _⟩ := w.on (i := 1) rfl
    refine rbRead wx hWi' ?_
    refine M.jn ?_
    simp only [strEq_iff.2 rfl, cond_true, beq_self_eq_true]
    exact k _ _ (w.drop (i := 2) rfl) (near_refl n)
  simp only [c2, decide_false, cond_false]
  refine M.join_of (fun b h' => b = decide (Int.tmod m.do_ 8 = 3 ∨ Int.tmod m.do_ 8 = -3) ∧ h2 = h') (fun J hJ => beq_or 3 J fun h' e => hJ _ _ ⟨rfl, e.symm⟩) ?_
  rintro _ _ ⟨rfl, rfl⟩
  by_cases c3 : Int.tmod m.do_ 8 = 3 ∨ Int.tmod m.do_ 8 = -3
  · simp only [addr_add, load_eq, Nat.zero_add, Nat.add_zero, Nat.mul_one, Nat.one_mul, Nat.zero_mul, Nat.reduceAdd, List.setIfInBounds_toArray, List.set_cons_zero, List.set_cons_succ, List.getElem?_toArray, List.getElem?_cons_zero, List.getElem?_cons_succ, some_and, int_eq, bool_eq, str_eq, slc_eq, ptr_eq, nn_eq, M.val, cond_true, cond_false, Bool.not_true, Bool.not_false, c3, decide_true, cell_in ht]
    obtain ⟨hx, k0, k1, wx, wr, back⟩ := w.on (i := 0) rfl
    refine bFlush wx (by omega) hlx fun h3 w1 => ?_
    have w := back _ _ w1
    refine M.still_in ht (w.blk 2 rfl) ?_
    obtain ⟨hx, k0, k1, wx, wr, back⟩ := w.on (i := 1) rfl
    refine rbFlush wx (by omega) hlx hWi' fun h4 w1 => ?_
    have w := back _ _ w1
    simp only [beq_self_eq_true]
    exact k _ _ (w.drop (i := 2) rfl) (near_flush ok n)
  simp only [c3, decide_false, cond_false]
  refine M.join_of (fun b h' => b = decide (Int.tmod m.do_ 8 = 4 ∨ Int.tmod m.do_ 8 = -4) ∧ h2 = h') (fun J hJ => beq_or 4 J fun h' e => hJ _ _ ⟨rfl, e.symm⟩) ?_
  rintro _ _ ⟨rfl, rfl⟩
  by_cases c4 : Int.tmod m.do_ 8 = 4 ∨ Int.tmod m.do_ 8 = -4
  · simp only [c4, decide_true, cond_true]
    obtain ⟨hx, k0, k1, wx, wr, back⟩ := w.on (i := 0) rfl
    refine bSpend wx (by omega) hlx fun h3 w1 => ?_
    have w := back _ _ w1
    obtain ⟨hx, k0, k1, wx, wr, back⟩ := w.on (i := 1) rfl
    refine rbSpend wx (by omega) hlx fun h4 w1 => ?_
    have w := back _ _ w1
    simp only [beq_self_eq_true]
    exact k _ _ (w.drop (i := 2) rfl) (near_spend ok n)
  simp only [c4, decide_false, cond_false]
  refine M.join_of (fun b h' => b = decide (Int.tmod m.do_ 8 = 5 ∨ Int.tmod m.do_ 8 = -5) ∧ h2 = h') (fun J hJ => beq_or 5 J fun h' e => hJ _ _ ⟨rfl, e.symm⟩) ?_
  rintro _ _ ⟨rfl, rfl⟩
  by_cases c5 : Int.tmod m.do_ 8 = 5 ∨ Int.tmod m.do_ 8 = -5
  · simp only [addr_add, load_eq, Nat.zero_add, Nat.add_zero, Nat.mul_one, Nat.one_mul, Nat.zero_mul, Nat.reduceAdd, List.setIfInBounds_toArray, List.set_cons_zero, List.set_cons_succ, List.getElem?_toArray, List.getElem?_cons_zero, List.getElem?_cons_succ, some_and, int_eq, bool_eq, str_eq, slc_eq, ptr_eq, nn_eq, M.val, cond_true, cond_false, Bool.not_true, Bool.not_false, c5, decide_true, cell_in ht]
    obtain ⟨hx, k0, k1, wx, wr, back⟩ := w.on (i := 0) rfl
    refine bCut wx fun h3 w1 => ?_
    have w := back _ _ w1
    have ht := w.blk 2 rfl
    simp only [addr_add, load_eq, Nat.zero_add, Nat.add_zero, Nat.mul_one, Nat.one_mul, Nat.zero_mul, Nat.reduceAdd, List.setIfInBounds_toArray, List.set_cons_zero, List.set_cons_succ, List.getElem?_toArray, List.getElem?_cons_zero, List.getElem?_cons_succ, some_and, int_eq, bool_eq, str_eq, slc_eq, ptr_eq, nn_eq, M.val, cond_true, cond_false, Bool.not_true, Bool.not_false, cell_in ht]
    obtain ⟨hx, k0, k1, wx, wr, back⟩ := w.on (i := 1) rfl
    refine rbCut wx fun h4 w1 => ?_
    have w := back _ _ w1
    exact k _ _ (w.drop (i := 2) rfl) (near_cut n ha.atr)
  simp only [c5, decide_false, cond_false]
  refine M.join_of (fun b h' => b = decide (Int.tmod m.do_ 8 = 6 ∨ Int.tmod m.do_ 8 = -6) ∧ h2 = h') (fun J hJ => beq_or 6 J fun h' e => hJ _ _ ⟨rfl, e.symm⟩) ?_
  rintro _ _ ⟨rfl, rfl⟩
  by_cases c6 : Int.tmod m.do_ 8 = 6 ∨ Int.tmod m.do_ 8 = -6
  · simp only [addr_add, load_eq, Nat.zero_add, Nat.add_zero, Nat.mul_one, Nat.one_mul, Nat.zero_mul, Nat.reduceAdd, List.setIfInBounds_toArray, List.set_cons_zero, List.set_cons_succ, List.getElem?_toArray, List.getElem?_cons_zero, List.getElem?_cons_succ, some_and, int_eq, bool_eq, str_eq, slc_eq, ptr_eq, nn_eq, M.val, cond_true, cond_false, Bool.not_true, Bool.not_false, c6, decide_true, cell_in ht]
    refine lists_spec ha.lists w.keep ha.kc fun la lc h3 vs hvl hvs w3 => ?_
    have w := w.join w3
    obtain ⟨hx, k0, k1, wx, wr, back⟩ := w.on (i := 0) rfl
    obtain ⟨_, _, hn2, hr2⟩ := wr.slrow 2 rfl
    refine bCrash (ks := cutLists m.kept) wx hWd (lists_of rfl hvl hvs k0 (fun e => (hn2 e).2) hr2) fun h4 w1 => ?_
    have w := (back _ _ w1).drop (i := 3) rfl
    have ht := w.blk 2 rfl
    simp only [addr_add, load_eq, Nat.zero_add, Nat.add_zero, Nat.mul_one, Nat.one_mul, Nat.zero_mul, Nat.reduceAdd, List.setIfInBounds_toArray, List.set_cons_zero, List.set_cons_succ, List.getElem?_toArray, List.getElem?_cons_zero, List.getElem?_cons_succ, some_and, int_eq, bool_eq, str_eq, slc_eq, ptr_eq, nn_eq, M.val, cond_true, cond_false, Bool.not_true, Bool.not_false, cell_in ht]
    refine lists_spec ha.lists w.keep ha.kc fun la lc h5 vs hvl hvs w3 => ?_
    have w := w.join w3
    obtain ⟨hx, k0, k1, wx, wr, back⟩ := w.on (i := 1) rfl
    obtain ⟨_, _, hn2, hr2⟩ := wr.slrow 2 rfl
    refine rbCrash (ks := cutLists m.kept) wx hWd (lists_of rfl hvl hvs k0 (fun e => (hn2 e).2) hr2) fun h6 w1 => ?_
    have w := ((back _ _ w1).drop (i := 3) rfl).drop (i := 2) rfl
    exact k _ _ w (near_crash okd n _)
  simp only [c6, decide_false, cond_false]
  refine M.join_of (fun b h' => b = decide (Int.tmod m.do_ 8 = 7 ∨ Int.tmod m.do_ 8 = -7) ∧ h2 = h') (fun J hJ => beq_or 7 J fun h' e => hJ _ _ ⟨rfl, e.symm⟩) ?_
  rintro _ _ ⟨rfl, rfl⟩
  by_cases c7 : Int.tmod m.do_ 8 = 7 ∨ Int.tmod m.do_ 8 = -7
  · simp only [addr_add, load_eq, Nat.zero_add, Nat.add_zero, Nat.mul_one, Nat.one_mul, Nat.zero_mul, Nat.reduceAdd, List.setIfInBounds_toArray, List.set_cons_zero, List.set_cons_succ, List.getElem?_toArray, List.getElem?_cons_zero, List.getElem?_cons_succ, some_and, int_eq, bool_eq, str_eq, slc_eq, ptr_eq, nn_eq, M.val, cond_true, cond_false, Bool.not_true, Bool.not_false, c7, decide_true, cell_in ht]
    refine M.join_of (fun b h' => b = decide (m.die = true ∧ ¬ B.bad m.i_) ∧ h2 = h') (fun J hJ => ?_) ?_
    · have wq := w
      obtain ⟨v, ⟨_, _⟩, wq⟩ := wq.opn 1 rfl
      have hrb := wq.blk 2 rfl
      simp only [addr_add, load_eq, Nat.zero_add, Nat.add_zero, Nat.mul_one, Nat.one_mul, Nat.zero_mul, Nat.reduceAdd, List.setIfInBounds_toArray, List.set_cons_zero, List.set_cons_succ, List.getElem?_toArray, List.getElem?_cons_zero, List.getElem?_cons_succ, some_and, int_eq, bool_eq, str_eq, slc_eq, ptr_eq, nn_eq, M.val, cond_true, cond_false, Bool.not_true, Bool.not_false, cell_in ht, cell_in hrb]
      cases hd : m.die
      · simp only [cond_false]
        exact hJ _ _ ⟨by simp [hd], rfl⟩
      · simp only [cond_true]
        by_cases h0 : m.i_ ≥ 0
        · simp only [h0, decide_true, cond_true]
          refine hJ _ _ ⟨?_, rfl⟩
          have : ¬ B.bad m.i_ ↔ m.i_ < B.ds.length := by unfold BankM.bad; omega
          simp [this, hd]
        · simp only [h0, decide_false, cond_false]
          refine hJ _ _ ⟨?_, rfl⟩
          have : B.bad m.i_ := .inl (by omega)
          simp [this]
    · rintro _ _ ⟨rfl, rfl⟩
      by_cases hd : m.die = true ∧ ¬ B.bad m.i_
      · simp only [addr_add, load_eq, Nat.zero_add, Nat.add_zero, Nat.mul_one, Nat.one_mul, Nat.zero_mul, Nat.reduceAdd, List.setIfInBounds_toArray, List.set_cons_zero, List.set_cons_succ, List.getElem?_toArray, List.getElem?_cons_zero, List.getElem?_cons_succ, some_and, int_eq, bool_eq, str_eq, slc_eq, ptr_eq, nn_eq, M.val, cond_true, cond_false, Bool.not_true, Bool.not_false, hd, and_self, decide_true, cell_in ht, not_false_eq_true]
        obtain ⟨hx, k0, k1, wx, wr, back⟩ := w.on (i := 0) rfl
        refine bfail wx hd.2 fun h3 w1 => ?_
        have w := back _ _ w1
        have ht := w.blk 2 rfl
        obtain ⟨hx, k0, k1, wx, wr, back⟩ := w.on (i := 1) rfl
        obtain ⟨a, c, p, h4, hrb, hpc, k2, k3, w2, back2⟩ := rb_ptr wx hd.2
        have hi := BankM.not_bad.1 hd.2
        simp only [addr_add, load_eq, Nat.zero_add, Nat.add_zero, Nat.mul_one, Nat.one_mul, Nat.zero_mul, Nat.reduceAdd, List.setIfInBounds_toArray, List.set_cons_zero, List.set_cons_succ, List.getElem?_toArray, List.getElem?_cons_zero, List.getElem?_cons_succ, some_and, int_eq, bool_eq, str_eq, slc_eq, ptr_eq, nn_eq, M.val, cond_true, cond_false, Bool.not_true, Bool.not_false, cell_in ht, cell_in hrb]
        refine M.idx_of hi.1 hi.2 ?_
        simp only [addr_add, load_eq, Nat.zero_add, Nat.add_zero, Nat.mul_one, Nat.one_mul, Nat.zero_mul, Nat.reduceAdd, List.setIfInBounds_toArray, List.set_cons_zero, List.set_cons_succ, List.getElem?_toArray, List.getElem?_cons_zero, List.getElem?_cons_succ, some_and, int_eq, bool_eq, str_eq, slc_eq, ptr_eq, nn_eq, M.val, cond_true, cond_false, Bool.not_true, Bool.not_false, hpc]
        refine rFail w2 fun h5 w3 => ?_
        have w := (back _ _ (back2 _ _ w3)).drop (i := 2) rfl
        exact k _ _ w (near_set rfl (by omega) (fun h => h) hd.2 (by simp [DiskM.fail]))
      · simp only [hd, decide_false, cond_false]
        exact k _ _ (w.drop (i := 2) rfl) (near_refl n)
  simp only [addr_add, load_eq, Nat.zero_add, Nat.add_zero, Nat.mul_one, Nat.one_mul, Nat.zero_mul, Nat.reduceAdd, List.setIfInBounds_toArray, List.set_cons_zero, List.set_cons_succ, List.getElem?_toArray, List.getElem?_cons_zero, List.getElem?_cons_succ, some_and, int_eq, bool_eq, str_eq, slc_eq, ptr_eq, nn_eq, M.val, cond_true, cond_false, Bool.not_true, Bool.not_false, c7, decide_false, cell_in ht]
  obtain ⟨hx, k0, k1, wx, wr, back⟩ := w.on (i := 0) rfl
  refine bWrite wx (by omega) hlx hWi' fun h3 w1 => ?_
  have w := back _ _ w1
  have ht2 := w.blk 2 rfl
  refine M.still_in ht ht2 (M.still_in ht ht2 (M.still_in ht ht2 ?_))
  obtain ⟨hx, k0, k1, wx, wr, back⟩ := w.on (i := 1) rfl
  refine rbWrite wx (by omega) hlx hWi' fun h4 w1 => ?_
  have w := back _ _ w1
  simp only [beq_self_eq_true]
  exact k _ _ (w.drop (i := 2) rfl) (near_write ok n)
end
end Go.Proofs.Ytkfokpkpobjoeaa

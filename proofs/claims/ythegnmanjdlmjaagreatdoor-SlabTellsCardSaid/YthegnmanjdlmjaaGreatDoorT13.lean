/- Layer 17's laws: whatever is done to the cells. -/
import Derived.Test.YthegnmanjdlmjaaGreatDoorT12
set_option linter.unusedSimpArgs false
set_option linter.unusedVariables false
namespace Go.Proofs.YthegnmanjdlmjaaGreatDoor
open Go.Sh Go.RowKit
/-- Sealed chunks, of the first so many slots. -/
def Seals (key : ByteArray) (d : Int) (m : Nat) (cs want : List ByteArray) : Prop := ∀ i : Nat, i < m → (sa want i).size = 32 ∧ ∃ nonce, nonce.size = 12 ∧ sa cs i = cellOf key d i nonce (sa want i)
theorem Seals.push {key : ByteArray} {d : Int} {m : Nat} {cs want : List ByteArray} {nonce pl : ByteArray} (w : Seals key d m cs want) (hm : m < want.length) (hc : m < cs.length) (h1 : nonce.size = 12) (h2 : pl.size = 32) : Seals key d (m + 1) (cs.set m (cellOf key d m nonce pl)) (want.set m pl) := by
  intro j hj
  rw [sa_set hm, sa_set hc]
  by_cases e : j = m
  · subst e
    rw [if_pos rfl, if_pos rfl]
    exact ⟨h2, nonce, h1, rfl⟩
  · rw [if_neg e, if_neg e]
    exact w j (by omega)
/-- What tampering leaves of a disk. -/
def Tam (D D' : DiskM) : Prop := D'.dead = D.dead ∧ D'.N.length = D.N.length ∧ D'.W.length ≤ D.W.length ∧ (∀ t ∈ D'.N, t.size ≤ 2048) ∧ (∀ t ∈ D'.L, t.size ≤ 2048) ∧ ∀ p ∈ D'.W, p.2.size ≤ 2048
theorem Tam.step {D D' : DiskM} (t : Tam D D') (a : Int) (s : ByteArray) : Tam D (D'.tamper a s).2 := by
  obtain ⟨h1, h2, h3, h4, h5, h6⟩ := t
  obtain ⟨g1, g2, g3, g4⟩ := tamper_facts D' a s
  obtain ⟨g5, g6, g7⟩ := g4 h4 h5 h6
  exact ⟨g1.trans h1, g2.trans h2, Nat.le_trans g3 h3, g5, g6, g7⟩
theorem sa_mem {T : List ByteArray} {i : Nat} (h : i < T.length) : sa T i ∈ T := by rw [sa_get h]; exact List.getElem_mem _
/-- The texts, each with what is summed ahead of it. -/
def PL (T : List ByteArray) : List ByteArray := T.flatMap fun t => [pre 0 t, pre 1 t]
def Met (g : ByteArray → Option ByteArray) (S : List ByteArray) : Prop := ∀ x ∈ S, g (digestT x) = some x
theorem Met.push {g : ByteArray → Option ByteArray} {S : List ByteArray} {y : ByteArray} (m : Met g S) (h : g (digestT y) = none ∨ g (digestT y) = some y) : Met (fun z => if z = digestT y then some y else g z) (S ++ [y]) := by
  intro x hx
  simp only
  by_cases e : digestT x = digestT y
  · rw [if_pos e]
    rcases List.mem_append.1 hx with hx | hx
    · have h1 := m x hx
      rw [e] at h1
      rcases h with h | h
      · rw [h] at h1; cases h1
      · rw [h] at h1; exact h1
    · rw [List.mem_singleton.1 hx]
  · rw [if_neg e]
    rcases List.mem_append.1 hx with hx | hx
    · exact m x hx
    · exact absurd (by rw [List.mem_singleton.1 hx]) e
theorem Met.lone {g : ByteArray → Option ByteArray} {T : List ByteArray} (m : Met g (PL T)) : Lone T := by
  intro a ha b hb k k' hk hk' e
  have mem : ∀ t ∈ T, ∀ k : UInt8, (k = 0 ∨ k = 1) → pre k t ∈ PL T := fun t ht k hk => by
    rw [PL, List.mem_flatMap]
    refine ⟨t, ht, ?_⟩
    rcases hk with rfl | rfl <;> simp
  have h1 := m _ (mem a ha k hk)
  have h2 := m _ (mem b hb k' hk')
  rw [e, h2] at h1
  exact (Option.some.inj h1).symm
theorem PL_take {T : List ByteArray} {m : Nat} (h : m < T.length) : PL (T.take (m + 1)) = PL (T.take m) ++ [pre 0 (sa T m), pre 1 (sa T m)] := by
  rw [sa_get h, ← List.take_append_getElem h, PL, List.flatMap_append]
  rfl
theorem pre_size (k : UInt8) (t : ByteArray) : (pre k t).size = t.size + 1 := by
  rw [pre, ByteArray.size_append, Nat.add_comm]; rfl
theorem slabTells {h : H} {n : Int} {kz : List Int} {a : Option Addr} {l c : Nat} {ms : List Act17} {Q : Bool → H → Prop} (tb : Tabs h) (hz : kz.length = 32) (f : Ro eA h a l ms) (hlc : l ≤ c) (k : ∀ h', Keep h h' → Q true h') :
    law17_SlabTells n (bvs kz).toArray a l c h Q := by
  unfold law17_SlabTells law17_SlabTells.g
  have hsx11 : ByteArray.size ⟨#[97, 98, 99, 100, 101, 102, 103, 104, 105, 106, 107]⟩ = 11 := rfl
  have hsx31 : ByteArray.size ⟨#[49, 50, 51, 52, 53, 54, 55, 56, 57, 97, 98, 99, 100, 101, 102, 48, 49, 50, 51, 52, 53, 54, 55, 56, 57, 97, 98, 99, 100, 101, 102]⟩ = 31 := rfl
  generalize (⟨#[97, 98, 99, 100, 101, 102, 103, 104, 105, 106, 107]⟩ : ByteArray) = sfx at *
  generalize (⟨#[49, 50, 51, 52, 53, 54, 55, 56, 57, 97, 98, 99, 100, 101, 102, 48, 49, 50, 51, 52, 53, 54, 55, 56, 57, 97, 98, 99, 100, 101, 102]⟩ : ByteArray) = bdy at *
  have w := Wd.start h
  refine M.new_w w fun b2 h3 w => ?_
  obtain ⟨s, hd, hz0, es⟩ := slots_of n
  have hsm := dep_small hd
  refine ⟨by decide, M.vin ⟨hz0, M.vis s es ?_⟩⟩
  refine M.row_all (w.blk 0 rfl) (by simp [hz, bvs_len]) ?_
  refine begin_spec (tb.keep w.keep) hz fun x p r h4 w' => ?_
  have w := w.join w'
  clear w'
  have hk : (ofBytes kz).size = 32 := by simpa [ofBytes, ByteArray.size] using hz
  generalize ofBytes kz = key at *
  have g : goodS (BankM.new 2 140) 0 s key := ⟨hd, hk, by decide⟩
  obtain ⟨s1, s2, s3⟩ := sl_new (n := s) (d := 0) hd (.inl rfl) hk
  have e1 : bW (goodS (BankM.new 2 140) 0 s key) s = blankW s := if_pos g
  have e2 : bT (goodS (BankM.new 2 140) 0 s key) s = blankT s := if_pos g
  rw [e1, e2, applyM_good g] at w
  generalize blankT s = tp0 at *
  generalize (writesM (BankM.new 2 140) 0 (blankW s)).2 = B0 at *
  clear e1 e2 g s1 s3
  have w := w.drop (i := 0) rfl
  try simp only [bs] at w
  refine M.join_of (fun (q : Bool) h' => q = false ∧ Wd h h' [bankC p B0, rbankC r B0, .blk x (.cells #[.pointer (some ⟨p, 0, none⟩), .int .i64 0, .int .i64 s, .string key, .pointer (some ⟨r, 0, none⟩), .int .i64 0, .int .i64 s, .string key, .string tp0] 42)]) (fun J hJ => ?_) ?_
  · refine wakes17 (tb.keep w.keep) fun h5 kk => ?_
    refine cf rfl ?_
    exact hJ _ _ ⟨rfl, w.keeps kk⟩
  clear w
  rintro _ h4 ⟨rfl, w⟩
  refine cf rfl ?_
  refine M.mk_sl w (by omega) (by omega) (by omega) (by omega) rfl fun aw h5 w => ?_
  simp only [zs] at w
  have hcl0 : (List.replicate s.toNat ByteArray.empty).length = s.toNat := by simp
  generalize List.replicate s.toNat ByteArray.empty = cs0 at *
  refine M.join_of (fun (q : Option Addr × Nat × Nat) h' => ∃ (want : List ByteArray) (ch : KV), q.2.1 = ch.length ∧ ch.length ≤ 16 ∧ want.length = s.toNat ∧ Chs s ch ∧ Seals key 0 s.toNat (setC cs0 ch) want ∧ Wd h h' [bankC p B0, rbankC r B0, .blk x (.cells #[.pointer (some ⟨p, 0, none⟩), .int .i64 0, .int .i64 s, .string key, .pointer (some ⟨r, 0, none⟩), .int .i64 0, .int .i64 s, .string key, .string tp0] 42), .sl 9 1 aw s.toNat s.toNat (eS.row want), .sl 45 2 q.1 q.2.1 q.2.2 (eP.row ch)]) (fun J hJ => ?_) ?_
  · refine M.loop_of (I := fun (q : (Option Addr × Nat × Nat) × Int) h' => ∃ (m : Nat) (want : List ByteArray) (ch : KV), (m : Int) ≤ s ∧ q.2 = (m : Int) ∧ q.1.2.1 = ch.length ∧ ch.length = m ∧ want.length = s.toNat ∧ Chs s ch ∧ Seals key 0 m (setC cs0 ch) want ∧ Wd h h' [bankC p B0, rbankC r B0, .blk x (.cells #[.pointer (some ⟨p, 0, none⟩), .int .i64 0, .int .i64 s, .string key, .pointer (some ⟨r, 0, none⟩), .int .i64 0, .int .i64 s, .string key, .string tp0] 42), .sl 9 1 aw s.toNat s.toNat (eS.row want), .sl 45 2 q.1.1 q.1.2.1 q.1.2.2 (eP.row ch)]) (μ := fun q => (s - q.2).toNat)
      ⟨0, cs0, [], by omega, rfl, rfl, rfl, hcl0, fun p hp => by simp at hp, fun i hi => by omega, w.nilsl _ _⟩ ?_
    clear w
    rintro ⟨⟨a6, l6, cc6⟩, _⟩ h6 J3 ⟨m, want, ch, hm, hi, hcl, hcm, hwl, hch, wt, w⟩ hJ3
    simp only at hi hcl w ⊢
    subst hi hcl
    by_cases hlt : (m : Int) < s
    · refine cdt (by omega) ?_
      have v1 : IntKind.wrap .i64 ((m : Int) + 1) = ((m + 1 : Nat) : Int) := by rw [IntKind.wrap_i64]; omega
      have hclen : (setC cs0 ch).length = s.toNat := by rw [setC_len, hcl0]
      refine M.vin ?_
      refine M.new_w w fun b3 h1 w => ?_
      refine M.b2s_at (zs := [_]) (w.blk 5 rfl) (by simp) ?_
      refine ⟨(by simp [ofB_size, List.length_replicate, List.length_cons, List.length_nil, hsx31]), ?_⟩
      have hpl : (ofBytes (List.take 1 (List.drop 0 [IntKind.wrap .u8 m])) ++ bdy).size = 32 := by simp [ByteArray.size_append, ofB_size, hsx31]
      generalize ofBytes (List.take 1 (List.drop 0 [IntKind.wrap .u8 m])) ++ bdy = pl at *
      refine w.put1 3 rfl rfl _ rfl (by omega) (by omega) fun h7 w => ?_
      simp only [Int.toNat_natCast] at w
      have hs2 := w.blk 2 rfl
      have hsa : sa (want.set m pl) m = pl := by rw [sa_set (by omega), if_pos rfl]
      try simp only [bs] at w
      simp only [bs, Nat.reduceAdd, Nat.reduceMul, Int.reduceToNat, Int.toNat_natCast, Nat.mul_one, hsa, ofB_size, List.length_replicate, List.length_cons, List.length_nil, hsx11, lb (w.blk 2 rfl), lb (w.blk 5 rfl)]
      refine Ro.atS (w.ro 3 rfl (by decide)) (by omega) (by omega) fun b1 hc3 => ?_
      simp only [Int.reduceToNat, Int.toNat_natCast, Nat.mul_one, hsa, ofB_size, List.length_replicate, List.length_cons, List.length_nil, hsx11] at hc3
      simp only [bs, Nat.reduceAdd, Nat.reduceMul, Int.reduceToNat, Int.toNat_natCast, Nat.mul_one, hsa, ofB_size, List.length_replicate, List.length_cons, List.length_nil, hsx11, lb (w.blk 2 rfl), lb (w.blk 5 rfl), lc hc3]
      refine M.vin ?_
      refine ⟨fun _ _ => rfl, ?_⟩
      refine ⟨fun _ _ => rfl, ?_⟩
      refine M.new_k w fun b9 h8 kk10 w => ?_
      refine M.still_c kk10 hc3 ?_
      refine M.still_at hs2 (w.blk 2 rfl) ?_
      refine M.b2s_at (zs := [_]) (w.blk 6 rfl) (by simp) ?_
      refine M.still_c kk10 hc3 ?_
      refine M.still_at hs2 (w.blk 2 rfl) ?_
      refine ⟨(by simp [Int.toNat_natCast, Nat.mul_one, hsa, ofB_size, List.length_replicate, List.length_cons, List.length_nil, hsx11]), ?_⟩
      simp only [Int.toNat_natCast, Nat.mul_one, hsa, ofB_size, List.length_replicate, List.length_cons, List.length_nil, hsx11]
      obtain ⟨hx, k0, k1, wx, wr, bk⟩ := w.on (i := 0) rfl
      refine Seal2_spec wx (tb.keep w.keep) fun h9 kk => ?_
      have w := w.keeps kk
      clear bk wr wx k1 k0 hx
      have key2 : ∀ nonce, nonce.size = 12 → sealM (goodS B0 0 s key) key 0 s m nonce pl = (cellOf key 0 m nonce pl, 0) := fun _ h1 => s2.sealed (by omega) h1 hpl
      have hno : (ofBytes (List.take 1 (List.drop 0 [IntKind.wrap .u8 m])) ++ sfx).size = 12 := by simp [ByteArray.size_append, ofB_size, hsx11]
      generalize ofBytes (List.take 1 (List.drop 0 [IntKind.wrap .u8 m])) ++ sfx = nonce at *
      rw [key2 _ hno]
      simp only
      have hcz := cellOf_size key 0 m nonce pl
      have wt2 := wt.push (by omega) (by omega) hno hpl
      generalize cellOf key 0 m nonce pl = cell at *
      refine cf rfl ?_
      refine Wd.push w 4 rfl rfl rfl (by simp [isPlainCell]) (by omega) (by omega) fun a5 c6 h2 w => ?_
      simp only [v1]
      refine M.vin ?_
      refine hJ3 _ _ ⟨m + 1, want.set m pl, ch ++ [((m : Int), cell)], by omega, rfl, by simp, by simp; omega, by rw [List.length_set]; exact hwl, fun p hp => ?_, ?_, ?_⟩ (by simp only; omega)
      · rcases List.mem_append.1 hp with hp | hp
        · exact hch p hp
        · rw [List.mem_singleton.1 hp]
          simp only
          omega
      · rw [setC_push]
        exact wt2
      · rw [eP.row_app, eP.row_one]
        exact w.first 5
    · refine cdf (by omega) ?_
      obtain rfl : m = s.toNat := by omega
      exact hJ _ _ ⟨want, ch, rfl, by omega, hwl, hch, wt, w⟩
  clear w
  rintro ⟨a6, l6, cc6⟩ h6 ⟨want, ch, hcl, hc16, hwl, hch, wt, w⟩
  simp only at hcl w ⊢
  subst hcl
  obtain ⟨ws, tp', ep, hwsl, ea, sl', hW⟩ := Sl.step (k := 900000) (s2.mono (by decide)) hch
  simp only [bs, Nat.reduceAdd, Nat.reduceMul, Int.reduceToNat, lb (w.blk 2 rfl)]
  obtain ⟨hx, k0, k1, wx, wr, bk⟩ := w.on (i := 0) rfl
  refine Prepare_spec wx (w.ro 4 rfl (by decide)) (by omega) s2.sm (tb.keep w.keep) fun a9 c9 h9 w' => ?_
  have w := w.join w'
  clear w' bk wr wx k1 k0 hx
  rw [ep] at w ⊢
  simp only at w ⊢
  refine M.join_of (fun (q : Bool) h' => q = false ∧ Wd h h' [bankC p (writesM B0 0 ws).2, rbankC r B0, .blk x (.cells #[.pointer (some ⟨p, 0, none⟩), .int .i64 0, .int .i64 s, .string key, .pointer (some ⟨r, 0, none⟩), .int .i64 0, .int .i64 s, .string key, .string tp0] 42), .sl 9 1 aw s.toNat s.toNat (eS.row want)]) (fun J8 hJ8 => ?_) ?_
  · refine cf rfl ?_
    simp only [bs, Nat.reduceAdd, Nat.reduceMul, Int.reduceToNat, lb (w.blk 2 rfl)]
    obtain ⟨hx, k0, k1, wx, wr, bk⟩ := w.on (i := 0) rfl
    refine Apply_spec wx (wr.ro 4 rfl (by decide)) (s2.rm.mono (by omega)) (tb.keep k0) fun h10 w1 => ?_
    have w := bk _ _ w1
    clear bk wr wx k1 k0 hx w1
    rw [applyM_good s2.good] at w ⊢
    rw [ea]
    exact hJ8 _ _ ⟨rfl, w.first 4⟩
  clear w
  rintro _ h10 ⟨rfl, w⟩
  have hcsl : (setC cs0 ch).length = s.toNat := by rw [setC_len, hcl0]
  generalize (writesM B0 0 ws).2 = B1 at *
  generalize setC cs0 ch = cs at *
  clear ep ea hwsl hch hc16 s2 hcl0
  refine cf (rfl) ?_
  simp only [bs, Nat.reduceAdd, Nat.reduceMul, Int.reduceToNat, lb (w.blk 2 rfl)]
  have hdln : (B1.disk 0).N.length ≤ 512 := by
    obtain ⟨hx, g0, g1, wx, _, _⟩ := w.on (i := 0) rfl
    obtain ⟨hlt, e⟩ := BankM.disk_at sl'.lv.nb
    have := (bank_disks wx _ (List.getElem_mem hlt)).small
    rw [e] at this
    exact this
  obtain ⟨hx, g0, g1, wx, wr0, back0⟩ := w.on (i := 0) rfl
  refine bDisk wx (fun hb => absurd hb sl'.lv.nb) fun hb pd h1 q0 q1 wd back1 => ?_
  have hti := sl'.lv.ti.disk 0
  have hal := sl'.lv.al
  have him : (B1.disk 0).image = (B1.disk 0).N := by unfold DiskM.image; rw [hal]; rfl
  have tb1 : Tabs h1 := tb.keep (g0.trans q0)
  have f1 : Ro eA h1 a l ms := f.keep (g0.trans q0)
  clear w
  have w := wd
  clear wd wx g1 q1
  refine Image_spec w fun a11 c11 h11 w' => ?_
  have w := w.join w'
  clear w'
  rw [him, ← eS_row] at w
  rw [him]
  generalize hD : B1.disk 0 = D at *
  refine M.join_of (fun (q : Option Addr × Nat × Nat) h' => ∃ (D' : DiskM) (T : List ByteArray), q.2.1 = T.length ∧ T.length ≤ 600 ∧ (∀ t ∈ T, t.size ≤ 2048) ∧ (∀ t ∈ D.N, t ∈ T) ∧ Tam D D' ∧ Wd h1 h' [diskC pd D', .sl 9 1 q.1 q.2.1 q.2.2 (eS.row T)]) (fun J hJ => ?_) ?_
  · obtain ⟨hm1, hm2, hm3⟩ := mn_take (l := l) (n := 30) (by omega)
    refine M.sub0 hm2 (by omega) ?_
    rw [show (mn ((l : Nat) : Int) (30 : Int)).toNat = min l 30 from hm1]
    have f := Ro.take f1 (min l 30) (Nat.min_le_left _ _)
    have hl30 : min l 30 ≤ 30 := by omega
    clear hm1 hm2 hm3 hlc f1
    generalize min l 30 = l at f hl30 ⊢
    generalize ms.take l = ms at f
    refine M.loop_of (I := fun (q : (Option Addr × Nat × Nat) × Int) h' => ∃ (m : Nat) (D' : DiskM) (T : List ByteArray), m ≤ l ∧ q.2 = (m : Int) ∧ q.1.2.1 = T.length ∧ T.length ≤ 512 + m ∧ (∀ t ∈ T, t.size ≤ 2048) ∧ (∀ t ∈ D.N, t ∈ T) ∧ Tam D D' ∧ Wd h1 h' [diskC pd D', .sl 9 1 q.1.1 q.1.2.1 q.1.2.2 (eS.row T)]) (μ := fun q => (l - q.2).toNat)
      ⟨0, D, D.N, by omega, rfl, rfl, by omega, hti.1, fun _ h => h, ⟨rfl, rfl, Nat.le_refl _, hti⟩, w⟩ ?_
    clear w
    rintro ⟨⟨a6, l6, cc6⟩, _⟩ h6 J3 ⟨m, D', T, hm, hi, hcl, hTl, hTz, hTN, htm, w⟩ hJ3
    simp only at hi hcl w ⊢
    subst hi hcl
    by_cases hlt : m < l
    · refine cdt (by omega) ?_
      have v1 : IntKind.wrap .i64 ((m : Int) + 1) = ((m + 1 : Nat) : Int) := by rw [IntKind.wrap_i64]; omega
      refine Ro.atA (f.keep w.keep) (by omega) (by omega) fun b q hq c0 c1 c2 c3 c4 c5 => ?_
      simp only [Int.toNat_natCast] at c0 c1 c2 c3 c4 c5 ⊢
      obtain ⟨t1, t2, t3⟩ := mn_take (l := q.top.size) (n := 200) (by omega)
      simp only [bs, Nat.reduceAdd, Nat.reduceMul, Int.reduceToNat, lc c0, lc c1, lc c2, lc c3, lc c4, lc c5]
      refine M.new_w w fun b3 h2 w => ?_
      refine ⟨(rfl), ?_⟩
      refine M.puts_w0 w 2 rfl (by simp [isPlainCell]) (by simp) fun h7 w => ?_
      simp only [bs, bl, Nat.reduceAdd, Nat.reduceMul, Int.reduceToNat] at w
      simp only [bs, Nat.reduceAdd, Nat.reduceMul, Int.reduceToNat, lb (w.blk 2 rfl)]
      refine ⟨(by omega), (by assumption), (by assumption), ?_⟩
      have hsz : (q.top.extract (Int.toNat 0) (mn (↑q.top.size) 200).toNat).size ≤ 2048 := by
        rw [ByteArray.size_extract, t1]
        have : min q.top.size (Int.toNat 200) ≤ 200 := Nat.min_le_right _ _
        omega
      clear c0 c1 c2 c3 c4 c5
      refine M.join_of (fun (d : ByteArray) h' => d.size ≤ 2048 ∧ Wd h1 h' [diskC pd D', .sl 9 1 a6 T.length cc6 (eS.row T), .blk b3 (.cells #[.int .i64 q.do_, .int .i64 q.slot, .int .i64 q.at_, .int .u8 q.data, .slice q.ca q.cl q.cc, .string q.top] 32)]) (fun J4 hJ4 => ?_) ?_
      · refine M.join_of (fun (d : Bool) h' => (d = true → 0 ≤ q.at_ ∧ q.at_ < T.length) ∧ Wd h1 h' [diskC pd D', .sl 9 1 a6 T.length cc6 (eS.row T), .blk b3 (.cells #[.int .i64 q.do_, .int .i64 q.slot, .int .i64 q.at_, .int .u8 q.data, .slice q.ca q.cl q.cc, .string q.top] 32)]) (fun J5 hJ5 => ?_) ?_
        · refine M.vin ?_
          refine cc (fun e => ?_) fun e => hJ5 _ _ ⟨(fun e => by cases e), w⟩
          
          refine cd (fun e1 => ?_) fun e1 => hJ5 _ _ ⟨(fun e => by cases e), w⟩
          
          exact hJ5 _ _ ⟨fun e => ⟨e1, of_decide_eq_true e⟩, w⟩
        · clear w
          rintro d h8 ⟨hd2, w⟩
          cases d with
          | false => exact cf rfl (hJ4 _ _ ⟨hsz, w⟩)
          | true =>
            obtain ⟨y0, y1⟩ := hd2 rfl
            refine ct rfl ?_
            simp only [bs, Nat.reduceAdd, Nat.reduceMul, Int.reduceToNat, lb (w.blk 2 rfl)]
            refine Ro.ldS (w.ro 1 rfl (by decide)) (by assumption) (by assumption) ?_
            exact hJ4 _ _ ⟨hTz _ (sa_mem (by omega)), w⟩
      · clear w
        rintro d h8 ⟨hdz, w⟩
        refine Wd.push w 1 rfl rfl rfl (by simp [isPlainCell]) (by omega) (by omega) fun a14 c15 h12 w => ?_
        simp only [bs, Nat.reduceAdd, Nat.reduceMul, Int.reduceToNat, lb (w.blk 2 rfl)]
        obtain ⟨hx, k0, k1, wx, wr, bk⟩ := w.on (i := 0) rfl
        refine Tamper_spec wx (by have := htm.2.2.1; rw [hW] at this; simp at this; rw [this]; decide) fun h9 w1 => ?_
        have w := bk _ _ w1
        clear bk wr wx k1 k0 hx w1
        refine M.vis _ v1 (hJ3 _ _ ⟨m + 1, (D'.tamper q.slot d).2, T ++ [d], by omega, rfl, by simp, by simp; omega, fun t ht => ?_, fun t ht => List.mem_append_left _ (hTN t ht), htm.step _ _, ?_⟩ (by simp only; omega))
        · rcases List.mem_append.1 ht with ht | ht
          · exact hTz t ht
          · rw [List.mem_singleton.1 ht]; exact hdz
        · rw [eS.row_app, eS.row_one]
          exact w.first 2
    · refine cdf (by omega) ?_
      exact hJ _ _ ⟨D', T, rfl, by omega, hTz, hTN, htm, w⟩
  clear w
  rintro ⟨a6, l6, cc6⟩ h6 ⟨D', T, hcl, hTl, hTz, hTN, htm, w⟩
  simp only at hcl w ⊢
  subst hcl
  have him2 : D'.image = D'.N := by unfold DiskM.image; rw [htm.1, hal]; rfl
  obtain ⟨hx2, g0, g1, wx, wr, bk⟩ := w.on (i := 0) rfl
  refine Image_spec wx fun a12 c12 h12 w' => ?_
  have w := w.join w'
  clear w' bk wr wx g0 g1 hx2
  rw [him2, ← eS_row] at w
  rw [him2]
  have hdl2 := htm.2.1
  refine w.cells 2 rfl ?_
  refine M.app_w w 1 rfl rfl (by rw [eS.row_len]; rfl) (eS.row_plain _) (by omega) (by omega) fun a13 c13 h13 w => ?_
  have w := w.first 2
  obtain ⟨hv, hdv⟩ := sl'.lv.set (D := D') (htm.1.trans hal) (by rw [hD]; exact htm.2.1) htm.2.2.2
  have e13 : eS.row T ++ eS.row D'.N = eS.row (T ++ D'.N) := (eS.row_app _ _).symm
  have w : Wd h1 h13 [diskC pd D', .sl 9 1 a13 (T.length + D'.N.length) c13 (eS.row (T ++ D'.N))] := by rw [← e13]; exact w
  obtain ⟨hy, y0, y1, wy, wr, _⟩ := w.on (i := 1) rfl
  have w := (back0 _ _ (back1 _ _ wr)).join wy
  clear wy wr y1 y0
  have hT2 : (T ++ D'.N).length = T.length + D'.N.length := List.length_append
  have hTz2 : ∀ t ∈ T ++ D'.N, t.size ≤ 2048 := fun t ht => by
    rcases List.mem_append.1 ht with ht | ht
    · exact hTz t ht
    · exact htm.2.2.2.1 t ht
  have hTN1 : ∀ t ∈ (B1.disk 0).N, t ∈ T ++ D'.N := fun t ht => List.mem_append_left _ (hTN t (by rw [← hD]; exact ht))
  have hTN2 : ∀ t ∈ ((B1.set 0 D').disk 0).N, t ∈ T ++ D'.N := fun t ht => List.mem_append_right _ (by rw [hdv] at ht; exact ht)
  rw [← hT2] at w ⊢
  generalize T ++ D'.N = TT at *
  have hTl9 : TT.length ≤ 2000 := by omega
  try simp only [bs] at w
  refine M.new_w w fun b14 h14 w => ?_
  have w := ms_new w
  refine M.join_of (fun _ h' => Lone TT ∧ Wd h h' [bankC p (B1.set 0 D'), rbankC r B0, .blk x (.cells #[.pointer (some ⟨p, 0, none⟩), .int .i64 0, .int .i64 s, .string key, .pointer (some ⟨r, 0, none⟩), .int .i64 0, .int .i64 s, .string key, .string tp0] 42), .sl 9 1 aw s.toNat s.toNat (eS.row want)]) (fun J hJ => ?_) ?_
  · try simp only [bs] at w
    refine M.loop_of (I := fun (i : Int) h' => ∃ (m : Nat) (g : ByteArray → Option ByteArray), m ≤ TT.length ∧ i = (m : Int) ∧ Met g (PL (TT.take m)) ∧ Wd h h' ([bankC p (B1.set 0 D'), rbankC r B0, .blk x (.cells #[.pointer (some ⟨p, 0, none⟩), .int .i64 0, .int .i64 s, .string key, .pointer (some ⟨r, 0, none⟩), .int .i64 0, .int .i64 s, .string key, .string tp0] 42), .sl 9 1 aw s.toNat s.toNat (eS.row want)] ++ [.sl 9 1 a13 TT.length c13 (eS.row TT), msC b14 g])) (μ := fun i => (TT.length - i).toNat)
      ⟨0, _, by omega, rfl, fun x hx => by simp [PL] at hx, w⟩ ?_
    clear w
    rintro _ h15 J3 ⟨m, g, hm, rfl, hg, w⟩ hJ3
    by_cases hlt : m < TT.length
    · refine cdt (by omega) ?_
      have v1 : IntKind.wrap .i64 ((m : Int) + 1) = ((m + 1 : Nat) : Int) := by rw [IntKind.wrap_i64]; omega
      try simp only [bs] at w
      refine Ro.ldS (w.ro 4 rfl (by decide)) (by omega) (by omega) ?_
      refine M.new_w w fun b8 h7 w => ?_
      have htz : (sa TT m).size ≤ 2048 := hTz2 _ (sa_mem hlt)
      simp only [Int.toNat_natCast]
      have w := w.mv (i := 5) rfl
      refine M.loop_of (I := fun (j : Int) h' => ∃ (jj : Nat) (g : ByteArray → Option ByteArray), jj ≤ 2 ∧ j = (jj : Int) ∧ Met g (PL (TT.take m) ++ [pre 0 (sa TT m), pre 1 (sa TT m)].take jj) ∧ Wd h h' [bankC p (B1.set 0 D'), rbankC r B0, .blk x (.cells #[.pointer (some ⟨p, 0, none⟩), .int .i64 0, .int .i64 s, .string key, .pointer (some ⟨r, 0, none⟩), .int .i64 0, .int .i64 s, .string key, .string tp0] 42), .sl 9 1 aw s.toNat s.toNat (eS.row want), .sl 9 1 a13 TT.length c13 (eS.row TT), .blk b8 (.cells #[.string ⟨#[0]⟩, .string ⟨#[1]⟩] 9), msC b14 g]) (μ := fun j => (2 - j).toNat)
        ⟨0, g, by omega, rfl, by simpa using hg, w⟩ ?_
      clear w hg
      rintro _ h16 J4 ⟨jj, g, hjj, rfl, hg, w⟩ hJ4
      have hjc : jj = 0 ∨ jj = 1 ∨ jj = 2 := by omega
      rcases hjc with rfl | rfl | rfl
      · refine cdt (by decide) ?_
        refine M.idx_at (j := 0) rfl (by decide) ?_
        simp only [bs, Nat.reduceAdd, Nat.reduceMul, Int.reduceToNat, lb (w.blk 2 rfl), lb (w.blk 5 rfl)]
        refine ⟨(by simp only [szs]; omega), ?_⟩
        obtain ⟨y, hy⟩ : ∃ y, y = pre 0 (sa TT m) := ⟨_, rfl⟩
        have ey : (⟨#[0]⟩ : ByteArray) ++ sa TT m = y := hy.symm
        have hys : y.size ≤ 2049 := by rw [hy, pre_size]; omega
        rw [ey]
        refine sha_spec (by omega) (tb.keep w.keep) fun h17 kk => ?_
        have w := w.keeps kk
        refine ms_lk2 Tryz.underlying63 w (i := 6) rfl ?_
        simp only [bs, Nat.reduceAdd, Nat.reduceMul, Int.reduceToNat, lb (w.blk 2 rfl), lb (w.blk 5 rfl)]
        refine M.join_of (fun (q : Bool) h' => (q = false → g (digestT y) = none ∨ g (digestT y) = some y) ∧ Wd h h' [bankC p (B1.set 0 D'), rbankC r B0, .blk x (.cells #[.pointer (some ⟨p, 0, none⟩), .int .i64 0, .int .i64 s, .string key, .pointer (some ⟨r, 0, none⟩), .int .i64 0, .int .i64 s, .string key, .string tp0] 42), .sl 9 1 aw s.toNat s.toNat (eS.row want), .sl 9 1 a13 TT.length c13 (eS.row TT), .blk b8 (.cells #[.string ⟨#[0]⟩, .string ⟨#[1]⟩] 9), msC b14 g]) (fun J5 hJ5 => ?_) ?_
        · refine cc (fun e => ?_) fun e => hJ5 _ _ ⟨fun _ => .inl (by cases hg : g (digestT y) with | none => rfl | some v => rw [hg] at e; cases e), w⟩
          refine ⟨(by simp only [szs]; omega), ?_⟩
          rw [ey]
          refine hJ5 _ _ ⟨fun e2 => .inr ?_, w⟩
          cases hgy : g (digestT y) with
          | none => rw [hgy] at e; cases e
          | some v =>
            rw [hgy] at e2
            have : strEq v y = true := by simpa using e2
            rw [strEq_iff.1 this]
        · clear w
          rintro q h18 ⟨hq, w⟩
          cases q with
          | true => exact ct rfl (k _ w.keep)
          | false =>
            refine cf rfl ?_
            refine ⟨(by simp only [szs]; omega), ?_⟩
            rw [ey]
            refine ms_put Tryz.underlying63 w (i := 6) rfl fun h19 w => ?_
            refine M.vis (1 : Int) (by decide) (hJ4 _ _ ⟨1, _, by omega, rfl, ?_, w⟩ (by omega))
            have := hg.push (hq rfl)
            rw [hy] at this ⊢
            simpa using this
      · refine cdt (by decide) ?_
        refine M.idx_at (j := 1) rfl (by decide) ?_
        simp only [bs, Nat.reduceAdd, Nat.reduceMul, Int.reduceToNat, lb (w.blk 2 rfl), lb (w.blk 5 rfl)]
        refine ⟨(by simp only [szs]; omega), ?_⟩
        obtain ⟨y, hy⟩ : ∃ y, y = pre 1 (sa TT m) := ⟨_, rfl⟩
        have ey : (⟨#[1]⟩ : ByteArray) ++ sa TT m = y := hy.symm
        have hys : y.size ≤ 2049 := by rw [hy, pre_size]; omega
        rw [ey]
        refine sha_spec (by omega) (tb.keep w.keep) fun h17 kk => ?_
        have w := w.keeps kk
        refine ms_lk2 Tryz.underlying63 w (i := 6) rfl ?_
        simp only [bs, Nat.reduceAdd, Nat.reduceMul, Int.reduceToNat, lb (w.blk 2 rfl), lb (w.blk 5 rfl)]
        refine M.join_of (fun (q : Bool) h' => (q = false → g (digestT y) = none ∨ g (digestT y) = some y) ∧ Wd h h' [bankC p (B1.set 0 D'), rbankC r B0, .blk x (.cells #[.pointer (some ⟨p, 0, none⟩), .int .i64 0, .int .i64 s, .string key, .pointer (some ⟨r, 0, none⟩), .int .i64 0, .int .i64 s, .string key, .string tp0] 42), .sl 9 1 aw s.toNat s.toNat (eS.row want), .sl 9 1 a13 TT.length c13 (eS.row TT), .blk b8 (.cells #[.string ⟨#[0]⟩, .string ⟨#[1]⟩] 9), msC b14 g]) (fun J5 hJ5 => ?_) ?_
        · refine cc (fun e => ?_) fun e => hJ5 _ _ ⟨fun _ => .inl (by cases hg : g (digestT y) with | none => rfl | some v => rw [hg] at e; cases e), w⟩
          refine ⟨(by simp only [szs]; omega), ?_⟩
          rw [ey]
          refine hJ5 _ _ ⟨fun e2 => .inr ?_, w⟩
          cases hgy : g (digestT y) with
          | none => rw [hgy] at e; cases e
          | some v =>
            rw [hgy] at e2
            have : strEq v y = true := by simpa using e2
            rw [strEq_iff.1 this]
        · clear w
          rintro q h18 ⟨hq, w⟩
          cases q with
          | true => exact ct rfl (k _ w.keep)
          | false =>
            refine cf rfl ?_
            refine ⟨(by simp only [szs]; omega), ?_⟩
            rw [ey]
            refine ms_put Tryz.underlying63 w (i := 6) rfl fun h19 w => ?_
            refine M.vis (2 : Int) (by decide) (hJ4 _ _ ⟨2, _, by omega, rfl, ?_, w⟩ (by omega))
            have := hg.push (hq rfl)
            rw [hy] at this ⊢
            simpa using this
      · refine cdf (by decide) ?_
        refine M.vis _ v1 (hJ3 _ _ ⟨m + 1, g, by omega, rfl, ?_, w.drop (i := 5) rfl⟩ (by omega))
        rw [PL_take hlt]
        exact hg
    · refine cdf (by omega) ?_
      obtain rfl : m = TT.length := by omega
      rw [List.take_length] at hg
      exact hJ _ _ ⟨hg.lone, w.first 4⟩
  clear w
  rintro _ h15 ⟨lo, w⟩
  have hN : 2 ^ dep s = s.toNat := two_pow_dep hd
  refine M.loop_of (I := fun (i : Int) h' => ∃ m : Nat, (m : Int) ≤ s ∧ i = (m : Int) ∧ Wd h h' [bankC p (B1.set 0 D'), rbankC r B0, .blk x (.cells #[.pointer (some ⟨p, 0, none⟩), .int .i64 0, .int .i64 s, .string key, .pointer (some ⟨r, 0, none⟩), .int .i64 0, .int .i64 s, .string key, .string tp0] 42), .sl 9 1 aw s.toNat s.toNat (eS.row want)]) (μ := fun i => (s - i).toNat) ⟨0, by omega, rfl, w⟩ ?_
  clear w
  rintro _ h16 J3 ⟨m, hm, rfl, w⟩ hJ3
  by_cases hlt : (m : Int) < s
  · refine cdt (by omega) ?_
    have v1 : IntKind.wrap .i64 ((m : Int) + 1) = ((m + 1 : Nat) : Int) := by rw [IntKind.wrap_i64]; omega
    refine Ro.ldS (w.ro 3 rfl (by decide)) (by omega) (by omega) ?_
    simp only [bs, Nat.reduceAdd, Nat.reduceMul, Int.reduceToNat, Int.toNat_natCast, lb (w.blk 2 rfl)]
    obtain ⟨hx9, k0, k1, wx, wr, bk⟩ := w.on (i := 0) rfl
    refine Get_spec wx hv.ti.sm (tb.keep w.keep) fun h17 kk => ?_
    have w := w.keeps kk
    clear bk wr wx k1 k0 hx9
    refine M.join_of (fun (q : Bool) h' => q = false ∧ Wd h h' [bankC p (B1.set 0 D'), rbankC r B0, .blk x (.cells #[.pointer (some ⟨p, 0, none⟩), .int .i64 0, .int .i64 s, .string key, .pointer (some ⟨r, 0, none⟩), .int .i64 0, .int .i64 s, .string key, .string tp0] 42), .sl 9 1 aw s.toNat s.toNat (eS.row want)]) (fun J5 hJ5 => ?_) ?_
    · by_cases e : (getM (B1.set 0 D') key 0 s tp' m).2 = 0
      · have hgt := get_tells (B' := B1.set 0 D') (key := key) sl'.lv hv hk sl'.ho (s := m) (by omega) lo hTN1 hTN2 e
        obtain ⟨z1, nonce, z2, z3⟩ := wt m (by omega)
        rw [z3, cell_sealed z2] at hgt
        rw [hgt]
        simp only
        refine ct rfl ?_
        refine cf (by rw [strEq_iff.2 rfl]; rfl) ?_
        exact cf rfl (hJ5 _ _ ⟨rfl, w⟩)
      · rw [getM_err e]
        refine cf (by rw [beq_eq_false_iff_ne]; exact e) ?_
        refine ct (by rw [bne_iff_ne]; exact e) ?_
        exact hJ5 _ _ ⟨by rw [strEq_iff.2 rfl]; rfl, w⟩
    · clear w
      rintro _ h18 ⟨rfl, w⟩
      exact cf rfl (M.vis _ v1 (hJ3 _ _ ⟨m + 1, by omega, rfl, w⟩ (by omega)))
  · exact cdf (by omega) (k _ w.keep)
end Go.Proofs.YthegnmanjdlmjaaGreatDoor

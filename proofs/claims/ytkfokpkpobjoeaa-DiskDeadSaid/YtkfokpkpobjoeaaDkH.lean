/- The disk's statements, walked: DiskLasts. -/
import Derived.Test.YtkfokpkpobjoeaaDkG
import Derived.Test.YtkfokpkpobjoeaaShB4
namespace Go.Proofs.Ytkfokpkpobjoeaa
open Go.Sh Go.RowKit Classical
set_option linter.unusedSimpArgs false
set_option linter.unusedVariables false

abbrev okS : Value → Prop := fun v => ∃ s, v = .string s
/-- A set of texts, as a map. -/
def mapC (b : Nat) (S : List ByteArray) : Chunk where
  holds F h := (∀ x, F x ↔ x = b) ∧ ∃ f n, MapIs okS h b f n ∧ ∀ s, f (.string s) = if s ∈ S then some (.bool true) else none
  loc := fun {F h h'} ⟨hF, f, n, ⟨es, c, hb, r⟩, hf⟩ hs => ⟨hF, f, n, ⟨es, c, (hs b ((hF b).2 rfl)).trans hb, r⟩, hf⟩
  dom := fun {F h x} ⟨hF, f, n, ⟨es, c, hb, r⟩, hf⟩ hx => by rw [(hF x).1 hx, hb]; simp
section
variable {h0 h : H} {d : Nat} {D : DiskM} {at_ : Int} {s : ByteArray} {L : List Chunk}
theorem keysS : Keys Try.prog 9 okS := keys_str Try.underlying9
theorem map_put {b i : Nat} {S : List ByteArray} {K : H → Prop} (w : Wd h0 h L) (hi : L[i]? = some (mapC b S)) (k : ∀ h', Wd h0 h' (L.set i (mapC b (s :: S))) → K h') : M.mput Try.prog 31 (.map (some b)) (.string s) (.bool true) h K := by
  obtain ⟨h1, _, k1, w1, _, back⟩ := w.on hi
  obtain ⟨F, ⟨hF, f, n, m, hf⟩, hn⟩ := w1.get (i := 0) rfl
  refine mput_of Try.underlying31 keysS m ⟨s, rfl⟩ fun h' u m' => k h' (back _ _ (Wd.one (u.keep k1 (hn b ((hF b).2 rfl))) (F := F) ⟨hF, _, _, m', fun t => ?_⟩ hn))
  by_cases e : t = s
  · simp [e]
  · simp [e, hf]
theorem map_get {b i : Nat} {S : List ByteArray} {K : Value → H → Prop} (w : Wd h0 h L) (hi : L[i]? = some (mapC b S)) (k : K (.bool (decide (s ∈ S))) h) : M.lk Try.prog 31 (.map (some b)) (.string s) h K := by
  obtain ⟨F, ⟨hF, f, n, m, hf⟩, hn⟩ := w.get hi
  have hz : ∀ w, (zeroValue 4).run Try.prog w = .ok (.bool false) w := fun w => by kernel_rfl
  refine lk_of Try.underlying31 keysS hz m ⟨s, rfl⟩ ?_
  rw [hf]
  by_cases e : s ∈ S <;> simpa [e] using k
theorem map_new {b i : Nat} (hi : L[i]? = some (.blk b (.map #[] 0))) (w : Wd h0 h L) : Wd h0 h (L.set i (mapC b [])) :=
  w.weaken hi fun F h ⟨hF, hb⟩ => ⟨hF, fun _ => none, 0, MapIs.new hb, fun s => by simp⟩
def mayL (bs : List Nat) (Ss : List (List ByteArray)) : List Chunk := List.zipWith mapC bs Ss
theorem mayL_get {bs : List Nat} {Ss : List (List ByteArray)} {j : Nat} (h1 : j < bs.length) (h2 : j < Ss.length) : (mayL bs Ss)[j]? = some (mapC bs[j] Ss[j]) := by
  unfold mayL
  rw [List.getElem?_zipWith]
  simp [h1, h2]
theorem mayL_set {bs : List Nat} {Ss : List (List ByteArray)} {j : Nat} (h1 : j < bs.length) (S : List ByteArray) : (mayL bs Ss).set j (mapC bs[j] S) = mayL bs (Ss.set j S) := by
  unfold mayL
  apply List.ext_getElem?
  intro x
  rw [List.getElem?_set, List.getElem?_zipWith, List.getElem?_zipWith, List.getElem?_set]
  by_cases hx : j = x
  · subst hx
    simp only [if_true, List.length_zipWith]
    by_cases h2 : j < Ss.length
    · simp [h1, h2]; omega
    · simp [h1, h2]; omega
  · simp [hx]
theorem mayL_app {bs : List Nat} {Ss : List (List ByteArray)} (hl : bs.length = Ss.length) (b : Nat) (S : List ByteArray) : mayL (bs ++ [b]) (Ss ++ [S]) = mayL bs Ss ++ [mapC b S] := by
  unfold mayL
  rw [List.zipWith_append hl]; rfl
def mayCells (bs : List Nat) (n : Nat) : Array Value := (bs.map (fun b => Value.map (some b)) ++ List.replicate n (Value.map none)).toArray
theorem mayCells_put (bs : List Nat) (n b : Nat) : (mayCells bs (n + 1)).setIfInBounds bs.length (.map (some b)) = mayCells (bs ++ [b]) n := by
  unfold mayCells
  rw [List.setIfInBounds_toArray, List.set_append_right _ _ (by simp)]
  simp [List.replicate_succ]
theorem mayCells_get {bs : List Nat} {n j : Nat} (hj : j < bs.length) : (mayCells bs n)[j]? = some (.map (some bs[j])) := by
  unfold mayCells
  rw [List.getElem?_toArray, List.getElem?_append_left (by simpa using hj)]
  simp [hj]
theorem crashL_in {Ss : List (List ByteArray)} : ∀ (W : List (Int × ByteArray)) (ks : List Bool) (L : List ByteArray), (∀ w ∈ W, ∀ S, Ss[w.1.toNat]? = some S → w.2 ∈ S) → (∀ (j : Nat) s S, L[j]? = some s → Ss[j]? = some S → s ∈ S) → ∀ (j : Nat) s S, (DiskM.crashL W ks L)[j]? = some s → Ss[j]? = some S → s ∈ S
  | [], ks, L, _, hL => by cases ks <;> exact hL
  | w :: W, [], L, _, hL => hL
  | w :: W, k :: ks, L, hW, hL => by
    refine crashL_in W ks _ (fun v hv => hW v (by simp [hv])) fun j s S hs hS => ?_
    cases k
    · exact hL j s S hs hS
    · simp only [if_true] at hs
      rw [List.getElem?_set] at hs
      by_cases hj : w.1.toNat = j
      · rw [if_pos hj] at hs
        split at hs
        · simp only [Option.some.injEq] at hs
          subst hs
          subst hj
          exact hW w (by simp) S hS
        · simp at hs
      · rw [if_neg hj] at hs
        exact hL j s S hs hS
theorem lasts {ca sa ka : Option Addr} {cl cc sl sc kl kc : Nat} {cells : List ByteArray} {ms : List ActM} {kept : List Bool} {Q : Bool → H → Prop} (hcs : Texts h ca cl cells) (hcc : cl ≤ cc) (hs : Acts h sa sl ms) (hc : sl ≤ sc)
    (hk : kept.length = kl) (h0k : ka = none → kl = 0) (hr : ∀ b, ka = some b → Sh.rowAt h b (kept.map Value.bool)) (hkc : kl ≤ kc) (k : ∀ h', Keep h h' → Q true h') : law09_DiskLasts ca cl cc sa sl sc ka kl kc h Q := by
  unfold law09_DiskLasts law09_DiskLasts.g
  obtain ⟨hm1, hm2, hm3⟩ := mn_take (l := cl) (n := 20) (by omega)
  refine M.sub0 hm2 (by omega) ?_
  have hcs := hcs.take (min cl 20) (Nat.min_le_left _ _)
  rw [show (mn ((cl : Nat) : Int) (20 : Int)).toNat = min cl 20 from hm1]
  obtain ⟨hm1, hm2, hm3⟩ := mn_take (l := sl) (n := 40) (by omega)
  refine M.sub0 hm2 (by omega) ?_
  have hs := hs.take (min sl 40) (Nat.min_le_left _ _)
  rw [show (mn ((sl : Nat) : Int) (40 : Int)).toNat = min sl 40 from hm1]
  obtain ⟨hm1, hm2, hm3⟩ := mn_take (l := kl) (n := 60) (by omega)
  refine M.sub0 hm2 (by omega) ?_
  rw [show (mn ((kl : Nat) : Int) (60 : Int)).toNat = min kl 60 from hm1]
  have hk' : (kept.take (min kl 60)).length = min kl 60 := by simp [hk]
  have h0k' : ka = none → min kl 60 = 0 := fun e => by have := h0k e; omega
  have hr' : ∀ b, ka = some b → Sh.rowAt h b ((kept.take (min kl 60)).map Value.bool) := fun b e => by rw [List.map_take]; exact row_take (hr b e) _
  have hcl : min cl 20 ≤ 20 := by omega
  have hsl : min sl 40 ≤ 40 := by omega
  generalize min cl 20 = cl at hcs hcl
  generalize min sl 40 = sl at hs hsl
  generalize min kl 60 = kl at hk' h0k' hr'
  generalize cells.take cl = cells at hcs
  generalize ms.take sl = ms at hs
  generalize kept.take kl = kept at hk' hr'
  refine New_spec fun d h1 w => ?_
  refine wakes_spec fun h2 k2 => ?_
  have w := w.keeps k2
  simp only [Bool.not_true, cond_false]
  refine M.mk_w w (by omega) (by omega) (by omega) (by omega) fun ab h3 w => ?_
  have e0 : (zerosOf [Value.map none] (Int.toNat 20)).toArray = mayCells [] 20 := rfl
  rw [e0] at w
  have n20 : (DiskM.new 20).N.length = 20 := by decide +kernel
  refine M.jn ?_
  refine M.loop_of (I := fun (i : Int) h' => 0 ≤ i ∧ i ≤ 20 ∧ ∃ (D : DiskM) (bs : List Nat) (Ss : List (List ByteArray)), Wd h h' ([diskC d D, .blk ab (.cells (mayCells bs (20 - i.toNat)) 31 (0, 0))] ++ mayL bs Ss) ∧ D.W.length ≤ i.toNat ∧ D.N.length = 20 ∧ D.dead = false ∧ bs.length = i.toNat ∧ Ss.length = i.toNat ∧
      ∀ (j : Nat) s S, j < i.toNat → D.N[j]? = some s → Ss[j]? = some S → s ∈ S) (μ := fun i => (20 - i).toNat) ⟨by omega, by omega, _, [], [], w, by simp [DiskM.new], n20, rfl, rfl, rfl, fun j s S hj => by simp at hj⟩ ?_
  rintro i h4 J ⟨hi0, hi1, D, bs, Ss, w, hW, hN, hdead, hbl, hSl, hin⟩ hJ
  by_cases hlt : i < ((Int.toNat 20 : Nat) : Int)
  · have hlt' : i < 20 := hlt
    simp only [hlt, decide_true, cond_true]
    refine M.join_of (fun s h' => s.size ≤ 2048 ∧ h4 = h') (fun J2 hJ2 => ?_) ?_
    · by_cases hi2 : i < cl
      · have hi3 : i.toNat < cells.length := by rw [hcs.len]; omega
        cases ca with
        | none => have := hcs.nil rfl; omega
        | some b =>
          have ck : h4.cell (b.add i.toNat) = some (.string cells[i.toNat]) := w.keep.cell (by rw [hcs.row b rfl _ (by simpa using hi3)]; simp [hi3])
          simp only [hi2, decide_true, cond_true]
          refine M.idx_of hi0 hi2 ?_
          simp only [addr_add, load_eq, Nat.zero_add, Nat.add_zero, Nat.mul_one, Nat.one_mul, Nat.zero_mul, Nat.reduceAdd, List.setIfInBounds_toArray, List.set_cons_zero, List.set_cons_succ, List.getElem?_toArray, List.getElem?_cons_zero, List.getElem?_cons_succ, some_and, int_eq, bool_eq, str_eq, slc_eq, ptr_eq, nn_eq, M.val, cond_true, cond_false, Bool.not_true, Bool.not_false, ck]
          refine M.idx_of hi0 hi2 ?_
          simp only [addr_add, load_eq, Nat.zero_add, Nat.add_zero, Nat.mul_one, Nat.one_mul, Nat.zero_mul, Nat.reduceAdd, List.setIfInBounds_toArray, List.set_cons_zero, List.set_cons_succ, List.getElem?_toArray, List.getElem?_cons_zero, List.getElem?_cons_succ, some_and, int_eq, bool_eq, str_eq, slc_eq, ptr_eq, nn_eq, M.val, cond_true, cond_false, Bool.not_true, Bool.not_false, ck]
          have e1 : (0 : Int) ≤ mn (cells[i.toNat].size : Int) 50 ∧ mn (cells[i.toNat].size : Int) 50 ≤ cells[i.toNat].size ∧ (mn (cells[i.toNat].size : Int) 50).toNat ≤ 50 := by unfold mn; split <;> omega
          refine ⟨Int.le_refl 0, e1.1, e1.2.1, hJ2 _ _ ⟨?_, rfl⟩⟩
          rw [ByteArray.size_extract]
          omega
      · simp only [hi2, decide_false, cond_false]
        exact hJ2 _ _ ⟨by simp, rfl⟩
    · rintro s _ ⟨hsz, rfl⟩
      have hu : D.usable i = 0 := DiskM.usable_zero.2 ⟨hdead, hi0, by omega⟩
      have hwr : D.write i s = (0, { D with N := D.N.set i.toNat s, W := D.W ++ [(i, s)] }) := by
        unfold DiskM.write
        simp only [hu, ne_eq, not_true, if_false]
        rw [if_neg (by omega)]
      obtain ⟨hx, k0, k1, wx, wr, back⟩ := w.on (i := 0) rfl
      refine Write_spec wx (by omega) fun h5 w1 => ?_
      have w := back _ _ w1
      rw [hwr] at w
      simp only [hwr, bne_self_eq_false, cond_false]
      refine M.new_w w fun b h6 w => ?_
      have hidx : ([diskC d { D with N := D.N.set i.toNat s, W := D.W ++ [(i, s)] }, Chunk.blk ab (.cells (mayCells bs (20 - i.toNat)) 31 (0, 0))] ++ mayL bs Ss ++ [Chunk.blk b (.map #[] 0)])[i.toNat + 2]? = some (.blk b (.map #[] 0)) := by
        rw [List.getElem?_append_right (by simp [mayL, hbl, hSl])]
        simp [mayL, hbl, hSl]
      have w := map_new hidx w
      have hset : ∀ X, ([diskC d { D with N := D.N.set i.toNat s, W := D.W ++ [(i, s)] }, Chunk.blk ab (.cells (mayCells bs (20 - i.toNat)) 31 (0, 0))] ++ mayL bs Ss ++ [Chunk.blk b (.map #[] 0)]).set (i.toNat + 2) X = [diskC d { D with N := D.N.set i.toNat s, W := D.W ++ [(i, s)] }, Chunk.blk ab (.cells (mayCells bs (20 - i.toNat)) 31 (0, 0))] ++ mayL bs Ss ++ [X] := by
        intro X
        rw [List.set_append_right _ _ (by simp [mayL, hbl, hSl])]
        simp [mayL, hbl, hSl]
      refine map_put w (by rw [List.getElem?_set_self (by simp [mayL, hbl, hSl])]) fun h7 w => ?_
      rw [List.set_set, hset] at w
      refine M.idx_of hi0 hlt ?_
      simp only [addr_add, load_eq, Nat.zero_add, Nat.add_zero, Nat.mul_one, Nat.one_mul, Nat.zero_mul, Nat.reduceAdd, List.setIfInBounds_toArray, List.set_cons_zero, List.set_cons_succ, List.getElem?_toArray, List.getElem?_cons_zero, List.getElem?_cons_succ, some_and, int_eq, bool_eq, str_eq, slc_eq, ptr_eq, nn_eq, M.val, cond_true, cond_false, Bool.not_true, Bool.not_false]
      have w : Wd h h7 ([diskC d { D with N := D.N.set i.toNat s, W := D.W ++ [(i, s)] }, Chunk.blk ab (.cells (mayCells bs (20 - i.toNat)) 31 (0, 0))] ++ mayL (bs ++ [b]) (Ss ++ [[s]])) := by
        rw [mayL_app (by omega), ← List.append_assoc]; exact w
      refine M.put_w w 1 rfl rfl (by simp [mayCells]; omega) fun h8 w => ?_
      have e2 : (mayCells bs (20 - i.toNat)).setIfInBounds i.toNat (.map (some b)) = mayCells (bs ++ [b]) (20 - (i + 1).toNat) := by
        rw [show 20 - i.toNat = (20 - (i + 1).toNat) + 1 by omega, ← hbl, mayCells_put]
      rw [e2] at w
      rw [wrap1 hi0 (by omega)]
      refine hJ _ _ ⟨by omega, by omega, _, _, _, w, by simp; omega, by simpa using hN, hdead, by simp; omega, by simp; omega, fun j t S hj ht hS => ?_⟩ (by omega)
      simp only at ht
      by_cases hji : j = i.toNat
      · subst hji
        rw [List.getElem?_set_self (by omega)] at ht
        rw [List.getElem?_append_right (by omega)] at hS
        simp only [hSl, Nat.sub_self, List.getElem?_cons_zero, Option.some.injEq] at hS ht
        subst hS; subst ht; simp
      · rw [List.getElem?_set_ne (by omega)] at ht
        rw [List.getElem?_append_left (by omega)] at hS
        exact hin j t S (by omega) ht hS
  · have hi : i = 20 := by
      have : ¬ i < 20 := hlt
      omega
    subst hi
    simp only [hlt, decide_false, cond_false]
    clear hJ
    obtain ⟨hx, k0, k1, wx, wr, back⟩ := w.on (i := 0) rfl
    refine Flush_spec wx fun h5 w1 => ?_
    have w := back _ _ w1
    have hfl : D.flush = (0, { D with L := D.N, W := [] }) := by simp [DiskM.flush, hdead]
    rw [hfl] at w
    simp only [hfl, bne_self_eq_false, cond_false]
    refine M.jn ?_
    have hbl' : bs.length = 20 := hbl
    refine M.loop_of (I := fun (i : Int) h' => 0 ≤ i ∧ i ≤ sl ∧ ∃ (E : DiskM) (Ss : List (List ByteArray)), Wd h h' ([diskC d E, .blk ab (.cells (mayCells bs 0) 31 (0, 0))] ++ mayL bs Ss) ∧ E.W.length ≤ i.toNat ∧ E.N.length = 20 ∧ E.L.length = 20 ∧ E.dead = false ∧ Ss.length = 20 ∧
      (∀ (j : Nat) s S, E.L[j]? = some s → Ss[j]? = some S → s ∈ S) ∧ ∀ w ∈ E.W, ∀ S, Ss[w.1.toNat]? = some S → w.2 ∈ S) (μ := fun i => (sl - i).toNat) ⟨by omega, by omega, _, Ss, w, by simp, hN, hN, hdead, hSl, fun j s S hs hS => ?_, by simp⟩ ?_
    · exact hin j s S (by have := (List.getElem?_eq_some_iff.1 hs).1; simp only at this; omega) hs hS
    clear hin w hSl
    rintro i h6 J ⟨hi0, hi1, E, Ss, w, hEW, hEN, hEL, hEd, hSl, hEin, hEw⟩ hJ
    by_cases hlt : i < sl
    · have hlt' : i.toNat < ms.length := by rw [hs.len]; omega
      cases sa with
      | none => have := hs.nil rfl; omega
      | some sb =>
        obtain ⟨hrow, ha⟩ := hs.row sb rfl i.toNat _ (List.getElem?_eq_getElem hlt')
        generalize ms[i.toNat] = m at hrow ha
        obtain ⟨c0, c1, c2, c3, c4, c5⟩ := act_cells (w.keep.row hrow)
        simp only [hlt, decide_true, cond_true]
        refine M.idx_of hi0 hlt ?_
        simp only [addr_add, load_eq, Nat.zero_add, Nat.add_zero, Nat.mul_one, Nat.one_mul, Nat.zero_mul, Nat.reduceAdd, List.setIfInBounds_toArray, List.set_cons_zero, List.set_cons_succ, List.getElem?_toArray, List.getElem?_cons_zero, List.getElem?_cons_succ, some_and, int_eq, bool_eq, str_eq, slc_eq, ptr_eq, nn_eq, M.val, cond_true, cond_false, Bool.not_true, Bool.not_false, add2, c0, c1, c2, c3, c4, c5]
        refine M.new_w (Wd.start h6) fun t h7 wt => ⟨rfl, ?_⟩
        refine M.puts_w0 wt 0 rfl (by simp [isPlainCell]) rfl fun h8 wt => ?_
        have w : Wd h h8 ([diskC d E, .blk ab (.cells (mayCells bs 0) 31 (0, 0))] ++ mayL bs Ss ++ [Chunk.blk t (.cells [Value.int .i64 m.do_, .int .i64 m.at_, .string m.data, .int .i64 m.long, .slice m.ka m.kl m.kc, .bool m.die].toArray 34 (0, 0))]) := w.join wt
        have ht := wt.blk 0 rfl
        simp only [addr_add, load_eq, Nat.zero_add, Nat.add_zero, Nat.mul_one, Nat.one_mul, Nat.zero_mul, Nat.reduceAdd, List.setIfInBounds_toArray, List.set_cons_zero, List.set_cons_succ, List.getElem?_toArray, List.getElem?_cons_zero, List.getElem?_cons_succ, some_and, int_eq, bool_eq, str_eq, slc_eq, ptr_eq, nn_eq, M.val, cond_true, cond_false, Bool.not_true, Bool.not_false, cell_in ht]
        refine bytes_spec fun h9 k9 => ?_
        have w := w.keeps k9
        have ht := (wt.keeps k9).blk 0 rfl
        simp only [addr_add, load_eq, Nat.zero_add, Nat.add_zero, Nat.mul_one, Nat.one_mul, Nat.zero_mul, Nat.reduceAdd, List.setIfInBounds_toArray, List.set_cons_zero, List.set_cons_succ, List.getElem?_toArray, List.getElem?_cons_zero, List.getElem?_cons_succ, some_and, int_eq, bool_eq, str_eq, slc_eq, ptr_eq, nn_eq, M.val, cond_true, cond_false, Bool.not_true, Bool.not_false, cell_in ht]
        have hidx : ([diskC d E, Chunk.blk ab (.cells (mayCells bs 0) 31 (0, 0))] ++ mayL bs Ss ++ [Chunk.blk t (.cells [Value.int .i64 m.do_, .int .i64 m.at_, .string m.data, .int .i64 m.long, .slice m.ka m.kl m.kc, .bool m.die].toArray 34 (0, 0))])[22]? = some (Chunk.blk t (.cells [Value.int .i64 m.do_, .int .i64 m.at_, .string m.data, .int .i64 m.long, .slice m.ka m.kl m.kc, .bool m.die].toArray 34 (0, 0))) := by
          rw [List.getElem?_append_right (by simp [mayL, hbl', hSl])]
          simp [mayL, hbl', hSl]
        obtain ⟨hx, k0, k1, wx, wr, back⟩ := w.on (i := 0) rfl
        refine Write_spec wx (by omega) fun h10 w1 => ?_
        have w := back _ _ w1
        have ht := w.blk 22 (by rw [List.getElem?_set_ne (by omega)]; exact hidx)
        have hl := E.write_len m.at_ (bytesZ m.data m.long)
        have hL : (E.write m.at_ (bytesZ m.data m.long)).2.L = E.L := by
          unfold DiskM.write
          split
          · rfl
          · split <;> rfl
        have w : Wd h h10 ([diskC d (E.write m.at_ (bytesZ m.data m.long)).2, Chunk.blk ab (.cells (mayCells bs 0) 31 (0, 0))] ++ mayL bs Ss) := by
          have := w.drop (i := 22) (by rw [List.getElem?_set_ne (by omega)]; exact hidx)
          have e : ∀ X Y Z : Chunk, (([X, Y] ++ mayL bs Ss ++ [Z]).eraseIdx 22) = [X, Y] ++ mayL bs Ss := fun X Y Z => by
            rw [List.eraseIdx_append_of_length_le (by simp [mayL, hbl', hSl])]
            simp [mayL, hbl', hSl]
          rw [show ∀ X Y Z W : Chunk, ([X, Y] ++ mayL bs Ss ++ [Z]).set 0 W = [W, Y] ++ mayL bs Ss ++ [Z] from fun _ _ _ _ => rfl, e] at this
          exact this
        by_cases he : (E.write m.at_ (bytesZ m.data m.long)).1 = 0
        · have hu : E.usable m.at_ = 0 := by
            by_cases hu : E.usable m.at_ = 0
            · exact hu
            · simp only [DiskM.write, hu, ne_eq, not_false_iff, if_true] at he
          have hsz : ¬ ((bytesZ m.data m.long).size : Int) > 2048 := fun hs => by simp [DiskM.write, hu, hs] at he
          have hwr : E.write m.at_ (bytesZ m.data m.long) = (0, { E with N := E.N.set m.at_.toNat (bytesZ m.data m.long), W := E.W ++ [(m.at_, bytesZ m.data m.long)] }) := by
            simp [DiskM.write, hu, hsz]
          have hat := DiskM.usable_zero.1 hu
          simp only [he, beq_self_eq_true, cond_true]
          refine M.jn ?_
          simp only [addr_add, load_eq, Nat.zero_add, Nat.add_zero, Nat.mul_one, Nat.one_mul, Nat.zero_mul, Nat.reduceAdd, List.setIfInBounds_toArray, List.set_cons_zero, List.set_cons_succ, List.getElem?_toArray, List.getElem?_cons_zero, List.getElem?_cons_succ, some_and, int_eq, bool_eq, str_eq, slc_eq, ptr_eq, nn_eq, M.val, cond_true, cond_false, Bool.not_true, Bool.not_false, cell_in ht, show decide (m.at_ < 0) = false from decide_eq_false (by omega), show decide (m.at_ ≥ ((Int.toNat 20 : Nat) : Int)) = false from decide_eq_false (by have := hat.2.2; rw [hEN] at this; show ¬ m.at_ ≥ 20; omega)]
          refine M.idx_of hat.2.1 (by have := hat.2.2; rw [hEN] at this; exact this) ?_
          have hj : m.at_.toNat < bs.length := by have := hat.2.2; omega
          have hjS : m.at_.toNat < Ss.length := by have := hat.2.2; omega
          have hab := w.blk 1 rfl
          simp only [addr_add, load_eq, Nat.zero_add, Nat.add_zero, Nat.mul_one, Nat.one_mul, Nat.zero_mul, Nat.reduceAdd, List.setIfInBounds_toArray, List.set_cons_zero, List.set_cons_succ, List.getElem?_toArray, List.getElem?_cons_zero, List.getElem?_cons_succ, some_and, int_eq, bool_eq, str_eq, slc_eq, ptr_eq, nn_eq, M.val, cond_true, cond_false, Bool.not_true, Bool.not_false, cell_in hab, mayCells_get hj, M.map]
          refine ⟨_, rfl, ?_⟩
          refine map_put (i := m.at_.toNat + 2) w (by show (mayL bs Ss)[m.at_.toNat]? = _; exact mayL_get hj hjS) fun h11 w => ?_
          have w : Wd h h11 ([diskC d (E.write m.at_ (bytesZ m.data m.long)).2, Chunk.blk ab (.cells (mayCells bs 0) 31 (0, 0))] ++ (mayL bs Ss).set m.at_.toNat (mapC bs[m.at_.toNat] (bytesZ m.data m.long :: Ss[m.at_.toNat]))) := w
          rw [mayL_set hj] at w
          rw [wrap1 hi0 (by omega)]
          have mono : ∀ (j : Nat) S, (Ss.set m.at_.toNat (bytesZ m.data m.long :: Ss[m.at_.toNat]))[j]? = some S → ∃ S', Ss[j]? = some S' ∧ ∀ x, x ∈ S' → x ∈ S := by
            intro j S hS
            rw [List.getElem?_set] at hS
            by_cases hjj : m.at_.toNat = j
            · rw [if_pos hjj, if_pos hjS] at hS
              simp only [Option.some.injEq] at hS
              subst hS; subst hjj
              exact ⟨_, List.getElem?_eq_getElem hjS, fun x hx => by simp [hx]⟩
            · rw [if_neg hjj] at hS
              exact ⟨S, hS, fun x hx => hx⟩
          refine hJ _ _ ⟨by omega, by omega, _, _, w, by omega, by omega, by rw [hL]; exact hEL, by rw [hl.2.2]; exact hEd, by simpa using hSl, fun j s S hs hS => ?_, fun v hv S hS => ?_⟩ (by omega)
          · rw [hL] at hs
            obtain ⟨S', h1, h2⟩ := mono j S hS
            exact h2 _ (hEin j s S' hs h1)
          · rw [hwr] at hv
            simp only [List.mem_append, List.mem_singleton] at hv
            rcases hv with hv | rfl
            · obtain ⟨S', h1, h2⟩ := mono _ S hS
              exact h2 _ (hEw v hv S' h1)
            · rw [List.getElem?_set_self hjS] at hS
              simp only [Option.some.injEq] at hS
              subst hS; simp
        · have hwr : (E.write m.at_ (bytesZ m.data m.long)).2 = E := by
            unfold DiskM.write at he ⊢
            split
            · rfl
            · rename_i hx
              rw [if_neg hx] at he
              split
              · rfl
              · rename_i hy
                rw [if_neg hy] at he
                exact absurd rfl he
          have hne : ((E.write m.at_ (bytesZ m.data m.long)).1 == 0) = false := by simpa using he
          rw [hwr] at w
          simp only [hne, cond_false, M.val]
          rw [wrap1 hi0 (by omega)]
          exact hJ _ _ ⟨by omega, by omega, _, _, w, by omega, by omega, hEL, hEd, hSl, hEin, hEw⟩ (by omega)
    · simp only [hlt, decide_false, cond_false]
      clear hJ
      have okE := diskOk w 0 rfl
      obtain ⟨hx, k0, k1, wx, wr, back⟩ := w.on (i := 0) rfl
      refine Crash_spec (kept := kept) wx (by omega) hk' h0k' (fun b e => k0.row (hr' b e)) fun h7 w1 => ?_
      have w := back _ _ w1
      have hcr : E.crash kept = { E with L := DiskM.crashL E.W kept E.L, N := DiskM.crashL E.W kept E.L, W := [] } := by simp [DiskM.crash, hEd]
      rw [hcr] at w
      have hcin := crashL_in E.W kept E.L hEw hEin
      have hclen : (DiskM.crashL E.W kept E.L).length = 20 := by rw [DiskM.crashL_length, hEL]
      generalize DiskM.crashL E.W kept E.L = N at w hcin hclen
      refine M.jn ?_
      have w : Wd h h7 ([diskC d { E with L := N, N := N, W := [] }, .blk ab (.cells (mayCells bs 0) 31 (0, 0))] ++ mayL bs Ss) := w
      refine M.loop_of (I := fun (i : Int) h' => 0 ≤ i ∧ i ≤ 20 ∧ Wd h h' ([diskC d { E with L := N, N := N, W := [] }, .blk ab (.cells (mayCells bs 0) 31 (0, 0))] ++ mayL bs Ss)) (μ := fun i => (20 - i).toNat) ⟨by omega, by omega, w⟩ ?_
      rintro i h8 J ⟨hi0, hi1, w⟩ hJ
      by_cases hlt : i < ((Int.toNat 20 : Nat) : Int)
      · have hlt' : i < 20 := hlt
        have hiN : i.toNat < N.length := by omega
        have hiS : i.toNat < Ss.length := by omega
        have hib : i.toNat < bs.length := by omega
        have hu : ({ E with L := N, N := N, W := [] } : DiskM).usable i = 0 := DiskM.usable_zero.2 ⟨hEd, hi0, by simp only; omega⟩
        have hrd : ({ E with L := N, N := N, W := [] } : DiskM).read i = (N[i.toNat], 0) := by simp [DiskM.read, hu, List.getD_eq_getElem?_getD, hiN]
        simp only [hlt, decide_true, cond_true]
        obtain ⟨hx, k0, k1, wx, wr, _⟩ := w.on (i := 0) rfl
        refine Read_spec wx ?_
        simp only [hrd]
        refine M.jn ?_
        simp only [bne_self_eq_false, cond_false]
        refine M.idx_of hi0 hlt ?_
        have hab := w.blk 1 rfl
        simp only [addr_add, load_eq, Nat.zero_add, Nat.add_zero, Nat.mul_one, Nat.one_mul, Nat.zero_mul, Nat.reduceAdd, List.setIfInBounds_toArray, List.set_cons_zero, List.set_cons_succ, List.getElem?_toArray, List.getElem?_cons_zero, List.getElem?_cons_succ, some_and, int_eq, bool_eq, str_eq, slc_eq, ptr_eq, nn_eq, M.val, cond_true, cond_false, Bool.not_true, Bool.not_false, cell_in hab, mayCells_get hib, M.map]
        refine ⟨_, rfl, ?_⟩
        refine map_get (i := i.toNat + 2) w (by show (mayL bs Ss)[i.toNat]? = _; exact mayL_get hib hiS) ?_
        have : decide (N[i.toNat] ∈ Ss[i.toNat]) = true := decide_eq_true (hcin i.toNat _ _ (List.getElem?_eq_getElem hiN) (List.getElem?_eq_getElem hiS))
        simp only [addr_add, load_eq, Nat.zero_add, Nat.add_zero, Nat.mul_one, Nat.one_mul, Nat.zero_mul, Nat.reduceAdd, List.setIfInBounds_toArray, List.set_cons_zero, List.set_cons_succ, List.getElem?_toArray, List.getElem?_cons_zero, List.getElem?_cons_succ, some_and, int_eq, bool_eq, str_eq, slc_eq, ptr_eq, nn_eq, M.val, cond_true, cond_false, Bool.not_true, Bool.not_false, this]
        rw [wrap1 hi0 (by omega)]
        exact hJ _ _ ⟨by omega, by omega, w⟩ (by omega)
      · simp only [hlt, decide_false, cond_false]
        obtain ⟨hx, k0, k1, wx, wr, _⟩ := w.on (i := 0) rfl
        refine Waiting_spec wx ?_
        simp only [List.length_nil, Int.natCast_zero, beq_self_eq_true]
        exact k _ w.keep
end
end Go.Proofs.Ytkfokpkpobjoeaa

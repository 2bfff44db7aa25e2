/- The disk's statements: what an act is, what they do with one. -/
import Derived.Test.YtkfokpkpobjoeaaDkS
namespace Go.Proofs.Ytkfokpkpobjoeaa
open Go.Sh Go.RowKit
set_option linter.unusedSimpArgs false
set_option linter.unusedVariables false

/-- One call, as it is given. -/
structure ActM where
  do_ : Int
  at_ : Int
  data : ByteArray
  long : Int
  ka : Option Addr
  kl : Nat
  kc : Nat
  die : Bool
  kept : List Bool
def ActM.cells (m : ActM) : List Value := [.int .i64 m.do_, .int .i64 m.at_, .string m.data, .int .i64 m.long, .slice m.ka m.kl m.kc, .bool m.die]
structure ActAt (h : H) (m : ActM) : Prop where
  kl : m.kept.length = m.kl
  kc : m.kl ≤ m.kc
  k0 : m.ka = none → m.kl = 0
  row : ∀ b, m.ka = some b → Sh.rowAt h b (m.kept.map Value.bool)
  size : m.data.size ≤ maxLen
theorem ActAt.keep {h h' : H} {m : ActM} (a : ActAt h m) (k : Keep h h') : ActAt h' m := ⟨a.kl, a.kc, a.k0, fun b hb => k.row (a.row b hb), a.size⟩
/-- Calls in a row. -/
structure Acts (h : H) (a : Option Addr) (l : Nat) (ms : List ActM) : Prop where
  len : ms.length = l
  nil : a = none → l = 0
  row : ∀ b, a = some b → ∀ i m, ms[i]? = some m → Sh.rowAt h (b.add (i * 6)) m.cells ∧ ActAt h m
theorem Acts.keep {h h' : H} {a : Option Addr} {l : Nat} {ms : List ActM} (x : Acts h a l ms) (k : Keep h h') : Acts h' a l ms :=
  ⟨x.len, x.nil, fun b hb i m hm => let ⟨h1, h2⟩ := x.row b hb i m hm; ⟨k.row h1, h2.keep k⟩⟩
theorem Acts.take {h : H} {a : Option Addr} {l : Nat} {ms : List ActM} (x : Acts h a l ms) (n : Nat) (hn : n ≤ l) : Acts h a n (ms.take n) :=
  ⟨by simp [x.len, hn], fun e => by have := x.nil e; omega, fun b hb i m hm => by
    rw [List.getElem?_take] at hm
    split at hm
    · exact x.row b hb i m hm
    · simp at hm⟩
/-- The bytes of an act. -/
def rep (s : ByteArray) : Nat → ByteArray
  | 0 => s
  | n + 1 => rep s n ++ s
theorem rep_size (s : ByteArray) : ∀ n, (rep s n).size = (n + 1) * s.size
  | 0 => by simp [rep]
  | n + 1 => by rw [rep, ByteArray.size_append, rep_size s n]; rw [Nat.add_mul (n + 1) 1]; omega
def bytesZ (s : ByteArray) (n : Int) : ByteArray := rep (s.extract 0 (min s.size 100)) (Int.tmod (mx 0 n) 30).toNat
theorem tmod_lt {n k : Int} (h0 : 0 ≤ n) (hk : 0 < k) : 0 ≤ Int.tmod n k ∧ Int.tmod n k < k := by
  rw [Int.tmod_eq_emod_of_nonneg h0]
  exact ⟨Int.emod_nonneg _ (by omega), Int.emod_lt_of_pos _ hk⟩
section
variable {h0 h : H} {d : Nat} {D : DiskM} {at_ : Int} {s : ByteArray}
theorem mx0 (n : Int) : 0 ≤ mx 0 n := by unfold mx; split <;> omega
theorem bytes_spec {a0 a1 a3 : Int} {a4 : Option Addr} {l c : Nat} {a5 : Bool} {Q : ByteArray → H → Prop} (k : ∀ h', Keep h h' → Q (bytesZ s a3) h') : law09_bytes a0 a1 s a3 a4 l c a5 h Q := by
  unfold law09_bytes
  refine M.new_of fun b h1 _ k1 hb => ?_
  have hm := tmod_lt (mx0 a3) (show (0 : Int) < 30 by omega)
  simp only [addr_add, load_eq, Nat.zero_add, Nat.add_zero, Nat.mul_one, Nat.one_mul, Nat.zero_mul, Nat.reduceAdd, List.setIfInBounds_toArray, List.set_cons_zero, List.set_cons_succ, List.getElem?_toArray, List.getElem?_cons_zero, List.getElem?_cons_succ, some_and, int_eq, bool_eq, str_eq, slc_eq, ptr_eq, nn_eq, M.val, cond_true, cond_false, Bool.not_true, Bool.not_false, cell_in hb, nz_eq]
  have e : (mn (s.size : Int) 100).toNat = min s.size 100 := by unfold mn; split <;> omega
  have e0 : (0 : Int) ≤ mn (s.size : Int) 100 ∧ mn (s.size : Int) 100 ≤ s.size := by unfold mn; split <;> omega
  refine ⟨Int.le_refl 0, e0.1, e0.2, by omega, ?_⟩
  rw [e, Int.toNat_zero]
  have hsz : (s.extract 0 (min s.size 100)).size ≤ 100 := by rw [ByteArray.size_extract]; omega
  refine M.loop_of (I := fun (p : ByteArray × Int) h2 => h2 = h1 ∧ 0 ≤ p.2 ∧ p.2 ≤ Int.tmod (mx 0 a3) 30 ∧ p.1 = rep (s.extract 0 (min s.size 100)) p.2.toNat) (μ := fun p => (30 - p.2).toNat) ⟨rfl, by simp, by simp only; omega, rfl⟩ ?_
  rintro ⟨t, i⟩ h2 J ⟨rfl, hi0, hi1, ht⟩ hJ
  simp only at hi0 hi1 ht
  subst ht
  by_cases hlt : i < Int.tmod (mx 0 a3) 30
  · have hw1 : IntKind.wrap .i64 (i + 1) = i + 1 := by rw [IntKind.wrap_i64]; omega
    simp only [hlt, decide_true, cond_true, hw1]
    have hmm : (i.toNat + 1) * (s.extract 0 (min s.size 100)).size ≤ 31 * 100 := Nat.mul_le_mul (by omega) hsz
    refine ⟨?_, hJ _ _ ⟨rfl, by simp only; omega, by simp only; omega, ?_⟩ (by simp only; omega)⟩
    · rw [rep_size]
      have : IntKind.i64.max = 9223372036854775807 := by decide
      rw [this]
      omega
    · simp only [show (i + 1).toNat = i.toNat + 1 by omega]; rfl
  · simp only [hlt, decide_false, cond_false]
    have : i = Int.tmod (mx 0 a3) 30 := by omega
    subst this
    exact k h2 k1
theorem bytesZ_size (s : ByteArray) (n : Int) : (bytesZ s n).size ≤ 3000 := by
  unfold bytesZ
  rw [rep_size]
  have hm := tmod_lt (mx0 n) (show (0 : Int) < 30 by omega)
  have hsz : (s.extract 0 (min s.size 100)).size ≤ 100 := by rw [ByteArray.size_extract]; omega
  have := Nat.mul_le_mul (show (Int.tmod (mx 0 n) 30).toNat + 1 ≤ 30 by omega) hsz
  omega
theorem strEq_iff {x y : ByteArray} : strEq x y = true ↔ x = y := by
  unfold strEq
  rw [beq_iff_eq, ByteArray.toList_eq, ByteArray.toList_eq]
  obtain ⟨⟨x⟩⟩ := x
  obtain ⟨⟨y⟩⟩ := y
  simp
theorem strEq_dec (x y : ByteArray) : strEq x y = decide (x = y) := by
  by_cases e : x = y
  · rw [strEq_iff.2 e]; simp [e]
  · simp only [e, decide_false]
    exact Bool.eq_false_iff.2 fun h => e (strEq_iff.1 h)
theorem equal_spec {a b : Option Addr} {l c l' c' : Nat} {xs ys : List ByteArray} {Q : Bool → H → Prop} (hx : xs.length = l) (hy : ys.length = l') (ha : a = none → l = 0) (hb : b = none → l' = 0) (hra : ∀ x, a = some x → Sh.rowAt h x (xs.map Value.string))
    (hrb : ∀ x, b = some x → Sh.rowAt h x (ys.map Value.string)) (hmax : l < 1000000000) (k : Q (decide (xs = ys)) h) : law09_equal a l c b l' c' h Q := by
  unfold law09_equal
  by_cases hl : l = l'
  · subst hl
    simp only [bne_self_eq_false, cond_false]
    refine M.loop_of (I := fun (i : Int) h2 => h2 = h ∧ 0 ≤ i ∧ i ≤ l ∧ xs.take i.toNat = ys.take i.toNat) (μ := fun i => (l - i).toNat) ⟨rfl, by omega, by omega, rfl⟩ ?_
    rintro i h2 J ⟨rfl, hi0, hi1, he⟩ hJ
    by_cases hlt : i < l
    · have hlx : i.toNat < xs.length := by omega
      have hly : i.toNat < ys.length := by omega
      have hw1 : IntKind.wrap .i64 (i + 1) = i + 1 := by rw [IntKind.wrap_i64]; omega
      cases a with
      | none => have := ha rfl; omega
      | some a =>
      cases b with
      | none => have := hb rfl; omega
      | some b =>
        have c1 : h2.cell (a.add i.toNat) = some (.string xs[i.toNat]) := by rw [hra a rfl _ (by simpa using hlx)]; simp [hlx]
        have c2 : h2.cell (b.add i.toNat) = some (.string ys[i.toNat]) := by rw [hrb b rfl _ (by simpa using hly)]; simp [hly]
        simp only [hlt, decide_true, cond_true]
        refine M.idx_of hi0 hlt ?_
        simp only [addr_add, load_eq, Nat.zero_add, Nat.add_zero, Nat.mul_one, Nat.one_mul, Nat.zero_mul, Nat.reduceAdd, List.setIfInBounds_toArray, List.set_cons_zero, List.set_cons_succ, List.getElem?_toArray, List.getElem?_cons_zero, List.getElem?_cons_succ, some_and, int_eq, bool_eq, str_eq, slc_eq, ptr_eq, nn_eq, M.val, cond_true, cond_false, Bool.not_true, Bool.not_false, c1]
        refine M.idx_of hi0 hlt ?_
        simp only [addr_add, load_eq, Nat.zero_add, Nat.add_zero, Nat.mul_one, Nat.one_mul, Nat.zero_mul, Nat.reduceAdd, List.setIfInBounds_toArray, List.set_cons_zero, List.set_cons_succ, List.getElem?_toArray, List.getElem?_cons_zero, List.getElem?_cons_succ, some_and, int_eq, bool_eq, str_eq, slc_eq, ptr_eq, nn_eq, M.val, cond_true, cond_false, Bool.not_true, Bool.not_false, c2, hw1]
        by_cases hxy : xs[i.toNat] = ys[i.toNat]
        · rw [strEq_iff.2 hxy]
          simp only [Bool.not_true, cond_false]
          refine hJ _ _ ⟨rfl, by omega, by omega, ?_⟩ (by omega)
          rw [show (i + 1).toNat = i.toNat + 1 by omega, List.take_succ_eq_append_getElem hlx, List.take_succ_eq_append_getElem hly, he, hxy]
        · rw [strEq_dec]
          simp only [hxy, decide_false, Bool.not_false, cond_true]
          have : ¬ xs = ys := fun e => hxy (by simp only [e])
          simpa [this] using k
    · simp only [hlt, decide_false, cond_false]
      have h1 : i.toNat = xs.length := by omega
      have h2 : i.toNat = ys.length := by omega
      have : xs = ys := by
        rw [h1, List.take_length] at he
        rw [he, ← h1, h2, List.take_length]
      simpa [this] using k
  · have h1 : (((l : Nat) : Int) != ((l' : Nat) : Int)) = true := by simp; omega
    have : ¬ xs = ys := fun e => hl (by rw [← hx, ← hy, e])
    simp only [h1, cond_true]
    simpa [this] using k
theorem wakes_spec {Q : Bool → H → Prop} (k : ∀ h', Keep h h' → Q true h') : law09_wakes h Q := by
  unfold law09_wakes law09_wakes.g
  refine New_spec fun d h1 w => ?_
  refine Write_spec w (by decide) fun h2 w => ?_
  refine Flush_spec w fun h3 w => ?_
  refine Write_spec w (by decide) fun h4 w => ?_
  refine Write_spec w (by decide) fun h5 w => ?_
  refine Read_spec w ?_
  refine M.new_w w fun b h6 w => ?_
  have w := w.mv (i := 0) rfl
  have hb := w.blk 0 rfl
  obtain ⟨hx, k0, k1, wx, wr, back⟩ := w.on (i := 1) rfl
  refine Crash_spec (kept := [true]) wx (by decide) rfl (fun e => by simp at e) (fun b' e => ?_) fun h7 w1 => ?_
  · simp only [Option.some.injEq] at e
    subst e
    intro i hi
    have hbx := wr.blk 0 rfl
    rw [addr_add, cell_in hbx]
    simp
  have w := back _ _ w1
  have w := w.drop (i := 0) rfl
  refine Read_spec w ?_
  refine M.jn ?_
  have e1 : ((DiskM.new 3).write 0 ⟨#[97]⟩).1 = 0 := by decide +kernel
  have e2 : ((DiskM.new 3).write 0 ⟨#[97]⟩).2.flush.1 = 0 := by decide +kernel
  have e3 : (((DiskM.new 3).write 0 ⟨#[97]⟩).2.flush.2.write 0 ⟨#[98]⟩).1 = 0 := by decide +kernel
  have e4 : ((((DiskM.new 3).write 0 ⟨#[97]⟩).2.flush.2.write 0 ⟨#[98]⟩).2.write 0 ⟨#[99]⟩).1 = 0 := by decide +kernel
  have e5 : ((((DiskM.new 3).write 0 ⟨#[97]⟩).2.flush.2.write 0 ⟨#[98]⟩).2.write 0 ⟨#[99]⟩).2.read 0 = (⟨#[99]⟩, 0) := by decide +kernel
  have e6 : (((((DiskM.new 3).write 0 ⟨#[97]⟩).2.flush.2.write 0 ⟨#[98]⟩).2.write 0 ⟨#[99]⟩).2.crash [true]).read 0 = (⟨#[98]⟩, 0) := by decide +kernel
  have e7 : (((((DiskM.new 3).write 0 ⟨#[97]⟩).2.flush.2.write 0 ⟨#[98]⟩).2.write 0 ⟨#[99]⟩).2.crash [true]).N.length = 3 := by decide +kernel
  simp only [e1, e2, e3, e4, e5, e6, beq_self_eq_true, cond_true, strEq_iff.2 rfl]
  refine Size_spec w ?_
  rw [e7]
  exact k _ w.keep
end
end Go.Proofs.Ytkfokpkpobjoeaa

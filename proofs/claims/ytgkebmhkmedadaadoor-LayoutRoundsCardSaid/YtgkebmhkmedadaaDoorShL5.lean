/- The layout's numbers, 3: the moves and the step of a growth. -/
import Derived.Test.YtgkebmhkmedadaaDoorShL4
import Derived.Test.YtgkebmhkmedadaaDoorShB3
namespace Go.Proofs.YtgkebmhkmedadaaDoor
open Go.Sh Go.RowKit
set_option linter.unusedSimpArgs false
set_option linter.unusedVariables false

def movesL (d m : Int) (n : Nat) : List Value := (List.range n).map fun (i : Nat) => Value.int .i64 (m * (d + 1) + (i : Int))
theorem movesL_succ (d m : Int) (n : Nat) : movesL d m (n + 1) = movesL d m n ++ [Value.int .i64 (m * (d + 1) + (n : Int))] := by
  simp [movesL, List.range_succ]
theorem movesL_length (d m : Int) (n : Nat) : (movesL d m n).length = n := by simp [movesL]
def movesE (d s m : Int) (g : Bool) : Int := if GoodB d s m g = true then (if g = true then 0 else 12) else 4
/-- What is told of the moves. -/
def MovesIs (h : H) (d s m : Int) (g : Bool) (a : Option Addr) (l : Nat) : Prop :=
  if GoodB d s m g = true ∧ g = true then l = (d + 1).toNat ∧ ∃ b, a = some b ∧ Go.Sh.rowAt h b (movesL d m l) else a = none ∧ l = 0
theorem MovesIs.keep {h h' : H} {d s m : Int} {g : Bool} {a : Option Addr} {l : Nat} (x : MovesIs h d s m g a l) (k : Keep h h') : MovesIs h' d s m g a l := by
  unfold MovesIs at x ⊢
  split
  · rw [if_pos ‹_›] at x
    obtain ⟨h1, b, h2, h3⟩ := x
    exact ⟨h1, b, h2, k.row h3⟩
  · rw [if_neg ‹_›] at x; exact x
theorem move_step {h1 h : H} {a : Option Addr} {l c : Nat} {d m : Int} {i : Nat} {K : Option Addr → Nat → Nat → H → Prop} (hk : Keep h1 h) (ho : Own h1 h 3 1 a i c (movesL d m i)) (hl : l = i) (hi : i ≤ 9)
    (k : ∀ a' c' h', Keep h1 h' → Own h1 h' 3 1 a' (i + 1) c' (movesL d m (i + 1)) → K a' (i + 1) c' h') :
    M.new h (.cells (#[(.int .i64 (m * (d + 1) + (i : Int)))] : Array Value) 3) fun b32 h33 => M.cellsOf h33 (some (⟨b32, 0, none⟩ : Addr)) (1 * 1) fun cs38 => M.app h33 3 1 8 [(.int .i64 (0 : Int))] a l c 1 cs38 K := by
  subst hl
  refine M.new_of fun b h33 nb k33 fb => cellsOf_in fb rfl ?_
  refine app_own (hk.trans k33) (ho.keep k33) rfl rfl (by omega) (by simp [isPlainCell]) (by omega) (by omega) fun a' c' h' k' o' => ?_
  rw [← movesL_succ] at o'
  exact k a' c' h' k' o'
theorem Moves_spec {d s m : Int} {g : Bool} {h : H} {Q : Option Addr → Nat → Nat → Int → H → Prop} (hs : Sizes h) (k : ∀ h' a l c, Keep h h' → MovesIs h' d s m g a l → Q a l c (movesE d s m g) h') : layout_Layout_Moves d s m g h Q := by
  refine M.new_of fun b h6 nb k6 fb => ?_
  have hl : h6 b = some (lay d s m g 24) := fb
  simp only [addr_add, load_eq, Nat.zero_add, Nat.add_zero, Nat.mul_one, Nat.one_mul, Nat.zero_mul, Nat.reduceAdd, List.getElem?_toArray, List.getElem?_cons_zero, List.getElem?_cons_succ, some_and, int_eq, bool_eq, str_eq, slc_eq, ptr_eq, nn_eq, M.val, cond_true, cond_false, Bool.not_true, Bool.not_false, lay0 hl, lay1 hl, lay2 hl, lay3 hl]
  refine Good_spec (hs.keep k6) fun h' k' => ?_
  have hl' := k' _ _ hl
  unfold movesE MovesIs at k
  by_cases hg : GoodB d s m g = true
  · have hg' := GoodB_iff.1 hg
    simp only [addr_add, load_eq, Nat.zero_add, Nat.add_zero, Nat.mul_one, Nat.one_mul, Nat.zero_mul, Nat.reduceAdd, List.getElem?_toArray, List.getElem?_cons_zero, List.getElem?_cons_succ, some_and, int_eq, bool_eq, str_eq, slc_eq, ptr_eq, nn_eq, M.val, cond_true, cond_false, Bool.not_true, Bool.not_false, hg, lay3 hl']
    cases g with
    | false =>
      simp only [cond_true, Bool.not_false]
      have := k h' none 0 0 (k6.trans k')
      simp only [hg, Bool.false_eq_true, and_false, if_false, if_true, and_self] at this
      exact this trivial
    | true =>
      simp only [hg, and_self, if_true] at k
      have w1 : IntKind.wrap .i64 (d + 1) = d + 1 := w64 (by omega) (by omega)
      have hp2 := prod_le hg'.1 (show 0 ≤ d + 1 by omega) (by omega)
      have hm : 0 ≤ m * (d + 1) ∧ m * (d + 1) ≤ s * (d + 1) := ⟨Int.mul_nonneg (by omega) (by omega), Int.mul_le_mul_of_nonneg_right (by omega) (by omega)⟩
      have w2 : IntKind.wrap .i64 (m * (d + 1)) = m * (d + 1) := w64 (by omega) (by omega)
      simp only [addr_add, load_eq, Nat.zero_add, Nat.add_zero, Nat.mul_one, Nat.one_mul, Nat.zero_mul, Nat.reduceAdd, List.getElem?_toArray, List.getElem?_cons_zero, List.getElem?_cons_succ, some_and, int_eq, bool_eq, str_eq, slc_eq, ptr_eq, nn_eq, M.val, cond_true, cond_false, Bool.not_true, Bool.not_false, M.join, lay0 hl', w1]
      refine M.loop_of (I := fun (x : (Option Addr × Nat × Nat) × Int) h2 => 0 ≤ x.2 ∧ x.2 ≤ d + 1 ∧ Keep h' h2 ∧ x.1.2.1 = x.2.toNat ∧ Own h' h2 3 1 x.1.1 x.2.toNat x.1.2.2 (movesL d m x.2.toNat)) (μ := fun x => (d + 1 - x.2).toNat)
        ⟨Int.le_refl 0, by show (0 : Int) ≤ d + 1; omega, Keep.refl _, rfl, .nil⟩ ?_
      rintro ⟨⟨a, l, c⟩, i⟩ h2 J ⟨hi0, hi1, k2, hli, ho⟩ hJ
      simp only at hi0 hi1 hli ho ⊢
      have hl2 := k2 _ _ hl'
      by_cases hlt : i < d + 1
      · have w3 : IntKind.wrap .i64 (m * (d + 1) + i) = m * (d + 1) + i := w64 (by omega) (by omega)
        have w4 : IntKind.wrap .i64 (i + 1) = i + 1 := w64 (by omega) (by omega)
        simp only [addr_add, load_eq, Nat.zero_add, Nat.add_zero, Nat.mul_one, Nat.one_mul, Nat.zero_mul, Nat.reduceAdd, List.getElem?_toArray, List.getElem?_cons_zero, List.getElem?_cons_succ, some_and, int_eq, bool_eq, str_eq, slc_eq, ptr_eq, nn_eq, M.val, cond_true, cond_false, Bool.not_true, Bool.not_false, hlt, decide_true, lay0 hl2, lay2 hl2, w1, w2, w3, w4]
        have ei : ((i.toNat : Nat) : Int) = i := by omega
        have := move_step (d := d) (m := m) (K := fun a' l' c' h' => J ((a', l', c'), i + 1) h') k2 ho hli (by omega) (fun a' c' h3 k3 o3 => ?_)
        · rw [ei] at this; exact this
        · have e2 : (i + 1).toNat = i.toNat + 1 := by omega
          exact hJ _ _ ⟨by show 0 ≤ i + 1; omega, by show i + 1 ≤ d + 1; omega, k3, e2.symm, by rw [e2]; exact o3⟩ (by show (d + 1 - (i + 1)).toNat < (d + 1 - i).toNat; omega)
      · simp only [addr_add, load_eq, Nat.zero_add, Nat.add_zero, Nat.mul_one, Nat.one_mul, Nat.zero_mul, Nat.reduceAdd, List.getElem?_toArray, List.getElem?_cons_zero, List.getElem?_cons_succ, some_and, int_eq, bool_eq, str_eq, slc_eq, ptr_eq, nn_eq, M.val, cond_true, cond_false, Bool.not_true, Bool.not_false, hlt, decide_false]
        have e : i = d + 1 := by omega
        subst e
        refine k h2 a l c ((k6.trans k').trans k2) ⟨hli, ?_⟩
        rw [hli]
        cases a with
        | none => have := ho.none_iff; omega
        | some b => exact ⟨b, rfl, ho.row rfl⟩
  · simp only [Bool.not_eq_true] at hg
    simp only [addr_add, load_eq, Nat.zero_add, Nat.add_zero, Nat.mul_one, Nat.one_mul, Nat.zero_mul, Nat.reduceAdd, List.getElem?_toArray, List.getElem?_cons_zero, List.getElem?_cons_succ, some_and, int_eq, bool_eq, str_eq, slc_eq, ptr_eq, nn_eq, M.val, cond_true, cond_false, Bool.not_true, Bool.not_false, hg]
    have := k h' none 0 0 (k6.trans k')
    simp only [hg, Bool.false_eq_true, false_and, if_false, and_self] at this
    exact this trivial
theorem rMoves {d s m : Int} {g : Bool} {h : H} {Q : Option Addr → Nat → Nat → Int → H → Prop} (k : ∀ h' a l c, Keep h h' → MovesIs h' d s m g a l → Q a l c (movesE d s m g) h') : ref18_Moves d s m g h Q := by
  refine M.new_of fun b h6 nb k6 fb => ?_
  have hl : h6 b = some (lay d s m g 25) := fb
  simp only [addr_add, load_eq, Nat.zero_add, Nat.add_zero, Nat.mul_one, Nat.one_mul, Nat.zero_mul, Nat.reduceAdd, List.getElem?_toArray, List.getElem?_cons_zero, List.getElem?_cons_succ, some_and, int_eq, bool_eq, str_eq, slc_eq, ptr_eq, nn_eq, M.val, cond_true, cond_false, Bool.not_true, Bool.not_false, lay0 hl, lay1 hl, lay2 hl, lay3 hl]
  refine rGood fun h' k' => ?_
  have hl' := k' _ _ hl
  unfold movesE MovesIs at k
  by_cases hg : GoodB d s m g = true
  · have hg' := GoodB_iff.1 hg
    simp only [addr_add, load_eq, Nat.zero_add, Nat.add_zero, Nat.mul_one, Nat.one_mul, Nat.zero_mul, Nat.reduceAdd, List.getElem?_toArray, List.getElem?_cons_zero, List.getElem?_cons_succ, some_and, int_eq, bool_eq, str_eq, slc_eq, ptr_eq, nn_eq, M.val, cond_true, cond_false, Bool.not_true, Bool.not_false, hg, lay3 hl']
    cases g with
    | false =>
      simp only [cond_true, Bool.not_false]
      have := k h' none 0 0 (k6.trans k')
      simp only [hg, Bool.false_eq_true, and_false, if_false, if_true, and_self] at this
      exact this trivial
    | true =>
      simp only [hg, and_self, if_true] at k
      have w1 : IntKind.wrap .i64 (d + 1) = d + 1 := w64 (by omega) (by omega)
      have hp2 := prod_le hg'.1 (show 0 ≤ d + 1 by omega) (by omega)
      have hm : 0 ≤ m * (d + 1) ∧ m * (d + 1) ≤ s * (d + 1) := ⟨Int.mul_nonneg (by omega) (by omega), Int.mul_le_mul_of_nonneg_right (by omega) (by omega)⟩
      have w2 : IntKind.wrap .i64 (m * (d + 1)) = m * (d + 1) := w64 (by omega) (by omega)
      simp only [addr_add, load_eq, Nat.zero_add, Nat.add_zero, Nat.mul_one, Nat.one_mul, Nat.zero_mul, Nat.reduceAdd, List.getElem?_toArray, List.getElem?_cons_zero, List.getElem?_cons_succ, some_and, int_eq, bool_eq, str_eq, slc_eq, ptr_eq, nn_eq, M.val, cond_true, cond_false, Bool.not_true, Bool.not_false, M.join]
      refine M.loop_of (I := fun (x : (Option Addr × Nat × Nat) × Int) h2 => 0 ≤ x.2 ∧ x.2 ≤ d + 1 ∧ Keep h' h2 ∧ x.1.2.1 = x.2.toNat ∧ Own h' h2 3 1 x.1.1 x.2.toNat x.1.2.2 (movesL d m x.2.toNat)) (μ := fun x => (d + 1 - x.2).toNat)
        ⟨Int.le_refl 0, by show (0 : Int) ≤ d + 1; omega, Keep.refl _, rfl, .nil⟩ ?_
      rintro ⟨⟨a, l, c⟩, i⟩ h2 J ⟨hi0, hi1, k2, hli, ho⟩ hJ
      simp only at hi0 hi1 hli ho ⊢
      have hl2 := k2 _ _ hl'
      by_cases hlt : i ≤ d
      · have w3 : IntKind.wrap .i64 (m * (d + 1) + i) = m * (d + 1) + i := w64 (by omega) (by omega)
        have w4 : IntKind.wrap .i64 (i + 1) = i + 1 := w64 (by omega) (by omega)
        simp only [addr_add, load_eq, Nat.zero_add, Nat.add_zero, Nat.mul_one, Nat.one_mul, Nat.zero_mul, Nat.reduceAdd, List.getElem?_toArray, List.getElem?_cons_zero, List.getElem?_cons_succ, some_and, int_eq, bool_eq, str_eq, slc_eq, ptr_eq, nn_eq, M.val, cond_true, cond_false, Bool.not_true, Bool.not_false, hlt, decide_true, lay0 hl2, lay2 hl2, w1, w2, w3, w4]
        have ei : ((i.toNat : Nat) : Int) = i := by omega
        have := move_step (d := d) (m := m) (K := fun a' l' c' h' => J ((a', l', c'), i + 1) h') k2 ho hli (by omega) (fun a' c' h3 k3 o3 => ?_)
        · rw [ei] at this; exact this
        · have e2 : (i + 1).toNat = i.toNat + 1 := by omega
          exact hJ _ _ ⟨by show 0 ≤ i + 1; omega, by show i + 1 ≤ d + 1; omega, k3, e2.symm, by rw [e2]; exact o3⟩ (by show (d + 1 - (i + 1)).toNat < (d + 1 - i).toNat; omega)
      · simp only [addr_add, load_eq, Nat.zero_add, Nat.add_zero, Nat.mul_one, Nat.one_mul, Nat.zero_mul, Nat.reduceAdd, List.getElem?_toArray, List.getElem?_cons_zero, List.getElem?_cons_succ, some_and, int_eq, bool_eq, str_eq, slc_eq, ptr_eq, nn_eq, M.val, cond_true, cond_false, Bool.not_true, Bool.not_false, hlt, decide_false, lay0 hl2]
        have e : i = d + 1 := by omega
        subst e
        refine k h2 a l c ((k6.trans k').trans k2) ⟨hli, ?_⟩
        rw [hli]
        cases a with
        | none => have := ho.none_iff; omega
        | some b => exact ⟨b, rfl, ho.row rfl⟩
  · simp only [Bool.not_eq_true] at hg
    simp only [addr_add, load_eq, Nat.zero_add, Nat.add_zero, Nat.mul_one, Nat.one_mul, Nat.zero_mul, Nat.reduceAdd, List.getElem?_toArray, List.getElem?_cons_zero, List.getElem?_cons_succ, some_and, int_eq, bool_eq, str_eq, slc_eq, ptr_eq, nn_eq, M.val, cond_true, cond_false, Bool.not_true, Bool.not_false, hg]
    have := k h' none 0 0 (k6.trans k')
    simp only [hg, Bool.false_eq_true, false_and, if_false, and_self] at this
    exact this trivial

/-- The layout behind the next step, and the error. -/
def StepZ (d s m : Int) (g : Bool) : Int × Int × Int × Bool × Int :=
  if GoodB d s m g = true then (if g = true then (if m + 1 = s then (d + 1, s, 0, false, 0) else (d, s, m + 1, true, 0)) else (0, 0, 0, false, 12)) else (0, 0, 0, false, 4)
abbrev stepQ (Q : Int → Int → Int → Bool → Int → H → Prop) (z : Int × Int × Int × Bool × Int) (h : H) : Prop := Q z.1 z.2.1 z.2.2.1 z.2.2.2.1 z.2.2.2.2 h
/-- A layout that is laid and read. -/
theorem out_lay {h0 h : H} {b : Nat} {c : Array Value} {e : TypeId} {d s m : Int} {g : Bool} {K : Int → Int → Int → Bool → H → Prop} (hk : Keep h0 h) (hn : h0 b = none) (hb : h b = some (.cells c e (0, 0))) (hc : c.size = 4) (k : ∀ h', Keep h0 h' → K d s m g h') :
    M.req (Array.size (#[(.int .i64 d), (.int .i64 s), (.int .i64 m), (.bool g)] : Array Value) = 4) (M.puts h (⟨b, 0, none⟩ : Addr) [(.int .i64 d), (.int .i64 s), (.int .i64 m), (.bool g)] fun h20 =>
      M.load h20 ((⟨b, 0, none⟩ : Addr).add 0) fun v21 => M.int .i64 v21 fun n22 => M.load h20 ((⟨b, 0, none⟩ : Addr).add 1) fun v23 => M.int .i64 v23 fun n24 => M.load h20 ((⟨b, 0, none⟩ : Addr).add 2) fun v25 => M.int .i64 v25 fun n26 =>
      M.load h20 ((⟨b, 0, none⟩ : Addr).add 3) fun v27 => M.bool v27 fun b28 => K n22 n24 n26 b28 h20) := by
  refine ⟨rfl, M.puts_of hb (by simp [isPlainCell]) (by rw [hc]; rfl) fun h' u f => ?_⟩
  have f' : h' b = some (lay d s m g e) := f
  simp only [addr_add, load_eq, Nat.zero_add, Nat.add_zero, Nat.mul_one, Nat.one_mul, Nat.zero_mul, Nat.reduceAdd, List.getElem?_toArray, List.getElem?_cons_zero, List.getElem?_cons_succ, some_and, int_eq, bool_eq, str_eq, slc_eq, ptr_eq, nn_eq, M.val, cond_true, cond_false, Bool.not_true, Bool.not_false, lay0 f', lay1 f', lay2 f', lay3 f']
  exact k h' (u.keep hk hn)
theorem Step_spec {d s m : Int} {g : Bool} {h : H} {Q : Int → Int → Int → Bool → Int → H → Prop} (hs : Sizes h) (k : ∀ h', Keep h h' → stepQ Q (StepZ d s m g) h') : layout_Layout_Step d s m g h Q := by
  refine M.new_of fun b6 h7 n6 k7 f6 => M.new_of fun b8 h9 n8 k9 f8 => ?_
  have l6 : h9 b6 = some (lay d s m g 24) := k9 _ _ f6
  have ne : b6 ≠ b8 := new_ne f6 n8
  simp only [addr_add, load_eq, Nat.zero_add, Nat.add_zero, Nat.mul_one, Nat.one_mul, Nat.zero_mul, Nat.reduceAdd, List.getElem?_toArray, List.getElem?_cons_zero, List.getElem?_cons_succ, some_and, int_eq, bool_eq, str_eq, slc_eq, ptr_eq, nn_eq, M.val, cond_true, cond_false, Bool.not_true, Bool.not_false, lay0 l6, lay1 l6, lay2 l6, lay3 l6]
  refine Good_spec ((hs.keep k7).keep k9) fun h19 k19 => ?_
  have l6' := k19 _ _ l6
  have l8' := k19 _ _ f8
  have kk : Keep h h19 := (k7.trans k9).trans k19
  have n8' : h b8 = none := k7.none n8
  unfold StepZ at k
  by_cases hg : GoodB d s m g = true
  · have hg' := GoodB_iff.1 hg
    simp only [hg, if_true] at k
    simp only [hg, Bool.not_true, cond_false, addr_add, load_eq, Nat.zero_add, lay3 l6', some_and, bool_eq]
    cases g with
    | false =>
      simp only [Bool.not_false, cond_true]
      exact out_lay kk n8' l8' rfl fun h' k' => k h' k'
    | true =>
      simp only [if_true] at k
      have w1 : IntKind.wrap .i64 (m + 1) = m + 1 := w64 (by omega) (by omega)
      have w2 : IntKind.wrap .i64 (d + 1) = d + 1 := w64 (by omega) (by omega)
      simp only [Bool.not_true, cond_false, lay2 l6', some_and, int_eq, M.val, w1]
      refine M.put_of l6' rfl (by simp) fun h43 u43 f43 => ?_
      have m6 : h43 b6 = some (lay d s (m + 1) true 24) := f43
      have m8 := u43.at (Ne.symm ne) l8'
      have k43 : Keep h h43 := u43.keep kk n6
      simp only [addr_add, load_eq, Nat.zero_add, lay0 m6, lay1 m6, lay2 m6, lay3 m6, some_and, int_eq, bool_eq, M.val, w2]
      by_cases he : m + 1 = s
      · simp only [he, if_true] at k
        simp only [he, beq_self_eq_true, cond_true]
        exact out_lay k43 n8' m8 rfl fun h' k' => k h' k'
      · have : (m + 1 == s) = false := by simpa using he
        simp only [he, if_false] at k
        simp only [this, cond_false]
        exact out_lay k43 n8' m8 rfl fun h' k' => k h' k'
  · simp only [Bool.not_eq_true] at hg
    simp only [hg, Bool.false_eq_true, if_false] at k
    simp only [hg, Bool.not_false, cond_true]
    exact out_lay kk n8' l8' rfl fun h' k' => k h' k'
theorem rStep {d s m : Int} {g : Bool} {h : H} {Q : Int → Int → Int → Bool → Int → H → Prop} (k : ∀ h', Keep h h' → stepQ Q (StepZ d s m g) h') : ref18_Step d s m g h Q := by
  refine M.new_of fun b6 h7 n6 k7 f6 => M.new_of fun b8 h9 n8 k9 f8 => ?_
  have l6 : h9 b6 = some (lay d s m g 25) := k9 _ _ f6
  have ne : b6 ≠ b8 := new_ne f6 n8
  simp only [addr_add, load_eq, Nat.zero_add, Nat.add_zero, Nat.mul_one, Nat.one_mul, Nat.zero_mul, Nat.reduceAdd, List.getElem?_toArray, List.getElem?_cons_zero, List.getElem?_cons_succ, some_and, int_eq, bool_eq, str_eq, slc_eq, ptr_eq, nn_eq, M.val, cond_true, cond_false, Bool.not_true, Bool.not_false, lay0 l6, lay1 l6, lay2 l6, lay3 l6]
  refine rGood fun h19 k19 => ?_
  have l6' := k19 _ _ l6
  have l8' := k19 _ _ f8
  have kk : Keep h h19 := (k7.trans k9).trans k19
  have n8' : h b8 = none := k7.none n8
  unfold StepZ at k
  by_cases hg : GoodB d s m g = true
  · have hg' := GoodB_iff.1 hg
    simp only [hg, if_true] at k
    simp only [hg, Bool.not_true, cond_false, addr_add, load_eq, Nat.zero_add, lay3 l6', some_and, bool_eq]
    cases g with
    | false =>
      simp only [Bool.not_false, cond_true]
      exact out_lay kk n8' l8' rfl fun h' k' => k h' k'
    | true =>
      simp only [if_true] at k
      have w1 : IntKind.wrap .i64 (m + 1) = m + 1 := w64 (by omega) (by omega)
      have w2 : IntKind.wrap .i64 (d + 1) = d + 1 := w64 (by omega) (by omega)
      have w3 : IntKind.wrap .i64 (s - 1) = s - 1 := w64 (by omega) (by omega)
      simp only [Bool.not_true, cond_false, lay0 l6', lay1 l6', lay2 l6', some_and, int_eq, M.val, w1, w2, w3]
      by_cases he : m + 1 = s
      · simp only [he, if_true] at k
        have : (m == s - 1) = true := by simp; omega
        simp only [this, cond_true]
        exact out_lay kk n8' l8' rfl fun h' k' => k h' k'
      · have : (m == s - 1) = false := by simp; omega
        simp only [he, if_false] at k
        simp only [this, cond_false]
        refine M.put_of l6' rfl (by simp) fun h43 u43 f43 => ?_
        have m6 : h43 b6 = some (lay d s (m + 1) true 25) := f43
        have m8 := u43.at (Ne.symm ne) l8'
        have k43 : Keep h h43 := u43.keep kk n6
        simp only [addr_add, load_eq, Nat.zero_add, lay0 m6, lay1 m6, lay2 m6, lay3 m6, some_and, int_eq, bool_eq, M.val]
        exact out_lay k43 n8' m8 rfl fun h' k' => k h' k'
  · simp only [Bool.not_eq_true] at hg
    simp only [hg, Bool.false_eq_true, if_false] at k
    simp only [hg, Bool.not_false, cond_true]
    exact out_lay kk n8' l8' rfl fun h' k' => k h' k'
theorem eqv_same25 {x y : Operand} {a b c : Int} {g : Bool} {h : H} {K : Bool → H → Prop} (k : K false h) : M.eqv Tryd.prog .neq 25 x y (.agg #[.int .i64 a, .int .i64 b, .int .i64 c, .bool g]) (.agg #[.int .i64 a, .int .i64 b, .int .i64 c, .bool g]) h K := by
  refine ⟨false, fun w => ?_, k⟩
  have hg : Tryd.prog.eqGuardType Tryd.prog.depth 25 = false := by kernel_rfl
  simp [go_sem, hg, Tryd.underlying25]
theorem eqv_same24 {x y : Operand} {a b c : Int} {g : Bool} {h : H} {K : Bool → H → Prop} (k : K true h) : M.eqv Tryd.prog .eql 24 x y (.agg #[.int .i64 a, .int .i64 b, .int .i64 c, .bool g]) (.agg #[.int .i64 a, .int .i64 b, .int .i64 c, .bool g]) h K := by
  refine ⟨true, fun w => ?_, k⟩
  have hg : Tryd.prog.eqGuardType Tryd.prog.depth 24 = false := by kernel_rfl
  simp [go_sem, hg, Tryd.underlying24]
theorem MovesIs.len {h h' : H} {d s m : Int} {g : Bool} {a a' : Option Addr} {l l' : Nat} (x : MovesIs h d s m g a l) (y : MovesIs h' d s m g a' l') : l = l' := by
  unfold MovesIs at x y
  split at x
  · rw [if_pos ‹_›] at y; rw [x.1, y.1]
  · rw [if_neg ‹_›] at y; rw [x.2, y.2]
theorem MovesIs.at {h : H} {d s m : Int} {g : Bool} {a : Option Addr} {l : Nat} (x : MovesIs h d s m g a l) {i : Int} (h0 : 0 ≤ i) (h1 : i < (l : Int)) : ∃ b, a = some b ∧ h.cell (b.add i.toNat) = some (.int .i64 (m * (d + 1) + i)) := by
  unfold MovesIs at x
  split at x
  · obtain ⟨_, b, rfl, hr⟩ := x
    refine ⟨b, rfl, ?_⟩
    have := hr i.toNat (by rw [movesL_length]; omega)
    rw [this]
    have ei : ((i.toNat : Nat) : Int) = i := by omega
    simp [movesL, show i.toNat < l by omega, ei]
  · obtain ⟨_, rfl⟩ := x; omega
set_option maxRecDepth 100000 in
theorem layoutSteps {x0 x1 x2 : Int} {g : Bool} {h : H} {Q : Bool → H → Prop} (hs : Sizes h) (k : ∀ h', Keep h h' → Q true h') : law18_LayoutSteps x0 x1 x2 g h Q := by
  refine M.new_of fun b2 h3 n2 k3 f2 => ?_
  have f2' : h3 b2 = some (lay x0 x1 x2 g 23) := f2
  simp only [addr_add, load_eq, Nat.zero_add, Nat.add_zero, Nat.mul_one, Nat.one_mul, Nat.zero_mul, Nat.reduceAdd, List.getElem?_toArray, List.getElem?_cons_zero, List.getElem?_cons_succ, some_and, int_eq, bool_eq, str_eq, slc_eq, ptr_eq, nn_eq, M.val, cond_true, cond_false, Bool.not_true, Bool.not_false, lay0 f2', lay1 f2', lay2 f2', lay3 f2']
  refine good_spec fun h24 k24 => M.still_keep k24 ⟨_, f2⟩ (M.new_of fun b25 h26 n25 k26 f25 => ?_)
  have kk26 : Keep h h26 := (k3.trans k24).trans k26
  refine M.loop_of (I := fun (d : Int) h' => 0 ≤ d ∧ d ≤ 2 ∧ Keep h26 h') (μ := fun d => (2 - d).toNat) ⟨by omega, by omega, Keep.refl _⟩ ?_
  intro d h29 J hI hJ
  obtain ⟨hd0, hd1, k29⟩ := hI
  by_cases hlt : d < ((2 : Nat) : Int)
  · simp only [hlt, decide_true, cond_true]
    refine ⟨_, rfl, hd0, hlt, ?_⟩
    obtain ⟨z0, z1, z2, zg, c0, c1, c2, c3⟩ := two_lays (k29 _ _ f25) hd0 hlt
    simp only [addr_add, load_eq, Nat.zero_add, Nat.add_zero, Nat.mul_one, Nat.one_mul, Nat.zero_mul, Nat.reduceAdd, List.getElem?_toArray, List.getElem?_cons_zero, List.getElem?_cons_succ, some_and, int_eq, bool_eq, str_eq, slc_eq, ptr_eq, nn_eq, M.val, cond_true, cond_false, Bool.not_true, Bool.not_false, c0, c1, c2, c3]
    refine M.new_of fun b40 h41 n40 k41 f40 => ⟨rfl, M.puts_of f40 (by simp [isPlainCell]) rfl fun h42 u42 f40 => ?_⟩
    have k42 : Keep h29 h42 := u42.keep k41 n40
    have g40 : h42 b40 = some (lay z0 z1 z2 zg 24) := f40
    simp only [addr_add, load_eq, Nat.zero_add, Nat.add_zero, Nat.mul_one, Nat.one_mul, Nat.zero_mul, Nat.reduceAdd, List.getElem?_toArray, List.getElem?_cons_zero, List.getElem?_cons_succ, some_and, int_eq, bool_eq, str_eq, slc_eq, ptr_eq, nn_eq, M.val, cond_true, cond_false, Bool.not_true, Bool.not_false, lay0 g40, lay1 g40, lay2 g40, lay3 g40]
    refine M.new_of fun b51 h52 n51 k52 f51 => ⟨rfl, M.puts_of f51 (by simp [isPlainCell]) rfl fun h53 u53 f51 => ?_⟩
    have k53 : Keep h42 h53 := u53.keep k52 n51
    have g51 : h53 b51 = some (lay z0 z1 z2 zg 25) := f51
    have g40a := k53 _ _ g40
    simp only [addr_add, load_eq, Nat.zero_add, Nat.add_zero, Nat.mul_one, Nat.one_mul, Nat.zero_mul, Nat.reduceAdd, List.getElem?_toArray, List.getElem?_cons_zero, List.getElem?_cons_succ, some_and, int_eq, bool_eq, str_eq, slc_eq, ptr_eq, nn_eq, M.val, cond_true, cond_false, Bool.not_true, Bool.not_false, lay0 g40a, lay1 g40a, lay2 g40a, lay3 g40a]
    have kk53 : Keep h26 h53 := (k29.trans k42).trans k53
    refine Moves_spec (hs.keep (kk26.trans kk53)) fun h66 a1 l1 c1 k66 m1 => ?_
    have g51a := k66 _ _ g51
    have g40b := k66 _ _ g40a
    simp only [addr_add, load_eq, Nat.zero_add, Nat.add_zero, Nat.mul_one, Nat.one_mul, Nat.zero_mul, Nat.reduceAdd, List.getElem?_toArray, List.getElem?_cons_zero, List.getElem?_cons_succ, some_and, int_eq, bool_eq, str_eq, slc_eq, ptr_eq, nn_eq, M.val, cond_true, cond_false, Bool.not_true, Bool.not_false, lay0 g51a, lay1 g51a, lay2 g51a, lay3 g51a]
    refine rMoves fun h79 a2 l2 c2 k79 m2 => ?_
    have g40c := k79 _ _ g40b
    have g51b := k79 _ _ g51a
    simp only [addr_add, load_eq, Nat.zero_add, Nat.add_zero, Nat.mul_one, Nat.one_mul, Nat.zero_mul, Nat.reduceAdd, List.getElem?_toArray, List.getElem?_cons_zero, List.getElem?_cons_succ, some_and, int_eq, bool_eq, str_eq, slc_eq, ptr_eq, nn_eq, M.val, cond_true, cond_false, Bool.not_true, Bool.not_false, lay0 g40c, lay1 g40c, lay2 g40c, lay3 g40c]
    have kk79 : Keep h26 h79 := (kk53.trans k66).trans k79
    refine Step_spec (hs.keep (kk26.trans kk79)) fun h93 k93 => M.new_of fun b94 h95 n94 k95 f94 => ⟨rfl, M.puts_of f94 (by simp [isPlainCell]) rfl fun h96 u96 f94 => ?_⟩
    have k96 : Keep h93 h96 := u96.keep k95 n94
    have g51c := k96 _ _ (k93 _ _ g51b)
    simp only [addr_add, load_eq, Nat.zero_add, Nat.add_zero, Nat.mul_one, Nat.one_mul, Nat.zero_mul, Nat.reduceAdd, List.getElem?_toArray, List.getElem?_cons_zero, List.getElem?_cons_succ, some_and, int_eq, bool_eq, str_eq, slc_eq, ptr_eq, nn_eq, M.val, cond_true, cond_false, Bool.not_true, Bool.not_false, lay0 g51c, lay1 g51c, lay2 g51c, lay3 g51c]
    refine rStep fun h110 k110 => M.new_of fun b111 h112 n111 k112 f111 => ⟨rfl, M.puts_of f111 (by simp [isPlainCell]) rfl fun h113 u113 f111 => ?_⟩
    have k113 : Keep h110 h113 := u113.keep k112 n111
    generalize hz : StepZ z0 z1 z2 zg = z at *
    obtain ⟨y0, y1, y2, yg, ye⟩ := z
    have e94 : h113 b94 = some (lay y0 y1 y2 yg 24) := k113 _ _ (k110 _ _ f94)
    have e111 : h113 b111 = some (lay y0 y1 y2 yg 25) := f111
    have hl : l1 = l2 := m1.len m2
    subst hl
    have kk113 : Keep h26 h113 := (((kk79.trans k93).trans k96).trans k110).trans k113
    have M1 : MovesIs h113 z0 z1 z2 zg a1 l1 := m1.keep ((((k79.trans k93).trans k96).trans k110).trans k113)
    have M2 : MovesIs h113 z0 z1 z2 zg a2 l1 := m2.keep (((k93.trans k96).trans k110).trans k113)
    simp only [addr_add, load_eq, Nat.zero_add, Nat.add_zero, Nat.mul_one, Nat.one_mul, Nat.zero_mul, Nat.reduceAdd, List.getElem?_toArray, List.getElem?_cons_zero, List.getElem?_cons_succ, some_and, int_eq, bool_eq, str_eq, slc_eq, ptr_eq, nn_eq, M.val, cond_true, cond_false, Bool.not_true, Bool.not_false, M.join, bne_self_eq_false, lay0 e94, lay1 e94, lay2 e94, lay3 e94, lay0 e111, lay1 e111, lay2 e111, lay3 e111]
    refine eqv_same25 ?_
    simp only [addr_add, load_eq, Nat.zero_add, Nat.add_zero, Nat.mul_one, Nat.one_mul, Nat.zero_mul, Nat.reduceAdd, List.getElem?_toArray, List.getElem?_cons_zero, List.getElem?_cons_succ, some_and, int_eq, bool_eq, str_eq, slc_eq, ptr_eq, nn_eq, M.val, cond_true, cond_false, Bool.not_true, Bool.not_false, bne_self_eq_false]
    refine M.loop_of (I := fun (i : Int) h' => 0 ≤ i ∧ i ≤ l1 ∧ h' = h113) (μ := fun i => (l1 - i).toNat) ⟨by omega, by omega, rfl⟩ ?_
    rintro i h137 J2 ⟨hi0, hi1, rfl⟩ hJ2
    by_cases hlt2 : i < (l1 : Int)
    · obtain ⟨p1, rfl, q1⟩ := M1.at hi0 hlt2
      obtain ⟨p2, rfl, q2⟩ := M2.at hi0 hlt2
      simp only [hlt2, decide_true, cond_true]
      refine ⟨_, rfl, hi0, hlt2, _, q1, _, rfl, _, rfl, hi0, hlt2, _, q2, _, rfl, ?_⟩
      have hb9 : (l1 : Int) ≤ 9 := by
        have h9 := M1
        unfold MovesIs at h9
        split at h9
        · rename_i hh
          have := GoodB_iff.1 hh.1
          omega
        · omega
      have w1 : IntKind.wrap .i64 (i + 1) = i + 1 := w64 (by omega) (by omega)
      simp only [addr_add, load_eq, Nat.zero_add, Nat.add_zero, Nat.mul_one, Nat.one_mul, Nat.zero_mul, Nat.reduceAdd, List.getElem?_toArray, List.getElem?_cons_zero, List.getElem?_cons_succ, some_and, int_eq, bool_eq, str_eq, slc_eq, ptr_eq, nn_eq, M.val, cond_true, cond_false, Bool.not_true, Bool.not_false, bne_self_eq_false, w1]
      exact hJ2 _ _ ⟨by omega, by omega, rfl⟩ (by omega)
    · simp only [addr_add, load_eq, Nat.zero_add, Nat.add_zero, Nat.mul_one, Nat.one_mul, Nat.zero_mul, Nat.reduceAdd, List.getElem?_toArray, List.getElem?_cons_zero, List.getElem?_cons_succ, some_and, int_eq, bool_eq, str_eq, slc_eq, ptr_eq, nn_eq, M.val, cond_true, cond_false, Bool.not_true, Bool.not_false, hlt2, decide_false, next_two hd0 hlt]
      exact hJ _ _ ⟨by omega, by omega, kk113⟩ (by omega)
  · simp only [hlt, decide_false, cond_false]
    exact wakes_spec (hs.keep (kk26.trans k29)) fun h83 k83 => k _ ((kk26.trans k29).trans k83)
end Go.Proofs.YtgkebmhkmedadaaDoor

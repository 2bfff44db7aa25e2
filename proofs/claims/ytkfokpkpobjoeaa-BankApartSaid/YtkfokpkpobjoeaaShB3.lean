/- Reasoning over the shallow form, 3: slices that a function owns, and equality of aggregates. -/
import Derived.Test.YtkfokpkpobjoeaaShB2
import Derived.Laws.StructEq
namespace Go.Sh
open Go.RowKit

theorem zerosOf_length (z : List Value) (n : Nat) : (zerosOf z n).length = n * z.length := by
  unfold zerosOf
  induction n with
  | zero => simp
  | succ n ih => rw [List.replicate_succ, List.flatten_cons, List.length_append, ih, Nat.succ_mul, Nat.add_comm]
/-- A slice of one's own: none yet, or the whole of a block that was not there at 'h0'. -/
inductive Own (h0 h : H) (e : TypeId) (size : Nat) : Option Addr → Nat → Nat → List Value → Prop
  | nil : Own h0 h e size none 0 0 []
  | blk {b l c : Nat} {xs rest : List Value} (n : h0 b = none) (hb : h b = some (.cells (xs ++ rest).toArray e (0, 0))) (hl : xs.length = l * size) (hc : (xs ++ rest).length = c * size) : Own h0 h e size (some ⟨b, 0, none⟩) l c xs
theorem Own.len {h0 h : H} {e : TypeId} {size : Nat} {a : Option Addr} {l c : Nat} {xs : List Value} (o : Own h0 h e size a l c xs) : xs.length = l * size := by
  cases o with
  | nil => simp
  | blk _ _ hl _ => exact hl
theorem Own.keep {h0 h h' : H} {e : TypeId} {size : Nat} {a : Option Addr} {l c : Nat} {xs : List Value} (o : Own h0 h e size a l c xs) (k : Keep h h') : Own h0 h' e size a l c xs := by
  cases o with
  | nil => exact .nil
  | blk n hb hl hc => exact .blk n (k _ _ hb) hl hc
theorem Own.row {h0 h : H} {e : TypeId} {size : Nat} {a : Option Addr} {l c : Nat} {xs : List Value} (o : Own h0 h e size a l c xs) {b : Addr} (hb : a = some b) : rowAt h b xs := by
  cases o with
  | nil => simp at hb
  | blk n hm hl hc =>
    simp only [Option.some.injEq] at hb
    subst hb
    intro i hi
    rw [addr_add, cell_in hm]
    simp only [List.getElem?_toArray, Nat.zero_add]
    exact List.getElem?_append_left hi
theorem Own.none_iff {h0 h : H} {e : TypeId} {size : Nat} {l c : Nat} {xs : List Value} (o : Own h0 h e size none l c xs) : l = 0 := by
  cases o; rfl
theorem splice_end {xs rest new : List Value} (hr : new.length ≤ rest.length) : splice (xs ++ rest).toArray xs.length new = ((xs ++ new) ++ rest.drop new.length).toArray := by
  apply Array.ext_getElem?
  intro i
  rw [splice_get _ _ _ (by simp; omega)]
  simp only [List.getElem?_toArray]
  by_cases h1 : i < xs.length
  · rw [if_neg (by omega), List.getElem?_append_left h1, List.getElem?_append_left (by simp; omega), List.getElem?_append_left h1]
  · by_cases h2 : i < xs.length + new.length
    · rw [if_pos ⟨by omega, h2⟩, List.getElem?_append_left (by simp; omega), List.getElem?_append_right (by omega)]
    · rw [if_neg (by omega), List.getElem?_append_right (by omega), List.getElem?_append_right (by simp; omega), List.getElem?_drop]
      congr 1
      simp; omega
/-- More is laid behind what one owns. -/
theorem app_own {h0 h : H} {e : TypeId} {size bytes : Nat} {zero : List Value} {a : Option Addr} {l c n : Nat} {xs new : List Value} {K : Option Addr → Nat → Nat → H → Prop} (hk : Keep h0 h) (o : Own h0 h e size a l c xs)
    (hz : zero.length = size) (hn : new.length = n * size) (hn0 : 0 < n) (hp : ∀ v ∈ new, isPlainCell v = true) (hmax : 2 * (l + n) * bytes ≤ 281474976710656) (hmax2 : l + n ≤ 9223372036854775807)
    (k : ∀ a' c' h', Keep h0 h' → Own h0 h' e size a' (l + n) c' (xs ++ new) → K a' (l + n) c' h') : M.app h e size bytes zero a l c n new K := by
  refine ⟨fun hfit => ⟨fun hnone => ?_, fun ad had => ?_⟩, fun hgrow => ⟨?_, ?_, ⟨fun hnone c' hc' b hb => ?_, fun ad had => ?_⟩⟩⟩
  · subst hnone; cases o; omega
  · cases o with
    | nil => simp at had
    | blk hn2 hb hl hc =>
      rename_i b rest
      simp only [Option.some.injEq] at had
      subst had
      have hc2 : xs.length + rest.length = c * size := by simpa using hc
      have hfit2 : (l + n) * size ≤ c * size := Nat.mul_le_mul_right _ hfit
      rw [Nat.add_mul] at hfit2
      have hle : new.length ≤ rest.length := by omega
      rw [addr_add, Nat.zero_add, ← hl]
      refine M.puts_in hb hp (by simp; omega) ?_
      rw [splice_end hle]
      refine k _ _ _ (hk.own hn2 _) (.blk hn2 (H.upd_self _ _ _) (by simp [Nat.add_mul]; omega) ?_)
      simp; omega
  · have : IntKind.i64.max = 9223372036854775807 := by decide
    rw [this]; omega
  · exact Nat.le_trans (Nat.mul_le_mul_right _ (nextslicecap_le hgrow)) hmax
  · subst hnone
    cases o
    refine k _ _ _ (hk.new hb _) (.blk (hk.none hb) (H.upd_self _ _ _) (by simp [hn]) ?_)
    simp only [List.nil_append, List.length_append, zerosOf_length, hn, hz]
    rw [← Nat.add_mul]; congr 1; omega
  · refine ⟨xs, o.len, o.row had, fun c' hc' b hb => ?_⟩
    refine k _ _ _ (hk.new hb _) (.blk (hk.none hb) (H.upd_self _ _ _) (by simp [Nat.add_mul, hn, o.len]) ?_)
    simp only [List.length_append, zerosOf_length, hn, hz, o.len]
    rw [← Nat.add_mul, ← Nat.add_mul]; congr 1; omega
/-- One's own cell laid down and read. -/
theorem cellsOf_in {h : H} {b n : Nat} {c : Array Value} {e : TypeId} {f : Nat × Nat} {K : List Value → Prop} (hb : h b = some (.cells c e f)) (hn : c.size = n) (hk : K c.toList) : M.cellsOf h (some ⟨b, 0, none⟩) n K :=
  ⟨fun x => by simp at x, fun b' x => by
    simp only [Option.some.injEq] at x
    subst x
    exact M.row_all hb hn hk⟩
end Go.Sh

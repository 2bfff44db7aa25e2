/- What the anchor and its reference do, and that AnchorPlays answers true. -/
import Derived.Test.YtgkebmhkmedadaaShF0
import Derived.Test.YtgkebmhkmedadaaShB1
import Derived.Test.YtgkebmhkmedadaaRows
namespace Go.Proofs.Ytgkebmhkmedadaa
open Go.Sh Go.RowKit

/-- An anchor's block. -/
abbrev anch (n : Int) (s : ByteArray) (e : TypeId) : Obj := .cells #[.int .u64 n, .string s] e (0, 0)
theorem New_spec {h : H} {Q : Option Addr → H → Prop} (k : ∀ b, h b = none → Q (some ⟨b, 0, none⟩) (h.upd b (anch 0 .empty 47))) : anchor_New h Q := fun b hb => k b hb
def setOut (n : Int) (s : ByteArray) (c : Int) (d : ByteArray) : Int × Int × ByteArray :=
  if (d.size : Int) ≠ 32 then (7, n, s) else if c ≤ n then (25, n, s) else (0, c, d)
theorem Set_spec {h : H} {b : Nat} {n : Int} {s : ByteArray} {e : TypeId} {c : Int} {d : ByteArray} {Q : Int → H → Prop} (hb : h b = some (anch n s e))
    (k : Q (setOut n s c d).1 (h.upd b (anch (setOut n s c d).2.1 (setOut n s c d).2.2 e))) : anchor_Anchor_Set (some ⟨b, 0, none⟩) c d h Q := by
  unfold anchor_Anchor_Set
  unfold setOut at k
  simp only [Option.isNone_some, cond_false]
  by_cases h1 : (d.size : Int) = 32
  · have : ((d.size : Int) != 32) = false := by simp [h1]
    rw [this, cond_false]
    simp only [h1, ne_eq, not_true, if_false] at k
    refine ⟨_, rfl, M.load_in hb rfl ⟨_, rfl, ?_⟩⟩
    by_cases h2 : c ≤ n
    · simp only [h2, if_true, decide_true, cond_true] at k ⊢
      rwa [upd_self hb] at k
    · simp only [h2, if_false, decide_false, cond_false] at k ⊢
      refine ⟨_, rfl, rfl, M.puts_all hb (by simp [isPlainCell]) rfl ?_⟩
      exact k
  · have : ((d.size : Int) != 32) = true := by simpa using h1
    rw [this, cond_true]
    simp only [h1, ne_eq, not_false_eq_true, if_true] at k
    rwa [upd_self hb] at k
theorem Set_nil {h : H} {c : Int} {d : ByteArray} {Q : Int → H → Prop} (k : Q 1 h) : anchor_Anchor_Set none c d h Q := k
theorem rSet_spec {h : H} {b : Nat} {n : Int} {s : ByteArray} {e : TypeId} {c : Int} {d : ByteArray} {Q : Int → H → Prop} (hb : h b = some (anch n s e))
    (k : Q (setOut n s c d).1 (h.upd b (anch (setOut n s c d).2.1 (setOut n s c d).2.2 e))) : ref11_Set (some ⟨b, 0, none⟩) c d h Q := by
  unfold ref11_Set
  unfold setOut at k
  by_cases h1 : (d.size : Int) = 32
  · have : ((d.size : Int) != 32) = false := by simp [h1]
    rw [this, cond_false]
    simp only [h1, ne_eq, not_true, if_false] at k
    refine ⟨_, rfl, M.load_in hb rfl ⟨_, rfl, ?_⟩⟩
    by_cases h2 : c ≤ n
    · simp only [h2, if_true, decide_true, cond_true] at k ⊢
      rwa [upd_self hb] at k
    · simp only [h2, if_false, decide_false, cond_false] at k ⊢
      refine ⟨_, rfl, M.put_in hb rfl (by simp) ⟨_, rfl, M.put_in (H.upd_self _ _ _) rfl (by simp) ?_⟩⟩
      rw [upd_upd]
      exact k
  · have : ((d.size : Int) != 32) = true := by simpa using h1
    rw [this, cond_true]
    simp only [h1, ne_eq, not_false_eq_true, if_true] at k
    rwa [upd_self hb] at k
theorem Get_spec {h : H} {b : Nat} {n : Int} {s : ByteArray} {e : TypeId} {Q : Int → ByteArray → H → Prop} (hb : h b = some (anch n s e)) (k : Q n s h) : anchor_Anchor_Get (some ⟨b, 0, none⟩) h Q := by
  unfold anchor_Anchor_Get
  simp only [Option.isNone_some, cond_false]
  exact ⟨_, rfl, M.load_in hb rfl ⟨_, rfl, _, rfl, M.load_in hb rfl ⟨_, rfl, k⟩⟩⟩
theorem Get_nil {h : H} {Q : Int → ByteArray → H → Prop} (k : Q 0 .empty h) : anchor_Anchor_Get none h Q := k

theorem strEq_self (s : ByteArray) : strEq s s = true := by simp [strEq]
theorem ofBytes_size (zs : List Int) : (ofBytes zs).size = zs.length := by simp [ofBytes, ByteArray.size]
theorem wakes_spec {h : H} {Q : Bool → H → Prop} (k : ∀ h', Keep h h' → Q true h') : law11_wakes h Q := by
  have rest : ∀ (h' : H) (b : Nat) (s : ByteArray), Keep h h' → h b = none → h' b = some (anch 0 .empty 47) → s.size = 32 →
      (fun (d19 : Option Addr × ByteArray) h20 => anchor_Anchor_Set d19.1 (1 : Int) d19.2 h20 fun n21 h22 =>
        anchor_Anchor_Set d19.1 (1 : Int) d19.2 h22 fun n23 h24 =>
        anchor_Anchor_Get d19.1 h24 fun n25 s26 h27 =>
        M.join (α := Bool) (fun d29 h30 => Q d29 h30) fun J28 =>
        (bif (n21 == (0 : Int)) then (bif (n23 == (25 : Int)) then (bif (n25 == (1 : Int)) then J28 (strEq s26 d19.2) h27 else J28 false h27) else J28 false h27) else J28 false h27)) (some ⟨b, 0, none⟩, s) h' := by
    intro h' b s hk hb hb' hs
    have e1 : setOut 0 .empty 1 s = (0, 1, s) := by simp [setOut, hs]
    have e2 : setOut 1 s 1 s = (25, 1, s) := by simp [setOut, hs]
    refine Set_spec hb' ?_
    rw [e1]
    refine Set_spec (H.upd_self _ _ _) ?_
    rw [e2]
    refine Get_spec (H.upd_self _ _ _) ?_
    simp only [beq_self_eq_true, cond_true, strEq_self, M.join]
    exact k _ ((hk.own hb _).own hb _)
  unfold law11_wakes M.join
  have hz : (ofBytes (List.replicate 32 0)).size = 32 := by rw [ofBytes_size]; simp
  have hc : ∀ i, i < 32 → ((zerosOf [Value.int .u8 0] 32).toArray)[0 + i]? = ((List.replicate 32 (0 : Int)).map (Value.int .u8))[i]? := fun i hi => by simp [zerosOf]
  refine ⟨?_, ?_⟩
  · intro b hb
    refine ⟨by simp, by simp, by simp, by simp, fun b2 hb2 => ?_⟩
    have hne : b ≠ b2 := new_ne (H.upd_self _ _ _) hb2
    refine M.b2s_in (H.upd_self _ _ _) (by simp) hc ?_
    exact rest _ b _ (((Keep.refl h).new hb _).new hb2 _) hb (by rw [H.upd_ne _ _ hne, H.upd_self]) hz
  · refine ⟨by simp, by simp, by simp, by simp, fun b2 hb2 => ⟨fun b hb => ?_, ?_⟩⟩
    · have hne : b2 ≠ b := new_ne (H.upd_self _ _ _) hb
      refine M.b2s_in ((H.upd_ne _ _ hne).trans (H.upd_self _ _ _)) (by simp) hc ?_
      exact rest _ b _ (((Keep.refl h).new hb2 _).new hb _) (((Keep.refl h).new hb2 _).none hb) (H.upd_self _ _ _) hz
    · refine M.b2s_in (H.upd_self _ _ _) (by simp) hc fun b hb => ?_
      exact rest _ b _ (((Keep.refl h).new hb2 _).new hb _) (((Keep.refl h).new hb2 _).none hb) (H.upd_self _ _ _) hz

/-- A row of a call. -/
structure CallRow (cs : List Value) (n : Int) (zs : List Int) (t : ByteArray) (odd : Bool) : Prop where
  eq : cs = Value.int .u64 n :: (zs.map (Value.int .u8) ++ [.string t, .bool odd])
  len : zs.length = 32
def txt (zs : List Int) (t : ByteArray) (odd : Bool) : ByteArray := bif odd then t else ofBytes zs
theorem CallRow.get0 {cs : List Value} {n : Int} {zs : List Int} {t : ByteArray} {odd : Bool} (r : CallRow cs n zs t odd) : cs[0]? = some (.int .u64 n) := by rw [r.eq]; rfl
theorem CallRow.get33 {cs : List Value} {n : Int} {zs : List Int} {t : ByteArray} {odd : Bool} (r : CallRow cs n zs t odd) : cs[33]? = some (.string t) := by
  rw [r.eq, List.getElem?_cons_succ, List.getElem?_append_right (by simp [r.len])]
  simp [r.len]
theorem CallRow.get34 {cs : List Value} {n : Int} {zs : List Int} {t : ByteArray} {odd : Bool} (r : CallRow cs n zs t odd) : cs[34]? = some (.bool odd) := by
  rw [r.eq, List.getElem?_cons_succ, List.getElem?_append_right (by simp [r.len])]
  simp [r.len]
theorem CallRow.getz {cs : List Value} {n : Int} {zs : List Int} {t : ByteArray} {odd : Bool} (r : CallRow cs n zs t odd) {i : Nat} (hi : i < 32) : cs[1 + i]? = (zs.map (Value.int .u8))[i]? := by
  rw [r.eq, Nat.add_comm, List.getElem?_cons_succ, List.getElem?_append_left (by simp [r.len, hi])]
theorem CallRow.length {cs : List Value} {n : Int} {zs : List Int} {t : ByteArray} {odd : Bool} (r : CallRow cs n zs t odd) : cs.length = 35 := by
  rw [r.eq]; simp [r.len]
theorem CallRow.plain {cs : List Value} {n : Int} {zs : List Int} {t : ByteArray} {odd : Bool} (r : CallRow cs n zs t odd) : ∀ v ∈ cs, isPlainCell v = true := by
  rw [r.eq]
  intro v hv
  simp only [List.mem_cons, List.mem_append, List.mem_map, List.not_mem_nil, or_false] at hv
  rcases hv with rfl | ⟨z, _, rfl⟩ | rfl | rfl <;> rfl
theorem text_spec {cs : List Value} {n : Int} {zs : List Int} {t : ByteArray} {odd : Bool} (r : CallRow cs n zs t odd) {h : H} {Q : ByteArray → H → Prop} (k : ∀ h', Keep h h' → Q (txt zs t odd) h') : law11_text cs.toArray h Q := by
  intro b hb
  rw [addr_add]
  refine M.load_in (H.upd_self _ _ _) (v := .bool odd) (by simpa using r.get34) ⟨_, rfl, ?_⟩
  have hk := k _ ((Keep.refl h).new hb (.cells cs.toArray 32))
  cases odd with
  | true =>
    simp only [cond_true]
    refine M.load_in (H.upd_self _ _ _) (v := .string t) (by simpa using r.get33) ⟨_, rfl, ?_⟩
    exact hk
  | false =>
    simp only [cond_false]
    refine ⟨by omega, by omega, by omega, ?_⟩
    refine M.b2s_in (zs := zs) (H.upd_self _ _ _) r.len (fun i hi => ?_) hk
    have := r.getz (i := i) (by simpa using hi)
    simpa using this

/-- The script: each of its rows is a call. -/
def Script (h : H) (a : Option Addr) (l : Nat) : Prop := ∀ b, a = some b → ∀ i, i < l → ∃ cs n zs t odd, Go.Sh.rowAt h (b.add (i * 35)) cs ∧ CallRow cs n zs t odd
theorem plays {h : H} {a : Option Addr} {l c : Nat} (hl : l ≤ c) (hc : (c : Int) ≤ 9223372036854775807) (hn : a = none → l = 0) (hs : Script h a l) {Q : Bool → H → Prop} (k : ∀ h', Keep h h' → Q true h') : law11_AnchorPlays a l c h Q := by
  refine New_spec fun b4 hb4 => ?_
  intro b6 hb6
  refine wakes_spec fun h9 k9 => ?_
  have h46 : b4 ≠ b6 := new_ne (H.upd_self _ _ _) hb6
  simp only [Bool.not_true, cond_false]
  refine M.sub0 (by simp only [mn]; split <;> omega) (by simp only [mn]; split <;> omega) ?_
  generalize hl2 : (mn ((l : Nat) : Int) 100).toNat = l2
  have hle : l2 ≤ l ∧ l2 ≤ 100 := by subst hl2; simp only [mn]; split <;> omega
  have hk9 : Keep h h9 := (((Keep.refl h).new hb4 _).new hb6 _).trans k9
  have h6n : h b6 = none := ((Keep.refl h).new hb4 _).none hb6
  refine M.loop_of (I := fun (d : Int) h' => 0 ≤ d ∧ d ≤ l2 ∧ Keep h h' ∧ ∃ n s, h' b4 = some (anch n s 47) ∧ h' b6 = some (anch n s 28)) (μ := fun d => (l2 - d).toNat) ⟨by omega, by omega, hk9, 0, .empty, k9 _ _ (by rw [H.upd_ne _ _ h46, H.upd_self]), k9 _ _ (H.upd_self _ _ _)⟩ ?_
  intro d h15 J hI hJ
  obtain ⟨hd0, hd1, hk, n, s, h4, h6⟩ := hI
  by_cases hlt : d < (l2 : Int)
  · simp only [hlt, decide_true, cond_true]
    cases a with
    | none => have := hn rfl; omega
    | some aa =>
      refine ⟨aa, rfl, hd0, hlt, ?_⟩
      obtain ⟨cs, m, zs, t, odd, hrow, hr⟩ := hs aa rfl d.toNat (by omega)
      refine ⟨cs, hr.length, hk.row hrow, fun b19 h19 => ?_⟩
      refine ⟨by simp [hr.length], M.puts_all (H.upd_self _ _ _) (by simpa using hr.plain) (by simp [hr.length]) ?_⟩
      rw [upd_upd]
      simp only [addr_add]
      have hn4 : b4 ≠ b19 := new_ne h4 h19
      have hn6 : b6 ≠ b19 := new_ne h6 h19
      generalize hH : h15.upd b19 (.cells (List.toArray (Array.toList (List.toArray cs))) 32 (0, 0)) = h21
      have h21b : h21 b19 = some (.cells (List.toArray (Array.toList (List.toArray cs))) 32 (0, 0)) := by rw [← hH, H.upd_self]
      have k21 : Keep h15 h21 := by rw [← hH]; exact (Keep.refl _).new h19 _
      have hg0 : (List.toArray (Array.toList (List.toArray cs)))[0 + 0]? = some (.int .u64 m) := by simpa using hr.get0
      refine M.load_in h21b hg0 ⟨_, rfl, M.row_all h21b (by simp [hr.length]) (M.load_in h21b hg0 ⟨_, rfl, M.row_all h21b (by simp [hr.length]) ?_⟩)⟩
      refine text_spec hr fun h29 k29 => ?_
      refine M.still_keep k29 ⟨_, h21b⟩ (M.still_keep k29 ⟨_, h21b⟩ (M.still_keep k29 ⟨_, h21b⟩ ?_))
      refine Set_spec (k29 _ _ (k21 _ _ h4)) ?_
      have h4n : h b4 = none := hb4
      have hb31 : (h29.upd b4 (anch (setOut n s m (txt zs t odd)).2.1 (setOut n s m (txt zs t odd)).2.2 47)) b19 = some (.cells (List.toArray (Array.toList (List.toArray cs))) 32 (0, 0)) := by
        rw [H.upd_ne _ _ (Ne.symm hn4)]; exact k29 _ _ h21b
      have hb31' : (h29.upd b4 (anch (setOut n s m (txt zs t odd)).2.1 (setOut n s m (txt zs t odd)).2.2 47)) b6 = some (anch n s 28) := by
        rw [H.upd_ne _ _ (Ne.symm h46)]; exact k29 _ _ (k21 _ _ h6)
      generalize hr31 : setOut n s m (txt zs t odd) = r at hb31 hb31' ⊢
      refine M.still_in h21b hb31 (M.still_in h21b hb31 ?_)
      refine text_spec hr fun h33 k33 => ?_
      refine M.still_in h21b (k33 _ _ hb31) ?_
      refine rSet_spec (k33 _ _ hb31') ?_
      rw [hr31]
      have h354 : (h33.upd b6 (anch r.2.1 r.2.2 28)) b4 = some (anch r.2.1 r.2.2 47) := by
        rw [H.upd_ne _ _ h46]; exact k33 _ _ (H.upd_self _ _ _)
      refine Get_spec h354 ?_
      unfold M.join
      have e1 : (r.1 != r.1) = false := by simp
      have e2 : (r.2.1 != r.2.1) = false := by simp
      simp only [e1, cond_false]
      refine ⟨_, rfl, M.load_in (H.upd_self _ _ _) rfl ⟨_, rfl, ?_⟩⟩
      simp only [e2, cond_false]
      refine ⟨_, rfl, M.load_in (H.upd_self _ _ _) rfl ⟨_, rfl, ?_⟩⟩
      simp only [strEq_self, Bool.not_true, cond_false]
      have hw : IntKind.wrap .i64 (d + 1) = d + 1 := by
        rw [IntKind.wrap_i64]; omega
      unfold M.val
      rw [hw]
      refine hJ _ _ ⟨by omega, by omega, ?_, _, _, h354, H.upd_self _ _ _⟩ (by omega)
      exact ((((hk.trans k21).trans k29).own h4n _).trans k33).own h6n _
  · simp only [hlt, decide_false, cond_false]
    exact k _ hk
end Go.Proofs.Ytgkebmhkmedadaa

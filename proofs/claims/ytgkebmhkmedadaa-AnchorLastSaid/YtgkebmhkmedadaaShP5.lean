/- AnchorLast: the given statement, proved. -/
import Derived.Test.YtgkebmhkmedadaaShP4
namespace Go.Proofs.Ytgkebmhkmedadaa
open Go.Sh Go.RowKit Go.ChangeShapes Go.WideShapes Go.ChangeAt

/-- Rows of 32 bytes. -/
def Digests (h : H) (a : Option Addr) (l : Nat) : Prop := ∀ b, a = some b → ∀ i, i < l → ∃ zs : List Int, zs.length = 32 ∧ Go.Sh.rowAt h (b.add (i * 32)) (zs.map (Value.int .u8))
theorem last {h : H} {start : Int} {a : Option Addr} {l c : Nat} (hs0 : 0 ≤ start) (hs1 : start < 18446744073709551616) (hl : l ≤ c) (hn : a = none → l = 0) (hs : Digests h a l) {Q : Bool → H → Prop} (k : ∀ h', Keep h h' → Q true h') : law11_AnchorLast start a l c h Q := by
  refine New_spec fun b4 hb4 => ⟨by omega, ?_⟩
  have e1 : shr .u64 start 1 = start / 2 := by
    simp only [shr, show min (Int.toNat 1) IntKind.u64.bits = 1 by decide, Int.pow_one]
    rw [Int.fdiv_eq_ediv_of_nonneg _ (by omega)]
  have e2 : IntKind.wrap .u64 (start / 2 + 1) = start / 2 + 1 := by rw [IntKind.wrap_u64]; omega
  simp only [M.val, e1, e2, M.join]
  generalize hst : start / 2 + 1 = st
  have hst1 : 1 ≤ st ∧ st ≤ 9223372036854775808 := by omega
  refine M.sub0 (by simp only [mn]; split <;> omega) (by simp only [mn]; split <;> omega) ?_
  generalize hl2 : (mn ((l : Nat) : Int) 100).toNat = l2
  have hle : l2 ≤ l ∧ l2 ≤ 100 := by subst hl2; simp only [mn]; split <;> omega
  have dig : ∀ (h' : H) (b : Nat) (zs : List Int), zs.length = 32 → h' b = some (.cells (zs.map (Value.int .u8)).toArray 30 (0, 0)) → ∀ K : ByteArray → Prop, K (ofBytes zs) → M.sub (some ⟨b, 0, none⟩) 32 1 0 ((32 : Nat) : Int) fun a25 l26 _ => M.b2s h' a25 l26 K := by
    intro h' b zs hz hb K hk
    refine M.sub0 (by omega) (by omega) (M.b2s_in (zs := zs) hb hz (fun i hi => ?_) hk)
    simp
  refine M.loop_of (I := fun (d : Int) h' => 0 ≤ d ∧ d ≤ l2 ∧ Keep h h' ∧ (d = 0 → h' b4 = some (anch 0 .empty 47)) ∧ (0 < d → ∀ aa, a = some aa → ∃ zs : List Int, zs.length = 32 ∧ Go.Sh.rowAt h (aa.add ((d - 1).toNat * 32)) (zs.map (Value.int .u8)) ∧ h' b4 = some (anch (st + d - 1) (ofBytes zs) 47)))
    (μ := fun d => (l2 - d).toNat) ⟨by omega, by omega, (Keep.refl h).new hb4 _, fun _ => H.upd_self _ _ _, fun x => by omega⟩ ?_
  intro d h15 J hI hJ
  obtain ⟨hd0, hd1, hk, h40, h41⟩ := hI
  by_cases hlt : d < (l2 : Int)
  · simp only [hlt, decide_true, cond_true]
    cases a with
    | none => have := hn rfl; omega
    | some aa =>
      refine ⟨aa, rfl, hd0, hlt, ?_⟩
      obtain ⟨zs, hz, hrow⟩ := hs aa rfl d.toNat (by omega)
      have h4 : ∃ n s, h15 b4 = some (anch n s 47) ∧ n < st + d := by
        by_cases e : d = 0
        · exact ⟨_, _, h40 e, by omega⟩
        · obtain ⟨zs', _, _, hx⟩ := h41 (by omega) aa rfl
          exact ⟨_, _, hx, by omega⟩
      obtain ⟨n, s, h4, hlt2⟩ := h4
      refine ⟨zs.map (Value.int .u8), by simpa using hz, hk.row hrow, fun b19 h19 => ?_⟩
      refine ⟨by simpa using hz, M.puts_all (H.upd_self _ _ _) (by simp [isPlainCell]) (by simpa using hz) ?_⟩
      rw [upd_upd]
      have hn4 : b4 ≠ b19 := new_ne h4 h19
      generalize hH : h15.upd b19 _ = h21
      have h21b : h21 b19 = some (.cells (zs.map (Value.int .u8)).toArray 30 (0, 0)) := by rw [← hH, H.upd_self]
      have k21 : Keep h15 h21 := by rw [← hH]; exact (Keep.refl _).new h19 _
      have w1 : IntKind.wrap .u64 d = d := by rw [IntKind.wrap_u64]; omega
      have w2 : IntKind.wrap .u64 (st + d) = st + d := by rw [IntKind.wrap_u64]; omega
      have hsz : (ofBytes zs).size = 32 := by rw [ofBytes_size, hz]
      have o1 : setOut n s (st + d) (ofBytes zs) = (0, st + d, ofBytes zs) := by
        unfold setOut
        rw [if_neg (by omega), if_neg (by omega)]
      have o2 : setOut (st + d) (ofBytes zs) (st + d) (ofBytes zs) = (25, st + d, ofBytes zs) := by
        unfold setOut
        rw [if_neg (by omega), if_pos (by omega)]
      simp only [w1, w2]
      refine dig _ _ zs hz h21b _ (Set_spec (k21 _ _ h4) ?_)
      rw [o1]
      simp only [bne_self_eq_false, cond_false]
      refine dig _ _ zs hz (by rw [H.upd_ne _ _ (Ne.symm hn4)]; exact h21b) _ (Set_spec (H.upd_self _ _ _) ?_)
      rw [o2]
      simp only [bne_self_eq_false, cond_false, wrap_next hd0 (by omega : d ≤ 1000000)]
      refine hJ _ _ ⟨by omega, by omega, ((hk.trans k21).own hb4 _).own hb4 _, fun e => by omega, fun _ ab hab => ⟨zs, hz, ?_, ?_⟩⟩ (by omega)
      · simp only [Option.some.injEq] at hab
        subst hab
        rw [show (d + 1 - 1).toNat = d.toNat by omega]; exact hrow
      · rw [H.upd_self, show st + (d + 1) - 1 = st + d by omega]
  · simp only [hlt, decide_false, cond_false]
    have hd : d = l2 := by omega
    subst hd
    by_cases h0 : (l2 : Int) = 0
    · refine Get_spec (h40 h0) ?_
      simp only [h0, beq_self_eq_true, cond_true]
      refine wakes_spec fun h' k' => ?_
      simp only [cond_true, strEq_self]
      exact k _ (hk.trans k')
    · cases a with
      | none => have := hn rfl; omega
      | some aa =>
        obtain ⟨zs, hz, hrow, h4⟩ := h41 (by omega) aa rfl
        refine Get_spec h4 ?_
        have : ((l2 : Int) == 0) = false := by simpa using h0
        simp only [this, cond_false]
        refine wakes_spec fun h' k' => ?_
        have w1 : IntKind.wrap .u64 (l2 : Int) = l2 := by rw [IntKind.wrap_u64]; omega
        have w2 : IntKind.wrap .u64 (st + l2) = st + l2 := by rw [IntKind.wrap_u64]; omega
        have w3 : IntKind.wrap .u64 (st + l2 - 1) = st + l2 - 1 := by rw [IntKind.wrap_u64]; omega
        have w4 : IntKind.wrap .i64 ((l2 : Int) - 1) = (l2 : Int) - 1 := by rw [IntKind.wrap_i64]; omega
        simp only [cond_true, w1, w2, w3, w4, beq_self_eq_true]
        refine ⟨aa, rfl, by omega, by omega, M.sub0 (by omega) (by omega) ⟨fun x => by simp at x, fun b' x => ?_⟩⟩
        simp only [Option.some.injEq] at x
        subst x
        refine ⟨zs, hz, (hk.trans k').row hrow, ?_⟩
        show Q (strEq (ofBytes zs) (ofBytes zs)) h'
        rw [strEq_self]
        exact k _ (hk.trans k')
theorem digests_of {h : H} {f : Nat} {cs : List Value} (hi : In Try.prog h f 40 cs) : ∃ a l c, cs = [Value.slice a l c] ∧ l ≤ c ∧ c ≤ maxLen ∧ (a = none → l = 0) ∧ Digests h a l := by
  cases f with
  | zero => exact hi.elim
  | succ f =>
    unfold In at hi
    rw [Try.underlying40] at hi
    obtain ⟨a, l, c, rfl, h1, h2, h3, h4⟩ := hi
    refine ⟨a, l, c, rfl, h1, h2, fun hn => (h3 hn).1, fun b hb i hil => ?_⟩
    obtain ⟨r, _, hr, hin⟩ := h4 b hb i hil
    obtain ⟨zs, hz, rfl⟩ := bytes_of Try.underlying30 Try.underlying5 (by decide +kernel) (by decide +kernel) hin
    rw [show Try.prog.cellsOf 30 = 32 by decide +kernel] at hr
    exact ⟨zs, hz, hr⟩
theorem last_calls (start : Int) (a : Option Addr) (l c : Nat) (W : World) (hs0 : 0 ≤ start) (hs1 : start < 18446744073709551616) (hl : l ≤ c) (hn : a = none → l = 0) (hs : Digests (hp W) a l) :
    Calls Try.prog 5 #[.int .u64 start, .slice a l c] W fun e W' => e = .returned (.bool true) ∧ Below W.heap.size W W' := by
  have key : law11_AnchorLast.W #[.int .u64 start, .slice a l c] (fun v h' => v = .bool true ∧ Keep (hp W) h') (hp W) := by
    rw [law11_AnchorLast.W_eq]
    exact last (h := hp W) hs0 hs1 hl hn hs fun h' k => ⟨rfl, k⟩
  refine (FnGood.calls law11_AnchorLast.good Try.call5 key).mono fun e W' h => ?_
  obtain ⟨v, rfl, ⟨rfl, k⟩, st⟩ := h
  exact ⟨rfl, k.below st⟩
set_option maxRecDepth 100000 in
theorem last_lifted (os : Os) (started : os.Started) (H : Type) (enc : TypeId × Value → H) :
    ReturnsInHanded {} Try.checked os 5 .any (Rows.anchorLastSpec.pre6 enc Try.prog Try.f5 Rows.anchorLastRow.domain false) (Rows.anchorLastSpec.post enc Try.prog Try.f5 false true false false) := by
  refine returnsInHanded_of_change (C := Try.checked) Try.own started (by kernel_rfl) Try.func5
    (ChangeSpec.witness6 (enc := enc) (C := Try.checked) false ⟨#[], #[.int .u64 0, .slice none 0 0], []⟩ 8 (by kernel_rfl) (by kernel_rfl) (by kernel_rfl) (by kernel_rfl)) ?_
  intro W base args ds gs before hval0 hW hcnd _
  have hW' := hW
  obtain ⟨p, q, hA0, hV, rfl, hfz, hnd⟩ := hW
  have hA : DataW.TrodAll enc Try.prog W 0 (fun _ => true) true Try.f5.params.toList args.toList ds p := hA0
  rw [Try.params5] at hA
  obtain ⟨v0, v1, d0, d1, p0, p1, rfl, rfl, rfl, h0, h1⟩ := trodAll_two hA
  obtain ⟨n, rfl, rfl, rfl, wn⟩ := open_int Try.underlying26 (hval0 0 26 v0 rfl rfl) h0
  obtain ⟨fuel, h1⟩ := h1
  obtain ⟨a, l, c, hv, hl, hc, hn, hs⟩ := digests_of (In_of_trod h1)
  obtain ⟨a', l', c', rfl⟩ := okWide_slice Try.underlying40 (hval0 1 40 v1 rfl rfl)
  obtain ⟨rfl, rfl, rfl⟩ : a' = a ∧ l' = l ∧ c' = c := by simpa [Value.cells] using hv
  have hr : 0 ≤ n ∧ n < 18446744073709551616 := by
    simp [Lit.wf, IntKind.min, IntKind.max, IntKind.signed, IntKind.bits] at wn
    omega
  refine (last_calls n a' l' c' W hr.1 hr.2 hl hn hs).mono fun e W' h => ?_
  obtain ⟨rfl, hb⟩ := h
  exact ⟨_, rfl, post_true Try.laidOut (by decide +kernel) rfl rfl rfl rfl rfl Try.underlying4 hW' hb⟩
theorem last_holds : Rows.AnchorLastSaid :=
  OpenClaim.holds_of_wide 5 Try.f5 rfl rfl rfl rfl rfl rfl rfl ⟨rfl, rfl, rfl, rfl, rfl⟩ rfl rfl rfl rfl rfl (by kernel_rfl) Try.func5 (by kernel_rfl)
    (of_decide_eq_true (by kernel_rfl)) (by unfold Func.isWrapper; first | (rw [if_pos (by decide +kernel)]; kernel_rfl) | (rw [if_neg (by decide +kernel)]; exact ⟨rfl, rfl⟩))
    (fun os started H enc _ => last_lifted os started H enc)
#print axioms last_holds
end Go.Proofs.Ytgkebmhkmedadaa

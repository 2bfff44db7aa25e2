/- AnchorRises: the given statement, proved. -/
import Derived.Test.YtgkebmhkmedadaaShP3
namespace Go.Proofs.Ytgkebmhkmedadaa
open Go.Sh Go.RowKit Go.ChangeShapes Go.WideShapes Go.ChangeAt

theorem setOut_err {n : Int} {s : ByteArray} {c : Int} {d : ByteArray} : setOut n s c d = (7, n, s) ∨ setOut n s c d = (25, n, s) ∨ (setOut n s c d = (0, c, d) ∧ ¬ c ≤ n) := by
  unfold setOut
  split
  · exact .inl rfl
  · split
    · exact .inr (.inl rfl)
    · exact .inr (.inr ⟨rfl, ‹_›⟩)
theorem wrap_next {d : Int} (h0 : 0 ≤ d) (h1 : d ≤ 1000000) : IntKind.wrap .i64 (d + 1) = d + 1 := by rw [IntKind.wrap_i64]; omega
theorem rises {h : H} {a : Option Addr} {l c : Nat} (hl : l ≤ c) (hn : a = none → l = 0) (hs : Script h a l) {Q : Bool → H → Prop} (k : ∀ h', Keep h h' → Q true h') : law11_AnchorRises a l c h Q := by
  refine New_spec fun b4 hb4 => ?_
  unfold M.join
  refine M.sub0 (by simp only [mn]; split <;> omega) (by simp only [mn]; split <;> omega) ?_
  generalize hl2 : (mn ((l : Nat) : Int) 100).toNat = l2
  have hle : l2 ≤ l ∧ l2 ≤ 100 := by subst hl2; simp only [mn]; split <;> omega
  refine M.loop_of (I := fun (d : Int) h' => 0 ≤ d ∧ d ≤ l2 ∧ Keep h h' ∧ ∃ n s, h' b4 = some (anch n s 47)) (μ := fun d => (l2 - d).toNat) ⟨by omega, by omega, (Keep.refl h).new hb4 _, 0, .empty, H.upd_self _ _ _⟩ ?_
  intro d h15 J hI hJ
  obtain ⟨hd0, hd1, hk, n, s, h4⟩ := hI
  by_cases hlt : d < (l2 : Int)
  · simp only [hlt, decide_true, cond_true]
    cases a with
    | none => have := hn rfl; omega
    | some aa =>
      refine ⟨aa, rfl, hd0, hlt, ?_⟩
      obtain ⟨cs, m, zs, t, odd, hrow, hr⟩ := hs aa rfl d.toNat (by omega)
      refine ⟨cs, hr.length, hk.row hrow, fun b19 h19 => ?_⟩
      refine ⟨by simp [hr.length], M.puts_all (H.upd_self _ _ _) (by simpa using hr.plain) (by simp [hr.length]) ?_⟩
      rw [upd_upd]
      simp only [addr_add]
      have hn4 : b4 ≠ b19 := new_ne h4 h19
      generalize hH : h15.upd b19 (.cells (List.toArray (Array.toList (List.toArray cs))) 32 (0, 0)) = h21
      have h21b : h21 b19 = some (.cells (List.toArray (Array.toList (List.toArray cs))) 32 (0, 0)) := by rw [← hH, H.upd_self]
      have k21 : Keep h15 h21 := by rw [← hH]; exact (Keep.refl _).new h19 _
      have hg0 : (List.toArray (Array.toList (List.toArray cs)))[0 + 0]? = some (.int .u64 m) := by simpa using hr.get0
      have h214 := k21 _ _ h4
      refine Get_spec h214 ?_
      refine M.load_in h21b hg0 ⟨_, rfl, M.row_all h21b (by simp [hr.length]) ?_⟩
      refine text_spec hr fun h29 k29 => ?_
      refine M.still_keep k29 ⟨_, h21b⟩ ?_
      refine Set_spec (k29 _ _ h214) ?_
      generalize hh31 : h29.upd b4 (anch (setOut n s m (txt zs t odd)).2.1 (setOut n s m (txt zs t odd)).2.2 47) = h31
      have h314 : h31 b4 = some (anch (setOut n s m (txt zs t odd)).2.1 (setOut n s m (txt zs t odd)).2.2 47) := by rw [← hh31, H.upd_self]
      have hb31 : h31 b19 = some (.cells (List.toArray (Array.toList (List.toArray cs))) 32 (0, 0)) := by
        rw [← hh31, H.upd_ne _ _ (Ne.symm hn4)]; exact k29 _ _ h21b
      have k31 : Keep h h31 := by rw [← hh31]; exact ((hk.trans k21).trans k29).own hb4 _
      refine Get_spec h314 ?_
      -- what follows when nothing is found
      have fin : ∀ h39, Keep h31 h39 → (M.load h39 ⟨b19, 0 + 0, none⟩ fun v40 => M.int .u64 v40 fun n41 => M.row h39 ⟨b19, 0, none⟩ 35 fun cs42 => law11_text (List.toArray cs42) h39 fun s43 h44 =>
          M.still h39 ⟨b19, 0 + 0, none⟩ 1 h44 (anchor_Anchor_Set none n41 s43 h44 fun n45 h46 => bif (n45 != (1 : Int)) then Q false h46 else M.val (IntKind.wrap .i64 (d + (1 : Int))) fun z47 => J z47 h46)) := by
        intro h39 k39
        have hb39 := k39 _ _ hb31
        refine M.load_in hb39 hg0 ⟨_, rfl, M.row_all hb39 (by simp [hr.length]) ?_⟩
        refine text_spec hr fun h44 k44 => ?_
        refine M.still_keep k44 ⟨_, hb39⟩ (Set_nil ?_)
        simp only [bne_self_eq_false, cond_false]
        unfold M.val
        rw [wrap_next hd0 (by omega)]
        exact hJ _ _ ⟨by omega, by omega, (k31.trans k39).trans k44, _, _, k44 _ _ (k39 _ _ h314)⟩ (by omega)
      rcases setOut_err (n := n) (s := s) (c := m) (d := txt zs t odd) with e | e | ⟨e, hgt⟩
      · simp only [e, Int.reduceBEq, Int.reduceBNe, cond_true, cond_false, strEq_self, Bool.not_true, bne_self_eq_false]
        exact fin _ (Keep.refl _)
      · simp only [e, Int.reduceBEq, Int.reduceBNe, cond_true, cond_false, strEq_self, Bool.not_true, bne_self_eq_false]
        exact fin _ (Keep.refl _)
      · simp only [e, Int.reduceBEq, Int.reduceBNe, cond_true, cond_false]
        refine M.load_in hb31 hg0 ⟨_, rfl, ?_⟩
        simp only [bne_self_eq_false, cond_false, hgt, decide_false]
        refine M.row_all hb31 (by simp [hr.length]) ?_
        refine text_spec hr fun h37 k37 => ?_
        simp only [strEq_self, Bool.not_true, cond_false]
        exact fin _ k37
  · simp only [hlt, decide_false, cond_false]
    refine Get_nil ?_
    refine wakes_spec fun h' k' => ?_
    simp only [cond_true, beq_self_eq_true, strEq_self]
    exact k _ (hk.trans k')
theorem rises_calls (a : Option Addr) (l c : Nat) (W : World) (hl : l ≤ c) (hn : a = none → l = 0) (hs : Script (hp W) a l) :
    Calls Try.prog 4 #[.slice a l c] W fun e W' => e = .returned (.bool true) ∧ Below W.heap.size W W' := by
  have key : law11_AnchorRises.W #[.slice a l c] (fun v h' => v = .bool true ∧ Keep (hp W) h') (hp W) := by
    rw [law11_AnchorRises.W_eq]
    exact rises (h := hp W) hl hn hs fun h' k => ⟨rfl, k⟩
  refine (FnGood.calls law11_AnchorRises.good Try.call4 key).mono fun e W' h => ?_
  obtain ⟨v, rfl, ⟨rfl, k⟩, st⟩ := h
  exact ⟨rfl, k.below st⟩
set_option maxRecDepth 100000 in
theorem rises_lifted (os : Os) (started : os.Started) (H : Type) (enc : TypeId × Value → H) :
    ReturnsInHanded {} Try.checked os 4 .any (Rows.anchorRisesSpec.pre6 enc Try.prog Try.f4 Rows.anchorRisesRow.domain false) (Rows.anchorRisesSpec.post enc Try.prog Try.f4 false true false false) := by
  refine returnsInHanded_of_change (C := Try.checked) Try.own started (by kernel_rfl) Try.func4
    (ChangeSpec.witness6 (enc := enc) (C := Try.checked) false ⟨#[], #[.slice none 0 0], []⟩ 8 (by kernel_rfl) (by kernel_rfl) (by kernel_rfl) (by kernel_rfl)) ?_
  intro W base args ds gs before hval0 hW hcnd _
  have hW' := hW
  obtain ⟨p, q, hA0, hV, rfl, hfz, hnd⟩ := hW
  have hA : DataW.TrodAll enc Try.prog W 0 (fun _ => true) true Try.f4.params.toList args.toList ds p := hA0
  rw [Try.params4] at hA
  obtain ⟨v0, d0, rfl, rfl, h0⟩ := trodAll_one hA
  obtain ⟨fuel, h0⟩ := h0
  obtain ⟨a, l, c, hv, hl, hc, hn, hs⟩ := script_of (In_of_trod h0)
  obtain ⟨a', l', c', rfl⟩ := okWide_slice Try.underlying22 (hval0 0 22 v0 rfl rfl)
  obtain ⟨rfl, rfl, rfl⟩ : a' = a ∧ l' = l ∧ c' = c := by simpa [Value.cells] using hv
  refine (rises_calls a' l' c' W hl hn hs).mono fun e W' h => ?_
  obtain ⟨rfl, hb⟩ := h
  exact ⟨_, rfl, post_true Try.laidOut (by decide +kernel) rfl rfl rfl rfl rfl Try.underlying4 hW' hb⟩
theorem rises_holds : Rows.AnchorRisesSaid :=
  OpenClaim.holds_of_wide 4 Try.f4 rfl rfl rfl rfl rfl rfl rfl ⟨rfl, rfl, rfl, rfl, rfl⟩ rfl rfl rfl rfl rfl (by kernel_rfl) Try.func4 (by kernel_rfl)
    (of_decide_eq_true (by kernel_rfl)) (by unfold Func.isWrapper; first | (rw [if_pos (by decide +kernel)]; kernel_rfl) | (rw [if_neg (by decide +kernel)]; exact ⟨rfl, rfl⟩))
    (fun os started H enc _ => rises_lifted os started H enc)
#print axioms rises_holds
end Go.Proofs.Ytgkebmhkmedadaa

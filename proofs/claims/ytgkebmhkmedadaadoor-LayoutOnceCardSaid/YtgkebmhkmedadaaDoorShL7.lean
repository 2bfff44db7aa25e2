/- The layout's laws, 5: LayoutOnce and LayoutRounds. -/
import Derived.Test.YtgkebmhkmedadaaDoorShL5
import Derived.Test.YtgkebmhkmedadaaDoorShB4
namespace Go.Proofs.YtgkebmhkmedadaaDoor
open Go.Sh Go.RowKit
set_option linter.unusedSimpArgs false
set_option linter.unusedVariables false

theorem lk3 : lkOf (Tryd.prog.underlying 3) = .one (.int .i64) := by rw [Tryd.underlying3]; rfl
theorem pair_eq (a b c d : Int) (w : World) : (Op.equal 41 (.agg #[.int .i64 a, .int .i64 b]) (.agg #[.int .i64 c, .int .i64 d])).run Tryd.prog w = .ok (a == c && b == d) w := by
  have h3 : (sizeOf 3).run Tryd.prog w = .ok 1 w := by kernel_rfl
  have h5 : ∀ x y, (Op.equalIn 9999 3 (.int .i64 x) (.int .i64 y)).run Tryd.prog w = .ok (x == y) w := fun x y => run_equalIn_int w 9998 3 .i64 .i64 x y Tryd.underlying3
  have p0 : ∀ x y : Int, (part 3 #[.int .i64 x, .int .i64 y] 0).run Tryd.prog w = .ok (.int .i64 x) w := fun x y => run_part_one lk3 rfl w
  have p1 : ∀ x y : Int, (part 3 #[.int .i64 x, .int .i64 y] 1).run Tryd.prog w = .ok (.int .i64 y) w := fun x y => run_part_one lk3 rfl w
  unfold Op.equal Op.maxDepth Op.equalIn
  simp [run_underlying Tryd.underlying41, h3, Std.Legacy.Range.forIn_eq_forIn_range', show List.range' 0 2 = [0, 1] from rfl, List.forIn_cons, p0, p1, h5]
  by_cases e1 : a = c <;> by_cases e2 : b = d <;> simp [e1, e2]
theorem pair_chk (a b : Int) (e : Bool) (w : World) : (Instr.checkKey e 10000 41 (.agg #[.int .i64 a, .int .i64 b])).run Tryd.prog w = .ok () w := by
  have h3 : (sizeOf 3).run Tryd.prog w = .ok 1 w := by kernel_rfl
  have h5 : ∀ x, (Instr.checkKey e 9999 3 (.int .i64 x)).run Tryd.prog w = .ok () w := fun x => by
    unfold Instr.checkKey
    rw [Sem.run_bind, run_underlying Tryd.underlying3, Result.andThen_ok]; rfl
  have p0 : ∀ x y : Int, (part 3 #[.int .i64 x, .int .i64 y] 0).run Tryd.prog w = .ok (.int .i64 x) w := fun x y => run_part_one lk3 rfl w
  have p1 : ∀ x y : Int, (part 3 #[.int .i64 x, .int .i64 y] 1).run Tryd.prog w = .ok (.int .i64 y) w := fun x y => run_part_one lk3 rfl w
  unfold Instr.checkKey
  simp [run_underlying Tryd.underlying41, h3, Std.Legacy.Range.forIn_eq_forIn_range', show List.range' 0 2 = [0, 1] from rfl, List.forIn_cons, p0, p1, h5]
abbrev pairV (a b : Int) : Value := .agg #[.int .i64 a, .int .i64 b]
theorem pairV_inj {a b c d : Int} : pairV a b = pairV c d ↔ a = c ∧ b = d := by
  simp [pairV]
theorem keys_pair : Keys Tryd.prog 41 (fun v => ∃ a b, v = pairV a b) where
  eq := by
    rintro _ _ ⟨a, b, rfl⟩ ⟨c, d, rfl⟩ w
    rw [pair_eq]
    congr 1
    by_cases e1 : a = c <;> by_cases e2 : b = d <;> simp [e1, e2]
  now := by
    rintro _ _ d ⟨a, b, rfl⟩ ⟨_, _, rfl⟩ hd
    left
    rw [Tryd.underlying41] at hd
    simp only [Option.some.injEq] at hd
    subst hd; rfl
  chk := by
    rintro _ ⟨a, b, rfl⟩ e w
    exact pair_chk a b e w
  same := by
    rintro _ ⟨a, b, rfl⟩
    simp [Instr.sameBits]
  und := ⟨_, Tryd.underlying41⟩
theorem zero4 : ∀ w, (zeroValue 4).run Tryd.prog w = .ok (.bool false) w := fun w => by kernel_rfl
theorem map40 : Tryd.prog.underlying 40 = some (.map 41 4) := Tryd.underlying40
theorem map52 : Tryd.prog.underlying 52 = some (.map 3 4) := Tryd.underlying52

/-- The places that the first 'n' blocks have. -/
noncomputable def met (D S M : Int) (g : Bool) (n : Int) : Value → Option Value :=
  fun k => open Classical in if ∃ b, 0 ≤ b ∧ b < n ∧ k = pairV (FindZ D S M g b).1 (FindZ D S M g b).2.1 then some (.bool true) else none
theorem met_none {D S M : Int} {g : Bool} {n : Int} {k : Value} (h : ¬ ∃ b, 0 ≤ b ∧ b < n ∧ k = pairV (FindZ D S M g b).1 (FindZ D S M g b).2.1) : met D S M g n k = none := by
  unfold met; rw [if_neg h]
theorem met_next {D S M : Int} {g : Bool} {n : Int} (hn : 0 ≤ n) : (fun x => open Classical in if x = pairV (FindZ D S M g n).1 (FindZ D S M g n).2.1 then some (.bool true) else met D S M g n x) = met D S M g (n + 1) := by
  funext x
  unfold met
  by_cases h : x = pairV (FindZ D S M g n).1 (FindZ D S M g n).2.1
  · rw [if_pos h, if_pos ⟨n, hn, by omega, h⟩]
  · rw [if_neg h]
    by_cases h2 : ∃ b, 0 ≤ b ∧ b < n ∧ x = pairV (FindZ D S M g b).1 (FindZ D S M g b).2.1
    · obtain ⟨b, h3, h4, h5⟩ := h2
      rw [if_pos ⟨b, h3, h4, h5⟩, if_pos ⟨b, h3, by omega, h5⟩]
    · rw [if_neg h2, if_neg]
      rintro ⟨b, h3, h4, h5⟩
      by_cases e : b = n
      · subst e; exact h h5
      · exact h2 ⟨b, h3, by omega, h5⟩
theorem layoutOnce {x0 x1 x2 : Int} {g : Bool} {h : H} {Q : Bool → H → Prop} (hs : Sizes h) (k : ∀ h', Keep h h' → Q true h') : law18_LayoutOnce x0 x1 x2 g h Q := by
  refine M.new_of fun b2 h3 n2 k3 f2 => ?_
  have f2' : h3 b2 = some (lay x0 x1 x2 g 23) := f2
  simp only [addr_add, load_eq, Nat.zero_add, Nat.add_zero, Nat.mul_one, Nat.one_mul, Nat.zero_mul, Nat.reduceAdd, List.getElem?_toArray, List.getElem?_cons_zero, List.getElem?_cons_succ, some_and, int_eq, bool_eq, str_eq, slc_eq, ptr_eq, nn_eq, M.val, cond_true, cond_false, Bool.not_true, Bool.not_false, lay0 f2', lay1 f2', lay2 f2', lay3 f2']
  refine good_spec fun h16 k16 => M.new_of fun b17 h18 n17 k18 f17 => ⟨rfl, M.puts_of f17 (by simp [isPlainCell]) rfl fun h19 u19 f19 => M.new_of fun b20 h21 n20 k21 f20 => ?_⟩
  have hgood := good_is x0 x1 x2 g
  have hD := gData_le x0
  have hS := gSlots_cases x1
  generalize gData x0 = D at *
  generalize gSlots x1 = S at *
  generalize gMark x2 x1 g = M0 at *
  have k19 : Keep h h19 := u19.keep ((k3.trans k16).trans k18) ((k3.trans k16).none n17)
  have kk21 : Keep h h21 := k19.trans k21
  have n20' : h b20 = none := k19.none n20
  have f17' : h21 b17 = some (lay D S M0 g 24) := k21 _ _ f19
  have ne : b17 ≠ b20 := new_ne f19 n20
  have hp := prod_le hS (show 0 ≤ D by omega) (by omega)
  refine M.join_of (fun (_ : Unit) h' => Keep h h' ∧ h' b17 = some (lay D S M0 g 24) ∧ MapIs (fun v => ∃ a b, v = pairV a b) h' b20 (met D S M0 g (S * D)) (S * D).toNat) ?_ ?_
  · intro J22 hJ22
    simp only [addr_add, load_eq, Nat.zero_add, Nat.add_zero, Nat.mul_one, Nat.one_mul, Nat.zero_mul, Nat.reduceAdd, List.getElem?_toArray, List.getElem?_cons_zero, List.getElem?_cons_succ, some_and, int_eq, bool_eq, str_eq, slc_eq, ptr_eq, nn_eq, M.val, cond_true, cond_false, Bool.not_true, Bool.not_false, lay0 f17', lay1 f17', lay2 f17', lay3 f17']
    refine Blocks_spec (hs.keep kk21) fun h32 k32 => ?_
    rw [show BlocksZ D S M0 g = S * D from by unfold BlocksZ; rw [if_pos hgood]]
    have m0 : MapIs (fun v => ∃ a b, v = pairV a b) h32 b20 (met D S M0 g 0) (0 : Int).toNat := by
      have : met D S M0 g 0 = fun _ => none := by
        funext x
        exact met_none (fun ⟨b, h1, h2, _⟩ => by omega)
      rw [this]
      exact (MapIs.new f20).keep k32
    refine M.loop_of (I := fun (b : Int) h' => 0 ≤ b ∧ b ≤ S * D ∧ Keep h h' ∧ h' b17 = some (lay D S M0 g 24) ∧ MapIs (fun v => ∃ a b, v = pairV a b) h' b20 (met D S M0 g b) b.toNat) (μ := fun b => (S * D - b).toNat)
      ⟨by omega, by omega, kk21.trans k32, k32 _ _ f17', m0⟩ ?_
    intro b h35 J hI hJ
    obtain ⟨hb0, hb1, k35, f35, m35⟩ := hI
    by_cases hlt : b < S * D
    · obtain ⟨t, i, ht0, ht1, hi0, hi1, htm, hti⟩ := find_ex (x := b) hgood hb0 hlt
      have hF := find_is hgood hb0 hlt ht0 ht1 hi0 hi1 htm hti
      simp only [addr_add, load_eq, Nat.zero_add, Nat.add_zero, Nat.mul_one, Nat.one_mul, Nat.zero_mul, Nat.reduceAdd, List.getElem?_toArray, List.getElem?_cons_zero, List.getElem?_cons_succ, some_and, int_eq, bool_eq, str_eq, slc_eq, ptr_eq, nn_eq, M.val, cond_true, cond_false, Bool.not_true, Bool.not_false, hlt, decide_true, lay0 f35, lay1 f35, lay2 f35, lay3 f35]
      refine Find_spec (hs.keep k35) fun h47 k47 => ?_
      have m47 := m35.keep k47
      have f47 := k47 _ _ f35
      have fresh : met D S M0 g b (pairV t i) = none := by
        refine met_none ?_
        rintro ⟨b', h1, h2, h3⟩
        obtain ⟨t', i', ht0', ht1', hi0', hi1', htm', hti'⟩ := find_ex (x := b') hgood h1 (by omega)
        rw [find_is hgood h1 (by omega) ht0' ht1' hi0' hi1' htm' hti'] at h3
        obtain ⟨e1, e2⟩ := pairV_inj.1 h3
        simp only at e1 e2
        subst e1; subst e2
        omega
      have hnext := met_next (D := D) (S := S) (M := M0) (g := g) hb0
      rw [hF] at hnext ⊢
      simp only at hnext ⊢
      refine M.join_of (fun (x : Bool) h' => x = false ∧ Keep h47 h') ?_ ?_
      · intro J48 hJ48
        simp only [addr_add, load_eq, Nat.zero_add, Nat.add_zero, Nat.mul_one, Nat.one_mul, Nat.zero_mul, Nat.reduceAdd, List.getElem?_toArray, List.getElem?_cons_zero, List.getElem?_cons_succ, some_and, int_eq, bool_eq, str_eq, slc_eq, ptr_eq, nn_eq, M.val, cond_true, cond_false, Bool.not_true, Bool.not_false, bne_self_eq_false]
        refine lk_of map40 keys_pair zero4 m47 ⟨t, i, rfl⟩ ?_
        rw [fresh]
        have c1 : ¬ i < 0 := by omega
        simp only [addr_add, load_eq, Nat.zero_add, Nat.add_zero, Nat.mul_one, Nat.one_mul, Nat.zero_mul, Nat.reduceAdd, List.getElem?_toArray, List.getElem?_cons_zero, List.getElem?_cons_succ, some_and, int_eq, bool_eq, str_eq, slc_eq, ptr_eq, nn_eq, M.val, cond_true, cond_false, Bool.not_true, Bool.not_false, Option.getD_none, c1, decide_false, lay0 f47, lay1 f47, lay2 f47, lay3 f47]
        refine Wide_spec (hs.keep (k35.trans k47)) fun h61 k61 => ?_
        have c2 : ¬ i ≥ WideZ D S M0 g t := by omega
        simp only [c2, decide_false]
        exact hJ48 _ _ ⟨rfl, k61⟩
      · rintro x h63 ⟨rfl, k63⟩
        simp only [cond_false]
        refine mput_of map40 keys_pair (m47.keep k63) ⟨t, i, rfl⟩ fun h64 u64 m64 => ?_
        rw [fresh] at m64
        have w1 : IntKind.wrap .i64 (b + 1) = b + 1 := w64 (by omega) (by omega)
        simp only [addr_add, load_eq, Nat.zero_add, Nat.add_zero, Nat.mul_one, Nat.one_mul, Nat.zero_mul, Nat.reduceAdd, List.getElem?_toArray, List.getElem?_cons_zero, List.getElem?_cons_succ, some_and, int_eq, bool_eq, str_eq, slc_eq, ptr_eq, nn_eq, M.val, cond_true, cond_false, Bool.not_true, Bool.not_false, w1]
        refine hJ _ _ ⟨by omega, by omega, u64.keep ((k35.trans k47).trans k63) n20', u64.at ne (k63 _ _ f47), ?_⟩ (by omega)
        rw [← hnext, show (b + 1).toNat = b.toNat + 1 by omega]
        exact m64
    · simp only [hlt, decide_false, cond_false]
      have e : b = S * D := by omega
      subst e
      exact hJ22 _ _ ⟨k35, f35, m35⟩
  · rintro ⟨⟩ h67 ⟨k67, f67, m67⟩
    refine M.join_of (fun (x : Bool) h' => x = true ∧ Keep h h') ?_ (fun x h' ⟨e, kk⟩ => by subst e; exact k _ kk)
    intro J68 hJ68
    refine wakes_spec (hs.keep k67) fun h70 k70 => ?_
    have f70 := k70 _ _ f67
    simp only [cond_true]
    refine mlen_of (m67.keep k70) ?_
    have w1 : IntKind.wrap .i64 (S * D) = S * D := w64 (by omega) (by omega)
    have e : (((S * D).toNat : Nat) : Int) = S * D := by omega
    simp only [addr_add, load_eq, Nat.zero_add, Nat.add_zero, Nat.mul_one, Nat.one_mul, Nat.zero_mul, Nat.reduceAdd, List.getElem?_toArray, List.getElem?_cons_zero, List.getElem?_cons_succ, some_and, int_eq, bool_eq, str_eq, slc_eq, ptr_eq, nn_eq, M.val, cond_true, cond_false, Bool.not_true, Bool.not_false, lay0 f70, lay1 f70, w1, e, beq_self_eq_true]
    exact hJ68 _ _ ⟨rfl, k67.trans k70⟩
/-- The seats that the first 'n' chunks have. -/
noncomputable def sat (w t : Int) (n : Int) : Value → Option Value :=
  fun k => open Classical in if ∃ c, 0 ≤ c ∧ c < n ∧ k = .int .i64 ((c + t) % w) then some (.bool true) else none
theorem sat_none {w t n : Int} {k : Value} (h : ¬ ∃ c, 0 ≤ c ∧ c < n ∧ k = .int .i64 ((c + t) % w)) : sat w t n k = none := by
  unfold sat; rw [if_neg h]
theorem sat_next {w t n : Int} (hn : 0 ≤ n) : (fun x => open Classical in if x = .int .i64 ((n + t) % w) then some (.bool true) else sat w t n x) = sat w t (n + 1) := by
  funext x
  unfold sat
  by_cases h : x = .int .i64 ((n + t) % w)
  · rw [if_pos h, if_pos ⟨n, hn, by omega, h⟩]
  · rw [if_neg h]
    by_cases h2 : ∃ c, 0 ≤ c ∧ c < n ∧ x = .int .i64 ((c + t) % w)
    · obtain ⟨c, h3, h4, h5⟩ := h2
      rw [if_pos ⟨c, h3, h4, h5⟩, if_pos ⟨c, h3, by omega, h5⟩]
    · rw [if_neg h2, if_neg]
      rintro ⟨c, h3, h4, h5⟩
      by_cases e : c = n
      · subst e; exact h h5
      · exact h2 ⟨c, h3, by omega, h5⟩
set_option maxRecDepth 100000 in
theorem layoutRounds {x0 x1 x2 : Int} {g : Bool} {h : H} {Q : Bool → H → Prop} (hs : Sizes h) (k : ∀ h', Keep h h' → Q true h') : law18_LayoutRounds x0 x1 x2 g h Q := by
  refine M.new_of fun b2 h3 n2 k3 f2 => ?_
  have f2' : h3 b2 = some (lay x0 x1 x2 g 23) := f2
  simp only [addr_add, load_eq, Nat.zero_add, Nat.add_zero, Nat.mul_one, Nat.one_mul, Nat.zero_mul, Nat.reduceAdd, List.getElem?_toArray, List.getElem?_cons_zero, List.getElem?_cons_succ, some_and, int_eq, bool_eq, str_eq, slc_eq, ptr_eq, nn_eq, M.val, cond_true, cond_false, Bool.not_true, Bool.not_false, lay0 f2', lay1 f2', lay2 f2', lay3 f2']
  refine good_spec fun h16 k16 => M.new_of fun b17 h18 n17 k18 f17 => ⟨rfl, M.puts_of f17 (by simp [isPlainCell]) rfl fun h19 u19 f19 => ?_⟩
  have hgood := good_is x0 x1 x2 g
  have hD := gData_le x0
  have hS := gSlots_cases x1
  generalize gData x0 = D at *
  generalize gSlots x1 = S at *
  generalize gMark x2 x1 g = M0 at *
  have k19 : Keep h h19 := u19.keep ((k3.trans k16).trans k18) ((k3.trans k16).none n17)
  have f19' : h19 b17 = some (lay D S M0 g 24) := f19
  simp only [addr_add, load_eq, Nat.zero_add, Nat.add_zero, Nat.mul_one, Nat.one_mul, Nat.zero_mul, Nat.reduceAdd, List.getElem?_toArray, List.getElem?_cons_zero, List.getElem?_cons_succ, some_and, int_eq, bool_eq, str_eq, slc_eq, ptr_eq, nn_eq, M.val, cond_true, cond_false, Bool.not_true, Bool.not_false, lay1 f19']
  refine M.loop_of (I := fun (t : Int) h' => 0 ≤ t ∧ t ≤ S ∧ Keep h19 h') (μ := fun t => (S - t).toNat) ⟨by omega, by omega, Keep.refl _⟩ ?_
  intro t h24 J hI hJ
  obtain ⟨ht0, ht1, k24⟩ := hI
  by_cases hlt : t < S
  · have f24 := k24 _ _ f19'
    simp only [addr_add, load_eq, Nat.zero_add, Nat.add_zero, Nat.mul_one, Nat.one_mul, Nat.zero_mul, Nat.reduceAdd, List.getElem?_toArray, List.getElem?_cons_zero, List.getElem?_cons_succ, some_and, int_eq, bool_eq, str_eq, slc_eq, ptr_eq, nn_eq, M.val, cond_true, cond_false, Bool.not_true, Bool.not_false, hlt, decide_true, lay0 f24, lay1 f24, lay2 f24, lay3 f24]
    refine Wide_spec (hs.keep (k19.trans k24)) fun h34 k34 => ?_
    have wide_pos : ∀ t, 0 ≤ t → t < S → 2 ≤ WideZ D S M0 g t ∧ WideZ D S M0 g t ≤ 8 := fun t h0 h1 => by
      unfold WideZ
      rw [if_pos ⟨hgood, h0, h1⟩]
      split <;> omega
    have hw := wide_pos t ht0 hlt
    have w1 : IntKind.wrap .i64 (WideZ D S M0 g t + 2) = WideZ D S M0 g t + 2 := w64 (by omega) (by omega)
    rw [w1]
    have hWW : WideZ D S M0 g t = WideZ D S M0 g t := rfl
    refine M.new_of fun b36 h37 n36 k37 f36 => ?_
    have kk37 : Keep h19 h37 := (k24.trans k34).trans k37
    have f37 := kk37 _ _ f19'
    have n36' : h19 b36 = none := (k24.trans k34).none n36
    have ne : b17 ≠ b36 := new_ne (k34 _ _ f24) n36
    refine M.join_of (fun (_ : Unit) h' => Keep h19 h') ?_ ?_
    · intro J38 hJ38
      have m0 : MapIs (fun v => ∃ n, v = .int .i64 n) h37 b36 (sat (WideZ D S M0 g t + 2) t 0) (0 : Int).toNat := by
        have : sat (WideZ D S M0 g t + 2) t 0 = fun _ => none := by
          funext x
          exact sat_none (fun ⟨b, h1, h2, _⟩ => by omega)
        rw [this]
        exact MapIs.new f36
      refine M.loop_of (I := fun (c : Int) h' => 0 ≤ c ∧ c ≤ WideZ D S M0 g t + 2 ∧ Keep h19 h' ∧ MapIs (fun v => ∃ n, v = .int .i64 n) h' b36 (sat (WideZ D S M0 g t + 2) t c) c.toNat) (μ := fun c => (WideZ D S M0 g t + 2 - c).toNat)
        ⟨by omega, by omega, kk37, m0⟩ ?_
      intro c h41 J39 hI2 hJ39
      obtain ⟨hc0, hc1, k41, m41⟩ := hI2
      by_cases hc : c < WideZ D S M0 g t + 2
      · have f41 := k41 _ _ f19'
        simp only [addr_add, load_eq, Nat.zero_add, Nat.add_zero, Nat.mul_one, Nat.one_mul, Nat.zero_mul, Nat.reduceAdd, List.getElem?_toArray, List.getElem?_cons_zero, List.getElem?_cons_succ, some_and, int_eq, bool_eq, str_eq, slc_eq, ptr_eq, nn_eq, M.val, cond_true, cond_false, Bool.not_true, Bool.not_false, hc, decide_true, lay0 f41, lay1 f41, lay2 f41, lay3 f41]
        refine Seat_spec (hs.keep (k19.trans k41)) fun h52 k52 => ?_
        have hseat : SeatZ D S M0 g t c = ((c + t) % (WideZ D S M0 g t + 2), 0) := by
          unfold SeatZ
          rw [if_pos hgood, if_pos ⟨by omega, hc0, hc⟩]
        have f52 := k52 _ _ f41
        have s0 := Int.emod_nonneg (c + t) (show WideZ D S M0 g t + 2 ≠ 0 by omega)
        have s1 := Int.emod_lt_of_pos (c + t) (show 0 < WideZ D S M0 g t + 2 by omega)
        rw [hseat]
        simp only [addr_add, load_eq, Nat.zero_add, Nat.add_zero, Nat.mul_one, Nat.one_mul, Nat.zero_mul, Nat.reduceAdd, List.getElem?_toArray, List.getElem?_cons_zero, List.getElem?_cons_succ, some_and, int_eq, bool_eq, str_eq, slc_eq, ptr_eq, nn_eq, M.val, cond_true, cond_false, Bool.not_true, Bool.not_false, lay0 f52, lay1 f52, lay2 f52, lay3 f52]
        refine Chunk_spec (hs.keep (k19.trans (k41.trans k52))) fun h63 k63 => ?_
        have hchunk : ChunkZ D S M0 g t ((c + t) % (WideZ D S M0 g t + 2)) = (c, true) := by
          unfold ChunkZ
          rw [if_pos ⟨by omega, s0, s1⟩]
          have := round_one (t := t) (Int.emod_nonneg ((c + t) % (WideZ D S M0 g t + 2) + (WideZ D S M0 g t + 2) - t % (WideZ D S M0 g t + 2)) (show WideZ D S M0 g t + 2 ≠ 0 by omega)) (Int.emod_lt_of_pos _ (show 0 < WideZ D S M0 g t + 2 by omega)) hc0 hc (round (by omega) s0 s1)
          rw [this]
        rw [hchunk]
        have m63 := (m41.keep k52).keep k63
        have fresh : sat (WideZ D S M0 g t + 2) t c (.int .i64 ((c + t) % (WideZ D S M0 g t + 2))) = none := by
          refine sat_none ?_
          rintro ⟨c', h1, h2, h3⟩
          simp only [Value.int.injEq, true_and] at h3
          have := round_one hc0 hc h1 (by omega) h3
          omega
        have hnext := sat_next (w := WideZ D S M0 g t + 2) (t := t) hc0
        refine M.join_of (fun (x : Bool) h' => x = false ∧ Keep h63 h') ?_ ?_
        · intro J64 hJ64
          simp only [addr_add, load_eq, Nat.zero_add, Nat.add_zero, Nat.mul_one, Nat.one_mul, Nat.zero_mul, Nat.reduceAdd, List.getElem?_toArray, List.getElem?_cons_zero, List.getElem?_cons_succ, some_and, int_eq, bool_eq, str_eq, slc_eq, ptr_eq, nn_eq, M.val, cond_true, cond_false, Bool.not_true, Bool.not_false, bne_self_eq_false]
          refine lk_of map52 (keys_int Tryd.underlying3) zero4 m63 ⟨_, rfl⟩ ?_
          rw [fresh]
          have c1 : ¬ (c + t) % (WideZ D S M0 g t + 2) < 0 := by omega
          have c2 : ¬ (c + t) % (WideZ D S M0 g t + 2) ≥ WideZ D S M0 g t + 2 := by omega
          simp only [addr_add, load_eq, Nat.zero_add, Nat.add_zero, Nat.mul_one, Nat.one_mul, Nat.zero_mul, Nat.reduceAdd, List.getElem?_toArray, List.getElem?_cons_zero, List.getElem?_cons_succ, some_and, int_eq, bool_eq, str_eq, slc_eq, ptr_eq, nn_eq, M.val, cond_true, cond_false, Bool.not_true, Bool.not_false, Option.getD_none, c1, c2, decide_false, bne_self_eq_false]
          exact hJ64 _ _ ⟨rfl, Keep.refl _⟩
        · rintro x h69 ⟨rfl, k69⟩
          simp only [cond_false]
          refine mput_of map52 (keys_int Tryd.underlying3) (m63.keep k69) ⟨_, rfl⟩ fun h70 u70 m70 => ?_
          rw [fresh] at m70
          have w2 : IntKind.wrap .i64 (c + 1) = c + 1 := w64 (by omega) (by omega)
          simp only [addr_add, load_eq, Nat.zero_add, Nat.add_zero, Nat.mul_one, Nat.one_mul, Nat.zero_mul, Nat.reduceAdd, List.getElem?_toArray, List.getElem?_cons_zero, List.getElem?_cons_succ, some_and, int_eq, bool_eq, str_eq, slc_eq, ptr_eq, nn_eq, M.val, cond_true, cond_false, Bool.not_true, Bool.not_false, w2]
          refine hJ39 _ _ ⟨by omega, by omega, u70.keep (((k41.trans k52).trans k63).trans k69) n36', ?_⟩ (by omega)
          rw [← hnext, show (c + 1).toNat = c.toNat + 1 by omega]
          exact m70
      · simp only [hc, decide_false, cond_false]
        exact hJ38 _ _ k41
    · rintro ⟨⟩ h73 k73
      have f73 := k73 _ _ f19'
      simp only [addr_add, load_eq, Nat.zero_add, Nat.add_zero, Nat.mul_one, Nat.one_mul, Nat.zero_mul, Nat.reduceAdd, List.getElem?_toArray, List.getElem?_cons_zero, List.getElem?_cons_succ, some_and, int_eq, bool_eq, str_eq, slc_eq, ptr_eq, nn_eq, M.val, cond_true, cond_false, Bool.not_true, Bool.not_false, lay0 f73, lay1 f73, lay2 f73, lay3 f73]
      refine Chunk_spec (hs.keep (k19.trans k73)) fun h84 k84 => ?_
      have hchunk : ChunkZ D S M0 g t (WideZ D S M0 g t + 2) = (0, false) := by
        unfold ChunkZ
        rw [if_neg (by omega)]
      rw [hchunk]
      have f84 := k84 _ _ f73
      have w3 : IntKind.wrap .i64 (t + 1) = t + 1 := w64 (by omega) (by omega)
      have w4 : IntKind.wrap .i64 (t - 1) = t - 1 := w64 (by omega) (by omega)
      simp only [addr_add, load_eq, Nat.zero_add, Nat.add_zero, Nat.mul_one, Nat.one_mul, Nat.zero_mul, Nat.reduceAdd, List.getElem?_toArray, List.getElem?_cons_zero, List.getElem?_cons_succ, some_and, int_eq, bool_eq, str_eq, slc_eq, ptr_eq, nn_eq, M.val, cond_true, cond_false, Bool.not_true, Bool.not_false, w3, w4]
      refine M.join_of (fun (x : Bool) h' => (x = true → 0 < t ∧ WideZ D S M0 g t = WideZ D S M0 g (t - 1)) ∧ Keep h19 h') ?_ ?_
      · intro J85 hJ85
        by_cases hpos : t > 0
        · simp only [addr_add, load_eq, Nat.zero_add, Nat.add_zero, Nat.mul_one, Nat.one_mul, Nat.zero_mul, Nat.reduceAdd, List.getElem?_toArray, List.getElem?_cons_zero, List.getElem?_cons_succ, some_and, int_eq, bool_eq, str_eq, slc_eq, ptr_eq, nn_eq, M.val, cond_true, cond_false, Bool.not_true, Bool.not_false, hpos, decide_true, lay0 f84, lay1 f84, lay2 f84, lay3 f84]
          refine Wide_spec (hs.keep (k19.trans (k73.trans k84))) fun h104 k104 => M.still_keep k104 ⟨_, f84⟩ (Wide_spec (hs.keep (k19.trans ((k73.trans k84).trans k104))) fun h106 k106 => ?_)
          refine hJ85 _ _ ⟨fun e => ⟨hpos, ?_⟩, ((k73.trans k84).trans k104).trans k106⟩
          simpa using e
        · simp only [hpos, decide_false, cond_false]
          exact M.still_keep (Keep.refl _) ⟨_, f84⟩ (hJ85 _ _ ⟨fun e => by simp at e, k73.trans k84⟩)
      · rintro x h108 ⟨hx, k108⟩
        have f108 := k108 _ _ f19'
        cases x with
        | false =>
          simp only [cond_false]
          exact hJ _ _ ⟨by omega, by omega, k108⟩ (by omega)
        | true =>
          obtain ⟨hpos, heq⟩ := hx rfl
          simp only [addr_add, load_eq, Nat.zero_add, Nat.add_zero, Nat.mul_one, Nat.one_mul, Nat.zero_mul, Nat.reduceAdd, List.getElem?_toArray, List.getElem?_cons_zero, List.getElem?_cons_succ, some_and, int_eq, bool_eq, str_eq, slc_eq, ptr_eq, nn_eq, M.val, cond_true, cond_false, Bool.not_true, Bool.not_false, lay0 f108, lay1 f108, lay2 f108, lay3 f108]
          refine Seat_spec (hs.keep (k19.trans k108)) fun h119 k119 => ?_
          have f119 := k119 _ _ f108
          simp only [addr_add, load_eq, Nat.zero_add, Nat.add_zero, Nat.mul_one, Nat.one_mul, Nat.zero_mul, Nat.reduceAdd, List.getElem?_toArray, List.getElem?_cons_zero, List.getElem?_cons_succ, some_and, int_eq, bool_eq, str_eq, slc_eq, ptr_eq, nn_eq, M.val, cond_true, cond_false, Bool.not_true, Bool.not_false, lay0 f119, lay1 f119, lay2 f119, lay3 f119]
          refine Seat_spec (hs.keep (k19.trans (k108.trans k119))) fun h131 k131 => ?_
          have hw' := wide_pos (t - 1) (by omega) (by omega)
          have e1 : (SeatZ D S M0 g t 0).1 = t % (WideZ D S M0 g t + 2) := by
            unfold SeatZ
            rw [if_pos hgood, if_pos ⟨by omega, by omega, by omega⟩]
            show (0 + t) % _ = _
            rw [Int.zero_add]
          have e2 : (SeatZ D S M0 g (t - 1) 0).1 = (t - 1) % (WideZ D S M0 g t + 2) := by
            unfold SeatZ
            rw [if_pos hgood, if_pos ⟨by omega, by omega, by omega⟩, ← heq]
            show (0 + (t - 1)) % _ = _
            rw [Int.zero_add]
          have s0 := Int.emod_nonneg (t - 1) (show WideZ D S M0 g t + 2 ≠ 0 by omega)
          have s1 := Int.emod_lt_of_pos (t - 1) (show 0 < WideZ D S M0 g t + 2 by omega)
          have w5 : IntKind.wrap .i64 ((t - 1) % (WideZ D S M0 g t + 2) + 1) = (t - 1) % (WideZ D S M0 g t + 2) + 1 := w64 (by omega) (by omega)
          have e3 : Int.tmod ((t - 1) % (WideZ D S M0 g t + 2) + 1) (WideZ D S M0 g t + 2) = t % (WideZ D S M0 g t + 2) := by
            rw [Int.tmod_eq_emod_of_nonneg (by omega), Int.emod_add_emod, show t - 1 + 1 = t by omega]
          have n1 : ∀ K, M.nz (WideZ D S M0 g t + 2) K = K := fun K => nz_eq _ K (by omega)
          simp only [addr_add, load_eq, Nat.zero_add, Nat.add_zero, Nat.mul_one, Nat.one_mul, Nat.zero_mul, Nat.reduceAdd, List.getElem?_toArray, List.getElem?_cons_zero, List.getElem?_cons_succ, some_and, int_eq, bool_eq, str_eq, slc_eq, ptr_eq, nn_eq, M.val, cond_true, cond_false, Bool.not_true, Bool.not_false, e1, e2, w5, n1, e3, bne_self_eq_false]
          exact hJ _ _ ⟨by omega, by omega, (k108.trans k119).trans k131⟩ (by omega)
  · simp only [hlt, decide_false, cond_false]
    exact wakes_spec (hs.keep (k19.trans k24)) fun h137 k137 => k _ ((k19.trans k24).trans k137)
end Go.Proofs.YtgkebmhkmedadaaDoor

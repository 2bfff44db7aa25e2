/- The shallow form, 5: the operations that write nothing run as the form says. -/
import Derived.Test.YtkfokpkpobjoeaaShA3
namespace Go.Sh
open Go.RowKit

section
variable {P : Program}

theorem info_of_underlying {t : TypeId} {d : TypeDesc} (h : P.underlying t = some d) : ∃ i, P.info? t = some i := by
  unfold Program.underlying at h
  cases hi : P.info? t with
  | none => simp [hi] at h
  | some i => exact ⟨i, rfl⟩
theorem run_sizeOf' {t : TypeId} {d : TypeDesc} (h : P.underlying t = some d) (w : World) : (sizeOf t).run P w = .ok (P.cellsOf t) w := by
  obtain ⟨i, hi⟩ := info_of_underlying h
  simp [sizeOf, typeInfo, hi, Program.cellsOf]
theorem run_sizeOf_i {t : TypeId} {i : TypeInfo} (hi : P.info? t = some i) (w : World) : (sizeOf t).run P w = .ok i.size w := by
  simp [sizeOf, typeInfo, hi]

/-! ### What reads alone -/
theorem run_loadCells {w : World} {a : Addr} : ∀ (cs : List Value) (i : Nat) (acc : Array Value), (∀ j, j < cs.length → w.cell? (a.add (i + j)) = cs[j]?) →
    (loadCellsFrom a i cs.length acc).run P w = .ok (acc ++ cs.toArray) w
  | [], i, acc, _ => by simp [loadCellsFrom]
  | v :: r, i, acc, hc => by
    have h0 := hc 0 (by simp)
    simp only [Nat.add_zero, List.getElem?_cons_zero] at h0
    have hr := run_loadCells (w := w) (a := a) r (i + 1) (acc.push v) (fun j hj => by
      have := hc (j + 1) (by simpa using hj)
      rw [show i + 1 + j = i + (j + 1) by omega]; simpa using this)
    simp only [List.length_cons, loadCellsFrom, Sem.run_bind]
    have hl : (load (a.add i)).run P w = .ok v w := by simp [load, Sem.run, h0]
    rw [hl]
    simp only [Result.andThen_ok, hr]
    simp

theorem evLoad_run {ty : TypeId} {a : Addr} {K : Value → Prop} {m : H} (h : evLoad P ty a K m) :
    ∃ v, K v ∧ ∀ w, (∀ i, i < P.cellsOf ty → (hp w).cell (a.add i) = m.cell (a.add i)) → (loadVar ty a).run P w = .ok v w := by
  unfold evLoad at h
  split at h
  · rename_i s hs
    obtain ⟨d, hd, hn⟩ := lkOf_one hs
    cases hb : Nat.beq (P.cellsOf ty) 1 with
    | false => simp [hb] at h
    | true =>
    simp only [hb, cond_true] at h
    obtain ⟨v, hv, hk⟩ := h
    have h1 : P.cellsOf ty = 1 := Nat.eq_of_beq_eq_true hb
    refine ⟨v, typ_out hk, fun w hw => ?_⟩
    have ha : (isAgg ty).run P w = .ok false w := by
      unfold isAgg
      rw [Sem.run_bind, run_underlying hd, Result.andThen_ok]
      split <;> simp_all
    have hl : (load a).run P w = .ok v w := by
      have := hw 0 (by omega)
      rw [Addr.add_zero', hv, ← hp_cell] at this
      simp [load, Sem.run, this]
    unfold loadVar
    rw [Sem.run_bind, ha, Result.andThen_ok]
    simpa using hl
  · rename_i hs
    split at h
    · rename_i i hi
      have hsz : P.cellsOf ty = i.size := by simp [Program.cellsOf, hi]
      have key : ∀ cs : List Value, cs.length = i.size → rowAt m a cs → ∀ w, (∀ j, j < P.cellsOf ty → (hp w).cell (a.add j) = m.cell (a.add j)) → (loadVar ty a).run P w = .ok (.agg cs.toArray) w := by
        intro cs hl hr w hw
        have ha : (isAgg ty).run P w = .ok true w := by
          unfold isAgg
          rw [Sem.run_bind]
          rcases lkOf_agg hs with ⟨fs, hu⟩ | ⟨n, e, hu⟩ <;> rw [run_underlying hu] <;> rfl
        have hc := run_loadCells (P := P) (w := w) (a := a) cs 0 #[] (fun j hj => by
          rw [Nat.zero_add, hp_cell, hw j (by omega)]; exact hr j hj)
        unfold loadVar
        rw [Sem.run_bind, ha, Result.andThen_ok]
        simp only [if_true, Sem.run_bind, run_sizeOf_i hi, Result.andThen_ok, loadCells, ← hl, hc]
        simp
      cases hb : Nat.ble i.size smallAgg with
      | true =>
        simp only [hb, cond_true] at h
        split at h
        · rename_i l hl
          cases hb2 : Nat.beq l.length i.size with
          | true =>
            simp only [hb2, cond_true] at h
            obtain ⟨cs, hcl, hcc, hk⟩ := evCells_out l 0 [] h
            simp only [List.reverse_nil, List.nil_append] at hk
            refine ⟨_, hk, key cs (by rw [hcl]; exact Nat.eq_of_beq_eq_true hb2) (fun j hj => by have := hcc j hj; rwa [Nat.zero_add] at this)⟩
          | false => simp [hb2] at h
        · exact h.elim
      | false =>
        simp only [hb, cond_false] at h
        obtain ⟨cs, hl, hr, hk⟩ := h
        exact ⟨_, hk, key cs hl hr⟩
    · exact h.elim
  · exact h.elim

/-! ### One operation that writes nothing and makes nothing -/
def Sub (t : Tm) (a : Act) : Prop := ∀ i v, t i = some v → a.tmps[i]? = some v
theorem Sub.get {t : Tm} {a : Act} (hs : Sub t a) {x : Operand} {v : Value} (h : t.get x = some v) : a.eval x = v := by
  cases x with
  | tmp i => simp only [Tm.get] at h; simp [Act.eval, hs i v h]
  | const c => simpa [Tm.get, Act.eval] using h
  | global g => simpa [Tm.get, Act.eval] using h
  | func f => simpa [Tm.get, Act.eval] using h
theorem Sub.all {t : Tm} {a : Act} (hs : Sub t a) : ∀ {xs : List Operand} {vs : List Value}, t.all xs = some vs → xs.map a.eval = vs
  | [], vs, h => by simp [Tm.all] at h; simp [h]
  | x :: r, vs, h => by
    simp only [Tm.all] at h
    split at h
    · rename_i v hv
      split at h
      · rename_i l hl
        simp only [Option.some.injEq] at h
        subst h
        simp [hs.get hv, hs.all hl]
      · simp at h
    · simp at h
theorem Sub.val {t : Tm} {a : Act} (hs : Sub t a) {x : Operand} {v : Value} (h : t.get x = some v) : t.val x = a.eval x := by
  rw [hs.get h]; simp [Tm.val, h]
theorem Tm.all_mem {t : Tm} : ∀ {xs : List Operand} {vs : List Value}, t.all xs = some vs → ∀ x ∈ xs, ∃ v, t.get x = some v
  | [], _, _, x, hx => by simp at hx
  | y :: r, vs, h, x, hx => by
    simp only [Tm.all] at h
    split at h
    · rename_i v hv
      split at h
      · rename_i l hl
        rcases List.mem_cons.1 hx with rfl | hx
        · exact ⟨v, hv⟩
        · exact Tm.all_mem hl x hx
      · simp at h
    · simp at h
/-- What an operation that reads alone comes to in every world like the memory at hand. -/
def Reads (P : Program) (s : Sem Value) (v : Value) (w : World) : Prop := s.run P w = .ok v w

theorem kEq_eq {k k' : IntKind} (h : kEq k k' = true) : k = k' := of_decide_eq_true h
theorem evInt_run {op : BinOp} {k k' : IntKind} {a b : Int} {K : Value → Prop} (ty : TypeId) (x y : Operand) (h : evInt op k a k' b K) :
    ∃ v, K v ∧ ∀ w, (do eqGuard op ty x y (.int k a) (.int k' b); binOp op ty (.int k a) (.int k' b) : Sem Value).run P w = .ok v w := by
  unfold evInt at h
  have hg : eqGuard op ty x y (.int k a) (.int k' b) = pure () := by cases op <;> rfl
  rw [hg]
  split at h
  · obtain ⟨h0, hk⟩ := h
    exact ⟨_, hk, fun w => by simp [binOp, Op.shift, show ¬ b < 0 by omega, shl]⟩
  · obtain ⟨h0, hk⟩ := h
    exact ⟨_, hk, fun w => by simp [binOp, Op.shift, show ¬ b < 0 by omega, shr]⟩
  · rename_i h1 h2
    cases hkk : kEq k k' with
    | false => simp [hkk] at h
    | true =>
      have := kEq_eq hkk
      subst this
      simp only [hkk, cond_true] at h
      split at h <;> first
        | exact h.elim
        | exact ⟨_, h, fun w => by simp [binOp, Op.intArith, Op.intCmp, Op.intBits, bAnd, bOr, bXor, bAndNot]⟩
        | exact ⟨_, h.2, fun w => by have h0 := h.1; simp [binOp, Op.intDiv, h0]⟩
theorem evStr_run {op : BinOp} {a b : ByteArray} {K : Value → Prop} (ty : TypeId) (x y : Operand) (h : evStr op a b K) :
    ∃ v, K v ∧ ∀ w, (do eqGuard op ty x y (.string a) (.string b); binOp op ty (.string a) (.string b) : Sem Value).run P w = .ok v w := by
  unfold evStr at h
  have hg : eqGuard op ty x y (.string a) (.string b) = pure () := by cases op <;> rfl
  rw [hg]
  split at h <;> first
    | exact h.elim
    | exact ⟨_, h, fun w => by simp [binOp, Op.stringOp, strEq, strLt]⟩
    | exact ⟨_, h.2, fun w => by
        have h0 := Int.not_lt.2 h.1
        show (Op.stringOp .add a b).run P w = _
        simp only [Op.stringOp]
        rw [if_neg h0]; rfl⟩

theorem evEq_run {d : Option TypeDesc} {y : Operand} {a b : Value} {K : Bool → Prop} {ty : TypeId} (hu : P.underlying ty = d) (h : evEq d y a b K) (hy : ∀ v, y = .const v → b = v) :
    ∃ c, K c ∧ (∀ op x, eqGuard op ty x y a b = pure ()) ∧ ∀ w, (Op.equal ty a b).run P w = .ok c w := by
  unfold evEq at h
  split at h
  · split at h
    · exact ⟨_, h, fun op x => by cases op <;> rfl, fun w => by rw [show Op.equal ty _ _ = Op.equalIn (9999 + 1) ty _ _ from rfl, Op.equalIn, Sem.run_bind, run_underlying hu, Result.andThen_ok]; rfl⟩
    · exact h.elim
  · split at h
    · split at h
      · rename_i p
        have hb := hy _ rfl
        subst hb
        refine ⟨_, h, fun op x => by cases op <;> rfl, fun w => ?_⟩
        rw [show Op.equal ty _ _ = Op.equalIn (9999 + 1) ty _ _ from rfl, Op.equalIn, Sem.run_bind, run_underlying hu, Result.andThen_ok]
        cases p <;> rfl
      · exact h.elim
    · exact h.elim
  · split at h
    · split at h
      · rename_i p _ _
        have hb := hy _ rfl
        subst hb
        refine ⟨_, h, fun op x => by cases op <;> rfl, fun w => ?_⟩
        rw [show Op.equal ty _ _ = Op.equalIn (9999 + 1) ty _ _ from rfl, Op.equalIn, Sem.run_bind, run_underlying hu, Result.andThen_ok]
        cases p <;> rfl
      · exact h.elim
    · exact h.elim
  · split at h
    · split at h
      · rename_i p
        have hb := hy _ rfl
        subst hb
        refine ⟨_, h, fun op x => by cases op <;> rfl, fun w => ?_⟩
        rw [show Op.equal ty _ _ = Op.equalIn (9999 + 1) ty _ _ from rfl, Op.equalIn, Sem.run_bind, run_underlying hu, Result.andThen_ok]
        cases p <;> rfl
      · exact h.elim
    · exact h.elim
  · exact h.elim
theorem binOp_eql_other {ty : TypeId} {a b : Value} (hi : ∀ k m, a ≠ .int k m) (hs : ∀ s, a ≠ .string s) (hf : ∀ k m, a ≠ .float k m) (hc : ∀ k m n, a ≠ .complex k m n) : binOp .eql ty a b = (do pure (.bool (← Op.equal ty a b))) := by
  unfold binOp
  split <;> simp_all
theorem binOp_neq_other {ty : TypeId} {a b : Value} (hi : ∀ k m, a ≠ .int k m) (hs : ∀ s, a ≠ .string s) (hf : ∀ k m, a ≠ .float k m) (hc : ∀ k m n, a ≠ .complex k m n) : binOp .neq ty a b = (do pure (.bool (!(← Op.equal ty a b)))) := by
  unfold binOp
  split <;> simp_all
theorem evEq_head {d : Option TypeDesc} {y : Operand} {a b : Value} {K : Bool → Prop} (h : evEq d y a b K) : (∀ k m, a ≠ .int k m) ∧ (∀ s, a ≠ .string s) ∧ (∀ k m, a ≠ .float k m) ∧ (∀ k m n, a ≠ .complex k m n) := by
  unfold evEq at h
  repeat' split at h
  all_goals first | exact h.elim | simp
theorem evBin_run {op : BinOp} {ty : TypeId} {y : Operand} {a b : Value} {K : Value → Prop} (x : Operand) (h : evBin P op ty y a b K) (hy : ∀ v, y = .const v → b = v) :
    ∃ v, K v ∧ ∀ w, (do eqGuard op ty x y a b; binOp op ty a b : Sem Value).run P w = .ok v w := by
  unfold evBin at h
  split at h
  · split at h
    · exact evInt_run ty x y h
    · exact h.elim
  · split at h
    · exact evStr_run ty x y h
    · exact h.elim
  · split at h
    · obtain ⟨c, hk, hg, hr⟩ := evEq_run (P := P) (ty := ty) rfl h hy
      obtain ⟨h1, h2, h3, h4⟩ := evEq_head h
      refine ⟨_, hk, fun w => ?_⟩
      rw [hg, binOp_eql_other h1 h2 h3 h4]
      simp [hr w]
    · obtain ⟨c, hk, hg, hr⟩ := evEq_run (P := P) (ty := ty) rfl h hy
      obtain ⟨h1, h2, h3, h4⟩ := evEq_head h
      refine ⟨_, hk, fun w => ?_⟩
      rw [hg, binOp_neq_other h1 h2 h3 h4]
      simp [hr w]
    · exact h.elim

theorem run_isAgg_one {t : TypeId} {s : Sh} (hs : lkOf (P.underlying t) = .one s) (w : World) : (isAgg t).run P w = .ok false w := by
  obtain ⟨d, hd, hn⟩ := lkOf_one hs
  unfold isAgg
  rw [Sem.run_bind, run_underlying hd, Result.andThen_ok]
  split <;> simp_all
theorem run_isAgg_agg {t : TypeId} (hs : lkOf (P.underlying t) = .agg) (w : World) : (isAgg t).run P w = .ok true w := by
  unfold isAgg
  rw [Sem.run_bind]
  rcases lkOf_agg hs with ⟨fs, hu⟩ | ⟨n, e, hu⟩ <;> rw [run_underlying hu] <;> rfl
theorem underlying_of_lk {t : TypeId} {l : LK} (hs : lkOf (P.underlying t) = l) (hb : l ≠ .bad) : ∃ d, P.underlying t = some d := by
  cases h : P.underlying t with
  | none => simp [h, lkOf] at hs; exact absurd hs.symm hb
  | some d => exact ⟨d, rfl⟩
theorem run_part_one {t : TypeId} {s : Sh} (hs : lkOf (P.underlying t) = .one s) {cs : Array Value} {off : Nat} {v : Value} (hv : cs[off]? = some v) (w : World) :
    (part t cs off).run P w = .ok v w := by
  unfold part
  rw [Sem.run_bind, run_isAgg_one hs, Result.andThen_ok]
  simp [hv]
theorem run_part_agg {t : TypeId} (hs : lkOf (P.underlying t) = .agg) {cs : Array Value} {off : Nat} (w : World) :
    (part t cs off).run P w = .ok (.agg (cs.extract off (off + P.cellsOf t))) w := by
  obtain ⟨d, hd⟩ := underlying_of_lk hs (by simp)
  unfold part
  rw [Sem.run_bind, run_isAgg_agg hs, Result.andThen_ok]
  simp [run_sizeOf' hd]
theorem evParts_out {cs : Array Value} {K : List Value → Prop} : ∀ (l : List Sh) (i : Nat) (acc : List Value), evParts cs i l acc K →
    ∃ vs, vs.length = l.length ∧ (∀ j, j < vs.length → cs[i + j]? = vs[j]?) ∧ K (acc.reverse ++ vs)
  | [], i, acc, hh => ⟨[], rfl, fun j hj => by simp at hj, by rw [List.append_nil]; exact hh⟩
  | s :: r, i, acc, hh => by
    obtain ⟨v, hv, hh⟩ := hh
    obtain ⟨vs, hl, hc, hk⟩ := evParts_out r (i + 1) (v :: acc) (typ_out hh)
    refine ⟨v :: vs, by simp [hl], fun j hj => ?_, by simpa using hk⟩
    cases j with
    | zero => simpa using hv
    | succ j => have := hc j (by simpa using hj); rw [show i + (j + 1) = i + 1 + j by omega]; simpa using this
theorem extract_eq {cs : Array Value} {i n : Nat} {vs : List Value} (hl : vs.length = n) (hc : ∀ j, j < vs.length → cs[i + j]? = vs[j]?) : cs.extract i (i + n) = vs.toArray := by
  apply Array.ext_getElem?
  intro j
  rw [Array.getElem?_extract]
  by_cases hj : j < n
  · have h1 := hc j (by omega)
    have h2 : i + j < cs.size := by
      rcases Nat.lt_or_ge (i + j) cs.size with h | h
      · exact h
      · rw [Array.getElem?_eq_none h, List.getElem?_eq_getElem (by omega)] at h1; simp at h1
    rw [if_pos (by omega), h1]; simp
  · rw [if_neg (by omega), Array.getElem?_eq_none (by simpa using by omega)]
theorem evPart_under {small : Bool} {t : TypeId} {cs : Array Value} {off : Nat} {K : Value → Prop} (h : evPart P small t cs off K) : ∃ d, P.underlying t = some d := by
  unfold evPart at h
  split at h
  · rename_i s hs; exact underlying_of_lk hs (by simp)
  · rename_i hs; exact underlying_of_lk hs (by simp)
  · exact h.elim
theorem evPart_run {small : Bool} {t : TypeId} {cs : Array Value} {off : Nat} {K : Value → Prop} (h : evPart P small t cs off K) : ∃ v, K v ∧ ∀ w, (part t cs off).run P w = .ok v w := by
  unfold evPart at h
  split at h
  · rename_i s hs
    cases small with
    | true =>
      simp only [cond_true] at h
      split at h
      · rename_i v hv
        exact ⟨v, h, fun w => run_part_one hs (by simpa using hv) w⟩
      · exact h.elim
    | false =>
      simp only [cond_false] at h
      obtain ⟨v, hv, hk⟩ := h
      exact ⟨v, typ_out hk, fun w => run_part_one hs hv w⟩
  · rename_i hs
    cases small with
    | true =>
      simp only [cond_true] at h
      refine ⟨_, h, fun w => ?_⟩
      rw [run_part_agg hs]
      congr 2
      rw [← Array.toList_inj]
      simp [List.extract_eq_take_drop]
    | false =>
      simp only [cond_false] at h
      cases hb : Nat.ble (P.cellsOf t) smallAgg with
      | true =>
        simp only [hb, cond_true] at h
        split at h
        · rename_i l hl
          cases hb2 : Nat.beq l.length (P.cellsOf t) with
          | true =>
            simp only [hb2, cond_true] at h
            obtain ⟨vs, h1, h2, hk⟩ := evParts_out l off [] h
            refine ⟨_, hk, fun w => ?_⟩
            rw [run_part_agg hs, extract_eq (vs := vs) (by rw [h1]; exact Nat.eq_of_beq_eq_true hb2) h2]
            rfl
          | false => simp [hb2] at h
        · exact h.elim
      | false =>
        simp only [hb, cond_false] at h
        exact ⟨_, h, fun w => run_part_agg hs w⟩
  · exact h.elim
theorem evField_run {t : TypeId} {x : Value} {f : Nat} {K : Value → Prop} (h : evField P t x f K) : ∃ v, K v ∧ ∀ w, (Instr.field t x f).run P w = .ok v w := by
  unfold evField at h
  split at h
  · rename_i fs hu
    split at h
    · rename_i fd cs hf
      obtain ⟨v, hk, hr⟩ := evPart_run h
      exact ⟨v, hk, fun w => by unfold Instr.field; simp [run_underlying hu, hf, asAgg, hr]⟩
    · exact h.elim
  · exact h.elim
theorem evFieldAddr_run {t : TypeId} {x : Value} {f : Nat} {K : Value → Prop} (h : evFieldAddr P t x f K) : ∃ v, K v ∧ ∀ w, (Instr.fieldAt t x f).run P w = .ok v w := by
  unfold evFieldAddr at h
  split at h
  · rename_i fs hu
    split at h
    · rename_i fd hf
      cases hb : Nat.beq (P.cellsOf fd.type) 0 with
      | true => simp [hb] at h
      | false =>
        simp only [hb, cond_false] at h
        have h0 : P.cellsOf fd.type ≠ 0 := Nat.ne_of_beq_eq_false hb
        have hi : ∃ i, P.info? fd.type = some i := by
          cases hi : P.info? fd.type with
          | none => simp [Program.cellsOf, hi] at h0
          | some i => exact ⟨i, rfl⟩
        obtain ⟨i, hi⟩ := hi
        have hi0 : i.size ≠ 0 := by simpa [Program.cellsOf, hi] using h0
        split at h
        · rename_i a
          exact ⟨_, h, fun w => by unfold Instr.fieldAt; simp [run_underlying hu, hf, Instr.sureAddr, fieldPlace, run_sizeOf_i hi, hi0]⟩
        · exact h.elim
    · exact h.elim
  · exact h.elim
theorem evIndexAddr_run {t : TypeId} {x i : Value} {K : Value → Prop} (h : evIndexAddr P t x i K) : ∃ v, K v ∧ ∀ w, (Instr.indexAt t x i).run P w = .ok v w := by
  unfold evIndexAddr at h
  split at h
  · rename_i k i
    split at h
    · rename_i e hu
      split at h
      · rename_i a n c d hd
        obtain ⟨b, rfl, h0, h1, hk⟩ := h
        exact ⟨_, hk, fun w => by unfold Instr.indexAt; simp [run_underlying hu, asIntOf, h0, h1, run_sizeOf_i hd]⟩
      · exact h.elim
    · rename_i n e hu
      split at h
      · rename_i a d hd
        obtain ⟨h0, h1, hk⟩ := h
        exact ⟨_, hk, fun w => by unfold Instr.indexAt; simp [run_underlying hu, asIntOf, Instr.sureAddr, h0, h1, run_sizeOf_i hd]⟩
      · exact h.elim
    · exact h.elim
  · exact h.elim
theorem evIndex_run {t : TypeId} {x i : Value} {K : Value → Prop} (h : evIndex P t x i K) : ∃ v, K v ∧ ∀ w, (Instr.index t x i).run P w = .ok v w := by
  unfold evIndex at h
  split at h
  · rename_i k i
    split at h
    · rename_i hu
      split at h
      · rename_i s
        obtain ⟨h0, h1, hk⟩ := h
        refine ⟨_, hk, fun w => ?_⟩
        have hlt : i.toNat < s.size := by omega
        have hg : s[i.toNat]? = some s[i.toNat] := by simp [hlt]
        have hb : byteAt s i.toNat = (s[i.toNat].toNat : Int) := by
          unfold byteAt
          have : s.data.toList.getD i.toNat 0 = s[i.toNat] := by
            rw [List.getD_eq_getElem?_getD, List.getElem?_eq_getElem (by simpa using hlt)]; rfl
          rw [this]
        unfold Instr.index
        simp [run_underlying hu, asIntOf, h0, hg, hb]
      · exact h.elim
    · rename_i n e hu
      split at h
      · rename_i cs
        obtain ⟨h0, h1, hp⟩ := h
        obtain ⟨d, hd⟩ := evPart_under hp
        obtain ⟨v, hk, hr⟩ := evPart_run hp
        exact ⟨v, hk, fun w => by unfold Instr.index; simp [run_underlying hu, asIntOf, h0, h1, run_sizeOf' hd, hr]⟩
      · exact h.elim
    · exact h.elim
  · exact h.elim
theorem intOr_some {d l : Int} {v : Option Value} (h : intOr d v = some l) : (v = none ∧ l = d) ∨ ∃ k, v = some (.int k l) := by
  unfold intOr at h
  split at h
  · simp only [Option.some.injEq] at h; exact .inl ⟨rfl, h.symm⟩
  · simp only [Option.some.injEq] at h; subst h; exact .inr ⟨_, rfl⟩
  · simp at h
theorem run_sliceBounds {isSlice : Bool} {len cap : Nat} {lo hi : Option Value} {l u : Int} (hl : intOr 0 lo = some l) (hu : intOr len hi = some u) (h0 : 0 ≤ l) (h1 : l ≤ u) (h2 : u ≤ cap) (w : World) :
    (Instr.sliceBounds isSlice len cap lo hi none).run P w = .ok (l.toNat, u.toNat, cap) w := by
  unfold Instr.sliceBounds
  have hc : (0 : Int) ≤ u := by omega
  have e : ((u.toNat : Nat) : Int) = u := Int.toNat_of_nonneg hc
  rcases intOr_some hl with ⟨rfl, rfl⟩ | ⟨k, rfl⟩ <;> rcases intOr_some hu with ⟨rfl, rfl⟩ | ⟨k', rfl⟩
  · simp
  · simp [Instr.sliceBound, asIntOf, hc, h2]
  · simp [Instr.sliceBound, asIntOf, h0, h1]
  · simp [Instr.sliceBound, asIntOf, hc, h2, h0, e, h1]
theorem evSlice_run {t : TypeId} {x : Value} {lo hi : Option Value} {K : Value → Prop} (h : evSlice P t x lo hi K) : ∃ v, K v ∧ ∀ w, (Instr.sliceAt t x lo hi none).run P w = .ok v w := by
  unfold evSlice at h
  split at h
  · rename_i hu
    split at h
    · rename_i s
      split at h
      · rename_i l u hl hh
        obtain ⟨h0, h1, h2, hk⟩ := h
        exact ⟨_, hk, fun w => by unfold Instr.sliceAt Instr.slice; simp [run_underlying hu, run_sliceBounds hl hh h0 h1 h2]⟩
      · exact h.elim
    · exact h.elim
  · rename_i e hu
    split at h
    · rename_i a n c i hi
      split at h
      · rename_i l u hl hh
        obtain ⟨h0, h1, h2, hk⟩ := h
        exact ⟨_, hk, fun w => by unfold Instr.sliceAt Instr.slice; simp [run_underlying hu, run_sliceBounds hl hh h0 h1 h2, run_sizeOf_i hi, sliceAddr]⟩
      · exact h.elim
    · exact h.elim
  · rename_i n e hu
    split at h
    · rename_i a i hi
      split at h
      · rename_i l u hl hh
        obtain ⟨h0, h1, h2, hk⟩ := h
        refine ⟨_, hk, fun w => ?_⟩
        unfold Instr.sliceAt
        simp only [Sem.run_bind, run_underlying hu, Result.andThen_ok, Instr.sureAddr, Sem.run_pure, run_sliceBounds hl hh h0 h1 h2, run_sizeOf_i hi, sliceAddr]
        split <;> simp_all
      · exact h.elim
    · exact h.elim
  · exact h.elim
theorem foldInt_run {f : Int → Int → Int} {g : Value → Value → Sem Value} (hg : ∀ k k' x y, g (.int k x) (.int k' y) = pure (.int k (f x y))) {k : IntKind} :
    ∀ (l : List Value) (x z : Int), foldInt f k l x = some z → ∀ w, (l.foldlM g (.int k x)).run P w = .ok (.int k z) w
  | [], x, z, h, w => by simp [foldInt] at h; simp [h]
  | v :: r, x, z, h, w => by
    cases v <;> simp only [foldInt] at h <;> try (simp at h; done)
    rename_i k' y
    simp only [List.foldlM_cons, hg, pure_bind]
    exact foldInt_run hg r _ _ h w
theorem evMin_run {args : List Value} {K : Value → Prop} (h : evMinMax mn args K) : ∃ v, K v ∧ ∀ ts ty w, (Builtin.min_ ts ty args.toArray).run P w = .ok v w := by
  unfold evMinMax at h
  split at h
  · rename_i k x r
    split at h
    · rename_i z hz
      exact ⟨_, h, fun ts ty w => by unfold Builtin.min_; simpa using foldInt_run (P := P) (g := Builtin.min2) (f := mn) (fun k k' x y => by simp [Builtin.min2, mn]) r x z hz w⟩
    · exact h.elim
  · exact h.elim
theorem evMax_run {args : List Value} {K : Value → Prop} (h : evMinMax mx args K) : ∃ v, K v ∧ ∀ ts ty w, (Builtin.max_ ts ty args.toArray).run P w = .ok v w := by
  unfold evMinMax at h
  split at h
  · rename_i k x r
    split at h
    · rename_i z hz
      exact ⟨_, h, fun ts ty w => by unfold Builtin.max_; simpa using foldInt_run (P := P) (g := Builtin.max2) (f := mx) (fun k k' x y => by simp [Builtin.max2, mx]) r x z hz w⟩
    · exact h.elim
  · exact h.elim
theorem evLen_run {t : TypeId} {x : Value} {K : Value → H → Prop} {m : H} (hm : ∀ k e, P.underlying t ≠ some (.map k e)) (h : evLen P t x K m) :
    ∃ v, K v m ∧ ∀ ty w, (Builtin.len_ #[t] ty #[x]).run P w = .ok v w := by
  unfold evLen at h
  split at h
  · rename_i hu
    split at h
    · exact ⟨_, h, fun ty w => by unfold Builtin.len_; simp [run_underlying hu, goInt]⟩
    · exact h.elim
  · rename_i e hu
    split at h
    · exact ⟨_, h, fun ty w => by unfold Builtin.len_; simp [run_underlying hu, goInt]⟩
    · exact h.elim
  · rename_i n e hu
    exact ⟨_, h, fun ty w => by unfold Builtin.len_; simp [run_underlying hu, goInt]⟩
  · rename_i a hu
    split at h
    · rename_i n e hu2
      exact ⟨_, h, fun ty w => by unfold Builtin.len_; simp [run_underlying hu, run_underlying hu2, goInt]⟩
    · exact h.elim
  · rename_i k e hu
    exact absurd hu (hm k e)
  · exact h.elim
end
end Go.Sh

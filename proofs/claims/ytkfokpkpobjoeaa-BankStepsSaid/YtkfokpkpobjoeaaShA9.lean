/- The shallow form, 10: code and functions are sound. -/
import Derived.Test.YtkfokpkpobjoeaaShA8
import Derived.LoopN
import Derived.Scope
namespace Go.Sh
open Go.RowKit

theorem wp_loop_step {P : Program} {Q : Exit → Act → World → Prop} {a : Act} {w : World} {c : Code} (n : Nat) (h : Code.rounds P c Q n a w) : (Code.loop c).wp P Q a w := wp_loop_rounds n h

section
variable {P : Program} {env : Env} {n : Nat} {ann : Ann}

theorem bif_mono2 {b : Bool} {A A' B B' : Prop} (h : A → A') (k : B → B') (ha : bif b then A else B) : bif b then A' else B' := by
  cases b
  · exact k ha
  · exact h ha
theorem iter_mono {α : Type} {step step' : (α → H → Prop) → α → H → Prop} (hs : ∀ J J' d h, (∀ d h, J d h → J' d h) → step J d h → step' J' d h) : ∀ (k : Nat) (d : α) (h : H), M.iter step k d h → M.iter step' k d h
  | 0, _, _, h => h
  | k + 1, d, h, hh => hs _ _ d h (fun d h => iter_mono hs k d h) hh
theorem loop_mono {α : Type} {step step' : (α → H → Prop) → α → H → Prop} (hs : ∀ J J' d h, (∀ d h, J d h → J' d h) → step J d h → step' J' d h) {d : α} {h : H} (hh : M.loop step d h) : M.loop step' d h :=
  let ⟨k, hk⟩ := hh; ⟨k, iter_mono hs k d h hk⟩

/-- What stands in a slot is put there again. -/
theorem inj_prj1 {s : Sh} {v : Value} {d : s.den1} (h : s.prj1 v = some d) : s.inj1 d = v := by
  cases s <;> cases v <;> simp only [Sh.prj1, Option.some.injEq, reduceCtorEq] at h <;> first
    | (subst h; rfl)
    | (rename_i k k' m
       cases hb : kEq k k' with
       | false => simp [hb] at h
       | true =>
         simp only [hb, cond_true, Option.some.injEq] at h
         subst h
         have : k = k' := of_decide_eq_true hb
         rw [this]; rfl)
    | (rename_i p
       cases p with
       | none => simp at h
       | some a =>
         simp only [Option.some.injEq] at h
         subst h; rfl)
theorem injS_prjS : ∀ {l : List Sh} {vs : List Value} {d : denS l}, prjS l vs = some d → injS l d = vs
  | [], [], _, _ => rfl
  | [x], [v], d, h => by
    have h' : x.prj1 v = some d := h
    show [x.inj1 d] = [v]
    rw [inj_prj1 h']
  | x :: y :: r, v :: vs, d, h => by
    have h' : (match x.prj1 v, prjS (y :: r) vs with | some d, some e => some (d, e) | _, _ => none) = some d := h
    show x.inj1 d.1 :: injS (y :: r) d.2 = v :: vs
    split at h'
    · rename_i d1 d2 h1 h2
      simp only [Option.some.injEq] at h'
      subst h'
      rw [inj_prj1 h1, injS_prjS h2]
    · simp at h'
  | [], _ :: _, _, h => by simp [prjS] at h
  | [_], [], _, h => by simp [prjS] at h
  | [_], _ :: _ :: _, _, h => by simp [prjS] at h
  | _ :: _ :: _, [], _, h => by simp [prjS] at h
theorem inj_prj {s : Sh} {v : Value} {d : s.den} (h : s.prj v = some d) : s.inj d = v := by
  cases s <;> cases v <;> simp only [Sh.prj, Option.some.injEq, reduceCtorEq] at h <;> first
    | (subst h; rfl)
    | (show Value.agg (injS _ d).toArray = _; rw [injS_prjS h]; done)
    | (rename_i p
       cases p with
       | none => simp at h
       | some a =>
         simp only [Option.some.injEq] at h
         subst h; rfl)
    | (rename_i k k' m
       cases hb : kEq k k' with
       | false => simp [hb] at h
       | true =>
         simp only [hb, cond_true, Option.some.injEq] at h
         subst h
         have : k = k' := of_decide_eq_true hb
         rw [this]; rfl)
theorem setL_sub : ∀ {sl : List (Nat × Sh)} {t t' : Tm} {d : denL sl}, prjL t' sl = some d → (∀ i v, t i = some v → t' i = some v) → ∀ i v, setL t sl d i = some v → t' i = some v
  | [], _, _, _, _, hs, i, v, h => hs i v h
  | [x], t, t', d, hp, hs, i, v, h => by
    have hp' : (match t' x.1 with | some v => x.2.prj v | none => none) = some d := hp
    have h' : (t.put (some x.1) (some (x.2.inj d))) i = some v := h
    split at hp'
    · rename_i u hu
      simp only [Tm.put] at h'
      by_cases e : i = x.1
      · subst e
        rw [beq_yes, cond_true] at h'
        rw [← h', hu, inj_prj hp']
      · rw [beq_no e, cond_false] at h'
        exact hs i v h'
    · simp at hp'
  | x :: y :: r, t, t', d, hp, hs, i, v, h => by
    have hp' : (match t' x.1 with
      | some v => (match x.2.prj v, prjL t' (y :: r) with | some d, some e => some (d, e) | _, _ => none)
      | none => none) = some d := hp
    have h' : setL (t.put (some x.1) (some (x.2.inj d.1))) (y :: r) d.2 i = some v := h
    split at hp'
    · rename_i u hu
      split at hp'
      · rename_i d1 d2 h1 h2
        simp only [Option.some.injEq] at hp'
        subst hp'
        refine setL_sub h2 (fun i v hv => ?_) i v h'
        simp only [Tm.put] at hv
        by_cases e : i = x.1
        · subst e
          rw [beq_yes, cond_true] at hv
          rw [← hv, hu, inj_prj h1]
        · rw [beq_no e, cond_false] at hv
          exact hs i v hv
      · simp at hp'
    · simp at hp'
theorem Fr.join {t0 t' : Tm} {a : Act} {ws : List Nat} {sl : List (Nat × Sh)} {d : denL sl} (ha : Agree ws t0 t') (hp : prjL t' sl = some d) (hf : Fr n t' a) : Fr n (setL (t0.mask ws) sl d) a := by
  refine ⟨fun i v hv => hf.sub i v (setL_sub hp (fun i v hi => ?_) i v hv), hf.size, hf.defers⟩
  unfold Tm.mask at hi
  cases hm : memN i ws with
  | true => simp [hm] at hi
  | false => rw [hm, cond_false] at hi; rw [ha i hm]; exact hi
theorem setL_agree : ∀ {sl : List (Nat × Sh)} {t : Tm} {ws : List Nat} {d : denL sl}, subN sl ws = true → Agree ws t (setL t sl d)
  | [], _, _, _, _ => .refl _ _
  | [x], t, ws, d, h => by
    have h' : (bif memN x.1 ws then subN [] ws else false) = true := h
    cases hm : memN x.1 ws with
    | false => simp [hm] at h'
    | true => exact (Agree.refl ws t).put hm
  | x :: y :: r, t, ws, d, h => by
    have h' : (bif memN x.1 ws then subN (y :: r) ws else false) = true := h
    cases hm : memN x.1 ws with
    | false => simp [hm] at h'
    | true =>
      simp only [hm, cond_true] at h'
      exact ((Agree.refl ws t).put hm).trans (setL_agree h')
theorem mask_agree {t : Tm} {ws : List Nat} : Agree ws t (t.mask ws) := fun i hi => by simp [Tm.mask, hi]

theorem evJoin_mono {sl : List (Nat × Sh)} {ws : List Nat} {t : Tm} {KK KK' : Tm → H → Prop} {B B' : (Tm → H → Prop) → Prop}
    (hk : ∀ t' h, Agree ws t t' → KK t' h → KK' t' h) (hb : ∀ K K', (∀ t' h, K t' h → K' t' h) → B K → B' K') (h : evJoin sl ws t KK B) : evJoin sl ws t KK' B' := by
  unfold evJoin at h ⊢
  cases hs : subN sl ws with
  | false => simp [hs] at h
  | true =>
    simp only [hs, cond_true] at h ⊢
    refine hb _ _ (fun t' h' hh => ?_) h
    revert hh
    cases prjL t' sl with
    | none => exact id
    | some d => exact hk _ _ (mask_agree.trans (setL_agree hs))

theorem evC_mono (hm : EnvMono env) : ∀ (c : Code) (p : Nat) {K K' : Exit → Tm → H → Prop} {t : Tm} {m : H}, (∀ e t' h, Agree (writes c) t t' → K e t' h → K' e t' h) → evC P env n ann c p K t m → evC P env n ann c p K' t m
  | .skip, p, K, K', t, m, hk, h => hk _ _ _ (.refl _ _) h
  | .label _, p, K, K', t, m, hk, h => hk _ _ _ (.refl _ _) h
  | .region id ops draw, p, K, K', t, m, hk, h => by
    unfold evC at h ⊢
    split at h
    · exact evReg_mono hm (fun t' h' ha => hk _ t' h' ha) h
    · exact evJoin_mono (fun t' h' ha => hk _ t' h' ha) (fun _ _ hkk => evReg_mono hm (fun t' h' _ => hkk t' h')) h
  | .seq a b, p, K, K', t, m, hk, h => by
    unfold evC at h ⊢
    split at h
    · refine evC_mono hm a _ (fun e t' h' ha hh => ?_) h
      cases e with
      | normal => exact evC_mono hm b _ (fun e t2 h2 ha2 => hk e t2 h2 (ha.left.trans ha2.right)) hh
      | _ => exact hk _ _ _ ha.left hh
    · refine evJoin_mono (fun t' h' ha hh => evC_mono hm b _ (fun e t2 h2 ha2 => hk e t2 h2 (ha.left.trans ha2.right)) hh) (fun k k' hkk hh => ?_) h
      refine evC_mono hm a _ (fun e t' h' ha hh => ?_) hh
      cases e with
      | normal => exact hkk _ _ hh
      | _ => exact hk _ _ _ ha.left hh
  | .cond c a b, p, K, K', t, m, hk, h => by
    unfold evC at h ⊢
    split at h
    · rename_i v hv
      cases v
      · exact evC_mono hm b _ (fun e t' h' ha => hk e t' h' ha.right) h
      · exact evC_mono hm a _ (fun e t' h' ha => hk e t' h' ha.left) h
    · exact h.elim
  | .block id b, p, K, K', t, m, hk, h => by
    unfold evC at h ⊢
    refine evC_mono hm b _ (fun e t' h' ha hh => ?_) h
    cases e with
    | exit i => exact bif_mono2 (hk _ _ _ ha) (hk _ _ _ ha) hh
    | _ => exact hk _ _ _ ha hh
  | .loop b, p, K, K', t, m, hk, h => by
    unfold evC at h ⊢
    split at h
    · rename_i sl hsl
      cases hs : subN sl (writes b) with
      | false => simp [hs] at h
      | true =>
        simp only [hs, cond_true] at h ⊢
        split at h
        · refine loop_mono (fun J J' d h' hj hh => ?_) h
          refine evC_mono hm b _ (fun e t' h2 ha hh => ?_) hh
          have ha2 : Agree (writes (.loop b)) t t' := (mask_agree.trans (setL_agree hs)).trans ha
          cases e with
          | normal =>
            revert hh
            simp only
            cases prjL t' sl with
            | none => exact id
            | some d => exact hj _ _
          | _ => exact hk _ _ _ ha2 hh
        · exact h.elim
    · exact h.elim
  | .scope b, p, K, K', t, m, hk, h => by
    unfold evC at h ⊢
    refine evC_mono hm b _ (fun e t' h' ha hh => ?_) h
    cases e with
    | goto => exact hh
    | _ => exact hk _ _ _ ha hh
  | .exit i, p, K, K', t, m, hk, h => hk _ _ _ (.refl _ _) h
  | .ret, p, K, K', t, m, hk, h => hk _ _ _ (.refl _ _) h
  | .goto _, _, _, _, _, _, _, h => h.elim
  | .refuse _, _, _, _, _, _, _, h => h.elim
  | .rangeFunc .., _, _, _, _, _, _, h => h.elim

theorem evC_wp (hm : P.follows .mixedOrders = true) (hen : EnvOk P env) (hmo : EnvMono env) : ∀ (c : Code) (p : Nat) {Q : Exit → Act → World → Prop} {K : Exit → Tm → H → Prop} {t : Tm} {a : Act} {w w0 : World},
    (∀ c a w, ¬ Q (.panic c) a w) → Fr n t a → Stays w0 w → (∀ e t' a' w', K e t' (hp w') → Fr n t' a' → Stays w0 w' → Q e a' w') → evC P env n ann c p K t (hp w) → c.wp P Q a w
  | .skip, p, Q, K, t, a, w, w0, hQ, hf, hst, hk, h => wp_skip (hk _ _ _ _ h hf hst)
  | .label _, p, Q, K, t, a, w, w0, hQ, hf, hst, hk, h => wp_label (hk _ _ _ _ h hf hst)
  | .exit _, p, Q, K, t, a, w, w0, hQ, hf, hst, hk, h => wp_exit (hk _ _ _ _ h hf hst)
  | .ret, p, Q, K, t, a, w, w0, hQ, hf, hst, hk, h => wp_ret (hk _ _ _ _ h hf hst)
  | .region id ops draw, p, Q, K, t, a, w, w0, hQ, hf, hst, hk, h => by
    unfold evC at h
    split at h
    · exact evReg_wp hm hen hQ hf hst (fun t' a' w' hh => hk _ t' a' w' hh) h
    · rename_i sl hsl
      unfold evJoin at h
      cases hs : subN sl (opDsts ops.toList) with
      | false => simp [hs] at h
      | true =>
        simp only [hs, cond_true, M.join] at h
        have h2 := evReg_mono hmo (K' := fun t' h' => Agree (opDsts ops.toList) t t' ∧ (match prjL t' sl with | some d => K .normal (setL (t.mask (opDsts ops.toList)) sl d) h' | none => False)) (fun t' h' ha hh => ⟨ha, hh⟩) h
        refine evReg_wp hm hen hQ hf hst (fun t' a' w' hh hf' hst' => ?_) h2
        obtain ⟨ha, hh⟩ := hh
        cases hp : prjL t' sl with
        | none => simp [hp] at hh
        | some d =>
          simp only [hp] at hh
          exact hk _ _ _ _ hh (Fr.join ha hp hf') hst'
  | .seq x y, p, Q, K, t, a, w, w0, hQ, hf, hst, hk, h => by
    unfold evC at h
    split at h
    · refine wp_seq (evC_wp hm hen hmo x (2 * p) (fun c a w hh => hQ c a w hh) hf hst (fun e t' a' w' hh hf' hst' => ?_) h)
      cases e with
      | normal => exact evC_wp hm hen hmo y (2 * p + 1) hQ hf' hst' hk hh
      | _ => exact hk _ _ _ _ hh hf' hst'
    · rename_i sl hsl
      unfold evJoin at h
      cases hs : subN sl (writes x) with
      | false => simp [hs] at h
      | true =>
        simp only [hs, cond_true, M.join] at h
        have h2 := evC_mono hmo x (2 * p) (K' := fun e t' h' => Agree (writes x) t t' ∧ (match e with
          | .normal => (match prjL t' sl with | some d => evC P env n ann y (2 * p + 1) K (setL (t.mask (writes x)) sl d) h' | none => False)
          | e => K e t' h')) (fun e t' h' ha hh => ⟨ha, by cases e <;> exact hh⟩) h
        refine wp_seq (evC_wp hm hen hmo x (2 * p) (fun c a w hh => hQ c a w hh) hf hst (fun e t' a' w' hh hf' hst' => ?_) h2)
        obtain ⟨ha, hh⟩ := hh
        cases e with
        | normal =>
          simp only at hh
          cases hp : prjL t' sl with
          | none => simp [hp] at hh
          | some d =>
            simp only [hp] at hh
            exact evC_wp hm hen hmo y (2 * p + 1) hQ (Fr.join ha hp hf') hst' hk hh
        | _ => exact hk _ _ _ _ hh hf' hst'
  | .cond c x y, p, Q, K, t, a, w, w0, hQ, hf, hst, hk, h => by
    unfold evC at h
    split at h
    · rename_i v hv
      cases v
      · exact wp_cond_false (hf.sub.get hv) (evC_wp hm hen hmo y _ hQ hf hst hk h)
      · exact wp_cond_true (hf.sub.get hv) (evC_wp hm hen hmo x _ hQ hf hst hk h)
    · exact h.elim
  | .block id b, p, Q, K, t, a, w, w0, hQ, hf, hst, hk, h => by
    unfold evC at h
    refine wp_block (evC_wp hm hen hmo b (2 * p) (fun c a w hh => hQ c a w hh) hf hst (fun e t' a' w' hh hf' hst' => ?_) h)
    cases e with
    | exit i =>
      simp only [Exit.inBlock]
      by_cases hi : i = id
      · subst hi
        simp only [beq_yes, cond_true] at hh
        simp only [if_true]
        exact hk _ _ _ _ hh hf' hst'
      · simp only [beq_no hi, cond_false] at hh
        rw [if_neg hi]
        exact hk _ _ _ _ hh hf' hst'
    | _ => exact hk _ _ _ _ hh hf' hst'
  | .scope b, p, Q, K, t, a, w, w0, hQ, hf, hst, hk, h => by
    unfold evC at h
    refine wp_scope_straight (evC_wp hm hen hmo b (2 * p) (fun c a w hh => hQ c a w hh) hf hst (fun e t' a' w' hh hf' hst' => ?_) h)
    cases e with
    | goto l => exact hh
    | _ => exact hk _ _ _ _ hh hf' hst'
  | .loop b, p, Q, K, t, a, w, w0, hQ, hf, hst, hk, h => by
    unfold evC at h
    split at h
    · rename_i sl hsl
      cases hs : subN sl (writes b) with
      | false => simp [hs] at h
      | true =>
        simp only [hs, cond_true] at h
        split at h
        · rename_i d0 hd0
          obtain ⟨k, hk0⟩ := h
          have key : ∀ (k : Nat) (d : denL sl) (a : Act) (w : World), Fr n (setL (t.mask (writes b)) sl d) a → Stays w0 w →
              M.iter (α := denL sl) (fun J d h => evC P env n ann b (2 * p) (fun e t' h' => match e with
                | .normal => (match prjL t' sl with | some d' => J d' h' | none => False)
                | e => K e t' h') (setL (t.mask (writes b)) sl d) h) k d (hp w) → Code.rounds P b Q k a w := by
            intro k
            induction k with
            | zero => intro d a w hf hst hh; exact hh
            | succ k ih =>
              intro d a w hf hst hh
              rw [rounds_succ]
              have h2 := evC_mono hmo b (2 * p) (K' := fun e t' h' => Agree (writes b) t t' ∧ (match e with
                | .normal => (match prjL t' sl with | some d' => M.iter (α := denL sl) (fun J d h => evC P env n ann b (2 * p) (fun e t' h' => match e with
                | .normal => (match prjL t' sl with | some d' => J d' h' | none => False)
                | e => K e t' h') (setL (t.mask (writes b)) sl d) h) k d' h' | none => False)
                | e => K e t' h')) (fun e t' h' ha hh => ⟨(mask_agree.trans (setL_agree hs)).trans ha, by cases e <;> exact hh⟩) hh
              refine evC_wp hm hen hmo b (2 * p) (fun c a w hh => hQ c a w hh) hf hst (fun e t' a' w' hh hf' hst' => ?_) h2
              obtain ⟨ha, hh⟩ := hh
              cases e with
              | normal =>
                simp only at hh
                cases hp : prjL t' sl with
                | none => simp [hp] at hh
                | some d =>
                  simp only [hp] at hh
                  exact ih d a' w' (Fr.join ha hp hf') hst' hh
              | _ => exact hk _ _ _ _ hh hf' hst'
          exact wp_loop_rounds k (key k d0 a w (Fr.join (.refl _ _) hd0 hf) hst hk0)
        · exact h.elim
    · exact h.elim
  | .goto _, _, _, _, _, _, _, _, _, _, _, _, h => h.elim
  | .refuse _, _, _, _, _, _, _, _, _, _, _, _, h => h.elim
  | .rangeFunc .., _, _, _, _, _, _, _, _, _, _, _, h => h.elim

/-! ### A function -/
theorem evResults_run {t : Tm} {a : Act} {w : World} {g : ResultVar → Sem Value} (g1 : ∀ i, g (.tmp i) = pure (a.tmps.getD i undef)) (g2 : ∀ x ty, g (.cell x ty) = (do loadVar ty (← asAddr (a.tmps.getD x undef)))) (hs : Sub t a) :
    ∀ {l : List ResultVar} {acc : List Value} {K : List Value → Prop}, evResults P t (hp w) l acc K → ∃ vs, K (acc.reverse ++ vs) ∧ (l.mapM g).run P w = .ok vs w
  | [], acc, K, h => ⟨[], by simpa [evResults] using h, by simp⟩
  | .tmp i :: r, acc, K, h => by
    unfold evResults at h
    split at h
    · rename_i v hv
      obtain ⟨vs, hk, hr⟩ := evResults_run g1 g2 hs h
      refine ⟨v :: vs, by simpa using hk, ?_⟩
      have : a.tmps.getD i undef = v := by simp [Array.getD_eq_getD_getElem?, hs i v hv]
      rw [List.mapM_cons, Sem.run_bind, g1]
      simp only [Sem.run_pure, Result.andThen_ok, Sem.run_bind, hr, this]
    · exact h.elim
  | .cell x ty :: r, acc, K, h => by
    unfold evResults at h
    split at h
    · rename_i p hp1
      obtain ⟨v, h2, hl⟩ := evLoad_run h
      obtain ⟨vs, hk, hr⟩ := evResults_run g1 g2 hs h2
      refine ⟨v :: vs, by simpa using hk, ?_⟩
      have : a.tmps.getD x undef = .pointer (some p) := by simp [Array.getD_eq_getD_getElem?, hs x _ hp1]
      rw [List.mapM_cons, Sem.run_bind, g2, this]
      have hl' := hl w (fun _ _ => rfl)
      have ha : (asAddr (.pointer (some p))).run P w = .ok p w := by simp [asAddr]
      simp only [Sem.run_bind, ha, hl', Sem.run_pure, Result.andThen_ok, hr]
    · exact h.elim
theorem evResults_mono {t : Tm} {m : H} : ∀ {l : List ResultVar} {acc : List Value} {K K' : List Value → Prop}, (∀ v, K v → K' v) → evResults P t m l acc K → evResults P t m l acc K'
  | [], acc, K, K', hk, h => hk _ h
  | .tmp i :: r, acc, K, K', hk, h => by
    unfold evResults at h ⊢
    split at h
    · exact evResults_mono hk h
    · exact h.elim
  | .cell x ty :: r, acc, K, K', hk, h => by
    unfold evResults at h ⊢
    split at h
    · exact evLoad_mono (fun _ => evResults_mono hk) h
    · exact h.elim
theorem evRet_mono {fn : Func} {Q Q' : Value → H → Prop} {e : Exit} {t : Tm} {m : H} (hq : ∀ v h, Q v h → Q' v h) (h : evRet P fn Q e t m) : evRet P fn Q' e t m := by
  unfold evRet at h ⊢
  split at h <;> first | exact evResults_mono (fun _ => hq _ _) h | exact h.elim
theorem evRet_post {fn : Func} {Q : Value → H → Prop} {e : Exit} {t : Tm} {a : Act} {w w0 : World} (hf : Fr n t a) (hst : Stays w0 w) (h : evRet P fn Q e t (hp w)) :
    bodyPost P fn (fun e w' => ∃ v, e = .returned v ∧ Q v (hp w') ∧ Stays w0 w') e a w := by
  have key : evResults P t (hp w) fn.results.toList [] (fun vs => Q (oneOf vs) (hp w)) → a.defers = [] ∧ ∃ v, (results fn a.tmps).run P w = .ok v w ∧ ∃ v', Ending.returned v = .returned v' ∧ Q v' (hp w) ∧ Stays w0 w := by
    intro h
    have key2 : ∀ g : ResultVar → Sem Value, (∀ i, g (.tmp i) = pure (a.tmps.getD i undef)) → (∀ x ty, g (.cell x ty) = (do loadVar ty (← asAddr (a.tmps.getD x undef)))) →
        ∃ vs, Q (oneOf vs) (hp w) ∧ (fn.results.mapM g).run P w = .ok vs.toArray w := by
      intro g g1 g2
      obtain ⟨vs, hk, hr⟩ := evResults_run g1 g2 hf.sub h
      exact ⟨vs, by simpa using hk, by rw [Array.mapM_eq_mapM_toList, Sem.run_map, hr, Result.andThen_ok]⟩
    let g : ResultVar → Sem Value := fun | .tmp t => pure (a.tmps.getD t undef) | .cell x t => do loadVar t (← asAddr (a.tmps.getD x undef))
    obtain ⟨vs, hk, hr⟩ := key2 g (fun _ => rfl) (fun _ _ => rfl)
    refine ⟨hf.defers, oneOf vs, ?_, _, rfl, hk, hst⟩
    have e : results fn a.tmps = (fn.results.mapM g >>= fun vs => pure (if h : vs.size = 1 then vs[0] else .tuple vs)) := by
      unfold results
      congr 1
    rw [e, Sem.run_bind, hr, Result.andThen_ok]
    cases vs with
    | nil => rfl
    | cons v r =>
      cases r with
      | nil => rfl
      | cons u r => simp [oneOf]
  unfold evRet at h
  split at h
  · exact key h
  · exact key h
  · exact h.elim
theorem evF_mono (hmo : EnvMono env) {fn : Func} {args : List Value} : ∀ {Q Q' : Value → H → Prop} {m : H}, (∀ v h, Q v h → Q' v h) → evF P env fn ann args Q m → evF P env fn ann args Q' m := by
  intro Q Q' m hq h
  unfold evF at h ⊢
  split at h
  · cases hb : Nat.ble args.length fn.ntmps with
    | false => simp [hb] at h
    | true =>
      simp only [hb, cond_true] at h ⊢
      exact evC_mono hmo _ _ (fun e t' h' _ => evRet_mono hq) h
  · exact h.elim
theorem evF_calls (hm : P.follows .mixedOrders = true) (hen : EnvOk P env) (hmo : EnvMono env) {f : FuncId} {fn : Func} (hf : P.funcs[f]? = some fn) {args : Array Value} {Q : Value → H → Prop} {w : World} (h : evF P env fn ann args.toList Q (hp w)) :
    Calls P f args w fun e w' => ∃ v, e = .returned v ∧ Q v (hp w') ∧ Stays w w' := by
  unfold evF at h
  split at h
  · rename_i c hc
    cases hb : Nat.ble args.toList.length fn.ntmps with
    | false => simp only [hb, cond_false] at h
    | true =>
      simp only [hb, cond_true] at h
      refine calls_of_wp hf hc (evC_wp hm hen hmo c 1 (fun c a w hh => ?_) ⟨fun i v hv => ?_, ?_, rfl⟩ (.refl w) (fun e t' a' w' hh hf' hst' => evRet_post hf' hst' hh) h)
      · obtain ⟨_, v, hv, _⟩ := hh
        simp at hv
      · have h1 : args[i]? = some v := by simpa [tm0] using hv
        have h2 : i < args.size := (Array.getElem?_eq_some_iff.1 h1).1
        show (args ++ Array.replicate (fn.ntmps - args.size) undef)[i]? = some v
        rw [Array.getElem?_append_left h2, h1]
      · have : args.size ≤ fn.ntmps := by simpa using hb
        simp
        omega
  · exact h.elim

/-! ### Texts that name a function's form -/
structure FnGood (P : Program) (f : FuncId) (F : W) : Prop where
  ok : FnOk P f F
  mono : FnMono F
structure EnvGood (P : Program) (env : Env) : Prop where
  ok : EnvOk P env
  mono : EnvMono env
theorem FnGood.none (f : FuncId) : FnGood P f (fun _ _ _ => False) := ⟨fun _ _ _ h => h.elim, fun _ _ _ _ _ h => h⟩
theorem EnvGood.nil : EnvGood P (envOf []) := ⟨fun f => (FnGood.none f).ok, fun f => (FnGood.none (P := P) f).mono⟩
theorem EnvGood.cons {f : FuncId} {F : W} {l : List (Nat × W)} (h : FnGood P f F) (k : EnvGood P (envOf l)) : EnvGood P (envOf ((f, F) :: l)) := by
  have key : ∀ g, FnGood P g (envOf ((f, F) :: l) g) := by
    intro g
    show FnGood P g (bif Nat.beq f g then F else envOf l g)
    cases hb : Nat.beq f g with
    | false => exact ⟨k.ok g, k.mono g⟩
    | true => rw [← Nat.eq_of_beq_eq_true hb]; exact h
  exact ⟨fun g => (key g).ok, fun g => (key g).mono⟩
theorem FnGood.of (hm : P.follows .mixedOrders = true) (hen : EnvGood P env) {f : FuncId} {fn : Func} (hf : P.funcs[f]? = some fn) (hc : ∀ args w, (callFunc f args).run P w = .ok (.enter f args) w) {F : W}
    (h : ∀ args, F args = (fun _ _ => False) ∨ ∀ Q m, evF P env fn ann args.toList Q m = F args Q m) : FnGood P f F := by
  refine ⟨fun args Q w hh => ?_, fun args Q Q' m hq hh => ?_⟩
  · rcases h args with h | h
    · rw [h] at hh; exact hh.elim
    · exact .inl ⟨f, args, hc _ _, evF_calls hm hen.ok hen.mono hf (by rw [h]; exact hh)⟩
  · rcases h args with h | h
    · rw [h] at hh; exact hh.elim
    · rw [← h] at hh ⊢
      exact evF_mono hen.mono hq hh
/-- What is called comes to what its form says. -/
theorem FnGood.calls {f : FuncId} {F : W} (h : FnGood P f F) (hc : ∀ args w, (callFunc f args).run P w = .ok (.enter f args) w) {args : Array Value} {Q : Value → H → Prop} {w : World} (hh : F args Q (hp w)) :
    Calls P f args w fun e w' => ∃ v, e = .returned v ∧ Q v (hp w') ∧ Stays w w' := by
  rcases h.ok args Q w hh with ⟨g, args', hr, hcalls⟩ | ⟨v, w', hr, _⟩
  · rw [hc] at hr
    simp only [Result.ok.injEq, Next.enter.injEq, and_true] at hr
    obtain ⟨rfl, rfl⟩ := hr
    exact hcalls
  · rw [hc] at hr
    simp at hr
end
end Go.Sh

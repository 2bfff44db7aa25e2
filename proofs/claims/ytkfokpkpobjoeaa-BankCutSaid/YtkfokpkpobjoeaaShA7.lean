/- The shallow form, 8: a region is sound, in the text's order and in any order that the language allows. -/
import Derived.Test.YtkfokpkpobjoeaaShA6
import Derived.OrdersHeld
namespace Go.Sh
open Go.RowKit

theorem beq_no {i d : Nat} (e : ¬ i = d) : Nat.beq i d = false := by
  cases h : Nat.beq i d with
  | false => rfl
  | true => exact absurd (Nat.eq_of_beq_eq_true h) e
/-- The frame that the shallow form's slots speak of. -/
structure Fr (n : Nat) (t : Tm) (a : Act) : Prop where
  sub : Sub t a
  size : a.tmps.size = n
  defers : a.defers = []
theorem Fr.put {n : Nat} {t : Tm} {a : Act} (h : Fr n t a) {d : Nat} {kv : Option Value} {v : Value} (hd : d < n) (hv : kv = none ∨ kv = some v) : Fr n (t.put (some d) kv) (a.put (some d) v) := by
  refine ⟨fun i u hu => ?_, by simp [Act.put, h.size], h.defers⟩
  simp only [Tm.put] at hu
  simp only [Act.put]
  by_cases e : i = d
  · subst e
    simp only [Nat.beq_refl, cond_true] at hu
    rcases hv with hv | hv
    · rw [hv] at hu; simp at hu
    · rw [hv] at hu
      simp only [Option.some.injEq] at hu
      subst hu
      simp [h.size, hd]
  · have : Nat.beq i d = false := beq_no e
    rw [this, cond_false] at hu
    rw [Array.getElem?_setIfInBounds_ne (fun x => e x.symm)]
    exact h.sub i u hu
/-- A slot's known value is put again. -/
theorem Fr.again {n : Nat} {t : Tm} {a : Act} (h : Fr n t a) {d : Nat} {v : Value} (hv : t d = some v) : Fr n (t.put (some d) (some v)) a := by
  refine ⟨fun i u hu => ?_, h.size, h.defers⟩
  simp only [Tm.put] at hu
  by_cases e : i = d
  · subst e
    simp only [Nat.beq_refl, cond_true, Option.some.injEq] at hu
    subst hu
    exact h.sub i v hv
  · have : Nat.beq i d = false := beq_no e
    rw [this, cond_false] at hu
    exact h.sub i u hu

section
variable {P : Program} {env : Env} {n : Nat} {ops : Array Oper}

theorem evPut_out {o : Oper} {t : Tm} {a : Act} {K : Tm → H → Prop} {kv : Option Value} {v : Value} {h : H} (hf : Fr n t a) (hv : kv = none ∨ kv = some v) (hp : evPut n o t K kv h) : ∃ t', K t' h ∧ Fr n t' (a.put o.dst v) := by
  unfold evPut at hp
  split at hp
  · rename_i hd
    exact ⟨t, hp, by rw [hd]; exact hf⟩
  · rename_i d hd
    cases hb : Nat.blt d n with
    | false => simp [hb] at hp
    | true =>
      simp only [hb, cond_true] at hp
      have : d < n := by simpa using hb
      exact ⟨_, hp, by rw [hd]; exact hf.put this hv⟩

/-- What the guard says. -/
theorem guardOf_run {o : Oper} {t : Tm} {a : Act} (hg : guardOf ops o t = .run) : Region.wanted o (yielded ops a.tmps) = true := by
  unfold guardOf at hg
  unfold Region.wanted
  split at hg
  · rename_i h; rw [h]
  · split at hg
    · split at hg <;> simp at hg
    · simp at hg
theorem guardOf_skip {o : Oper} {t : Tm} {a : Act} (hs : Sub t a) (hg : guardOf ops o t = .skip) : Region.wanted o (yielded ops a.tmps) = false := by
  unfold guardOf at hg
  unfold Region.wanted
  split at hg
  · simp at hg
  · rename_i j want h
    rw [h]
    simp only [yielded]
    split at hg
    · rename_i d hd
      have hd' : (ops[j]?).bind (·.dst) = some d := by simpa using hd
      rw [hd']
      split at hg
      · simp at hg
      · rename_i u hu
        simp only [Option.bind_some, hs d _ hu]
        rfl
      · simp at hg
    · rename_i hd
      have hd' : (ops[j]?).bind (·.dst) = none := by simpa using hd
      rw [hd']; rfl
theorem guardOf_ask {o : Oper} {t : Tm} {a : Act} (hs : Sub t a) {d : Nat} {b want : Bool} (hg : guardOf ops o t = .ask d b want) : t d = some (.bool b) ∧ Region.wanted o (yielded ops a.tmps) = (b == want) := by
  unfold guardOf at hg
  unfold Region.wanted
  split at hg
  · simp at hg
  · rename_i j want' h
    rw [h]
    simp only [yielded]
    split at hg
    · rename_i d' hd
      have hd' : (ops[j]?).bind (·.dst) = some d' := by simpa using hd
      rw [hd']
      split at hg
      · rename_i b' hb
        simp only [Go1.ask.injEq] at hg
        obtain ⟨rfl, rfl, rfl⟩ := hg
        refine ⟨hb, ?_⟩
        simp only [Option.bind_some, hs _ _ hb]
        cases b' <;> cases want' <;> rfl
      · simp at hg
      · simp at hg
    · simp at hg

/-- The ways of an operation under its guard. -/
theorem evOper_ways {o : Oper} {t : Tm} {a : Act} {K : Tm → H → Prop} {h : H} (hf : Fr n t a) (he : evOper P env n ops o t K h) :
    (Region.wanted o (yielded ops a.tmps) = true ∧ ∃ t2, Fr n t2 a ∧ (∀ x v, t2.get x = some v → (∀ b, v ≠ .bool b) → t.get x = some v) ∧ evVal P env o.op o.type t2 (evPut n o t2 K) h) ∨
    (Region.wanted o (yielded ops a.tmps) = false ∧ ∃ t2, Fr n t2 a ∧ evPut n o t2 K (some undef) h) := by
  unfold evOper at he
  split at he
  · rename_i hg
    exact .inl ⟨guardOf_run hg, t, hf, fun _ _ h _ => h, he⟩
  · rename_i hg
    exact .inr ⟨guardOf_skip hf.sub hg, t, hf, he⟩
  · rename_i d b want hg
    obtain ⟨hd, hw⟩ := guardOf_ask hf.sub hg
    have hget : ∀ c : Bool, ∀ x v, (t.put (some d) (some (.bool c))).get x = some v → (∀ b, v ≠ .bool b) → t.get x = some v := by
      intro c x v hx hnb
      cases x with
      | tmp i =>
        simp only [Tm.get, Tm.put] at hx ⊢
        by_cases e : i = d
        · subst e
          simp only [Nat.beq_refl, cond_true, Option.some.injEq] at hx
          exact absurd hx.symm (hnb c)
        · have : Nat.beq i d = false := beq_no e
          rwa [this, cond_false] at hx
      | _ => exact hx
    cases b
    · simp only [cond_false] at he
      cases want
      · simp only [cond_false] at he
        exact .inl ⟨by rw [hw]; rfl, _, hf.again hd, hget false, he⟩
      · simp only [cond_true] at he
        exact .inr ⟨by rw [hw]; rfl, _, hf.again hd, he⟩
    · simp only [cond_true] at he
      cases want
      · simp only [cond_false] at he
        exact .inr ⟨by rw [hw]; rfl, _, hf.again hd, he⟩
      · simp only [cond_true] at he
        exact .inl ⟨by rw [hw]; rfl, _, hf.again hd, hget true, he⟩
  · exact he.elim

theorem evOper_wpOp {Q : Exit → Act → World → Prop} {i : Nat} {o : Oper} (hi : ops[i]? = some o) {t : Tm} {a : Act} {K : Tm → H → Prop} {Kr : Act → World → Prop} {w : World} (hen : EnvOk P env) (hf : Fr n t a)
    (he : evOper P env n ops o t K (hp w)) (hk : ∀ t' a' w', K t' (hp w') → Fr n t' a' → Stays w w' → Kr a' w') : wpOp P ops Q i Kr a w := by
  unfold wpOp
  simp only [hi]
  rcases evOper_ways hf he with ⟨hw, t2, hf2, _, hv⟩ | ⟨hw, t2, hf2, hv⟩
  · rw [if_pos hw]
    refine .inl (Oper.wp_mono (K := Post o a w (evPut n o t2 K)) (fun a' w' ⟨kv, v, hp1, hv1, ha, hst⟩ => ?_) (evVal_wp hen hf2.sub hv))
    obtain ⟨t', hkt, hft⟩ := evPut_out hf2 hv1 hp1
    rw [ha]
    exact hk _ _ _ hkt hft hst
  · rw [if_neg (by rw [hw]; simp)]
    obtain ⟨t', hkt, hft⟩ := evPut_out (a := a) hf2 (.inr rfl) hv
    exact hk _ _ _ hkt hft (.refl w)

/-- A region that is carried out in the text's order. -/
theorem evList_wp {Q : Exit → Act → World → Prop} {K : Tm → H → Prop} {w0 : World} (hen : EnvOk P env) (hk : ∀ t' a' w', K t' (hp w') → Fr n t' a' → Stays w0 w' → Q .normal a' w') :
    ∀ (l : List Oper) (t : Tm) (a : Act) (w : World), Fr n t a → Stays w0 w → evList P env n ops l t K (hp w) → wpList P ops Q l a w
  | [], t, a, w, hf, hst, h => hk t a w h hf hst
  | o :: r, t, a, w, hf, hst, h => by
    unfold wpList
    unfold evList at h
    rcases evOper_ways hf h with ⟨hw, t2, hf2, _, hv⟩ | ⟨hw, t2, hf2, hv⟩
    · rw [if_pos hw]
      refine .inl (Oper.wp_mono (K := Post o a w (evPut n o t2 _)) (fun a' w' ⟨kv, v, hp1, hv1, ha, hst'⟩ => ?_) (evVal_wp hen hf2.sub hv))
      obtain ⟨t', hkt, hft⟩ := evPut_out hf2 hv1 hp1
      rw [ha]
      exact evList_wp hen hk r t' _ w' hft (hst.trans hst') hkt
    · rw [if_neg (by rw [hw]; simp)]
      obtain ⟨t', hkt, hft⟩ := evPut_out (a := a) hf2 (.inr rfl) hv
      exact evList_wp hen hk r t' _ w hft hst hkt

/-! ### A region that draws its order -/
def Stl (x : Held) (w : World) : Prop := ∀ i, i < x.cells → (hp w).cell (x.addr.add i) = x.mem.cell (x.addr.add i)
def wpAnyR (P : Program) (ops : Array Oper) (Q : Exit → Act → World → Prop) (bs : List Nat) (L : List Held) : Nat → Array Bool → Act → World → Prop
  | 0, listed, a, w => Region.ready .any ops listed = [] ∧ Q .normal a w
  | f + 1, listed, a, w =>
    (Region.ready .any ops listed = [] → Q .normal a w) ∧
    ∀ j ∈ Region.ready .any ops listed, wpOp P ops Q j (fun a' w' => (∀ x ∈ L, Nat.testBit (bs.getD j 0) x.op = false → Stl x w → Stl x w') ∧ wpAnyR P ops Q bs L f (listed.setIfInBounds j true) a' w') a w
theorem wpAny_of_R {Q : Exit → Act → World → Prop} {bs : List Nat} {L : List Held} : ∀ (f : Nat) (listed : Array Bool) (a : Act) (w : World), wpAnyR P ops Q bs L f listed a w → wpAny P .any ops Q f listed a w
  | 0, _, _, _, h => h
  | f + 1, _, _, _, h => ⟨h.1, fun i hi => wpOp_mono (fun a' w' h' => wpAny_of_R f _ a' w' h'.2) (h.2 i hi)⟩
/-- Whoever is listed has all that he waits for listed. -/
def Closed (ops : Array Oper) (listed : Array Bool) : Prop :=
  ∀ k o, ops[k]? = some o → listed.getD k true = true → ∀ e ∈ o.after, Region.binds .any e = true → listed.getD e.on false = true
def BefOk (ops : Array Oper) (bs : List Nat) : Prop :=
  ∀ j i, Nat.testBit (bs.getD j 0) i = true → ∃ o, ops[j]? = some o ∧ ∃ e ∈ o.after, Region.binds .any e = true ∧ (e.on = i ∨ (e.on < j ∧ Nat.testBit (bs.getD e.on 0) i = true))
theorem closed_bit {bs : List Nat} (hb : BefOk ops bs) {listed : Array Bool} (hc : Closed ops listed) {i : Nat} (hi : listed.getD i false = false) :
    ∀ (j : Nat), (∀ o, ops[j]? = some o → ∀ e ∈ o.after, Region.binds .any e = true → listed.getD e.on false = true) → Nat.testBit (bs.getD j 0) i = false := by
  intro j
  induction j using Nat.strongRecOn with
  | _ j ih =>
    intro hj
    cases ht : Nat.testBit (bs.getD j 0) i with
    | false => rfl
    | true =>
      obtain ⟨o, ho, e, he, hbd, h⟩ := hb j i ht
      have hl := hj o ho e he hbd
      rcases h with h | ⟨hlt, h⟩
      · rw [h, hi] at hl; exact absurd hl (by simp)
      · have := ih e.on hlt (fun o' ho' e' he' hb' => hc e.on o' ho' (by
          have : listed.getD e.on true = true := by
            rcases Nat.lt_or_ge e.on listed.size with h' | h' <;> simp [h'] at hl ⊢
            exact hl
          exact this) e' he' hb')
        rw [this] at h; exact absurd h (by simp)
theorem Closed.push {listed : Array Bool} (hc : Closed ops listed) {j : Nat} (hr : j ∈ Region.ready .any ops listed) : Closed ops (listed.setIfInBounds j true) := by
  intro k o hk hl e he hb
  obtain ⟨hun, oj, hoj, hall⟩ := mem_ready.1 hr
  have up : ∀ x, listed.getD x false = true → (listed.setIfInBounds j true).getD x false = true := by
    intro x hx
    by_cases e' : j = x
    · subst e'
      rcases Nat.lt_or_ge j listed.size with h' | h' <;> simp [h'] at hx ⊢
    · rwa [getD_set_ne false e']
  by_cases hkj : j = k
  · subst hkj
    rw [hoj] at hk
    simp only [Option.some.injEq] at hk
    subst hk
    exact up _ (hall e he hb)
  · rw [getD_set_ne true hkj] at hl
    exact up _ (hc k o hk hl e he hb)
theorem wpAnyR_less {Q : Exit → Act → World → Prop} {bs : List Nat} {L L2 : List Held} : ∀ (f : Nat) (listed : Array Bool) (a : Act) (w : World), wpAnyR P ops Q bs (L2 ++ L) f listed a w → wpAnyR P ops Q bs L f listed a w
  | 0, _, _, _, h => h
  | f + 1, _, _, _, h => ⟨h.1, fun i hi => wpOp_mono (fun a' w' h' => ⟨fun x hx => h'.1 x (by simp [hx]), wpAnyR_less f _ a' w' h'.2⟩) (h.2 i hi)⟩
def StlO (X : Option Held) (w : World) : Prop := match X with | some x => Stl x w | none => True
theorem wpAnyR_first {Q : Exit → Act → World → Prop} {bs : List Nat} {i : Nat} {oi : Oper} {v : Value} {X : Option Held} {L : List Held} (hbs : BefOk ops bs) (hi : ops[i]? = some oi)
    (hsel : ∀ (j : Nat) (o : Oper) cs b, ops[j]? = some o → o.op ≠ .select cs b)
    (hQ : ∀ c a w, Q (.panic c) (a.put oi.dst v) w → Q (.panic c) a w) (hX : ∀ x, X = some x → x.op = i) :
    ∀ (fuel : Nat) (listed : Array Bool) (a : Act) (w : World), Closed ops listed →
      (∀ j oj, ops[j]? = some oj → j ≠ i → listed.getD j true = false → (∀ e ∈ oj.after, Region.binds .any e = true → e.on ≠ i) → oi.apart ops oj = true) →
      i ∈ Region.ready .any ops listed → YieldsIf P ops (StlO X) oi v a → StlO X w →
      wpAnyR P ops Q bs (X.toList ++ L) fuel (listed.setIfInBounds i true) (a.put oi.dst v) w → wpAnyR P ops Q bs L (fuel + 1) listed a w := by
  have self : ∀ (fuel : Nat) (listed : Array Bool) (a : Act) (w : World), YieldsIf P ops (StlO X) oi v a → StlO X w →
      wpAnyR P ops Q bs (X.toList ++ L) fuel (listed.setIfInBounds i true) (a.put oi.dst v) w →
      wpOp P ops Q i (fun a' w' => (∀ x ∈ L, Nat.testBit (bs.getD i 0) x.op = false → Stl x w → Stl x w') ∧ wpAnyR P ops Q bs L fuel (listed.setIfInBounds i true) a' w') a w :=
    fun fuel listed a w hy hS H => hy.wpOp hi hS ⟨fun _ _ _ h => h, wpAnyR_less fuel _ _ _ H⟩
  intro fuel
  induction fuel with
  | zero =>
    intro listed a w _ _ hr hy hS H
    refine ⟨fun h => (by rw [h] at hr; cases hr), fun j hj => ?_⟩
    by_cases hji : j = i
    · subst hji; exact self 0 listed a w hy hS H
    · have := ready_mono hj hji
      rw [H.1] at this
      cases this
  | succ fuel ih =>
    intro listed a w hcl hfree hr hy hS H
    refine ⟨fun h => (by rw [h] at hr; cases hr), fun j hj => ?_⟩
    by_cases hji : j = i
    · subst hji; exact self _ listed a w hy hS H
    · have h1 := H.2 j (ready_mono hj hji)
      obtain ⟨hjun, oj, hoj, hall⟩ := mem_ready.1 hj
      have hiun := (mem_ready.1 hr).1
      have hiun' : listed.getD i false = false := by
        rcases Nat.lt_or_ge i listed.size with h' | h' <;> simp [h'] at hiun ⊢
        exact hiun
      have hnot : ∀ e ∈ oj.after, Region.binds .any e = true → e.on ≠ i := fun e he hb heq => by
        have h1 := hall e he hb
        rw [heq, hiun'] at h1
        exact absurd h1 (by simp)
      have hbit : Nat.testBit (bs.getD j 0) i = false := closed_bit hbs hcl hiun' j (fun o ho => by
        rw [hoj] at ho; simp only [Option.some.injEq] at ho; subst ho; exact hall)
      have h2 := wpOp_putIf hoj (hfree j oj hoj hji hjun hnot) (fun cs b => hsel i oi cs b hi) (fun cs b => hsel j oj cs b hoj) hQ hy h1
      have hfree' : ∀ k ok, ops[k]? = some ok → k ≠ i → (listed.setIfInBounds j true).getD k true = false →
          (∀ e ∈ ok.after, Region.binds .any e = true → e.on ≠ i) → oi.apart ops ok = true := fun k ok hk hki hun hno => by
        refine hfree k ok hk hki ?_ hno
        by_cases hjk : j = k
        · subst hjk; exact hjun
        · rw [getD_set_ne true hjk] at hun; exact hun
      refine wpOp_mono (fun a' w' ⟨hya, hst, hw⟩ => ?_) h2
      have hS' : StlO X w' := by
        cases hX' : X with
        | none => trivial
        | some x =>
          have hop := hX x hX'
          rw [hX'] at hst hS
          exact hst x (by simp) (by rw [hop]; exact hbit) hS
      refine ⟨fun x hx hb => hst x (by simp [hx]) hb, ih (listed.setIfInBounds j true) a' w' (hcl.push hj) hfree' (ready_mono hr (Ne.symm hji)) hya hS' ?_⟩
      rw [Array.setIfInBounds_comm _ _ hji]
      exact hw

theorem heldOk_out {bs : List Nat} {j : Nat} {w' : World} {K : Prop} : ∀ {L : List Held}, heldOk bs j (hp w') K L → (∀ x ∈ L, Nat.testBit (bs.getD j 0) x.op = false → Stl x w') ∧ K
  | [], h => ⟨fun x hx => by simp at hx, h⟩
  | y :: r, h => by
    unfold heldOk at h
    cases hb : Nat.testBit (bs.getD j 0) y.op with
    | true =>
      simp only [hb, cond_true] at h
      obtain ⟨h1, h2⟩ := heldOk_out h
      refine ⟨fun x hx hxb => ?_, h2⟩
      rcases List.mem_cons.1 hx with rfl | hx
      · rw [hb] at hxb; exact absurd hxb (by simp)
      · exact h1 x hx hxb
    | false =>
      simp only [hb, cond_false] at h
      obtain ⟨h1, h2⟩ := heldOk_out h.2
      refine ⟨fun x hx hxb => ?_, h2⟩
      rcases List.mem_cons.1 hx with rfl | hx
      · exact h.1
      · exact h1 x hx hxb
theorem allP_mem : ∀ {l : List Prop}, allP l → ∀ p ∈ l, p
  | [], _, p, hp => by simp at hp
  | [q], h, p, hp => by rw [List.mem_singleton] at hp; subst hp; exact h
  | q :: r :: l, h, p, hp => by
    rcases List.mem_cons.1 hp with rfl | hp
    · exact h.1
    · exact allP_mem h.2 p hp
def heldNew (P : Program) (i : Nat) (o : Oper) (t : Tm) (h : H) : Option Held :=
  match o.op with
  | .load ty x => (match t.get x with | some (.pointer (some a)) => some ⟨i, h, a, P.cellsOf ty⟩ | _ => none)
  | _ => none
theorem heldOf_eq (i : Nat) (o : Oper) (t : Tm) (h : H) (L : List Held) : heldOf P i o t h L = (heldNew P i o t h).toList ++ L := by
  unfold heldOf heldNew
  cases o.op <;> try rfl
  rename_i ty x
  simp only []
  cases t.get x with
  | none => rfl
  | some v =>
    cases v <;> try rfl
    rename_i p
    cases p <;> rfl
theorem evAny_wp {Q : Exit → Act → World → Prop} {K : Tm → H → Prop} {w0 : World} {bs : List Nat} (hen : EnvOk P env) (hbs : BefOk ops bs) (hno : Region.noSelect ops = true)
    (hQ : ∀ c a w, ¬ Q (.panic c) a w) (hk : ∀ t' a' w', K t' (hp w') → Fr n t' a' → Stays w0 w' → Q .normal a' w') :
    ∀ (f : Nat) (listed : Array Bool) (L : List Held) (t : Tm) (a : Act) (w : World), Closed ops listed → Fr n t a → Stays w0 w → evAny P env n ops bs f listed L t K (hp w) → wpAnyR P ops Q bs L f listed a w
  | 0, listed, L, t, a, w, hcl, hf, hst, h => by
    unfold evAny at h
    split at h
    · rename_i hr
      exact ⟨hr, hk _ _ _ h hf hst⟩
    · exact h.elim
  | f + 1, listed, L, t, a, w, hcl, hf, hst, h => by
    unfold evAny at h
    split at h
    · rename_i hr
      exact ⟨fun _ => hk _ _ _ h hf hst, fun j hj => by rw [hr] at hj; simp at hj⟩
    · rename_i j0 js hr
      split at h
      · rename_i i hfind
        have hmem : i ∈ Region.ready .any ops listed := by rw [hr]; exact List.mem_of_find?_eq_some hfind
        have hcond := List.find?_some hfind
        split at h
        · rename_i o ho
          rw [ho] at hcond
          simp only [Bool.and_eq_true] at hcond
          obtain ⟨hfree, hfr⟩ := hcond
          have hi : ops[i]? = some o := by simpa using ho
          rw [heldOf_eq] at h
          have hXop : ∀ x, heldNew P i o t (hp w) = some x → x.op = i := by
            intro x hx
            unfold heldNew at hx
            split at hx
            · split at hx <;> simp at hx
              rw [← hx]
            · simp at hx
          have hself : StlO (heldNew P i o t (hp w)) w := by
            unfold heldNew
            split
            · split
              · exact fun _ _ => rfl
              · trivial
            · trivial
          rcases evOper_ways hf h with ⟨hw, t2, hf2, hget, hv⟩ | ⟨hw, t2, hf2, hv⟩
          · obtain ⟨kv, v, hp1, hv1, hrun⟩ := evVal_free hfree hf2.sub hv
            obtain ⟨t', hkt, hft⟩ := evPut_out hf2 hv1 hp1
            refine wpAnyR_first (X := heldNew P i o t (hp w)) hbs hi (Region.noSelect_spec hno) (fun c a' w' h => absurd h (hQ c _ w')) hXop f listed a w hcl (Region.free_spec hi hfr) hmem
              (.inl ⟨hw, fun w' hw' => hrun w' ?_⟩) hself (evAny_wp hen hbs hno hQ hk f _ _ t' _ w (hcl.push hmem) hft hst hkt)
            unfold HeldAt
            split
            · rename_i ty x hop
              split
              · rename_i p hx
                have hx' := hget x _ hx (fun b => by simp)
                unfold heldNew at hw'
                rw [hop] at hw'
                simp only [hx'] at hw'
                exact hw'
              · trivial
            · trivial
          · obtain ⟨t', hkt, hft⟩ := evPut_out (a := a) hf2 (.inr rfl) hv
            exact wpAnyR_first (X := heldNew P i o t (hp w)) hbs hi (Region.noSelect_spec hno) (fun c a' w' h => absurd h (hQ c _ w')) hXop f listed a w hcl (Region.free_spec hi hfr) hmem
              (.inr ⟨hw, rfl⟩) hself (evAny_wp hen hbs hno hQ hk f _ _ t' _ w (hcl.push hmem) hft hst hkt)
        · exact h.elim
      · refine ⟨fun h0 => by rw [hr] at h0; simp at h0, fun j hj => ?_⟩
        have hj' : j ∈ j0 :: js := by rw [← hr]; exact hj
        have hp := allP_mem h _ (List.mem_map.2 ⟨j, hj', rfl⟩)
        split at hp
        · rename_i o ho
          have hi : ops[j]? = some o := by simpa using ho
          refine evOper_wpOp hi hen hf hp fun t' a' w' hkt hft hst' => ?_
          obtain ⟨h1, h2⟩ := heldOk_out hkt
          exact ⟨fun x hx hb _ => h1 x hx hb, evAny_wp hen hbs hno hQ hk f _ L t' a' w' (hcl.push hj) hft (hst.trans hst') h2⟩
        · exact hp.elim

theorem testBit_lor (a b i : Nat) : Nat.testBit (Nat.lor a b) i = (Nat.testBit a i || Nat.testBit b i) := Nat.testBit_or a b i
theorem bitsOf_out {acc : List Nat} {i : Nat} : ∀ (l : List Edge) (s : Nat), Nat.testBit (bitsOf acc l s) i = true →
    Nat.testBit s i = true ∨ ∃ e ∈ l, Region.binds .any e = true ∧ (e.on = i ∨ Nat.testBit (acc.getD e.on 0) i = true)
  | [], s, h => .inl h
  | e :: r, s, h => by
    unfold bitsOf at h
    rcases bitsOf_out r _ h with h | ⟨e', he', hb, h⟩
    · cases hb : Region.binds .any e with
      | false => simp only [hb, cond_false] at h; exact .inl h
      | true =>
        simp only [hb, cond_true, testBit_lor, Bool.or_eq_true] at h
        rcases h with (h | h) | h
        · exact .inl h
        · refine .inr ⟨e, by simp, hb, .inl ?_⟩
          have h' : Nat.testBit (1 <<< e.on) i = true := h
          rw [Nat.one_shiftLeft, Nat.testBit_two_pow] at h'
          simpa using h'
        · exact .inr ⟨e, by simp, hb, .inr h⟩
    · exact .inr ⟨e', by simp [he'], hb, h⟩
theorem befs_out : ∀ (l : List Oper) (acc : List Nat) (pre : List Oper), acc.length = pre.length →
    (∀ j i, Nat.testBit (acc.getD j 0) i = true → ∃ o, pre[j]? = some o ∧ ∃ e ∈ o.after, Region.binds .any e = true ∧ (e.on = i ∨ (e.on < j ∧ Nat.testBit (acc.getD e.on 0) i = true))) →
    ∀ j i, Nat.testBit ((befs l acc).getD j 0) i = true → ∃ o, (pre ++ l)[j]? = some o ∧ ∃ e ∈ o.after, Region.binds .any e = true ∧ (e.on = i ∨ (e.on < j ∧ Nat.testBit ((befs l acc).getD e.on 0) i = true))
  | [], acc, pre, _, h, j, i, ht => by simpa [befs] using h j i ht
  | o :: r, acc, pre, hl, h, j, i, ht => by
    unfold befs at ht ⊢
    have := befs_out r (acc ++ [bitsOf acc o.after.toList 0]) (pre ++ [o]) (by simp [hl]) (fun j i ht => ?_) j i ht
    · simpa using this
    · rcases Nat.lt_trichotomy j acc.length with hj | hj | hj
      · have e1 : (acc ++ [bitsOf acc o.after.toList 0]).getD j 0 = acc.getD j 0 := by simp [List.getD, List.getElem?_append_left hj]
        rw [e1] at ht
        obtain ⟨o', ho', e, he, hb, hh⟩ := h j i ht
        refine ⟨o', by rw [List.getElem?_append_left (by omega)]; exact ho', e, he, hb, ?_⟩
        rcases hh with hh | ⟨hlt, hh⟩
        · exact .inl hh
        · refine .inr ⟨hlt, ?_⟩
          have e2 : (acc ++ [bitsOf acc o.after.toList 0]).getD e.on 0 = acc.getD e.on 0 := by simp [List.getD, List.getElem?_append_left (show e.on < acc.length by omega)]
          rw [e2]; exact hh
      · subst hj
        have e1 : (acc ++ [bitsOf acc o.after.toList 0]).getD acc.length 0 = bitsOf acc o.after.toList 0 := by simp [List.getD]
        rw [e1] at ht
        rcases bitsOf_out _ _ ht with h0 | ⟨e, he, hb, hh⟩
        · simp at h0
        · refine ⟨o, by rw [hl, List.getElem?_append_right (Nat.le_refl _)]; simp, e, by simpa using he, hb, ?_⟩
          rcases hh with hh | hh
          · exact .inl hh
          · have hlt : e.on < acc.length := by
              rcases Nat.lt_or_ge e.on acc.length with h' | h'
              · exact h'
              · simp [List.getD, List.getElem?_eq_none h'] at hh
            refine .inr ⟨hlt, ?_⟩
            have e2 : (acc ++ [bitsOf acc o.after.toList 0]).getD e.on 0 = acc.getD e.on 0 := by simp [List.getD, List.getElem?_append_left hlt]
            rw [e2]; exact hh
      · have e1 : (acc ++ [bitsOf acc o.after.toList 0]).getD j 0 = 0 := by
          simp only [List.getD]
          rw [List.getElem?_eq_none (by simp; omega)]; rfl
        rw [e1] at ht
        simp at ht
theorem befs_ok : BefOk ops (befs ops.toList []) := by
  intro j i ht
  have := befs_out ops.toList [] [] rfl (fun j i ht => by simp at ht) j i ht
  simpa using this
theorem closed_none : Closed ops (Array.replicate ops.size false) := by
  intro k o hk hl
  have hlt : k < ops.size := (Array.getElem?_eq_some_iff.1 hk).1
  simp [hlt] at hl
theorem evReg_wp {id : Nat} {draw : Bool} {Q : Exit → Act → World → Prop} {K : Tm → H → Prop} {t : Tm} {a : Act} {w : World} {w0 : World} (hm : P.follows .mixedOrders = true) (hen : EnvOk P env)
    (hQ : ∀ c a w, ¬ Q (.panic c) a w) (hf : Fr n t a) (hst : Stays w0 w) (hk : ∀ t' a' w', K t' (hp w') → Fr n t' a' → Stays w0 w' → Q .normal a' w') (h : evReg P env n ops draw t K (hp w)) :
    (Code.region id ops draw).wp P Q a w := by
  unfold evReg at h
  cases draw with
  | false =>
    simp only [cond_false] at h
    exact wp_region_list (evList_wp hen hk ops.toList t a w hf hst h)
  | true =>
    simp only [cond_true] at h
    cases hno : Region.noSelect ops with
    | false => simp [hno] at h
    | true =>
      simp only [hno, cond_true] at h
      refine wp_region_any hm (wpAny_of_R (bs := befs ops.toList []) (L := []) _ _ _ _ ?_)
      refine evAny_wp hen befs_ok hno hQ hk ops.size _ [] t a { w with drawn := w.drawn + 1 } closed_none hf (hst.trans ⟨rfl, rfl, rfl, Nat.le_refl _⟩) h
end
end Go.Sh

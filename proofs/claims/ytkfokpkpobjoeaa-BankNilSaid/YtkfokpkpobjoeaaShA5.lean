/- The shallow form, 6: operations without effect, calls, stores, copies and appends. -/
import Derived.Test.YtkfokpkpobjoeaaShA4
namespace Go.Sh
open Go.RowKit

section
variable {P : Program} {env : Env}

/-- The cells that a load reads hold what they held. -/
def HeldAt (P : Program) (op : Op) (t : Tm) (m : H) (w : World) : Prop :=
  match op with
  | .load ty x => match t.get x with
    | some (.pointer (some a)) => ∀ i, i < P.cellsOf ty → (hp w).cell (a.add i) = m.cell (a.add i)
    | _ => True
  | _ => True
theorem HeldAt.refl (op : Op) (t : Tm) (w : World) : HeldAt P op t (hp w) w := by
  unfold HeldAt
  split
  · split
    · exact fun _ _ => rfl
    · trivial
  · trivial

/-- The run of an operation that hands back a value, off the run of the value. -/
theorem run_value {s : Sem Value} {v : Value} {w : World} (h : s.run P w = .ok v w) : (do pure (Next.value (← s)) : Sem Next).run P w = .ok (.value v) w := by
  simp [h]

set_option maxHeartbeats 1000000 in
/-- An operation that writes nothing and makes nothing: its value, whatever else the world is. -/
theorem evVal_free {o : Oper} {t : Tm} {a : Act} {K : Option Value → H → Prop} {m : H} (hf : isFree P o.op = true) (hs : Sub t a) (h : evVal P env o.op o.type t K m) :
    ∃ kv v, K kv m ∧ (kv = none ∨ kv = some v) ∧ ∀ w, HeldAt P o.op t m w → (execOp a.eval o).run P w = .ok (.value v) w := by
  obtain ⟨dst, op, ty, pos, after, guard⟩ := o
  have plain : ∀ {s : Sem Value} {v : Value}, (∀ w, s.run P w = .ok v w) → ∀ w, HeldAt P op t m w → (do pure (Next.value (← s)) : Sem Next).run P w = .ok (.value v) w := fun hr w _ => run_value (hr w)
  simp only at hf h
  cases op <;> simp only [isFree, Bool.false_eq_true] at hf <;> simp only [evVal] at h
  case move x =>
    cases hx : t.get x with
    | none => rw [hx] at h; exact ⟨_, a.eval x, h, .inl rfl, fun w _ => by simp [execOp]⟩
    | some v => rw [hx] at h; exact ⟨_, a.eval x, h, .inr (by rw [hs.get hx]), fun w _ => by simp [execOp]⟩
  case assign x =>
    cases hx : t.get x with
    | none => rw [hx] at h; exact ⟨_, a.eval x, h, .inl rfl, fun w _ => by simp [execOp]⟩
    | some v => rw [hx] at h; exact ⟨_, a.eval x, h, .inr (by rw [hs.get hx]), fun w _ => by simp [execOp]⟩
  case pick c x y =>
    split at h
    · rename_i p hc
      have ec := hs.get hc
      cases p
      · simp only [cond_false] at h
        cases hx : t.get y with
        | none => rw [hx] at h; exact ⟨_, a.eval y, h, .inl rfl, fun w _ => by simp [execOp, ec, asBool]⟩
        | some v => rw [hx] at h; exact ⟨_, a.eval y, h, .inr (by rw [hs.get hx]), fun w _ => by simp [execOp, ec, asBool]⟩
      · simp only [cond_true] at h
        cases hx : t.get x with
        | none => rw [hx] at h; exact ⟨_, a.eval x, h, .inl rfl, fun w _ => by simp [execOp, ec, asBool]⟩
        | some v => rw [hx] at h; exact ⟨_, a.eval x, h, .inr (by rw [hs.get hx]), fun w _ => by simp [execOp, ec, asBool]⟩
    · exact h.elim
  case build tb ps =>
    split at h
    · rename_i vs hvs
      split at h
      · rename_i cs hcs
        refine ⟨_, _, h, .inr rfl, plain fun w => ?_⟩
        refine run_build w tb _ cs ?_
        rw [← hcs]
        congr 1
        rw [Array.toList_map]
        refine List.map_congr_left fun p hp => ?_
        obtain ⟨v, hv⟩ := Tm.all_mem hvs p.2 (List.mem_map.2 ⟨p, hp, rfl⟩)
        simp [hs.val hv]
      · exact h.elim
    · exact h.elim
  case load tl x =>
    split at h
    · rename_i p hx
      obtain ⟨v, hk, hr⟩ := evLoad_run h
      refine ⟨_, v, hk, .inr rfl, fun w hw => ?_⟩
      have := hr w (by simpa only [HeldAt, hx] using hw)
      simp only [execOp]
      refine run_value ?_
      unfold Instr.loadAt
      rw [hs.get hx]
      simpa [Instr.sureAddr] using this
    · exact h.elim
  case nilCheck x =>
    split at h
    · rename_i p hx
      obtain ⟨b, rfl, hk⟩ := h
      exact ⟨_, _, hk, .inr rfl, fun w _ => by simp [execOp, hs.get hx]⟩
    · exact h.elim
  case binOp op tb x y ty2 =>
    split at h
    · rename_i u v hx hy
      have hne : isAggEq P op tb = false := by simpa using hf
      rw [hne, cond_false] at h
      obtain ⟨r, hk, hr⟩ := evBin_run x h (fun c hc => by subst hc; simpa [Tm.get] using hy.symm)
      refine ⟨_, r, hk, .inr rfl, fun w _ => ?_⟩
      have := hr w
      simp only [execOp, hs.get hx, hs.get hy]
      exact run_value this
    · exact h.elim
  case unOp op tb x =>
    split at h
    · rename_i b hx
      exact ⟨_, _, h, .inr rfl, fun w _ => by simp [execOp, hs.get hx, Op.unary]⟩
    · rename_i k n hx
      exact ⟨_, _, h, .inr rfl, fun w _ => by simp [execOp, hs.get hx, Op.unary, Op.intArith]⟩
    · rename_i k n hx
      exact ⟨_, _, h, .inr rfl, fun w _ => by simp [execOp, hs.get hx, Op.unary, Op.intBits, bNot, bXor]⟩
    · exact h.elim
  case makeInterface tb x =>
    split at h
    · exact h.elim
    · rename_i v d hn hx hd
      refine ⟨_, _, h, .inr rfl, plain fun w => ?_⟩
      simp only [hs.get hx]
      unfold Instr.makeInterface
      rw [Sem.run_bind, run_underlying hd, Result.andThen_ok]
      split
      · exact absurd rfl (hn _)
      · rfl
    · exact h.elim
  case makeFunc fn first cap =>
    split at h
    · rename_i u v hu hv
      refine ⟨_, _, h, .inr rfl, plain fun w => ?_⟩
      have e1 : first.map a.eval = u.toArray := by rw [← Array.toList_inj]; simpa using hs.all hu
      have e2 : cap.map a.eval = v.toArray := by rw [← Array.toList_inj]; simpa using hs.all hv
      simp [Instr.makeFunc, e1, e2]
    · exact h.elim
  case slice ts x lo hi mx =>
    cases mx with
    | some _ => simp only at h
    | none =>
      simp only at h
      split at h
      · rename_i v l u hx hl hu
        obtain ⟨r, hk, hr⟩ := evSlice_run h
        refine ⟨_, r, hk, .inr rfl, plain fun w => ?_⟩
        have e1 : lo.map a.eval = lo.map t.val := by
          cases lo with
          | none => rfl
          | some y => obtain ⟨v, hv⟩ := Tm.all_mem hl y (by simp); simp [hs.val hv]
        have e2 : hi.map a.eval = hi.map t.val := by
          cases hi with
          | none => rfl
          | some y => obtain ⟨v, hv⟩ := Tm.all_mem hu y (by simp); simp [hs.val hv]
        rw [hs.get hx, e1, e2]
        exact hr w
      · exact h.elim
  case fieldAddr tf x f =>
    split at h
    · rename_i v hx
      obtain ⟨r, hk, hr⟩ := evFieldAddr_run h
      exact ⟨_, r, hk, .inr rfl, plain fun w => by rw [hs.get hx]; exact hr w⟩
    · exact h.elim
  case field tf x f =>
    split at h
    · rename_i v hx
      obtain ⟨r, hk, hr⟩ := evField_run h
      exact ⟨_, r, hk, .inr rfl, plain fun w => by rw [hs.get hx]; exact hr w⟩
    · exact h.elim
  case indexAddr ti x i =>
    split at h
    · rename_i v j hx hj
      obtain ⟨r, hk, hr⟩ := evIndexAddr_run h
      exact ⟨_, r, hk, .inr rfl, plain fun w => by rw [hs.get hx, hs.get hj]; exact hr w⟩
    · exact h.elim
  case index ti x i =>
    split at h
    · rename_i v j hx hj
      obtain ⟨r, hk, hr⟩ := evIndex_run h
      exact ⟨_, r, hk, .inr rfl, plain fun w => by rw [hs.get hx, hs.get hj]; exact hr w⟩
    · exact h.elim
  case extract x i =>
    split at h
    · rename_i vs hx
      split at h
      · rename_i v hv
        refine ⟨_, v, h, .inr rfl, plain fun w => ?_⟩
        rw [hs.get hx]
        have : vs[i]? = some v := by simpa using hv
        simp [Instr.extract, this]
      · exact h.elim
    · exact h.elim
  case call c =>
    obtain ⟨callee, args, argTypes⟩ := c
    split at h
    · rename_i vs hvs
      have ea : args.map a.eval = vs.toArray := by rw [← Array.toList_inj]; simpa using hs.all hvs
      cases callee <;> first | (simp at hf; done) | skip
      rename_i b
      cases b <;> first | (simp at hf; done) | (simp only at h)
      case len =>
        split at h
        · rename_i ty' x hty
          have hm : ∀ k e, P.underlying ty' ≠ some (.map k e) := by
            intro k e he
            simp [hty, he] at hf
          obtain ⟨r, hk, hr⟩ := evLen_run hm h
          refine ⟨_, r, hk, .inr rfl, fun w _ => ?_⟩
          have et : argTypes = #[ty'] := by rw [← Array.toList_inj]; simpa using hty
          subst et
          simp [execOp, resolve, ea, invoke, builtin, hr]
        · exact h.elim
      case min =>
        obtain ⟨r, hk, hr⟩ := evMin_run (P := P) h
        exact ⟨_, r, hk, .inr rfl, fun w _ => by simp [execOp, resolve, ea, invoke, builtin, hr]⟩
      case max =>
        obtain ⟨r, hk, hr⟩ := evMax_run (P := P) h
        exact ⟨_, r, hk, .inr rfl, fun w _ => by simp [execOp, resolve, ea, invoke, builtin, hr]⟩
    · exact h.elim

/-! ### Every operation -/
/-- What a function's shallow form says of its calls. -/
def FnOk (P : Program) (f : FuncId) (F : W) : Prop :=
  ∀ args (Q : Value → H → Prop) w, F args Q (hp w) →
    (∃ g args', (callFunc f args).run P w = .ok (.enter g args') w ∧ Calls P g args' w fun e w' => ∃ v, e = .returned v ∧ Q v (hp w') ∧ Stays w w') ∨
    (∃ v w', (callFunc f args).run P w = .ok (.value v) w' ∧ Q v (hp w') ∧ Stays w w')
def EnvOk (P : Program) (env : Env) : Prop := ∀ f, FnOk P f (env f)
/-- What stands behind an operation, in the frame and the world: 'v' in its slot, of which 'kv' is known. -/
def Post (o : Oper) (a : Act) (w : World) (K : Option Value → H → Prop) (a' : Act) (w' : World) : Prop :=
  ∃ kv v, K kv (hp w') ∧ (kv = none ∨ kv = some v) ∧ a' = a.put o.dst v ∧ Stays w w'
theorem wp_of_value {o : Oper} {a : Act} {w w' : World} {K : Option Value → H → Prop} {Q : Exit → Act → World → Prop} {v : Value}
    (hr : (execOp a.eval o).run P w = .ok (.value v) w') (hk : K (some v) (hp w')) (hst : Stays w w') : o.wp P a w (Post o a w K) Q := by
  unfold Oper.wp
  rw [hr]
  exact ⟨_, v, hk, .inr rfl, rfl, hst⟩
theorem wp_of_call {o : Oper} {a : Act} {w : World} {K : Option Value → H → Prop} {Q : Exit → Act → World → Prop} {f : FuncId} {args : Array Value} {K' : Value → H → Prop}
    (he : EnvOk P env) (ho : execOp a.eval o = callFunc f args) (hk : ∀ v h', K' v h' → K (some v) h') (h : env f args K' (hp w)) : o.wp P a w (Post o a w K) Q := by
  unfold Oper.wp
  rw [ho]
  rcases he f args _ w h with ⟨g, args', hr, hc⟩ | ⟨v, w', hr, hkk, hst⟩
  · rw [hr]
    show Calls P g args' w _
    exact hc.mono fun e w' ⟨v, hv, hkk, hst⟩ => by subst hv; exact ⟨_, v, hk _ _ hkk, .inr rfl, rfl, hst⟩
  · rw [hr]
    exact ⟨_, v, hk _ _ hkk, .inr rfl, rfl, hst⟩
theorem hp_alloc (w : World) (o : Obj) : hp (w.alloc o) = (hp w).upd w.heap.size o := hp_push w o
theorem stays_alloc (w : World) (o : Obj) : Stays w (w.alloc o) := ⟨rfl, rfl, rfl, by simp⟩

theorem evStore_run {ty : TypeId} {a : Addr} {v : Value} {K : H → Prop} {w : World} (h : evStore P ty a v K (hp w)) :
    ∃ w', (Instr.storeAt ty (.pointer (some a)) v).run P w = .ok () w' ∧ K (hp w') ∧ Stays w w' := by
  have key : ∀ cs : Array Value, v.cells = cs → (∃ i, P.info? ty = some i ∧ cs.size = i.size) → (∀ v ∈ cs.toList, isPlainCell v = true) →
      (∀ i, i < cs.toList.length → ((hp w).cell (a.add i)).isSome = true ∧ (hp w).frozen (a.add i) = false) → K ((hp w).sets a 0 cs.toList) →
      ∃ w', (Instr.storeAt ty (.pointer (some a)) v).run P w = .ok () w' ∧ K (hp w') ∧ Stays w w' := by
    intro cs hcs ⟨i, hi, hsz⟩ hp1 hp2 hk
    have := wpS_sound P (storeCells a cs.toList) (fun _ h => K h) w (wpS_storeCells cs.toList 0 (hp w) hp1 (fun j hj => by rw [Nat.zero_add]; exact hp2 j hj) hk)
    obtain ⟨u, w', hr, hk', hst⟩ := this
    refine ⟨w', ?_, hk', hst⟩
    unfold Instr.storeAt storeVar
    simp [Instr.sureAddr, hcs, run_sizeOf_i hi, hsz, hr]
  unfold evStore at h
  split at h
  · rename_i i hi
    split at h
    · rename_i s hs
      cases hb : Nat.beq i.size 1 with
      | false => simp [hb] at h
      | true =>
        simp only [hb, cond_true] at h
        obtain ⟨h1, h2, h3, hk⟩ := h
        have hc : v.cells = #[v] := by cases v <;> first | (simp [isPlainCell] at h1; done) | rfl
        refine key #[v] hc ⟨i, hi, by simpa using (Nat.eq_of_beq_eq_true hb).symm⟩ (by simpa using h1) ?_ (by rw [show (hp w).sets a 0 (#[v] : Array Value).toList = (hp w).set a v from by simp [H.sets, Addr.add_zero']]; exact hk)
        intro j hj
        have : j = 0 := by simpa using hj
        subst this
        simpa using ⟨h2, h3⟩
    · split at h
      · rename_i cs
        obtain ⟨hsz, h1, h2, hk⟩ := h
        exact key cs rfl ⟨i, hi, hsz⟩ h1 h2 hk
      · exact h.elim
    · exact h.elim
  · exact h.elim

theorem run_cellsOf {x : Option Addr} {n : Nat} {K : List Value → Prop} {w : World} (size len cap : Nat) (h : M.cellsOf (hp w) x (n * size) K) :
    ∃ cs : List Value, K cs ∧ (Builtin.firstCells size n (.slice x len cap)).run P w = .ok cs.toArray w := by
  cases x with
  | none => exact ⟨[], h.1 rfl, by simp [Builtin.firstCells]⟩
  | some a =>
    obtain ⟨cs, hl, hr, hk⟩ := h.2 a rfl
    refine ⟨cs, hk, ?_⟩
    have := run_loadCells (P := P) (w := w) (a := a) cs 0 #[] (fun j hj => by rw [Nat.zero_add, hp_cell]; exact hr j hj)
    simp only [Builtin.firstCells, loadCells, ← hl, this]
    simp
theorem zeroCells_eq (z : Array Value) (n : Nat) : Builtin.zeroCells z n = (zerosOf z.toList n).toArray := by
  rw [← Array.toList_inj]
  unfold Builtin.zeroCells zerosOf
  simp only [Array.toList_map, Array.toList_range]
  by_cases hz : z.size = 0
  · have : z = #[] := Array.eq_empty_of_size_eq_zero hz
    subst this
    simp
  · apply List.ext_getElem
    · simp
    · intro i h1 h2
      have hi : i < n * z.size := by simpa using h1
      have hm : i % z.size < z.size := Nat.mod_lt _ (by omega)
      have hf : ∀ (m : Nat) (l : List Value) (j : Nat) (hj : j < (List.flatten (List.replicate m l)).length), (List.flatten (List.replicate m l))[j]? = l[j % l.length]? := by
        intro m l
        induction m with
        | zero => intro j hj; simp at hj
        | succ m ih =>
          intro j hj
          rw [List.replicate_succ, List.flatten_cons]
          by_cases hlt : j < l.length
          · rw [List.getElem?_append_left hlt, Nat.mod_eq_of_lt hlt]
          · have hge : l.length ≤ j := by omega
            rw [List.getElem?_append_right hge, ih (j - l.length) (by simp [List.replicate_succ] at hj ⊢; omega)]
            rw [Nat.mod_eq_sub_mod hge]
      have := hf n z.toList i h2
      rw [List.getElem?_eq_getElem h2] at this
      have h3 : z.toList[i % z.toList.length]? = some z[i % z.size]! := by
        simp [hm]
      rw [h3] at this
      simpa using (Option.some.inj this).symm
theorem wpS_bind2 {α β : Type} (s : Sem α) (f : α → Sem β) (Q : β → H → Prop) (h : H) : wpS P (s >>= f) Q h = wpS P s (fun a h' => wpS P (f a) Q h') h := wpS_bind P s f Q h
theorem wpS_pure {α : Type} (x : α) (Q : α → H → Prop) (h : H) : wpS P (pure x) Q h = Q x h := rfl
theorem wpS_underlying {t : TypeId} {d : TypeDesc} (hu : P.underlying t = some d) (Q : TypeDesc → H → Prop) (h : H) : wpS P (underlying t) Q h = Q d h := by
  unfold underlying
  rw [wpS_bind2]
  show wpS P (match P.underlying t with | some d => pure d | none => stuck "no such type") Q h = _
  rw [hu]; rfl
theorem wpS_typeInfo {t : TypeId} {i : TypeInfo} (hi : P.info? t = some i) (Q : TypeInfo → H → Prop) (h : H) : wpS P (typeInfo t) Q h = Q i h := by
  unfold typeInfo
  rw [wpS_bind2]
  show wpS P (match P.info? t with | some i => pure i | none => stuck "no such type") Q h = _
  rw [hi]; rfl
theorem wpS_sizeOf {t : TypeId} {i : TypeInfo} (hi : P.info? t = some i) (Q : Nat → H → Prop) (h : H) : wpS P (sizeOf t) Q h = Q i.size h := by
  unfold sizeOf
  rw [wpS_bind2, wpS_typeInfo hi]; rfl
theorem wpS_zeroValue {t : TypeId} {i : TypeInfo} {z : Value} (hi : P.info? t = some i) (hz : i.zero = some z) (Q : Value → H → Prop) (h : H) : wpS P (zeroValue t) Q h = Q z h := by
  unfold zeroValue
  rw [wpS_bind2, wpS_typeInfo hi, hz]; rfl
theorem wpS_newRow (e : TypeId) (cs : Array Value) (Q : Addr → H → Prop) (h : H) : wpS P (newRow e cs) Q h = ∀ b, h b = none → Q ⟨b, 0, none⟩ (h.upd b (.cells cs e)) := rfl
theorem wpS_choose {q : Question} (hq : q.forced = false) (Q : Nat → H → Prop) (h : H) : wpS P (choose q) Q h = ∀ t, Q (q.cut t) h := by
  show (if q.forced then _ else _) = _
  rw [hq]; rfl
theorem wpS_cellsOf {x : Option Addr} {n : Nat} {h : H} {K : List Value → Prop} {Q : Array Value → H → Prop} (size len cap : Nat) (hc : M.cellsOf h x (n * size) K) (hk : ∀ cs, K cs → Q cs.toArray h) :
    wpS P (Builtin.firstCells size n (.slice x len cap)) Q h := by
  cases x with
  | none => exact hk [] (hc.1 rfl)
  | some a =>
    obtain ⟨cs, hl, hr, hkk⟩ := hc.2 a rfl
    show wpS P (loadCellsFrom a 0 (n * size) #[]) Q h
    rw [← hl]
    exact wpS_loadCells cs 0 #[] (fun j hj => by rw [Nat.zero_add]; exact hr j hj) (by simpa using hk cs hkk)
theorem cut_appendCap (need old : Nat) (e : TypeId) (t : Nat) : need ≤ (Question.appendCap need old e).cut t := by simp [Question.cut]

theorem wpS_append {st xt e : TypeId} {i : TypeInfo} {z x : Value} {base : Option Addr} {len cap n : Nat} {new : List Value} {ty : TypeId} {K : Value → H → Prop} {h : H}
    (hst : P.underlying st = some (.slice e)) (hi : P.info? e = some i) (hz : i.zero = some z)
    (hd : P.underlying xt = some .string ∨ ∃ e2, P.underlying xt = some (.slice e2)) (hn : Builtin.lenOf x = pure n)
    (hnew : ∀ (Q : Array Value → H → Prop), Q new.toArray h → wpS P (Builtin.firstCells i.size n x) Q h)
    (ha : M.app h e i.size i.bytes z.cells.toList base len cap n new (fun a l c h' => K (.slice a l c) h')) :
    wpS P (Builtin.append_ #[st, xt] ty #[.slice base len cap, x]) K h := by
  have key : wpS P (do
      let need := len + n
      if need ≤ cap then
        let new ← Builtin.firstCells i.size n x
        if let some a := base then storeCells (a.add (len * i.size)) new.toList
        pure (.slice base need cap)
      else
        if (need : Int) > IntKind.i64.max ∧ (false = true ∨ (← typeInfo e).bytes = 0) then runtimePanic (.error "growslice: len out of range")
        if Builtin.nextslicecap need cap * (← typeInfo e).bytes > 2 ^ 48 then (if false = true then runtimePanic (.error "growslice: len out of range") else do
          if !(← Builtin.mayShare i.size len n base x) then mark .noRoom
          unsupported (.resourceLimit "append: a slice or a string whose bytes no memory bears"))
        let newCap ← choose (.appendCap need cap e)
        askRoom (newCap * (← typeInfo e).bytes)
        let old ← Builtin.firstCells i.size len (.slice base len cap)
        let new ← Builtin.firstCells i.size n x
        let rest := Builtin.zeroCells (← zeroValue e).cells (newCap - need)
        pure (.slice (some (← newRow e (old ++ new ++ rest))) need newCap) : Sem Value) K h := by
    obtain ⟨hfit, hgrow⟩ := ha
    by_cases hle : len + n ≤ cap
    · simp only []
      rw [if_pos hle, wpS_bind2]
      refine hnew _ ?_
      obtain ⟨h1, h2⟩ := hfit hle
      cases base with
      | none => exact h1 rfl
      | some a =>
        obtain ⟨p1, p2, p3⟩ := h2 a rfl
        simp only []
        rw [wpS_bind2]
        exact wpS_storeCells new 0 h p1 (fun j hj => by rw [Nat.zero_add]; exact p2 j hj) p3
    · obtain ⟨g1, g2, g3⟩ := hgrow (by omega)
      simp only []
      rw [if_neg hle, wpS_bind2, wpS_typeInfo hi, if_neg (by omega), wpS_bind2, wpS_typeInfo hi, if_neg (by omega), wpS_bind2, wpS_choose rfl]
      intro t
      generalize hc : (Question.appendCap (len + n) cap e).cut t = c
      have hcc : len + n ≤ c := by rw [← hc]; exact cut_appendCap _ _ _ _
      rw [wpS_bind2, wpS_typeInfo hi, wpS_bind2]
      have hask : ∀ (Q : Unit → H → Prop), Q () h → wpS P (askRoom (c * i.bytes)) Q h := by
        intro Q hq
        unfold askRoom
        split <;> exact hq
      refine hask _ ?_
      rw [wpS_bind2]
      refine wpS_cellsOf i.size len cap g3 fun old hold => ?_
      rw [wpS_bind2]
      refine hnew _ ?_
      rw [wpS_bind2, wpS_zeroValue hi hz, wpS_bind2, wpS_newRow]
      intro b hb
      have := hold c hcc b hb
      rw [zeroCells_eq]
      simpa [wpS_pure] using this
  unfold Builtin.append_
  rcases hd with hd | ⟨e2, hd⟩
  · simp only [List.getElem?_toArray, List.getElem?_cons_zero, List.getElem?_cons_succ, wpS_bind2, wpS_underlying hst, wpS_sizeOf hi, wpS_underlying hd, wpS_pure, hn]
    exact key
  · simp only [List.getElem?_toArray, List.getElem?_cons_zero, List.getElem?_cons_succ, wpS_bind2, wpS_underlying hst, wpS_sizeOf hi, wpS_underlying hd, wpS_pure, hn]
    exact key
end
end Go.Sh

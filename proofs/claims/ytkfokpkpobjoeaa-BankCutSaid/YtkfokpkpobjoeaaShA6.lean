/- The shallow form, 7: every operation is sound. -/
import Derived.Test.YtkfokpkpobjoeaaShA5
namespace Go.Sh
open Go.RowKit

section
variable {P : Program} {env : Env}

/-- From what the shallow form says of an operation to what the machine does. -/
theorem wp_of_wpS {o : Oper} {a : Act} {w : World} {K : Option Value → H → Prop} {Q : Exit → Act → World → Prop} {s : Sem Value}
    (ho : execOp a.eval o = (do pure (Next.value (← s)))) (h : wpS P s (fun v h' => K (some v) h') (hp w)) : o.wp P a w (Post o a w K) Q := by
  obtain ⟨v, w', hr, hk, hst⟩ := wpS_sound P s _ w h
  exact wp_of_value (v := v) (by rw [ho]; simp [hr]) hk hst

theorem wp_of_unit {o : Oper} {a : Act} {w w' : World} {K : Option Value → H → Prop} {Q : Exit → Act → World → Prop} {s : Sem Unit}
    (ho : execOp a.eval o = (do s; pure Next.skip)) (hr : s.run P w = .ok () w') (hk : K (some undef) (hp w')) (hst : Stays w w') : o.wp P a w (Post o a w K) Q := by
  unfold Oper.wp
  have : (execOp a.eval o).run P w = .ok .skip w' := by rw [ho]; simp [hr]
  rw [this]
  exact ⟨_, undef, hk, .inr rfl, rfl, hst⟩
theorem run_getObj {w : World} {b : Nat} {es : Array MapEntry} {c : Nat} (h : hp w b = some (.map es c)) : (getObj b).run P w = .ok (.map es c) w := by
  have h' : w.heap[b]? = some (.map es c) := h
  simp [getObj, Sem.run, h']
theorem run_setObj {w : World} {b : Nat} {o : Obj} {es : Array MapEntry} {c : Nat} (h : hp w b = some (.map es c)) : ∃ w', (setObj b o).run P w = .ok () w' ∧ hp w' = (hp w).upd b o ∧ Stays w w' := by
  have h' : w.heap[b]? = some (.map es c) := h
  refine ⟨{ w with heap := w.heap.setIfInBounds b o }, by simp [setObj, Sem.run, h'], hp_setObj w b o h', ⟨rfl, rfl, rfl, by simp⟩⟩
theorem run_lookup_some {w : World} {tm kt et : TypeId} {m k : Value} {es : Array MapEntry} {p : Nat × Value} {ok : Bool} (hu : P.underlying tm = some (.map kt et)) (hm : MapAt (hp w) m es) (hk : KeyAt P kt es k (some p)) :
    (Instr.lookup tm m k ok).run P w = .ok (if ok then .tuple #[p.2, .bool true] else p.2) w := by
  unfold Instr.lookup
  rcases hm with ⟨rfl, rfl⟩ | ⟨b, c, rfl, hb⟩
  · simp [run_underlying hu, hk.1, hk.2]
  · simp [run_underlying hu, run_getObj hb, hk.1, hk.2]
theorem run_lookup_none {w : World} {tm kt et : TypeId} {m k z : Value} {es : Array MapEntry} {ok : Bool} (hu : P.underlying tm = some (.map kt et)) (hm : MapAt (hp w) m es) (hk : KeyAt P kt es k none)
    (hz : ∀ w, (zeroValue et).run P w = .ok z w) : (Instr.lookup tm m k ok).run P w = .ok (if ok then .tuple #[z, .bool false] else z) w := by
  unfold Instr.lookup
  rcases hm with ⟨rfl, rfl⟩ | ⟨b, c, rfl, hb⟩
  · simp [run_underlying hu, hk.1, hk.2, hz]
  · simp [run_underlying hu, run_getObj hb, hk.1, hk.2, hz]
theorem run_mapUpdate {w : World} {tm : TypeId} {m k v : Value} {K : H → Prop} (h : M.mput P tm m k v (hp w) K) : ∃ w', (Instr.mapUpdate tm m k v).run P w = .ok () w' ∧ K (hp w') ∧ Stays w w' := by
  obtain ⟨kt, et, b, es, c, r, hu, rfl, hb, hk, h⟩ := h
  cases r with
  | none =>
    obtain ⟨w', hr, hw, hst⟩ := run_setObj (P := P) (o := .map (es.push { key := k, val := v, born := c }) (c + 1)) hb
    refine ⟨w', ?_, by rw [hw]; exact h, hst⟩
    unfold Instr.mapUpdate
    simp [run_underlying hu, run_getObj hb, hk.1, hk.2, hr]
  | some p =>
    obtain ⟨i, u⟩ := p
    obtain ⟨hsb, h⟩ := h
    obtain ⟨w', hr, hw, hst⟩ := run_setObj (P := P) (o := .map (es.modify i fun e => { e with key := k, val := v }) c) hb
    refine ⟨w', ?_, by rw [hw]; exact h, hst⟩
    have hkeep : (Instr.keyThatStays (((es[i]?).map (·.key)).getD k) k).run P w = .ok k w := by
      unfold Instr.keyThatStays
      rw [if_pos hsb]; rfl
    unfold Instr.mapUpdate
    simp only [Sem.run_bind, run_underlying hu, Result.andThen_ok, run_getObj hb, hk.1, hk.2, hkeep, hr]
theorem wpS_bytes {x : Option Addr} {n c : Nat} {h : H} {K : ByteArray → Prop} {Q : Value → H → Prop} (hb : M.b2s h x n K) (hk : ∀ s, K s → Q (.string s) h) :
    wpS P (Conv.bytesToString (.slice x n c)) Q h := by
  unfold Conv.bytesToString
  cases x with
  | none => exact hk _ (hb.1 rfl)
  | some a =>
    obtain ⟨zs, hl, hr, hkk⟩ := hb.2 a rfl
    simp only []
    rw [wpS_bind2]
    have hl2 : (zs.map (Value.int .u8)).length = n := by simpa using hl
    show wpS P (loadCellsFrom a 0 n #[]) _ h
    rw [← hl2]
    refine wpS_loadCells _ 0 #[] (fun j hj => by rw [Nat.zero_add]; exact hr j hj) ?_
    have key : ∀ (l : List Int) (s0 : ByteArray) (K2 : ByteArray → H → Prop), K2 ⟨s0.data ++ (ofBytes l).data⟩ h →
        wpS P (forIn (l.map (Value.int .u8)) s0 fun c s => do
          let .int .u8 n := c | stuck "bytesToString: byte expected"
          pure (.yield (s.push (UInt8.ofNat n.toNat)))) K2 h := by
      intro l
      induction l with
      | nil => intro s0 K2 hk2; simpa [ofBytes, wpS_pure] using hk2
      | cons z r ih =>
        intro s0 K2 hk2
        simp only [List.map_cons, List.forIn_cons, wpS_bind2, wpS_pure]
        refine ih (s0.push (UInt8.ofNat z.toNat)) K2 ?_
        have : (⟨(s0.push (UInt8.ofNat z.toNat)).data ++ (ofBytes r).data⟩ : ByteArray) = ⟨s0.data ++ (ofBytes (z :: r)).data⟩ := by
          congr 1
          simp [ofBytes, ByteArray.push]
        rw [this]; exact hk2
    have := key zs ByteArray.empty (fun s h' => Q (.string s) h') (by simpa using hk _ hkk)
    simp only [List.nil_append, List.append_toArray, List.forIn_toArray, wpS_bind2, wpS_pure] at this ⊢
    exact this
theorem wpS_s2b {e : TypeId} {s : ByteArray} {h : H} {K : Option Addr → Nat → Nat → H → Prop} {Q : Value → H → Prop} (hb : M.s2b h e s K) (hk : ∀ a n c h', K a n c h' → Q (.slice a n c) h') :
    wpS P (Conv.stringToBytes e s) Q h := by
  unfold Conv.stringToBytes
  rw [wpS_bind2, wpS_choose rfl]
  intro t
  generalize hc : (Question.appendCap s.size 0 e).cut t = c
  have hcc : s.size ≤ c := by rw [← hc]; exact cut_appendCap _ _ _ _
  simp only []
  rw [wpS_bind2, wpS_newRow]
  intro b hbn
  have hh := hk _ _ _ _ (hb c hcc b hbn)
  rw [wpS_bind2]
  have hcells : (Array.map (fun b => Value.int IntKind.u8 ↑b.toNat) s.data ++ Array.replicate (c - s.size) (Value.int .u8 0)) = (bytesOf s ++ List.replicate (c - s.size) (Value.int .u8 0)).toArray := by
    rw [← Array.toList_inj]
    simp [bytesOf]
  rw [hcells]
  generalize hcs : (bytesOf s ++ List.replicate (c - s.size) (Value.int .u8 0)) = cs at hh ⊢
  have hsz : cs.length = c := by
    rw [← hcs]
    have : s.data.toList.length = s.size := by simp
    simp only [List.length_append, bytesOf, List.length_map, List.length_replicate, this]; omega
  unfold markStringish
  rw [wpS_bind2]
  show wpS P _ _ _
  have hsh : (h.upd b (.cells cs.toArray e)).shape b = some (e, c) := by simp [H.shape, H.upd_self, hsz]
  show wpS P (match (h.upd b (.cells cs.toArray e)).shape b with | some (_, n) => freeze ⟨b, n, none⟩ 1 | _ => pure ()) _ _
  rw [hsh]
  show Q (.slice (some ⟨b, 0, none⟩) s.size c) ((h.upd b (.cells cs.toArray e)).freeze ⟨b, c, none⟩ 1)
  have hfz : (h.upd b (.cells cs.toArray e)).freeze ⟨b, c, none⟩ 1 = h.upd b (.cells cs.toArray e (c, c + 1)) := by
    funext x
    unfold H.freeze H.modify
    rw [if_neg (by decide)]
    by_cases hx : x = b
    · subst hx; simp [freezeIn, H.upd]
    · simp [hx, H.upd]
  rw [hfz]
  exact hh
theorem wpS_makeSlice {t e : TypeId} {i : TypeInfo} {z : Value} {kl kc : IntKind} {l c : Int} {h : H} {K : Option Addr → Nat → Nat → H → Prop} {Q : Value → H → Prop}
    (ht : P.underlying t = some (.slice e)) (hi : P.info? e = some i) (hz : i.zero = some z) (hzs : z.cells.size = i.size)
    (hm : M.mk h e z.cells.toList i.bytes l c K) (hk : ∀ a n c h', K a n c h' → Q (.slice a n c) h') : wpS P (Instr.makeSlice t (.int kl l) (.int kc c)) Q h := by
  obtain ⟨h0, h1, h2, h3, hb⟩ := hm
  have wl : IntKind.i64.wrap l = l := by rw [IntKind.wrap_i64]; omega
  have wc : IntKind.i64.wrap c = c := by rw [IntKind.wrap_i64]; omega
  unfold Instr.makeSlice
  rw [wpS_bind2, wpS_underlying ht]
  simp only [asInt, asIntOf, wpS_bind2, wpS_pure, wpS_typeInfo hi, wl, wc]
  have n1 : (decide (c < 0) || decide ((i.bytes : Int) * c > 2 ^ 48)) = false := by simp; omega
  rw [n1]
  simp only [Bool.false_or]
  rw [if_neg (by simp; omega)]
  have hask : ∀ (Q : Unit → H → Prop), Q () h → wpS P (askRoom (c.toNat * i.bytes)) Q h := by
    intro Q hq
    unfold askRoom
    split <;> exact hq
  rw [wpS_bind2]
  refine hask _ ?_
  rw [wpS_bind2, wpS_sizeOf hi]
  have hfin : ∀ (z' : Array Value), (Array.map (fun x => z'[x % z'.size]!) (Array.range (c.toNat * i.size))) = (zerosOf z.cells.toList c.toNat).toArray →
      wpS P (do
          let a ← newRow e (Array.map (fun x => z'[x % z'.size]!) (Array.range (c.toNat * i.size)))
          pure (Value.slice (some a) l.toNat c.toNat)) Q h := by
    intro z' hz'
    rw [wpS_bind2, wpS_newRow, hz']
    exact fun b hbn => hk _ _ _ _ (hb b hbn)
  split
  · rename_i h0
    rw [wpS_bind2]
    refine hfin #[] ?_
    rw [h0, ← zeroCells_eq]
    unfold Builtin.zeroCells
    rw [hzs, h0]
    simp
  · rw [wpS_bind2, wpS_zeroValue hi hz, wpS_bind2]
    refine hfin z.cells ?_
    rw [← zeroCells_eq]
    unfold Builtin.zeroCells
    rw [hzs]
theorem run_ints {w : World} {s d : TypeId} {k k' : IntKind} {n : Int} (hd : P.underlying d = some (.int k)) (hs : ∃ e, P.underlying s = some e) : (convert s d (.int k' n)).run P w = .ok (.int k (k.wrap n)) w := by
  obtain ⟨e, hs⟩ := hs
  unfold convert
  simp [run_underlying hs, run_underlying hd, Conv.intToInt]
theorem wpS_convert {s d : TypeId} {x : Value} {h : H} {K : Value → H → Prop} (hc : evConv P s d x K h) : wpS P (convert s d x) K h := by
  unfold evConv at hc
  split at hc
  · rename_i k hd
    split at hc
    · rename_i e _ _ hs
      unfold convert
      rw [wpS_bind2, wpS_underlying hs, wpS_bind2, wpS_underlying hd]
      exact hc
    · exact hc.elim
  · rename_i hd
    split at hc
    · rename_i hs
      split at hc
      · unfold convert
        rw [wpS_bind2, wpS_underlying hs, wpS_bind2, wpS_underlying hd]
        exact hc
      · exact hc.elim
    · rename_i e hs
      split at hc
      · rename_i he
        split at hc
        · unfold convert
          rw [wpS_bind2, wpS_underlying hs, wpS_bind2, wpS_underlying hd]
          simp only []
          rw [wpS_bind2, wpS_underlying he]
          exact wpS_bytes hc fun s hs => hs
        · exact hc.elim
      · exact hc.elim
    · exact hc.elim
  · rename_i e hd
    split at hc
    · rename_i hs
      split at hc
      · rename_i he
        split at hc
        · unfold convert
          rw [wpS_bind2, wpS_underlying hs, wpS_bind2, wpS_underlying hd]
          simp only []
          rw [wpS_bind2, wpS_underlying he]
          exact wpS_s2b hc fun _ _ _ _ h => h
        · exact hc.elim
      · exact hc.elim
    · exact hc.elim
  · exact hc.elim
theorem wpS_len {t ty : TypeId} {x : Value} {h : H} {K : Value → H → Prop} (hl : evLen P t x K h) : wpS P (Builtin.len_ #[t] ty #[x]) K h := by
  unfold evLen at hl
  unfold Builtin.len_
  simp only [List.getElem?_toArray, List.getElem?_cons_zero]
  split at hl
  · rename_i hu
    split at hl
    · rw [wpS_bind2, wpS_underlying hu]; exact hl
    · exact hl.elim
  · rename_i e hu
    split at hl
    · rw [wpS_bind2, wpS_underlying hu]; exact hl
    · exact hl.elim
  · rename_i n e hu
    rw [wpS_bind2, wpS_underlying hu]; exact hl
  · rename_i a hu
    split at hl
    · rename_i n e hu2
      rw [wpS_bind2, wpS_underlying hu]
      simp only []
      rw [wpS_bind2, wpS_underlying hu2]; exact hl
    · exact hl.elim
  · rename_i k e hu
    split at hl
    · rename_i r
      rw [wpS_bind2, wpS_underlying hu]
      cases r with
      | none => exact hl.1 rfl
      | some b =>
        obtain ⟨es, c, hb, hk⟩ := hl.2 b rfl
        exact ⟨_, hb, rfl, hk⟩
    · exact hl.elim
  · exact hl.elim
theorem wpS_copy {ts : Array TypeId} {ty : TypeId} {args : List Value} {h : H} {K : Value → H → Prop} (hc : evCopy P ts args K h) : wpS P (Builtin.copy_ ts ty args.toArray) K h := by
  unfold evCopy at hc
  split at hc
  · rename_i dt xt dst dl cap x hts
    have et : ts = #[dt, xt] := by rw [← Array.toList_inj]; simpa using hts
    subst et
    split at hc
    · rename_i e hu
      split at hc
      · rename_i i hi
        unfold Builtin.copy_
        simp only [List.getElem?_toArray, List.getElem?_cons_zero, List.getElem?_cons_succ]
        rw [wpS_bind2, wpS_underlying hu]
        simp only []
        split at hc
        · rename_i xa n c
          simp only [Builtin.lenOf, wpS_bind2, wpS_pure, wpS_sizeOf hi]
          exact wpS_cellsOf i.size n c hc fun cs hcs => by
            cases dst with
            | none => exact hcs.1 rfl
            | some a =>
              obtain ⟨p1, p2, p3⟩ := hcs.2 a rfl
              simp only []
              rw [wpS_bind2]
              exact wpS_storeCells (Q := fun _ h' => K (.int .i64 (min n dl : Nat)) h') cs 0 h p1 (fun j hj => by rw [Nat.zero_add]; exact p2 j hj) p3
        · rename_i s
          simp only [Builtin.lenOf, wpS_bind2, wpS_pure, wpS_sizeOf hi, Builtin.firstCells]
          have e : (Array.map (fun b => Value.int IntKind.u8 ↑b.toNat) (s.extract 0 (Nat.min s.size dl)).data) = (bytesOf (s.extract 0 (min s.size dl))).toArray := by
            rw [← Array.toList_inj]; simp [bytesOf]
          rw [e]
          generalize bytesOf (s.extract 0 (min s.size dl)) = cs at hc ⊢
          cases dst with
          | none => exact hc.1 rfl
          | some a =>
            obtain ⟨p1, p2, p3⟩ := hc.2 a rfl
            simp only []
            rw [wpS_bind2]
            exact wpS_storeCells (Q := fun _ h' => K (.int .i64 (min s.size dl : Nat)) h') cs 0 h p1 (fun j hj => by rw [Nat.zero_add]; exact p2 j hj) p3
        · exact hc.elim
      · exact hc.elim
    · exact hc.elim
  · exact hc.elim
theorem wpS_clear {ts : Array TypeId} {ty : TypeId} {args : List Value} {h : H} {K : Value → H → Prop} (hc : evClear P ts args K h) : wpS P (Builtin.clear_ ts ty args.toArray) K h := by
  unfold evClear at hc
  split at hc
  · rename_i t a n cap hts
    have et : ts = #[t] := by rw [← Array.toList_inj]; simpa using hts
    subst et
    split at hc
    · rename_i e hu
      split at hc
      · rename_i i hi
        split at hc
        · rename_i z hz
          unfold Builtin.clear_
          simp only [List.getElem?_toArray, List.getElem?_cons_zero]
          rw [wpS_bind2, wpS_underlying hu]
          cases a with
          | none => exact hc.1 rfl
          | some a =>
            obtain ⟨p1, p2, p3⟩ := hc.2 a rfl
            cases n with
            | zero => exact p3
            | succ n =>
              simp only [wpS_bind2]
              rw [wpS_zeroValue hi hz, zeroCells_eq]
              exact wpS_storeCells (Q := fun _ h' => K (.tuple #[]) h') _ 0 h p1 (fun j hj => by rw [Nat.zero_add]; exact p2 j hj) p3
        · exact hc.elim
      · exact hc.elim
    · exact hc.elim
  · exact hc.elim
theorem wpS_appendE {ts : Array TypeId} {ty : TypeId} {args : List Value} {h : H} {K : Value → H → Prop} (hc : evAppend P ts args K h) : wpS P (Builtin.append_ ts ty args.toArray) K h := by
  unfold evAppend at hc
  split at hc
  · rename_i st xt s x hts
    have et : ts = #[st, xt] := by rw [← Array.toList_inj]; simpa using hts
    subst et
    split at hc
    · rename_i e base len cap hst
      split at hc
      · rename_i i hi
        split at hc
        · rename_i z e2 hz hx
          split at hc
          · rename_i xa n c
            cases xa with
            | none =>
              exact wpS_append hst hi hz (.inr ⟨e2, hx⟩) rfl (fun Q hq => hq) (hc.1 rfl)
            | some a =>
              obtain ⟨cs, hl, hr, hk⟩ := hc.2 a rfl
              refine wpS_append hst hi hz (.inr ⟨e2, hx⟩) rfl (fun Q hq => ?_) hk
              show wpS P (loadCellsFrom a 0 (n * i.size) #[]) Q h
              rw [← hl]
              exact wpS_loadCells cs 0 #[] (fun j hj => by rw [Nat.zero_add]; exact hr j hj) (by simpa using hq)
          · exact hc.elim
        · rename_i z hz hx
          split at hc
          · rename_i s
            refine wpS_append hst hi hz (.inl hx) rfl (fun Q hq => ?_) hc
            show Q _ h
            have e : (Array.map (fun b => Value.int IntKind.u8 ↑b.toNat) (s.extract 0 s.size).data) = (bytesOf s).toArray := by
              rw [← Array.toList_inj]; simp [bytesOf]
            rw [e]; exact hq
          · exact hc.elim
        · exact hc.elim
      · exact hc.elim
    · exact hc.elim
  · exact hc.elim

theorem evCallee_wp {o : Oper} {a : Act} {w : World} {K : Option Value → H → Prop} {Q : Exit → Act → World → Prop} {f : Value} {args : List Value} {K' : Value → H → Prop} (ct : Array TypeId) (fo : Operand) (ao : Array Operand)
    (he : EnvOk P env) (ho : o.op = .call ⟨.value fo, ao, ct⟩) (hf : a.eval fo = f) (ha : (ao.map a.eval) = args.toArray) (hk : ∀ v h', K' v h' → K (some v) h') (h : evCallee env f args K' (hp w)) : o.wp P a w (Post o a w K) Q := by
  unfold evCallee at h
  split at h
  · rename_i g first captured
    refine wp_of_call he (f := g) (args := (first.toList ++ args ++ captured.toList).toArray) ?_ hk h
    unfold execOp
    simp only [ho, resolve, hf, ha, Deferred.ofValue]
    simp only [pure_bind, invoke]
    congr 1
    rw [← Array.toList_inj]
    simp
  · exact h.elim

set_option maxHeartbeats 1000000 in
/-- **EVERY OPERATION**: what the shallow form says of it, the machine does. -/
theorem evVal_wp {o : Oper} {t : Tm} {a : Act} {K : Option Value → H → Prop} {w : World} {Q : Exit → Act → World → Prop} (he : EnvOk P env) (hs : Sub t a) (h : evVal P env o.op o.type t K (hp w)) :
    o.wp P a w (Post o a w K) Q := by
  cases hf : isFree P o.op with
  | true =>
    obtain ⟨kv, v, hk, hv, hr⟩ := evVal_free hf hs h
    unfold Oper.wp
    rw [hr w (HeldAt.refl _ _ _)]
    exact ⟨kv, v, hk, hv, rfl, .refl w⟩
  | false =>
    obtain ⟨dst, op, ty, pos, after, guard⟩ := o
    simp only at hf h
    cases op <;> first | (simp [isFree] at hf; done) | (simp only [evVal] at h) <;> try (exact h.elim)
    case alloc e =>
      split at h
      · rename_i z hz
        obtain ⟨i, hi, hz⟩ := Option.bind_eq_some_iff.1 hz
        refine wp_of_wpS (s := Instr.alloc e true (.tuple #[])) rfl ?_
        unfold Instr.alloc
        rw [wpS_bind2, wpS_zeroValue hi hz]
        show wpS P (do pure (Value.pointer (some (← newVar e z)))) _ _
        rw [wpS_bind2]
        exact fun b hb => h b hb
      · exact h.elim
    case box e x =>
      split at h
      · rename_i v hx
        refine wp_of_wpS (s := Instr.box e (a.eval x)) rfl ?_
        unfold Instr.box
        rw [wpS_bind2, hs.get hx]
        exact fun b hb => h b hb
      · exact h.elim
    case buildSlice tb len ps =>
      split at h
      · rename_i vs e hvs hu
        split at h
        · rename_i i hi
          split at h
          · rename_i z hz
            split at h
            · rename_i cs hcs
              cases hb : (Nat.ble (len * i.size) 16777216 && Nat.beq z.cells.size i.size) with
              | false => simp [hb] at h
              | true =>
                simp only [hb, cond_true] at h
                simp only [Bool.and_eq_true] at hb
                have h1 : len * i.size ≤ 16777216 := Nat.le_of_ble_eq_true hb.1
                have h2 : z.cells.size = i.size := Nat.eq_of_beq_eq_true hb.2
                refine wp_of_wpS (s := Instr.buildSlice tb len (ps.map fun (i, x) => (i, a.eval x))) rfl ?_
                unfold Instr.buildSlice
                rw [wpS_bind2, wpS_underlying hu]
                simp only []
                rw [wpS_bind2, wpS_sizeOf hi, if_neg (by omega)]
                have hps : (ps.map fun (i, x) => (i, a.eval x)).toList = ps.toList.map fun p => (p.1, t.val p.2) := by
                  rw [Array.toList_map]
                  refine List.map_congr_left fun p hp => ?_
                  obtain ⟨v, hv⟩ := Tm.all_mem hvs p.2 (List.mem_map.2 ⟨p, hp, rfl⟩)
                  simp [hs.val hv]
                have hz0 : ∀ z' : Array Value, (Array.map (fun x => z'[x % z'.size]!) (Array.range (len * i.size))) = (zerosOf z.cells.toList len).toArray →
                    wpS P (do
                      let some cells := Instr.fill (fun j => some (j * i.size, i.size)) (Array.map (fun x => z'[x % z'.size]!) (Array.range (len * i.size))) (ps.map fun (i, x) => (i, a.eval x)).toList
                        | stuck "buildSlice: a part of the wrong size"
                      pure (Value.slice (some (← newRow e cells)) len len)) (fun v h' => K (some v) h') (hp w) := by
                  intro z' hz'
                  rw [hz', hps, hcs]
                  simp only []
                  rw [wpS_bind2, wpS_newRow]
                  exact fun b hbn => h b hbn
                split
                · rename_i h0
                  rw [wpS_bind2]
                  refine hz0 #[] ?_
                  rw [h0, ← zeroCells_eq]
                  unfold Builtin.zeroCells
                  rw [h2, h0]; simp
                · rw [wpS_bind2, wpS_zeroValue hi hz, wpS_bind2]
                  refine hz0 z.cells ?_
                  rw [← zeroCells_eq]
                  unfold Builtin.zeroCells
                  rw [h2]
            · exact h.elim
          · exact h.elim
        · exact h.elim
      · exact h.elim
    case store ts x v =>
      split at h
      · rename_i p u hx hv
        obtain ⟨w', hr, hk, hst⟩ := evStore_run h
        unfold Oper.wp
        have : (execOp a.eval ⟨dst, .store ts x v, ty, pos, after, guard⟩).run P w = .ok .skip w' := by
          simp [execOp, hs.get hx, hs.get hv, hr]
        rw [this]
        exact ⟨_, undef, hk, .inr rfl, rfl, hst⟩
      · exact h.elim
    case binOp op tb x y ty2 =>
      have hne : isAggEq P op tb = true := by simpa [isFree] using hf
      split at h
      · rename_i u v hx hy
        rw [hne, cond_true] at h
        obtain ⟨c, hr, hk⟩ := h
        refine wp_of_value (v := .bool c) ?_ hk (.refl w)
        have hr' := hr w
        rw [← hs.get hx, ← hs.get hy] at hr'
        show (do pure (Next.value (← (do eqGuard op tb x y (a.eval x) (a.eval y); binOp op tb (a.eval x) (a.eval y) : Sem Value))) : Sem Next).run P w = _
        exact run_value hr'
      · exact h.elim
    case lookup tm m k ok =>
      split at h
      · rename_i u v hx hy
        unfold evLookup at h
        split at h
        · split at h
          · cases ok with
            | true =>
              simp only [cond_true] at h
              obtain ⟨kt, et, es, r, hu, hm, hkk, hr⟩ := h
              cases r with
              | some p =>
                refine wp_of_value (v := .tuple #[p.2, .bool true]) ?_ (typ_out hr) (.refl w)
                show (do pure (Next.value (← Instr.lookup tm (a.eval m) (a.eval k) true)) : Sem Next).run P w = _
                rw [hs.get hx, hs.get hy]
                exact run_value (by simpa using run_lookup_some (ok := true) hu hm hkk)
              | none =>
                obtain ⟨z, hz, hr⟩ := hr
                refine wp_of_value (v := .tuple #[z, .bool false]) ?_ (typ_out hr) (.refl w)
                show (do pure (Next.value (← Instr.lookup tm (a.eval m) (a.eval k) true)) : Sem Next).run P w = _
                rw [hs.get hx, hs.get hy]
                exact run_value (by simpa using run_lookup_none (ok := true) hu hm hkk hz)
            | false =>
              simp only [cond_false] at h
              obtain ⟨kt, et, es, r, hu, hm, hkk, hr⟩ := h
              cases r with
              | some p =>
                refine wp_of_value (v := p.2) ?_ (typ_out hr) (.refl w)
                show (do pure (Next.value (← Instr.lookup tm (a.eval m) (a.eval k) false)) : Sem Next).run P w = _
                rw [hs.get hx, hs.get hy]
                exact run_value (by simpa using run_lookup_some (ok := false) hu hm hkk)
              | none =>
                obtain ⟨z, hz, hr⟩ := hr
                refine wp_of_value (v := z) ?_ (typ_out hr) (.refl w)
                show (do pure (Next.value (← Instr.lookup tm (a.eval m) (a.eval k) false)) : Sem Next).run P w = _
                rw [hs.get hx, hs.get hy]
                exact run_value (by simpa using run_lookup_none (ok := false) hu hm hkk hz)
          · exact h.elim
        · exact h.elim
      · exact h.elim
    case mapUpdate tm m k x =>
      split at h
      · rename_i u v r hm hk hx
        obtain ⟨w', hr, hkk, hst⟩ := run_mapUpdate h
        refine wp_of_unit (s := Instr.mapUpdate tm (a.eval m) (a.eval k) (a.eval x)) rfl ?_ hkk hst
        rw [hs.get hm, hs.get hk, hs.get hx]
        exact hr
      · exact h.elim
    case insert tm m k x =>
      split at h
      · rename_i u v r hm hk hx
        obtain ⟨w', hr, hkk, hst⟩ := run_mapUpdate h
        refine wp_of_unit (s := Instr.mapUpdate tm (a.eval m) (a.eval k) (a.eval x)) rfl ?_ hkk hst
        rw [hs.get hm, hs.get hk, hs.get hx]
        exact hr
      · exact h.elim
    case convert s d x =>
      split at h
      · rename_i v hx
        refine wp_of_wpS (s := convert s d (a.eval x)) rfl ?_
        rw [hs.get hx]
        exact wpS_convert h
      · exact h.elim
    case makeMap tm r =>
      split at h
      · refine wp_of_wpS (s := Instr.makeMap tm none) rfl ?_
        exact fun b hb => h b hb
      · exact h.elim
    case makeSlice ts l c =>
      split at h
      · rename_i e kl l' kc c' hu hl hc
        split at h
        · rename_i i hi
          split at h
          · rename_i z hz
            cases hb : Nat.beq z.cells.size i.size with
            | false => simp [hb] at h
            | true =>
              simp only [hb, cond_true] at h
              refine wp_of_wpS (s := Instr.makeSlice ts (a.eval l) (a.eval c)) rfl ?_
              rw [hs.get hl, hs.get hc]
              exact wpS_makeSlice hu hi hz (Nat.eq_of_beq_eq_true hb) h fun _ _ _ _ h => h
          · exact h.elim
        · exact h.elim
      · exact h.elim
    case call c =>
      obtain ⟨callee, args, argTypes⟩ := c
      split at h
      · rename_i vs hvs
        have ea : args.map a.eval = vs.toArray := by rw [← Array.toList_inj]; simpa using hs.all hvs
        simp only at h
        split at h
        · split at h
          · rename_i ty' x hty
            have et : argTypes = #[ty'] := by rw [← Array.toList_inj]; simpa using hty
            subst et
            refine wp_of_wpS (s := Builtin.len_ #[ty'] ty #[x]) ?_ (wpS_len h)
            simp [execOp, resolve, ea, invoke, builtin]
          · exact h.elim
        · simp [isFree] at hf
        · simp [isFree] at hf
        · refine wp_of_wpS (s := Builtin.append_ argTypes ty vs.toArray) ?_ (wpS_appendE h)
          simp [execOp, resolve, ea, invoke, builtin]
        · refine wp_of_wpS (s := Builtin.copy_ argTypes ty vs.toArray) ?_ (wpS_copy h)
          simp [execOp, resolve, ea, invoke, builtin]
        · refine wp_of_wpS (s := Builtin.clear_ argTypes ty vs.toArray) ?_ (wpS_clear h)
          simp [execOp, resolve, ea, invoke, builtin]
        · rename_i g
          refine wp_of_call he (f := g) (args := vs.toArray) ?_ (fun _ _ h => h) h
          simp [execOp, resolve, ea, Act.eval, Deferred.ofValue, invoke]
        · rename_i i
          split at h
          · rename_i f hf'
            exact evCallee_wp argTypes (.tmp i) args he rfl (hs.get (x := .tmp i) hf') ea (fun v h' hv => hv) h
          · exact h.elim
        · exact h.elim
      · exact h.elim
end
end Go.Sh

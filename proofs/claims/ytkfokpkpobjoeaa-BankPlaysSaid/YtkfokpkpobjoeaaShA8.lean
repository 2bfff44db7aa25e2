/- The shallow form, 9: more is asked behind, and slots that are not written stay. -/
import Derived.Test.YtkfokpkpobjoeaaShA7
namespace Go.Sh
open Go.RowKit

section
variable {P : Program} {env : Env} {n : Nat} {ops : Array Oper}

/-! ### More is asked behind: nothing else turns -/
def FnMono (F : W) : Prop := ∀ args (Q Q' : Value → H → Prop) h, (∀ v h', Q v h' → Q' v h') → F args Q h → F args Q' h
def EnvMono (env : Env) : Prop := ∀ f, FnMono (env f)

theorem typ_mono {s : Sh} {v : Value} {K K' : Value → Prop} (hk : ∀ v, K v → K' v) (h : typ s v K) : typ s v K' := by
  cases s <;> simp only [typ] at h ⊢ <;> first | exact hk _ h | (obtain ⟨a, h1, h2⟩ := h; exact ⟨a, h1, hk _ h2⟩) | (obtain ⟨a, b, c, h1, h2⟩ := h; exact ⟨a, b, c, h1, hk _ h2⟩)
theorem evCells_mono {m : H} {a : Addr} {K K' : List Value → Prop} (hk : ∀ v, K v → K' v) : ∀ {l : List Sh} {i : Nat} {acc : List Value}, evCells m a i l acc K → evCells m a i l acc K'
  | [], _, _, h => hk _ h
  | _ :: _, _, _, ⟨v, hv, h⟩ => ⟨v, hv, typ_mono (fun _ h => evCells_mono hk h) h⟩
theorem evLoad_mono {ty : TypeId} {a : Addr} {K K' : Value → Prop} {m : H} (hk : ∀ v, K v → K' v) (h : evLoad P ty a K m) : evLoad P ty a K' m := by
  unfold evLoad at h ⊢
  split at h
  · cases hb : Nat.beq (P.cellsOf ty) 1 with
    | false => simp [hb] at h
    | true => simp only [hb, cond_true] at h ⊢; obtain ⟨v, hv, h⟩ := h; exact ⟨v, hv, typ_mono hk h⟩
  · split at h
    · rename_i i hi
      cases hb : Nat.ble i.size smallAgg with
      | false => simp only [hb, cond_false] at h ⊢; obtain ⟨cs, h1, h2, h3⟩ := h; exact ⟨cs, h1, h2, hk _ h3⟩
      | true =>
        simp only [hb, cond_true] at h ⊢
        split at h
        · rename_i l hl
          cases hb2 : Nat.beq l.length i.size with
          | false => simp [hb2] at h
          | true => simp only [hb2, cond_true] at h ⊢; exact evCells_mono (fun _ => hk _) h
        · exact h.elim
    · exact h.elim
  · exact h.elim
theorem puts_mono {m : H} {a : Addr} {vs : List Value} {K K' : H → Prop} (hk : ∀ h, K h → K' h) (h : M.puts m a vs K) : M.puts m a vs K' := ⟨h.1, h.2.1, hk _ h.2.2⟩
theorem evStore_mono {ty : TypeId} {a : Addr} {v : Value} {K K' : H → Prop} {m : H} (hk : ∀ h, K h → K' h) (h : evStore P ty a v K m) : evStore P ty a v K' m := by
  unfold evStore at h ⊢
  split at h
  · rename_i i hi
    split at h
    · cases hb : Nat.beq i.size 1 with
      | false => simp [hb] at h
      | true => simp only [hb, cond_true] at h ⊢; exact ⟨h.1, h.2.1, h.2.2.1, hk _ h.2.2.2⟩
    · split at h
      · exact ⟨h.1, puts_mono hk h.2⟩
      · exact h.elim
    · exact h.elim
  · exact h.elim
theorem evInt_mono {op : BinOp} {k k' : IntKind} {a b : Int} {K K' : Value → Prop} (hk : ∀ v, K v → K' v) (h : evInt op k a k' b K) : evInt op k a k' b K' := by
  unfold evInt at h ⊢
  split at h
  · exact ⟨h.1, hk _ h.2⟩
  · exact ⟨h.1, hk _ h.2⟩
  · cases hb : kEq k k' with
    | false => simp [hb] at h
    | true =>
      simp only [hb, cond_true] at h ⊢
      split at h <;> first | exact h.elim | exact ⟨h.1, hk _ h.2⟩ | exact hk _ h
theorem evStr_mono {op : BinOp} {a b : ByteArray} {K K' : Value → Prop} (hk : ∀ v, K v → K' v) (h : evStr op a b K) : evStr op a b K' := by
  unfold evStr at h ⊢
  split at h <;> first | exact h.elim | exact hk _ h | exact ⟨h.1, hk _ h.2⟩
theorem evEq_mono {d : Option TypeDesc} {y : Operand} {a b : Value} {K K' : Bool → Prop} (hk : ∀ v, K v → K' v) (h : evEq d y a b K) : evEq d y a b K' := by
  unfold evEq at h ⊢
  repeat' split at h
  all_goals first | exact h.elim | exact hk _ h
theorem evBin_mono {op : BinOp} {ty : TypeId} {y : Operand} {a b : Value} {K K' : Value → Prop} (hk : ∀ v, K v → K' v) (h : evBin P op ty y a b K) : evBin P op ty y a b K' := by
  unfold evBin at h ⊢
  split at h
  · split at h
    · exact evInt_mono hk h
    · exact h.elim
  · split at h
    · exact evStr_mono hk h
    · exact h.elim
  · split at h
    · exact evEq_mono (fun _ => hk _) h
    · exact evEq_mono (fun _ => hk _) h
    · exact h.elim
theorem evConv_mono {s d : TypeId} {x : Value} {K K' : Value → H → Prop} {m : H} (hk : ∀ v h, K v h → K' v h) (h : evConv P s d x K m) : evConv P s d x K' m := by
  unfold evConv at h ⊢
  repeat' split at h
  all_goals first
    | exact h.elim
    | exact hk _ _ h
    | exact ⟨fun e => hk _ _ (h.1 e), fun b e => let ⟨zs, h1, h2, h3⟩ := h.2 b e; ⟨zs, h1, h2, hk _ _ h3⟩⟩
    | exact fun c hc b hb => hk _ _ (h c hc b hb)
theorem evSlice_mono {t : TypeId} {x : Value} {lo hi : Option Value} {K K' : Value → Prop} (hk : ∀ v, K v → K' v) (h : evSlice P t x lo hi K) : evSlice P t x lo hi K' := by
  unfold evSlice at h ⊢
  repeat' split at h
  all_goals first | exact h.elim | exact ⟨h.1, h.2.1, h.2.2.1, hk _ h.2.2.2⟩
theorem evIndexAddr_mono {t : TypeId} {x i : Value} {K K' : Value → Prop} (hk : ∀ v, K v → K' v) (h : evIndexAddr P t x i K) : evIndexAddr P t x i K' := by
  unfold evIndexAddr at h ⊢
  repeat' split at h
  all_goals first | exact h.elim | exact ⟨h.1, h.2.1, hk _ h.2.2⟩ | exact (let ⟨b, h1, h2, h3, h4⟩ := h; ⟨b, h1, h2, h3, hk _ h4⟩)
theorem evParts_mono {cs : Array Value} {K K' : List Value → Prop} (hk : ∀ v, K v → K' v) : ∀ {l : List Sh} {i : Nat} {acc : List Value}, evParts cs i l acc K → evParts cs i l acc K'
  | [], _, _, h => hk _ h
  | _ :: _, _, _, ⟨v, hv, h⟩ => ⟨v, hv, typ_mono (fun _ h => evParts_mono hk h) h⟩
theorem evPart_mono {small : Bool} {t : TypeId} {cs : Array Value} {off : Nat} {K K' : Value → Prop} (hk : ∀ v, K v → K' v) (h : evPart P small t cs off K) : evPart P small t cs off K' := by
  unfold evPart at h ⊢
  split at h
  · cases small with
    | true =>
      simp only [cond_true] at h ⊢
      split at h
      · exact hk _ h
      · exact h.elim
    | false =>
      simp only [cond_false] at h ⊢
      obtain ⟨v, h3, h4⟩ := h
      exact ⟨v, h3, typ_mono hk h4⟩
  · cases small with
    | true => exact hk _ h
    | false =>
      simp only [cond_false] at h ⊢
      cases hb : Nat.ble (P.cellsOf t) smallAgg with
      | true =>
        simp only [hb, cond_true] at h ⊢
        split at h
        · rename_i l hl
          cases hb2 : Nat.beq l.length (P.cellsOf t) with
          | true => simp only [hb2, cond_true] at h ⊢; exact evParts_mono (fun _ => hk _) h
          | false => simp [hb2] at h
        · exact h.elim
      | false =>
        simp only [hb, cond_false] at h ⊢
        exact hk _ h
  · exact h.elim
theorem evIndex_mono {t : TypeId} {x i : Value} {K K' : Value → Prop} (hk : ∀ v, K v → K' v) (h : evIndex P t x i K) : evIndex P t x i K' := by
  unfold evIndex at h ⊢
  repeat' split at h
  all_goals first | exact h.elim | exact ⟨h.1, h.2.1, hk _ h.2.2⟩ | exact ⟨h.1, h.2.1, evPart_mono hk h.2.2⟩
theorem lk_mono {ty : TypeId} {m k : Value} {h : H} {K K' : Value → H → Prop} (hk : ∀ v h, K v h → K' v h) (h0 : M.lk P ty m k h K) : M.lk P ty m k h K' := by
  obtain ⟨kt, et, es, r, hu, hm, hkk, hr⟩ := h0
  refine ⟨kt, et, es, r, hu, hm, hkk, ?_⟩
  cases r with
  | some p => exact hk _ _ hr
  | none => exact (let ⟨z, hz, hr⟩ := hr; ⟨z, hz, hk _ _ hr⟩)
theorem lk2_mono {ty : TypeId} {m k : Value} {h : H} {K K' : Value → Bool → H → Prop} (hk : ∀ v b h, K v b h → K' v b h) (h0 : M.lk2 P ty m k h K) : M.lk2 P ty m k h K' := by
  obtain ⟨kt, et, es, r, hu, hm, hkk, hr⟩ := h0
  refine ⟨kt, et, es, r, hu, hm, hkk, ?_⟩
  cases r with
  | some p => exact hk _ _ _ hr
  | none => exact (let ⟨z, hz, hr⟩ := hr; ⟨z, hz, hk _ _ _ hr⟩)
theorem mput_mono {ty : TypeId} {m k v : Value} {h : H} {K K' : H → Prop} (hk : ∀ h, K h → K' h) (h0 : M.mput P ty m k v h K) : M.mput P ty m k v h K' := by
  obtain ⟨kt, et, b, es, c, r, hu, hm, hb, hkk, hr⟩ := h0
  refine ⟨kt, et, b, es, c, r, hu, hm, hb, hkk, ?_⟩
  cases r with
  | some p => exact ⟨hr.1, hk _ hr.2⟩
  | none => exact hk _ hr
theorem evLookup_mono {ty : TypeId} {m k : Value} {ok : Bool} {K K' : Value → H → Prop} {h0 : H} (hk : ∀ v h, K v h → K' v h) (h : evLookup P ty m k ok K h0) : evLookup P ty m k ok K' h0 := by
  unfold evLookup at h ⊢
  split at h
  · split at h
    · cases ok with
      | true =>
        simp only [cond_true] at h ⊢
        exact lk2_mono (fun _ _ _ => typ_mono (fun _ => hk _ _)) h
      | false =>
        simp only [cond_false] at h ⊢
        exact lk_mono (fun _ _ => typ_mono (fun _ => hk _ _)) h
    · exact h.elim
  · exact h.elim
theorem evField_mono {t : TypeId} {x : Value} {f : Nat} {K K' : Value → Prop} (hk : ∀ v, K v → K' v) (h : evField P t x f K) : evField P t x f K' := by
  unfold evField at h ⊢
  repeat' split at h
  all_goals first | exact h.elim | exact evPart_mono hk h
theorem evFieldAddr_mono {t : TypeId} {x : Value} {f : Nat} {K K' : Value → Prop} (hk : ∀ v, K v → K' v) (h : evFieldAddr P t x f K) : evFieldAddr P t x f K' := by
  unfold evFieldAddr at h ⊢
  split at h
  · split at h
    · rename_i fd hf
      cases hb : Nat.beq (P.cellsOf fd.type) 0 with
      | true => simp [hb] at h
      | false =>
        simp only [hb, cond_false] at h ⊢
        split at h
        · exact hk _ h
        · exact h.elim
    · exact h.elim
  · exact h.elim
theorem evLen_mono {t : TypeId} {x : Value} {K K' : Value → H → Prop} {m : H} (hk : ∀ v h, K v h → K' v h) (h : evLen P t x K m) : evLen P t x K' m := by
  unfold evLen at h ⊢
  repeat' split at h
  all_goals first
    | exact h.elim
    | exact hk _ _ h
    | exact ⟨fun e => hk _ _ (h.1 e), fun b e => let ⟨es, c, h1, h2⟩ := h.2 b e; ⟨es, c, h1, hk _ _ h2⟩⟩
theorem evMinMax_mono {f : Int → Int → Int} {args : List Value} {K K' : Value → Prop} (hk : ∀ v, K v → K' v) (h : evMinMax f args K) : evMinMax f args K' := by
  unfold evMinMax at h ⊢
  repeat' split at h
  all_goals first | exact h.elim | exact hk _ h
theorem cellsOf_mono {m : H} {a : Option Addr} {k : Nat} {K K' : List Value → Prop} (hk : ∀ v, K v → K' v) (h : M.cellsOf m a k K) : M.cellsOf m a k K' :=
  ⟨fun e => hk _ (h.1 e), fun b e => let ⟨cs, h1, h2, h3⟩ := h.2 b e; ⟨cs, h1, h2, hk _ h3⟩⟩
theorem app_mono {m : H} {e : TypeId} {size bytes : Nat} {zero : List Value} {base : Option Addr} {len cap k : Nat} {new : List Value} {K K' : Option Addr → Nat → Nat → H → Prop} (hk : ∀ a l c h, K a l c h → K' a l c h)
    (h : M.app m e size bytes zero base len cap k new K) : M.app m e size bytes zero base len cap k new K' :=
  ⟨fun hl => ⟨fun e => hk _ _ _ _ ((h.1 hl).1 e), fun a e => puts_mono (fun _ => hk _ _ _ _) ((h.1 hl).2 a e)⟩,
   fun hg => ⟨(h.2 hg).1, (h.2 hg).2.1, cellsOf_mono (fun _ ho c hc b hb => hk _ _ _ _ (ho c hc b hb)) (h.2 hg).2.2⟩⟩
theorem evAppend_mono {ts : Array TypeId} {args : List Value} {K K' : Value → H → Prop} {m : H} (hk : ∀ v h, K v h → K' v h) (h : evAppend P ts args K m) : evAppend P ts args K' m := by
  unfold evAppend at h ⊢
  repeat' split at h
  all_goals first
    | exact h.elim
    | exact cellsOf_mono (fun _ => app_mono fun _ _ _ _ => hk _ _) h
    | exact app_mono (fun _ _ _ _ => hk _ _) h
theorem copy_mono {m : H} {dst : Option Addr} {new : List Value} {K K' : H → Prop} (hk : ∀ h, K h → K' h) (h : M.copy m dst new K) : M.copy m dst new K' :=
  ⟨fun e => hk _ (h.1 e), fun a e => puts_mono hk (h.2 a e)⟩
theorem evCopy_mono {ts : Array TypeId} {args : List Value} {K K' : Value → H → Prop} {m : H} (hk : ∀ v h, K v h → K' v h) (h : evCopy P ts args K m) : evCopy P ts args K' m := by
  unfold evCopy at h ⊢
  repeat' split at h
  all_goals first
    | exact h.elim
    | exact cellsOf_mono (fun _ => copy_mono fun _ => hk _ _) h
    | exact copy_mono (fun _ => hk _ _) h
theorem evClear_mono {ts : Array TypeId} {args : List Value} {K K' : Value → H → Prop} {m : H} (hk : ∀ v h, K v h → K' v h) (h : evClear P ts args K m) : evClear P ts args K' m := by
  unfold evClear at h ⊢
  repeat' split at h
  all_goals first
    | exact h.elim
    | exact copy_mono (fun _ => hk _ _) h
theorem evCallee_mono (hm : EnvMono env) {f : Value} {args : List Value} {K K' : Value → H → Prop} {m : H} (hk : ∀ v h, K v h → K' v h) (h : evCallee env f args K m) : evCallee env f args K' m := by
  unfold evCallee at h ⊢
  split at h
  · exact hm _ _ _ _ _ hk h
  · exact h.elim
theorem bif_mono {b : Bool} {A B : Prop} (h : A → B) (ha : bif b then A else False) : bif b then B else False := by
  cases b
  · exact ha
  · exact h ha
set_option maxHeartbeats 1000000 in
theorem evVal_mono (hm : EnvMono env) {op : Op} {rt : TypeId} {t : Tm} {K K' : Option Value → H → Prop} {m : H} (hk : ∀ v h, K v h → K' v h) (h : evVal P env op rt t K m) : evVal P env op rt t K' m := by
  cases op <;> simp only [evVal] at h ⊢ <;> try (exact h.elim)
  case move => split at h <;> exact hk _ _ h
  case assign => split at h <;> exact hk _ _ h
  case pick =>
    split at h
    · rename_i p _
      cases p
      · simp only [cond_false] at h ⊢
        split at h <;> exact hk _ _ h
      · simp only [cond_true] at h ⊢
        split at h <;> exact hk _ _ h
    · exact h.elim
  case alloc => split at h <;> first | exact h.elim | exact fun b hb => hk _ _ (h b hb)
  case box => split at h <;> first | exact h.elim | exact fun b hb => hk _ _ (h b hb)
  case build => (repeat' split at h) <;> first | exact h.elim | exact hk _ _ h
  case buildSlice =>
    split at h
    · split at h
      · split at h
        · split at h
          · exact bif_mono (fun h b hb => hk _ _ (h b hb)) h
          · exact h.elim
        · exact h.elim
      · exact h.elim
    · exact h.elim
  case load => split at h <;> first | exact h.elim | exact evLoad_mono (fun _ => hk _ _) h
  case store => split at h <;> first | exact h.elim | exact evStore_mono (fun _ => hk _ _) h
  case nilCheck => split at h <;> first | exact h.elim | exact (let ⟨a, e, h1⟩ := h; ⟨a, e, hk _ _ h1⟩)
  case binOp op ty x y _ =>
    split at h
    · cases hb : isAggEq P op ty with
      | true =>
        simp only [hb, cond_true] at h ⊢
        exact (let ⟨c, e, hr⟩ := h; ⟨c, e, hk _ _ hr⟩)
      | false =>
        simp only [hb, cond_false] at h ⊢
        exact evBin_mono (fun _ => hk _ _) h
    · exact h.elim
  case lookup => split at h <;> first | exact h.elim | exact evLookup_mono (fun _ => hk _) h
  case mapUpdate => split at h <;> first | exact h.elim | exact mput_mono (fun _ => hk _ _) h
  case insert => split at h <;> first | exact h.elim | exact mput_mono (fun _ => hk _ _) h
  case unOp => split at h <;> first | exact h.elim | exact hk _ _ h
  case convert => split at h <;> first | exact h.elim | exact evConv_mono (fun _ => hk _) h
  case makeInterface => split at h <;> first | exact h.elim | exact hk _ _ h
  case makeFunc => split at h <;> first | exact h.elim | exact hk _ _ h
  case makeMap => split at h <;> first | exact h.elim | exact fun b hb => hk _ _ (h b hb)
  case makeSlice =>
    split at h
    · split at h
      · split at h
        · exact bif_mono (fun h => ⟨h.1, h.2.1, h.2.2.1, h.2.2.2.1, fun b hb => hk _ _ (h.2.2.2.2 b hb)⟩) h
        · exact h.elim
      · exact h.elim
    · exact h.elim
  case slice ts x lo hi mx =>
    cases mx with
    | some _ => exact h.elim
    | none =>
      simp only at h ⊢
      split at h
      · exact evSlice_mono (fun _ => hk _ _) h
      · exact h.elim
  case fieldAddr => split at h <;> first | exact h.elim | exact evFieldAddr_mono (fun _ => hk _ _) h
  case field => split at h <;> first | exact h.elim | exact evField_mono (fun _ => hk _ _) h
  case indexAddr => split at h <;> first | exact h.elim | exact evIndexAddr_mono (fun _ => hk _ _) h
  case index => split at h <;> first | exact h.elim | exact evIndex_mono (fun _ => hk _ _) h
  case extract => (repeat' split at h) <;> first | exact h.elim | exact hk _ _ h
  case call c =>
    split at h
    · rename_i args hargs
      split at h
      · split at h
        · exact evLen_mono (fun _ => hk _) h
        · exact h.elim
      · exact evMinMax_mono (fun _ => hk _ _) h
      · exact evMinMax_mono (fun _ => hk _ _) h
      · exact evAppend_mono (fun _ => hk _) h
      · exact evCopy_mono (fun _ => hk _) h
      · exact evClear_mono (fun _ => hk _) h
      · exact hm _ _ _ _ _ (fun _ => hk _) h
      · split at h
        · unfold evCallV at h ⊢
          exact evCallee_mono hm (fun v h' hv => hk _ _ hv) h
        · exact h.elim
      · exact h.elim
    · exact h.elim

/-- Outside the slots 'ws' nothing turns. -/
def Agree (ws : List Nat) (t t' : Tm) : Prop := ∀ i, memN i ws = false → t' i = t i
theorem Agree.refl (ws : List Nat) (t : Tm) : Agree ws t t := fun _ _ => rfl
theorem Agree.trans {ws : List Nat} {a b c : Tm} (h : Agree ws a b) (k : Agree ws b c) : Agree ws a c := fun i hi => (k i hi).trans (h i hi)
theorem memN_cons {i j : Nat} {r : List Nat} : memN i (j :: r) = (Nat.beq j i || memN i r) := by
  show (bif Nat.beq j i then true else memN i r) = _
  cases Nat.beq j i <;> rfl
theorem memN_append {i : Nat} : ∀ {a b : List Nat}, memN i (a ++ b) = (memN i a || memN i b)
  | [], b => by simp [memN]
  | x :: a, b => by rw [List.cons_append, memN_cons, memN_cons, memN_append, Bool.or_assoc]
theorem Agree.left {a b : List Nat} {t t' : Tm} (h : Agree a t t') : Agree (a ++ b) t t' := fun i hi => h i (by rw [memN_append, Bool.or_eq_false_iff] at hi; exact hi.1)
theorem Agree.right {a b : List Nat} {t t' : Tm} (h : Agree b t t') : Agree (a ++ b) t t' := fun i hi => h i (by rw [memN_append, Bool.or_eq_false_iff] at hi; exact hi.2)
theorem Agree.put {ws : List Nat} {t t' : Tm} {d : Nat} {v : Option Value} (hd : memN d ws = true) (h : Agree ws t t') : Agree ws t (t'.put (some d) v) := fun i hi => by
  have : ¬ i = d := fun e => by rw [e, hd] at hi; exact absurd hi (by simp)
  simp only [Tm.put, beq_no this, cond_false]
  exact h i hi
/-- Where a guard's slot is known anew it is what it was. -/
theorem Agree.again {ws : List Nat} {t t' : Tm} {d : Nat} {v : Value} (hd : t d = some v) (h : Agree ws (t.put (some d) (some v)) t') : Agree ws t t' := fun i hi => by
  rw [h i hi]
  simp only [Tm.put]
  by_cases e : i = d
  · subst e; simp [hd]
  · rw [beq_no e]; rfl
def dstIn (ws : List Nat) (o : Oper) : Prop := ∀ d, o.dst = some d → memN d ws = true
theorem beq_yes {d : Nat} : Nat.beq d d = true := by simp
theorem opDsts_cons (p : Oper) (r : List Oper) : opDsts (p :: r) = (match p.dst with | some d => d :: opDsts r | none => opDsts r) := rfl
theorem opDsts_mem {l : List Oper} {o : Oper} (h : o ∈ l) : dstIn (opDsts l) o := by
  intro d hd
  induction l with
  | nil => simp at h
  | cons p r ih =>
    rw [opDsts_cons]
    rcases List.mem_cons.1 h with e | h
    · rw [← e, hd]
      simp only
      rw [memN_cons, beq_yes, Bool.true_or]
    · have := ih h
      cases p.dst with
      | none => exact this
      | some x =>
        simp only
        rw [memN_cons, this, Bool.or_true]
theorem evPut_mono {o : Oper} {ws : List Nat} {t0 t : Tm} {K K' : Tm → H → Prop} (hd : dstIn ws o) (ha : Agree ws t0 t) (hk : ∀ t' h, Agree ws t0 t' → K t' h → K' t' h) {v : Option Value} {m : H} (h : evPut n o t K v m) : evPut n o t K' v m := by
  unfold evPut at h ⊢
  split at h
  · exact hk _ _ ha h
  · rename_i d hdd
    exact bif_mono (hk _ _ (ha.put (hd d hdd))) h
theorem evOper_mono (hm : EnvMono env) {o : Oper} {ws : List Nat} {t : Tm} {K K' : Tm → H → Prop} (hd : dstIn ws o) (hk : ∀ t' h, Agree ws t t' → K t' h → K' t' h) {m : H} (h : evOper P env n ops o t K m) : evOper P env n ops o t K' m := by
  unfold evOper at h ⊢
  split at h
  · exact evVal_mono hm (fun _ _ => evPut_mono hd (.refl _ _) hk) h
  · exact evPut_mono hd (.refl _ _) hk h
  · rename_i d b want hg
    have hb : t d = some (.bool b) := by
      unfold guardOf at hg
      split at hg
      · simp at hg
      · split at hg
        · split at hg
          · rename_i b' hb
            simp only [Go1.ask.injEq] at hg
            obtain ⟨rfl, rfl, _⟩ := hg
            exact hb
          · simp at hg
          · simp at hg
        · simp at hg
    have hk2 : ∀ t' h, Agree ws (t.put (some d) (some (.bool b))) t' → K t' h → K' t' h := fun t' h ha => hk t' h (ha.again hb)
    cases b <;> cases want <;> simp only [cond_true, cond_false] at h ⊢
    · exact evVal_mono hm (fun _ _ => evPut_mono hd (.refl _ _) hk2) h
    · exact evPut_mono hd (.refl _ _) hk2 h
    · exact evPut_mono hd (.refl _ _) hk2 h
    · exact evVal_mono hm (fun _ _ => evPut_mono hd (.refl _ _) hk2) h
  · exact h.elim
theorem evList_mono (hm : EnvMono env) {ws : List Nat} {K K' : Tm → H → Prop} : ∀ {l : List Oper} {t : Tm} {m : H}, (∀ o ∈ l, dstIn ws o) → (∀ t' h, Agree ws t t' → K t' h → K' t' h) → evList P env n ops l t K m → evList P env n ops l t K' m
  | [], t, m, _, hk, h => hk _ _ (.refl _ _) h
  | o :: r, t, m, hd, hk, h => evOper_mono hm (hd o (by simp)) (fun t' h' ha hh => evList_mono hm (fun o ho => hd o (by simp [ho])) (fun t2 h2 ha2 => hk t2 h2 (ha.trans ha2)) hh) h
theorem heldOk_mono {bs : List Nat} {j : Nat} {h' : H} {K K' : Prop} (hk : K → K') : ∀ {L : List Held}, heldOk bs j h' K L → heldOk bs j h' K' L
  | [], h => hk h
  | x :: r, h => by
    have h1 : (bif Nat.testBit (bs.getD j 0) x.op then heldOk bs j h' K r else M.still x.mem x.addr x.cells h' (heldOk bs j h' K r)) := h
    show (bif Nat.testBit (bs.getD j 0) x.op then heldOk bs j h' K' r else M.still x.mem x.addr x.cells h' (heldOk bs j h' K' r))
    cases hb : Nat.testBit (bs.getD j 0) x.op with
    | true => rw [hb] at h1; exact heldOk_mono hk h1
    | false => rw [hb] at h1; exact ⟨h1.1, heldOk_mono hk h1.2⟩
theorem allP_map_mono {α : Type} {f g : α → Prop} : ∀ {l : List α}, (∀ a ∈ l, f a → g a) → allP (l.map f) → allP (l.map g)
  | [], _, h => h
  | [a], hk, h => hk a (by simp) h
  | a :: b :: r, hk, h => ⟨hk a (by simp) h.1, allP_map_mono (l := b :: r) (fun x hx => hk x (by simp at hx ⊢; exact .inr hx)) h.2⟩
theorem evAny_mono (hm : EnvMono env) {ws bs : List Nat} {K K' : Tm → H → Prop} (hd : ∀ o ∈ ops.toList, dstIn ws o) : ∀ {f : Nat} {listed : Array Bool} {L : List Held} {t : Tm} {m : H},
    (∀ t' h, Agree ws t t' → K t' h → K' t' h) → evAny P env n ops bs f listed L t K m → evAny P env n ops bs f listed L t K' m
  | 0, listed, L, t, m, hk, h => by
    unfold evAny at h ⊢
    split at h
    · exact hk _ _ (.refl _ _) h
    · exact h.elim
  | f + 1, listed, L, t, m, hk, h => by
    unfold evAny at h ⊢
    split at h
    · exact hk _ _ (.refl _ _) h
    · split at h
      · split at h
        · rename_i o ho
          exact evOper_mono hm (hd o (List.mem_of_getElem? ho)) (fun t' h' ha hh => evAny_mono hm hd (fun t2 h2 ha2 => hk t2 h2 (ha.trans ha2)) hh) h
        · exact h.elim
      · refine allP_map_mono (fun i _ h => ?_) h
        split at h
        · rename_i o ho
          exact evOper_mono hm (hd o (List.mem_of_getElem? ho)) (fun t' h' ha hh => heldOk_mono (evAny_mono hm hd (fun t2 h2 ha2 => hk t2 h2 (ha.trans ha2))) hh) h
        · exact h.elim
theorem evReg_mono (hm : EnvMono env) {draw : Bool} {t : Tm} {K K' : Tm → H → Prop} {m : H} (hk : ∀ t' h, Agree (opDsts ops.toList) t t' → K t' h → K' t' h) (h : evReg P env n ops draw t K m) : evReg P env n ops draw t K' m := by
  unfold evReg at h ⊢
  cases draw
  · exact evList_mono hm (fun o ho => opDsts_mem ho) hk h
  · exact bif_mono (evAny_mono hm (fun o ho => opDsts_mem ho) hk) h
end
end Go.Sh

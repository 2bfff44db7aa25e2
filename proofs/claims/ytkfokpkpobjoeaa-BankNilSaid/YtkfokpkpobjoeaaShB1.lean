/- A law that answers true and leaves all that was there as it was has its row. -/
import Derived.Test.YtkfokpkpobjoeaaShB0
namespace Go.Sh
open Go.RowKit Go.ChangeShapes Go.WideShapes Go.ChangeAt

theorem args_stay {H : Type} {enc : TypeId × Value → H} {P : Program} (hl : laidOutB P = true) {W W' : World} (hb : Below W.heap.size W W') : ∀ {ts : List TypeId} {vs : List Value} {ds : List (DataW H)} {ps : List MemPlace},
    (∀ t ∈ ts, P.readableRec t = true ∧ t < P.types.size) → (∀ p ∈ ps, p.block < W.heap.size) → DataW.TrodAll enc P W 0 (fun _ => true) true ts vs ds ps →
    ∀ sp : Nat → Bool, (∀ p ∈ ps, sp p.block = true) → DataW.TrodAll enc P W' 0 sp true ts vs ds ps
  | [], _, _, _, _, _, h, sp, _ => by
    obtain ⟨rfl, rfl, rfl⟩ := trodAll_nil h
    exact rfl
  | t :: ts, _, _, _, ht, hp, h, sp, hs => by
    obtain ⟨v, vs1, d, ds1, a, b, rfl, rfl, rfl, h1, h2⟩ := trodAll_cons h
    refine ⟨a, b, WideElems.Trod_stays hl (ht t (by simp)).1 (ht t (by simp)).2 h1 (fun p hpa => hb.same (hp p (by simp [hpa]))) (fun p hpa => hs p (by simp [hpa])), ?_, rfl⟩
    exact args_stay hl hb (fun u hu => ht u (by simp [hu])) (fun p hpb => hp p (by simp [hpb])) h2 sp (fun p hpb => hs p (by simp [hpb]))
/-- What a law's row asks behind the call: true, and all that was there is as it was. -/
theorem post_true {H : Type} {enc : TypeId × Value → H} {P : Program} {f : Func} {s : ChangeSpec} {apart fresh handsOn again : Bool} {W W' : World} {args : Array Value} {ds gs : List (DataW H)} {before : List MemPlace} {tb : TypeId}
    (hl : laidOutB P = true) (hts : ∀ t ∈ f.params.toList, P.readableRec t = true ∧ t < P.types.size) (hv : s.vars = []) (hr : (s.fn H ds).results = [.lit (.bool true)]) (ha : (s.fn H ds).args = ds) (hs : (s.fn H ds).vars = [])
    (hrt : f.resultTypes = #[tb]) (htb : P.underlying tb = some .bool) (hW : DataW.Whole enc P f.params.toList s.vars apart W args.toList ds gs before) (hb : Below W.heap.size W W') :
    s.post enc P f apart fresh handsOn again W args (.bool true) W' := by
  have hW' := hW
  obtain ⟨p, q, hA, hV, rfl, hfz, hnd⟩ := hW
  rw [hv] at hV
  obtain ⟨rfl, rfl⟩ := trodVars_none hV
  simp only [List.append_nil] at hW' ⊢
  have hlt : ∀ x ∈ p, x.block < W.heap.size := fun x hx => by simpa using hW'.lt x hx
  have hold : ∀ x ∈ p, (fun b => decide (b < W.heap.size)) x.block = true := fun x hx => by simpa using hlt x hx
  have hres : ∀ (b : Nat) (sp : Nat → Bool) (hd : Bool), DataW.TrodAll enc P W' b sp hd f.resultTypes.toList ((Value.bool true).resultList f.resultTypes.size) (s.fn H (ds ++ [])).results [] := fun b sp hd => by
    rw [List.append_nil, hr, hrt]
    exact trodAll_mk1 (shut_bool htb true)
  have hargs : ∀ sp : Nat → Bool, (∀ x ∈ p, sp x.block = true) → DataW.TrodAll enc P W' 0 sp true f.params.toList args.toList (s.fn H (ds ++ [])).args p := fun sp hsp => by
    rw [List.append_nil, ha]; exact args_stay hl hb hts hlt hA sp hsp
  have hvars : ∀ sp : Nat → Bool, DataW.TrodVars enc P W' sp s.vars (s.fn H (ds ++ [])).vars [] := fun sp => by
    rw [List.append_nil, hs, hv]; exact rfl
  refine ⟨ds, [], p, [], p, [], hW', hres _ _ _, hargs _ hold, hvars _, hb.frame _, fun _ => ?_⟩
  refine ⟨ok_one hrt rfl (okWide_bool_mk htb true), (s.fn H (ds ++ [])).results ++ (s.fn H (ds ++ [])).args, _, p, ⟨p, [], ?_, hvars (fun _ => true), by simp, ?_, ?_⟩, fun x hx _ => hx⟩
  · have := trodAll_append (hargs (fun _ => true) (fun _ _ => rfl)) (hres 0 (fun _ => true) true)
    rwa [List.nil_append] at this
  · intro b off hp
    rw [hb.frozen (hlt _ hp)]
    exact hfz b off (by simpa using hp)
  · intro hap
    simpa using hnd hap

/-! ### Parts of an argument -/
theorem In_int {P : Program} {h : H} {f : Nat} {t : TypeId} {k : IntKind} {cs : List Value} (ht : P.underlying t = some (.int k)) (hi : In P h f t cs) : ∃ n, cs = [.int k n] ∧ (Lit.int k n).wf = true := by
  cases f with
  | zero => exact hi.elim
  | succ f => unfold In at hi; rw [ht] at hi; exact hi
theorem In_bool {P : Program} {h : H} {f : Nat} {t : TypeId} {cs : List Value} (ht : P.underlying t = some .bool) (hi : In P h f t cs) : ∃ b, cs = [.bool b] := by
  cases f with
  | zero => exact hi.elim
  | succ f => unfold In at hi; rw [ht] at hi; exact hi
theorem In_str {P : Program} {h : H} {f : Nat} {t : TypeId} {cs : List Value} (ht : P.underlying t = some .string) (hi : In P h f t cs) : ∃ s : ByteArray, cs = [.string s] ∧ s.size ≤ maxLen := by
  cases f with
  | zero => exact hi.elim
  | succ f => unfold In at hi; rw [ht] at hi; exact hi
theorem In_slice {P : Program} {h : H} {f : Nat} {t e : TypeId} {cs : List Value} (ht : P.underlying t = some (.slice e)) (hi : In P h f t cs) :
    ∃ f' a l c, cs = [Value.slice a l c] ∧ l ≤ c ∧ c ≤ maxLen ∧ (a = none → l = 0 ∧ c = 0) ∧ ∀ b, a = some b → ∀ i, i < l → ∃ r : List Value, r.length = P.cellsOf e ∧ rowAt h (b.add (i * P.cellsOf e)) r ∧ In P h f' e r := by
  cases f with
  | zero => exact hi.elim
  | succ f => unfold In at hi; rw [ht] at hi; exact ⟨f, hi⟩
theorem In_struct {P : Program} {h : H} {f : Nat} {t : TypeId} {fs : Array Field} {cs : List Value} (ht : P.underlying t = some (.struct fs)) (hi : In P h f t cs) :
    ∃ f', cs.length = P.cellsOf t ∧ ∀ fd ∈ fs.toList, In P h f' fd.type ((cs.drop fd.offset).take (P.cellsOf fd.type)) := by
  cases f with
  | zero => exact hi.elim
  | succ f => unfold In at hi; rw [ht] at hi; exact ⟨f, hi⟩
theorem In_array {P : Program} {h : H} {f : Nat} {t e : TypeId} {n : Nat} {cs : List Value} (ht : P.underlying t = some (.array n e)) (hi : In P h f t cs) :
    ∃ f', cs.length = P.cellsOf t ∧ ∀ i, i < n → In P h f' e ((cs.drop (i * P.cellsOf e)).take (P.cellsOf e)) := by
  cases f with
  | zero => exact hi.elim
  | succ f => unfold In at hi; rw [ht] at hi; exact ⟨f, hi⟩
theorem drop_take (cs : List Value) (a k b : Nat) (e : a + k = b) : cs.drop a = (cs.drop a).take k ++ cs.drop b := by
  conv => lhs; rw [← List.take_append_drop k (cs.drop a)]
  rw [List.drop_drop, e]
theorem one_at {cs : List Value} {a : Nat} {v : Value} (h : (cs.drop a).take 1 = [v]) : cs[a]? = some v := by
  have : ((cs.drop a).take 1)[0]? = some v := by rw [h]; rfl
  simpa using this
theorem In_bytes {P : Program} {h : H} {f : Nat} {t e : TypeId} {n : Nat} {cs : List Value} (ht : P.underlying t = some (.array n e)) (he : P.underlying e = some (.int .u8)) (h1 : P.cellsOf e = 1) (hn : P.cellsOf t = n) (hi : In P h f t cs) :
    ∃ zs : List Int, zs.length = n ∧ cs = zs.map (Value.int .u8) ∧ ∀ z ∈ zs, 0 ≤ z ∧ z < 256 := by
  obtain ⟨f', hl, hi⟩ := In_array ht hi
  rw [hn] at hl
  have key : ∀ i, i < n → ∃ z, cs[i]? = some (Value.int .u8 z) ∧ 0 ≤ z ∧ z < 256 := by
    intro i hin
    obtain ⟨z, hz, hw⟩ := In_int he (hi i hin)
    rw [h1, Nat.mul_one] at hz
    simp [Lit.wf, IntKind.min, IntKind.max, IntKind.signed, IntKind.bits] at hw
    exact ⟨z, one_at hz, by omega, by omega⟩
  refine ⟨cs.map fun v => match v with | .int _ z => z | _ => 0, by simpa using hl, ?_, ?_⟩
  · apply List.ext_getElem?
    intro i
    by_cases hin : i < n
    · obtain ⟨z, hz, _⟩ := key i hin
      simp [hz]
    · rw [List.getElem?_eq_none (by omega), List.getElem?_eq_none (by simp; omega)]
  · intro z hz
    obtain ⟨i, hi2⟩ := List.mem_iff_getElem?.1 hz
    by_cases hin : i < n
    · obtain ⟨z', hz', hr⟩ := key i hin
      rw [List.getElem?_map, hz'] at hi2
      simp only [Option.map_some, Option.some.injEq] at hi2
      subst hi2; exact hr
    · rw [List.getElem?_eq_none (by simp; omega)] at hi2; simp at hi2
/-- A value of an aggregate's type. -/
theorem okWide_agg {P : Program} {w : World} {base : Nat} {t : TypeId} {v : Value} (ha : lkOf (P.underlying t) = .agg) (h : Value.okWide P w .any base t v) : ∃ cs, v = .agg cs := by
  rcases lkOf_agg ha with ⟨fs, hu⟩ | ⟨n, e, hu⟩
  · unfold Value.okWide at h
    rw [hu] at h
    cases v <;> simp_all
  · unfold Value.okWide at h
    rw [hu] at h
    cases v <;> simp_all
end Go.Sh

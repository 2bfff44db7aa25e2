/- Reasoning over the shallow form, 4: maps. -/
import Derived.Test.YtkfokpkpobjoeaaShB3
namespace Go.Sh
open Go.RowKit Classical

/-- Keys of one kind: told apart as values. -/
structure Keys (P : Program) (kt : TypeId) (ok : Value → Prop) : Prop where
  eq : ∀ a b, ok a → ok b → ∀ w, (Op.equal kt a b).run P w = .ok (decide (a = b)) w
  now : ∀ a b d, ok a → ok b → P.underlying kt = some d → Instr.sameNow d a b = none ∨ Instr.sameNow d a b = some (decide (a = b))
  chk : ∀ a, ok a → ∀ e w, (Instr.checkKey e 10000 kt a).run P w = .ok () w
  same : ∀ a, ok a → Instr.sameBits 10000 a a = true
  und : ∃ d, P.underlying kt = some d
noncomputable def findE (k : Value) : List MapEntry → Nat → Option (Nat × Value)
  | [], _ => none
  | e :: r, i => if k = e.key then some (i, e.val) else findE k r (i + 1)
section
variable {P : Program} {kt : TypeId} {ok : Value → Prop}
theorem Keys.asking (hK : Keys P kt ok) {k : Value} (hk : ok k) : ∀ (l : List MapEntry) (i : Nat), (∀ e ∈ l, ok e.key) → ∀ w, (Instr.findAsking kt k l i).run P w = .ok (findE k l i) w
  | [], i, _, w => rfl
  | e :: r, i, h, w => by
    unfold Instr.findAsking findE
    rw [Sem.run_bind, hK.eq k e.key hk (h e (by simp)), Result.andThen_ok]
    by_cases he : k = e.key
    · simp [he]
    · simp only [he, decide_false, Bool.false_eq_true, if_false]
      exact hK.asking hk r (i + 1) (fun e he => h e (by simp [he])) w
theorem Keys.nows (hK : Keys P kt ok) {k : Value} (hk : ok k) {d : TypeDesc} (hd : P.underlying kt = some d) : ∀ (l : List MapEntry) (i : Nat), (∀ e ∈ l, ok e.key) → Instr.findNow d k l i = none ∨ Instr.findNow d k l i = some (findE k l i)
  | [], i, _ => .inr rfl
  | e :: r, i, h => by
    unfold Instr.findNow findE
    rcases hK.now k e.key d hk (h e (by simp)) hd with hn | hn
    · rw [hn]; exact .inl rfl
    · rw [hn]
      by_cases he : k = e.key
      · simp [he]
      · simp only [he, decide_false, if_false]
        exact hK.nows hk hd r (i + 1) fun e he => h e (by simp [he])
theorem Keys.at (hK : Keys P kt ok) {k : Value} (hk : ok k) {es : Array MapEntry} (h : ∀ e ∈ es.toList, ok e.key) : KeyAt P kt es k (findE k es.toList 0) := by
  refine ⟨hK.chk k hk, fun w => ?_⟩
  obtain ⟨d, hd⟩ := hK.und
  unfold Instr.findKey
  rw [Sem.run_bind, run_underlying hd, Result.andThen_ok]
  rcases hK.nows hk hd es.toList 0 h with hn | hn
  · rw [hn]; exact hK.asking hk es.toList 0 h w
  · rw [hn]; rfl
/-- A map in memory: what it says of each key, how many entries. -/
def MapIs (ok : Value → Prop) (h : H) (b : Nat) (f : Value → Option Value) (n : Nat) : Prop :=
  ∃ es c, h b = some (.map es c) ∧ (∀ e ∈ es.toList, ok e.key) ∧ es.size = n ∧ ∀ k i, (findE k es.toList i).map (·.2) = f k
theorem MapIs.keep {h h' : H} {b : Nat} {f : Value → Option Value} {n : Nat} (m : MapIs ok h b f n) (k : Keep h h') : MapIs ok h' b f n :=
  let ⟨es, c, hb, r⟩ := m; ⟨es, c, k _ _ hb, r⟩
theorem MapIs.new {h : H} {b c : Nat} (hb : h b = some (.map #[] c)) : MapIs ok h b (fun _ => none) 0 := ⟨#[], c, hb, by simp, rfl, fun _ _ => rfl⟩
theorem findE_some {k : Value} : ∀ {l : List MapEntry} {i j : Nat} {v : Value}, findE k l i = some (j, v) → ∃ e, i ≤ j ∧ l[j - i]? = some e ∧ e.key = k ∧ e.val = v
  | [], _, _, _, h => by simp [findE] at h
  | e :: r, i, j, v, h => by
    unfold findE at h
    split at h
    · rename_i he
      simp only [Option.some.injEq, Prod.mk.injEq] at h
      obtain ⟨rfl, rfl⟩ := h
      exact ⟨e, Nat.le_refl _, by simp, he.symm, rfl⟩
    · obtain ⟨e', h1, h2, h3, h4⟩ := findE_some h
      refine ⟨e', by omega, ?_, h3, h4⟩
      rw [show j - i = (j - (i + 1)) + 1 by omega, List.getElem?_cons_succ]; exact h2
theorem findE_append {k : Value} {e : MapEntry} : ∀ {l : List MapEntry} {i : Nat}, (findE k (l ++ [e]) i).map (·.2) = match (findE k l i).map (·.2) with | some v => some v | none => if k = e.key then some e.val else none
  | [], i => by simp only [List.nil_append, findE]; split <;> simp
  | a :: r, i => by
    simp only [List.cons_append, findE]
    by_cases h : k = a.key
    · simp [h]
    · simp only [h, if_false]; exact findE_append
theorem findE_modify {k x v : Value} : ∀ {l : List MapEntry} {i j m : Nat} {u : Value}, findE k l i = some (j, u) → (findE x (l.modify (j - i) fun e => { e with key := k, val := v }) m).map (·.2) = if x = k then some v else (findE x l m).map (·.2)
  | [], _, _, _, _, h => by simp [findE] at h
  | e :: r, i, j, m, u, h => by
    unfold findE at h
    split at h
    · rename_i he
      simp only [Option.some.injEq, Prod.mk.injEq] at h
      obtain ⟨rfl, rfl⟩ := h
      simp only [Nat.sub_self, List.modify_zero_cons, findE]
      by_cases hx : x = k
      · simp [hx]
      · rw [if_neg hx, if_neg hx, if_neg (fun hh => hx (hh.trans he.symm))]
    · rename_i he
      obtain ⟨_, h1, _⟩ := findE_some h
      rw [show j - i = (j - (i + 1)) + 1 by omega, List.modify_succ_cons]
      simp only [findE]
      by_cases hx : x = e.key
      · rw [if_pos hx, if_pos hx, if_neg (fun hh => he (hh.symm.trans hx))]
      · rw [if_neg hx, if_neg hx]; exact findE_modify h
theorem lk_of {ty et : TypeId} {h : H} {b : Nat} {f : Value → Option Value} {n : Nat} {k z : Value} {K : Value → H → Prop} (hu : P.underlying ty = some (.map kt et)) (hK : Keys P kt ok) (hz : ∀ w, (zeroValue et).run P w = .ok z w)
    (m : MapIs ok h b f n) (hk : ok k) (kk : K ((f k).getD z) h) : M.lk P ty (.map (some b)) k h K := by
  obtain ⟨es, c, hb, hok, hn, hf⟩ := m
  refine ⟨kt, et, es, _, hu, .inr ⟨b, c, rfl, hb⟩, hK.at hk hok, ?_⟩
  have := hf k 0
  cases hfe : findE k es.toList 0 with
  | some p =>
    rw [hfe] at this
    simp only [Option.map_some] at this
    rw [← this] at kk
    exact kk
  | none =>
    rw [hfe] at this
    simp only [Option.map_none] at this
    rw [← this] at kk
    exact ⟨z, hz, kk⟩
theorem lk2_of {ty et : TypeId} {h : H} {b : Nat} {f : Value → Option Value} {n : Nat} {k z : Value} {K : Value → Bool → H → Prop} (hu : P.underlying ty = some (.map kt et)) (hK : Keys P kt ok) (hz : ∀ w, (zeroValue et).run P w = .ok z w)
    (m : MapIs ok h b f n) (hk : ok k) (kk : K ((f k).getD z) (f k).isSome h) : M.lk2 P ty (.map (some b)) k h K := by
  obtain ⟨es, c, hb, hok, hn, hf⟩ := m
  refine ⟨kt, et, es, _, hu, .inr ⟨b, c, rfl, hb⟩, hK.at hk hok, ?_⟩
  have := hf k 0
  cases hfe : findE k es.toList 0 with
  | some p =>
    rw [hfe] at this
    simp only [Option.map_some] at this
    rw [← this] at kk
    exact kk
  | none =>
    rw [hfe] at this
    simp only [Option.map_none] at this
    rw [← this] at kk
    exact ⟨z, hz, kk⟩
theorem mput_of {ty et : TypeId} {h : H} {b : Nat} {f : Value → Option Value} {n : Nat} {k v : Value} {K : H → Prop} (hu : P.underlying ty = some (.map kt et)) (hK : Keys P kt ok)
    (m : MapIs ok h b f n) (hk : ok k) (kk : ∀ h', But b h h' → MapIs ok h' b (fun x => if x = k then some v else f x) (if (f k).isSome then n else n + 1) → K h') : M.mput P ty (.map (some b)) k v h K := by
  obtain ⟨es, c, hb, hok, hn, hf⟩ := m
  refine ⟨kt, et, b, es, c, _, hu, rfl, hb, hK.at hk hok, ?_⟩
  have h0 := hf k 0
  cases hfe : findE k es.toList 0 with
  | some p =>
    obtain ⟨i, u⟩ := p
    rw [hfe] at h0
    simp only [Option.map_some] at h0
    obtain ⟨e, _, he, hek, _⟩ := findE_some hfe
    rw [Nat.sub_zero] at he
    refine ⟨?_, kk _ (but_upd _ _ _) ⟨_, c, H.upd_self _ _ _, ?_, ?_, fun x j => ?_⟩⟩
    · have : es[i]? = some e := by simpa using he
      rw [this]
      simp only [Option.map_some, Option.getD_some, hek]
      exact hK.same k hk
    · intro e' he'
      rw [Array.toList_modify] at he'
      rcases List.mem_iff_getElem?.1 he' with ⟨j, hj⟩
      rw [List.getElem?_modify] at hj
      by_cases hij : i = j
      · subst hij
        rw [he] at hj
        simp only [if_true, Option.map_eq_map, Option.map_some, Option.some.injEq] at hj
        subst hj; exact hk
      · simp only [hij, if_false] at hj
        cases hg : es.toList[j]? with
        | none => rw [hg] at hj; simp at hj
        | some a =>
          rw [hg] at hj
          simp only [Option.map_eq_map, Option.map_some, Option.some.injEq] at hj
          have : a = e' := hj
          rw [← this]; exact hok _ (List.mem_of_getElem? hg)
    · rw [Array.size_modify, ← h0]; simpa using hn
    · have := findE_modify (x := x) (v := v) (m := j) hfe
      rw [Nat.sub_zero] at this
      rw [Array.toList_modify, this, hf]
  | none =>
    rw [hfe] at h0
    simp only [Option.map_none] at h0
    refine kk _ (but_upd _ _ _) ⟨_, c + 1, H.upd_self _ _ _, ?_, ?_, fun x j => ?_⟩
    · intro e' he'
      rw [Array.toList_push, List.mem_append] at he'
      rcases he' with he' | he'
      · exact hok _ he'
      · simp only [List.mem_singleton] at he'
        subst he'; exact hk
    · rw [Array.size_push, hn, ← h0]; rfl
    · rw [Array.toList_push, findE_append, hf]
      by_cases hx : x = k
      · subst hx; rw [← h0]; simp
      · simp only [hx, if_false]
        cases f x <;> rfl
theorem mlen_of {h : H} {b : Nat} {f : Value → Option Value} {n : Nat} {K : Int → Prop} (m : MapIs ok h b f n) (k : K n) : M.mlen h (some b) K := by
  obtain ⟨es, c, hb, _, hn, _⟩ := m
  refine ⟨fun e => by simp at e, fun b' e => ?_⟩
  simp only [Option.some.injEq] at e
  subst e
  exact ⟨es, c, hb, by rw [hn]; exact k⟩
/-- Whole numbers for keys. -/
theorem keys_int {k : IntKind} (hu : P.underlying kt = some (.int k)) : Keys P kt (fun v => ∃ n, v = .int k n) where
  eq := by
    rintro _ _ ⟨a, rfl⟩ ⟨b, rfl⟩ w
    have : (Op.equal kt (.int k a) (.int k b)).run P w = .ok (a == b) w := run_equalIn_int w 9999 kt k k a b hu
    rw [this]
    congr 1
    by_cases e : a = b <;> simp [e]
  now := by
    rintro _ _ d ⟨a, rfl⟩ ⟨b, rfl⟩ hd
    rw [hu] at hd
    simp only [Option.some.injEq] at hd
    subst hd
    right
    simp only [Instr.sameNow, if_true, Option.some.injEq]
    by_cases e : a = b <;> simp [e]
  chk := by
    rintro _ ⟨a, rfl⟩ e w
    unfold Instr.checkKey
    rw [Sem.run_bind, run_underlying hu, Result.andThen_ok]; rfl
  same := by
    rintro _ ⟨a, rfl⟩
    simp [Instr.sameBits]
  und := ⟨_, hu⟩
theorem bytes_beq (a b : ByteArray) : (a == b) = decide (a = b) := by
  rw [beq_toListBytes, ByteArray.toList_eq, ByteArray.toList_eq]
  obtain ⟨⟨x⟩⟩ := a
  obtain ⟨⟨y⟩⟩ := b
  by_cases e : x = y <;> simp [e]
theorem keys_str (hu : P.underlying kt = some .string) : Keys P kt (fun v => ∃ s, v = .string s) where
  eq := by
    rintro _ _ ⟨a, rfl⟩ ⟨b, rfl⟩ w
    have : (Op.equal kt (.string a) (.string b)).run P w = .ok (a.toList == b.toList) w := run_equalIn_string w 9999 kt a b hu
    rw [this, ← beq_toListBytes, bytes_beq]
    congr 1
    by_cases e : a = b <;> simp [e]
  now := by
    rintro _ _ d ⟨a, rfl⟩ ⟨b, rfl⟩ hd
    rw [hu] at hd
    simp only [Option.some.injEq] at hd
    subst hd
    right
    simp only [Instr.sameNow, bytes_beq, Option.some.injEq]
    by_cases e : a = b <;> simp [e]
  chk := by
    rintro _ ⟨a, rfl⟩ e w
    unfold Instr.checkKey
    rw [Sem.run_bind, run_underlying hu, Result.andThen_ok]; rfl
  same := by
    rintro _ ⟨a, rfl⟩
    simp [Instr.sameBits, bytes_beq]
  und := ⟨_, hu⟩
end
end Go.Sh

/- A disk in plain words: what lasts, what is, what waits. -/
import Derived.Test.YtkfokpkpobjoeaaShC0
namespace Go.Proofs.Ytkfokpkpobjoeaa
open Go.Sh Go.RowKit
set_option linter.unusedSimpArgs false
set_option linter.unusedVariables false

structure DiskM where
  L : List ByteArray
  N : List ByteArray
  W : List (Int × ByteArray)
  dead : Bool
structure DiskM.Ok (M : DiskM) : Prop where
  len : M.L.length = M.N.length
  pos : 0 < M.N.length
  small : M.N.length ≤ 512
  at_ : ∀ w ∈ M.W, 0 ≤ w.1 ∧ w.1 < M.N.length
namespace DiskM
def usable (M : DiskM) (at_ : Int) : Int := if M.dead = true then 20 else if at_ < 0 ∨ at_ ≥ M.N.length then 2 else 0
def write (M : DiskM) (at_ : Int) (s : ByteArray) : Int × DiskM :=
  if M.usable at_ ≠ 0 then (M.usable at_, M) else if (s.size : Int) > 2048 then (5, M) else (0, { M with N := M.N.set at_.toNat s, W := M.W ++ [(at_, s)] })
def read (M : DiskM) (at_ : Int) : ByteArray × Int := if M.usable at_ ≠ 0 then (ByteArray.empty, M.usable at_) else (M.N.getD at_.toNat ByteArray.empty, 0)
def flush (M : DiskM) : Int × DiskM := if M.dead = true then (20, M) else (0, { M with L := M.N, W := [] })
def crashL : List (Int × ByteArray) → List Bool → List ByteArray → List ByteArray
  | w :: W, k :: ks, L => crashL W ks (if k = true then L.set w.1.toNat w.2 else L)
  | _, _, L => L
def crash (M : DiskM) (kept : List Bool) : DiskM := if M.dead = true then M else { M with L := crashL M.W kept M.L, N := crashL M.W kept M.L, W := [] }
def fail (M : DiskM) : DiskM := { M with dead := true, W := [] }
def tamper (M : DiskM) (at_ : Int) (s : ByteArray) : Bool × DiskM :=
  if M.usable at_ ≠ 0 ∨ (s.size : Int) > 2048 then (false, M) else (true, { M with L := M.L.set at_.toNat s, N := M.N.set at_.toNat s, W := M.W.filter fun w => w.1 ≠ at_ })
def image (M : DiskM) : List ByteArray := if M.dead = true then [] else M.N
def ofImage (n : Nat) (img : List ByteArray) : List ByteArray := (List.range n).map fun i => if i < img.length ∧ ((img.getD i ByteArray.empty).size : Int) ≤ 2048 then img.getD i ByteArray.empty else ByteArray.empty
def restore (M : DiskM) (img : List ByteArray) : DiskM := if M.dead = true then M else { M with L := ofImage M.N.length img, N := ofImage M.N.length img, W := [] }
def new (n : Int) : DiskM := ⟨List.replicate (mx 1 (mn n 512)).toNat ByteArray.empty, List.replicate (mx 1 (mn n 512)).toNat ByteArray.empty, [], false⟩
theorem crashL_length : ∀ (W : List (Int × ByteArray)) (ks : List Bool) (L : List ByteArray), (crashL W ks L).length = L.length
  | [], _, _ => by simp [crashL]
  | w :: W, [], L => by simp [crashL]
  | w :: W, k :: ks, L => by rw [crashL, crashL_length]; split <;> simp
theorem ofImage_length (n : Nat) (img : List ByteArray) : (ofImage n img).length = n := by simp [ofImage]
theorem new_len (n : Int) : 0 < (mx 1 (mn n 512)).toNat ∧ (mx 1 (mn n 512)).toNat ≤ 512 := by
  unfold mx mn
  split <;> split <;> omega
theorem new_ok (n : Int) : (new n).Ok := ⟨rfl, by simpa [new] using (new_len n).1, by simpa [new] using (new_len n).2, by simp [new]⟩
theorem usable_zero {M : DiskM} {a : Int} : M.usable a = 0 ↔ M.dead = false ∧ 0 ≤ a ∧ a < M.N.length := by
  unfold usable
  cases M.dead <;> simp
theorem write_ok {M : DiskM} (o : M.Ok) (a : Int) (s : ByteArray) : (M.write a s).2.Ok := by
  unfold write
  split
  · exact o
  · rename_i h
    have h' := usable_zero.1 (Decidable.not_not.1 h)
    split
    · exact o
    · refine ⟨by simpa using o.len, by simpa using o.pos, by simpa using o.small, fun w hw => ?_⟩
      simp only [List.mem_append, List.mem_singleton] at hw
      simp only [List.length_set]
      rcases hw with hw | rfl
      · exact o.at_ w hw
      · exact ⟨h'.2.1, h'.2.2⟩
theorem flush_ok {M : DiskM} (o : M.Ok) : M.flush.2.Ok := by
  unfold flush
  split
  · exact o
  · exact ⟨rfl, o.pos, o.small, by simp⟩
theorem crash_ok {M : DiskM} (o : M.Ok) (ks : List Bool) : (M.crash ks).Ok := by
  unfold crash
  split
  · exact o
  · refine ⟨rfl, ?_, ?_, by simp⟩
    · rw [crashL_length, o.len]; exact o.pos
    · simp only [crashL_length, o.len]; exact o.small
theorem fail_ok {M : DiskM} (o : M.Ok) : M.fail.Ok := ⟨o.len, o.pos, o.small, by simp [fail]⟩
theorem tamper_ok {M : DiskM} (o : M.Ok) (a : Int) (s : ByteArray) : (M.tamper a s).2.Ok := by
  unfold tamper
  split
  · exact o
  · refine ⟨by simpa using o.len, by simpa using o.pos, by simpa using o.small, fun w hw => ?_⟩
    simp only [List.mem_filter] at hw
    simpa using o.at_ w hw.1
theorem restore_ok {M : DiskM} (o : M.Ok) (img : List ByteArray) : (M.restore img).Ok := by
  unfold restore
  split
  · exact o
  · exact ⟨rfl, by simp only [ofImage_length]; exact o.pos, by simp only [ofImage_length]; exact o.small, by simp⟩
end DiskM
/-- Writes that wait, as cells. -/
def wr (W : List (Int × ByteArray)) : List Value := W.flatMap fun w => [.int .i64 w.1, .string w.2]
theorem wr_length (W : List (Int × ByteArray)) : (wr W).length = W.length * 2 := by
  unfold wr
  induction W with
  | nil => rfl
  | cons w W ih => rw [List.flatMap_cons, List.length_append, ih]; simp; omega
theorem wr_append (W V : List (Int × ByteArray)) : wr (W ++ V) = wr W ++ wr V := by simp [wr]
theorem wr_cons (w : Int × ByteArray) (W : List (Int × ByteArray)) : wr (w :: W) = .int .i64 w.1 :: .string w.2 :: wr W := rfl
theorem wr_get : ∀ (W : List (Int × ByteArray)) (i : Nat) (w : Int × ByteArray), W[i]? = some w → (wr W)[i * 2]? = some (.int .i64 w.1) ∧ (wr W)[i * 2 + 1]? = some (.string w.2)
  | [], i, w, h => by simp at h
  | v :: W, 0, w, h => by
    simp only [List.getElem?_cons_zero, Option.some.injEq] at h
    subst h; exact ⟨rfl, rfl⟩
  | v :: W, i + 1, w, h => by
    have := wr_get W i w (by simpa using h)
    rw [wr_cons, show (i + 1) * 2 = i * 2 + 1 + 1 by omega]
    exact this
theorem wr_set : ∀ (W : List (Int × ByteArray)) (i : Nat) (w : Int × ByteArray), i < W.length → (wr W).take (i * 2) ++ [.int .i64 w.1, .string w.2] ++ (wr W).drop (i * 2 + 2) = wr (W.set i w)
  | [], i, w, h => by simp at h
  | v :: W, 0, w, h => by simp [wr_cons]
  | v :: W, i + 1, w, h => by
    have := wr_set W i w (by simpa using h)
    rw [wr_cons, show (i + 1) * 2 = i * 2 + 1 + 1 by omega, show i * 2 + 1 + 1 + 2 = (i * 2 + 2) + 1 + 1 by omega]
    simp only [List.take_succ_cons, List.drop_succ_cons, List.cons_append, List.set_cons_succ, wr_cons, this]
theorem wr_take : ∀ (W : List (Int × ByteArray)) (i : Nat), (wr W).take (i * 2) = wr (W.take i)
  | [], i => by simp [wr]
  | v :: W, 0 => by simp [wr]
  | v :: W, i + 1 => by
    rw [wr_cons, show (i + 1) * 2 = i * 2 + 1 + 1 by omega]
    simp only [List.take_succ_cons, wr_cons, wr_take W i]
def strs (l : List ByteArray) : Array Value := (l.map Value.string).toArray
end Go.Proofs.Ytkfokpkpobjoeaa

/- The shallow forms of the functions of this seat, printed by a program of mine, each checked by the kernel against the given code. -/
import Derived.Test.YthegnmanjdlmjaaGreatDoorT01
import Derived.Test.YthegnmanjdlmjaaGreatDoorProg
import Derived.Test.YthegnmanjdlmjaaGreatDoorT02
set_option linter.unusedSimpArgs false
set_option linter.unusedVariables false
namespace Go.Proofs.YthegnmanjdlmjaaGreatDoor
open Go.Sh
def bank_Bank_Steps.L (F : Option Addr → H → (Int → H → Prop) → Prop) : List Value → (Value → H → Prop) → H → Prop
  | [.pointer x_b] => fun Q h => F x_b h fun n7 h8 => Q (.int .i64 n7) h8
  | _ => fun _ _ => False
def bank_Bank_Disk (x_b : Option Addr) (x_i : Int) (h : H) (Q : Option Addr → H → Prop) : Prop :=
M.join (α := Bool) (fun d8 h9 =>
(bif d8 then
Q none h9
else
M.nn x_b fun a10 =>
M.load h9 (Addr.add a10 0) fun v11 =>
M.slc v11 fun a12 l13 c14 =>
M.idx a12 l13 x_i fun a15 j16 =>
M.load h9 (Addr.add a15 (j16 * 1)) fun v17 =>
M.ptr v17 fun p18 =>
Q p18 h9)) fun J2 =>
(bif (Option.isNone x_b) then
J2 true h
else
(bif (decide (x_i < (0 : Int))) then
J2 true h
else
M.nn x_b fun a3 =>
M.load h (Addr.add a3 0) fun v4 =>
M.slc v4 fun a5 l6 c7 =>
J2 (decide (x_i ≥ ((l6 : Nat) : Int))) h))
def bank_Bank_Disk.L (F : Option Addr → Int → H → (Option Addr → H → Prop) → Prop) : List Value → (Value → H → Prop) → H → Prop
  | [.pointer x_b, .int .i64 x_i] => fun Q h => F x_b x_i h fun p21 h22 => Q (.pointer p21) h22
  | _ => fun _ _ => False
def bank_Bank_Disk.W : W := fun args => bank_Bank_Disk.L bank_Bank_Disk args.toList
def bank_Bank_Disk.ann : Ann := ⟨lookN [(1, [(19, .bool)])], lookN [], lookN []⟩
theorem bank_Bank_Disk.geq (x_b : Option Addr) (x_i : Int) (Q : Value → H → Prop) (h : H) : evF Tryz.prog (envOf []) Tryz.f22 bank_Bank_Disk.ann [(.pointer x_b), (.int .i64 x_i)] Q h = bank_Bank_Disk x_b x_i h fun p21 h22 => Q (.pointer p21) h22 := by kernel_rfl
theorem bank_Bank_Disk.good : FnGood Tryz.prog 22 bank_Bank_Disk.W := by
  refine FnGood.of (ann := bank_Bank_Disk.ann) (env := envOf []) mixed EnvGood.nil Tryz.func22 Tryz.call22 fun args => ?_
  show bank_Bank_Disk.L bank_Bank_Disk args.toList = _ ∨ ∀ Q m, evF Tryz.prog (envOf []) Tryz.f22 bank_Bank_Disk.ann args.toList Q m = bank_Bank_Disk.L bank_Bank_Disk args.toList Q m
  generalize args.toList = l
  unfold bank_Bank_Disk.L
  split
  · exact .inr fun Q m => bank_Bank_Disk.geq  _ _ Q m
  · exact .inl rfl
def law17_sized.L (F : Int → H → (Int → H → Prop) → Prop) : List Value → (Value → H → Prop) → H → Prop
  | [.int .i64 x_n] => fun Q h => F x_n h fun n9 h10 => Q (.int .i64 n9) h10
  | _ => fun _ _ => False
def law17_sameWrites (x_a : Option Addr) (x_aL : Nat) (x_aC : Nat) (x_b : Option Addr) (x_bL : Nat) (x_bC : Nat) (h : H) (Q : Bool → H → Prop) : Prop :=
(bif (((x_aL : Nat) : Int) != ((x_bL : Nat) : Int)) then
Q false h
else
M.loop (α := Int) (fun J2 d3 h4 =>
(bif (decide (d3 < ((x_aL : Nat) : Int))) then
M.join (α := Bool) (fun d22 h23 =>
(bif d22 then
Q false h23
else
M.val (IntKind.wrap .i64 (d3 + (1 : Int))) fun z24 =>
J2 z24 h23)) fun J5 =>
M.idx x_a x_aL d3 fun a6 j7 =>
M.load h4 (Addr.add (Addr.add a6 (j7 * 2)) 0) fun v8 =>
M.int .i64 v8 fun n9 =>
M.idx x_b x_bL d3 fun a10 j11 =>
M.load h4 (Addr.add (Addr.add a10 (j11 * 2)) 0) fun v12 =>
M.int .i64 v12 fun n13 =>
(bif (n9 != n13) then
J5 true h4
else
M.idx x_a x_aL d3 fun a14 j15 =>
M.load h4 (Addr.add (Addr.add a14 (j15 * 2)) 1) fun v16 =>
M.str v16 fun s17 =>
M.idx x_b x_bL d3 fun a18 j19 =>
M.load h4 (Addr.add (Addr.add a18 (j19 * 2)) 1) fun v20 =>
M.str v20 fun s21 =>
J5 (!strEq s17 s21) h4)
else
Q true h4)) (0 : Int) h)
def law17_sameWrites.L (F : Option Addr → Nat → Nat → Option Addr → Nat → Nat → H → (Bool → H → Prop) → Prop) : List Value → (Value → H → Prop) → H → Prop
  | [.slice x_a x_aL x_aC, .slice x_b x_bL x_bC] => fun Q h => F x_a x_aL x_aC x_b x_bL x_bC h fun b27 h28 => Q (.bool b27) h28
  | _ => fun _ _ => False
def law17_sameWrites.W : W := fun args => law17_sameWrites.L law17_sameWrites args.toList
def law17_sameWrites.ann : Ann := ⟨lookN [(6, [(39, .bool)])], lookN [], lookN [(58, [(13, .int .i64)])]⟩
theorem law17_sameWrites.geq (x_a : Option Addr) (x_aL : Nat) (x_aC : Nat) (x_b : Option Addr) (x_bL : Nat) (x_bC : Nat) (Q : Value → H → Prop) (h : H) : evF Tryz.prog (envOf []) Tryz.f42 law17_sameWrites.ann [(.slice x_a x_aL x_aC), (.slice x_b x_bL x_bC)] Q h = law17_sameWrites x_a x_aL x_aC x_b x_bL x_bC h fun b27 h28 => Q (.bool b27) h28 := by kernel_rfl
theorem law17_sameWrites.good : FnGood Tryz.prog 42 law17_sameWrites.W := by
  refine FnGood.of (ann := law17_sameWrites.ann) (env := envOf []) mixed EnvGood.nil Tryz.func42 Tryz.call42 fun args => ?_
  show law17_sameWrites.L law17_sameWrites args.toList = _ ∨ ∀ Q m, evF Tryz.prog (envOf []) Tryz.f42 law17_sameWrites.ann args.toList Q m = law17_sameWrites.L law17_sameWrites args.toList Q m
  generalize args.toList = l
  unfold law17_sameWrites.L
  split
  · exact .inr fun Q m => law17_sameWrites.geq  _ _ _ _ _ _ Q m
  · exact .inl rfl
def slab_Slab_good.g (tree_Path' : Int → Int → H → (Option Addr → Nat → Nat → Int → H → Prop) → Prop) (bank_Bank_Disk' : Option Addr → Int → H → (Option Addr → H → Prop) → Prop) (x_s_0 : Option Addr) (x_s_1 : Int) (x_s_2 : Int) (x_s_3 : ByteArray) (h : H) (Q : Bool → H → Prop) : Prop :=
M.new h (.cells (#[(.pointer x_s_0), (.int .i64 x_s_1), (.int .i64 x_s_2), (.string x_s_3)] : Array Value) 37) fun b2 h3 =>
M.load h3 (Addr.add (⟨b2, 0, none⟩ : Addr) 2) fun v4 =>
M.int .i64 v4 fun n5 =>
tree_Path' n5 (0 : Int) h3 fun a6 l7 c8 n9 h10 =>
M.join (α := Bool) (fun d20 h21 =>
Q d20 h21) fun J11 =>
(bif (n9 == (0 : Int)) then
M.load h10 (Addr.add (⟨b2, 0, none⟩ : Addr) 3) fun v12 =>
M.str v12 fun s13 =>
(bif ((ByteArray.size s13 : Int) == (32 : Int)) then
M.load h10 (Addr.add (⟨b2, 0, none⟩ : Addr) 0) fun v14 =>
M.ptr v14 fun p15 =>
M.load h10 (Addr.add (⟨b2, 0, none⟩ : Addr) 1) fun v16 =>
M.int .i64 v16 fun n17 =>
bank_Bank_Disk' p15 n17 h10 fun p18 h19 =>
J11 (!(Option.isNone p18)) h19
else
J11 false h10)
else
J11 false h10)
def slab_Slab_good (x_s_0 : Option Addr) (x_s_1 : Int) (x_s_2 : Int) (x_s_3 : ByteArray) (h : H) (Q : Bool → H → Prop) : Prop := slab_Slab_good.g tree_Path bank_Bank_Disk x_s_0 x_s_1 x_s_2 x_s_3 h Q
def slab_Slab_good.L (F : Option Addr → Int → Int → ByteArray → H → (Bool → H → Prop) → Prop) : List Value → (Value → H → Prop) → H → Prop
  | [.agg ⟨[.pointer x_s_0, .int .i64 x_s_1, .int .i64 x_s_2, .string x_s_3]⟩] => fun Q h => F x_s_0 x_s_1 x_s_2 x_s_3 h fun b24 h25 => Q (.bool b24) h25
  | _ => fun _ _ => False
def slab_Slab_good.W : W := fun args => slab_Slab_good.L slab_Slab_good args.toList
def slab_Slab_good.ann : Ann := ⟨lookN [(2, [(2, .bool)])], lookN [], lookN []⟩
theorem slab_Slab_good.geq (tree_Path' : Int → Int → H → (Option Addr → Nat → Nat → Int → H → Prop) → Prop) (bank_Bank_Disk' : Option Addr → Int → H → (Option Addr → H → Prop) → Prop) (x_s_0 : Option Addr) (x_s_1 : Int) (x_s_2 : Int) (x_s_3 : ByteArray) (Q : Value → H → Prop) (h : H) : evF Tryz.prog (envOf [(51, fun args => tree_Path.L tree_Path' args.toList), (22, fun args => bank_Bank_Disk.L bank_Bank_Disk' args.toList)]) Tryz.f53 slab_Slab_good.ann [(.agg (#[(.pointer x_s_0), (.int .i64 x_s_1), (.int .i64 x_s_2), (.string x_s_3)] : Array Value))] Q h = slab_Slab_good.g tree_Path' bank_Bank_Disk' x_s_0 x_s_1 x_s_2 x_s_3 h fun b24 h25 => Q (.bool b24) h25 := by kernel_rfl
theorem slab_Slab_good.good : FnGood Tryz.prog 53 slab_Slab_good.W := by
  refine FnGood.of (ann := slab_Slab_good.ann) (env := envOf [(51, fun args => tree_Path.L tree_Path args.toList), (22, fun args => bank_Bank_Disk.L bank_Bank_Disk args.toList)]) mixed (EnvGood.cons tree_Path.good (EnvGood.cons bank_Bank_Disk.good EnvGood.nil)) Tryz.func53 Tryz.call53 fun args => ?_
  show slab_Slab_good.L slab_Slab_good args.toList = _ ∨ ∀ Q m, evF Tryz.prog (envOf [(51, fun args => tree_Path.L tree_Path args.toList), (22, fun args => bank_Bank_Disk.L bank_Bank_Disk args.toList)]) Tryz.f53 slab_Slab_good.ann args.toList Q m = slab_Slab_good.L slab_Slab_good args.toList Q m
  generalize args.toList = l
  unfold slab_Slab_good.L
  split
  · exact .inr fun Q m => slab_Slab_good.geq tree_Path bank_Bank_Disk _ _ _ _ Q m
  · exact .inl rfl
def disk_New (x_cells : Int) (h : H) (Q : Option Addr → H → Prop) : Prop :=
M.join (α := Addr) (fun d23 h24 =>
Q (some d23) h24) fun J2 =>
(M.mk h 9 [(.string (ByteArray.empty))] 16 (mx (1 : Int) (mn x_cells (512 : Int))) (mx (1 : Int) (mn x_cells (512 : Int))) fun a3 l4 c5 h6 =>
M.mk h6 9 [(.string (ByteArray.empty))] 16 (mx (1 : Int) (mn x_cells (512 : Int))) (mx (1 : Int) (mn x_cells (512 : Int))) fun a7 l8 c9 h10 =>
M.new h10 (.cells (#[(.slice a3 l4 c5), (.slice a7 l8 c9), (.slice none 0 0), (.bool false)] : Array Value) 127) fun b11 h12 =>
J2 (⟨b11, 0, none⟩ : Addr) h12) ∧
(M.mk h 9 [(.string (ByteArray.empty))] 16 (mx (1 : Int) (mn x_cells (512 : Int))) (mx (1 : Int) (mn x_cells (512 : Int))) fun a13 l14 c15 h16 =>
M.mk h16 9 [(.string (ByteArray.empty))] 16 (mx (1 : Int) (mn x_cells (512 : Int))) (mx (1 : Int) (mn x_cells (512 : Int))) fun a17 l18 c19 h20 =>
M.new h20 (.cells (#[(.slice a17 l18 c19), (.slice a13 l14 c15), (.slice none 0 0), (.bool false)] : Array Value) 127) fun b21 h22 =>
J2 (⟨b21, 0, none⟩ : Addr) h22)
def disk_New.L (F : Int → H → (Option Addr → H → Prop) → Prop) : List Value → (Value → H → Prop) → H → Prop
  | [.int .i64 x_cells] => fun Q h => F x_cells h fun p27 h28 => Q (.pointer p27) h28
  | _ => fun _ _ => False
def disk_New.W : W := fun args => disk_New.L disk_New args.toList
def disk_New.ann : Ann := ⟨lookN [(2, [(2, .adr)])], lookN [], lookN []⟩
theorem disk_New.geq (x_cells : Int) (Q : Value → H → Prop) (h : H) : evF Tryz.prog (envOf []) Tryz.f59 disk_New.ann [(.int .i64 x_cells)] Q h = disk_New x_cells h fun p27 h28 => Q (.pointer p27) h28 := by kernel_rfl
theorem disk_New.good : FnGood Tryz.prog 59 disk_New.W := by
  refine FnGood.of (ann := disk_New.ann) (env := envOf []) mixed EnvGood.nil Tryz.func59 Tryz.call59 fun args => ?_
  show disk_New.L disk_New args.toList = _ ∨ ∀ Q m, evF Tryz.prog (envOf []) Tryz.f59 disk_New.ann args.toList Q m = disk_New.L disk_New args.toList Q m
  generalize args.toList = l
  unfold disk_New.L
  split
  · exact .inr fun Q m => disk_New.geq  _ Q m
  · exact .inl rfl
def disk_Disk_usable (x_d : Option Addr) (x_at : Int) (h : H) (Q : Int → H → Prop) : Prop :=
(bif (Option.isNone x_d) then
Q (1 : Int) h
else
M.nn x_d fun a2 =>
M.load h (Addr.add a2 3) fun v3 =>
M.bool v3 fun b4 =>
(bif b4 then
Q (20 : Int) h
else
M.join (α := Bool) (fun d11 h12 =>
(bif d11 then
Q (2 : Int) h12
else
Q (0 : Int) h12)) fun J5 =>
(bif (decide (x_at < (0 : Int))) then
J5 true h
else
M.nn x_d fun a6 =>
M.load h (Addr.add a6 1) fun v7 =>
M.slc v7 fun a8 l9 c10 =>
J5 (decide (x_at ≥ ((l9 : Nat) : Int))) h)))
def disk_Disk_usable.L (F : Option Addr → Int → H → (Int → H → Prop) → Prop) : List Value → (Value → H → Prop) → H → Prop
  | [.pointer x_d, .int .i64 x_at] => fun Q h => F x_d x_at h fun n15 h16 => Q (.int .i64 n15) h16
  | _ => fun _ _ => False
def disk_Disk_usable.W : W := fun args => disk_Disk_usable.L disk_Disk_usable args.toList
def disk_Disk_usable.ann : Ann := ⟨lookN [(5, [(13, .bool)])], lookN [], lookN []⟩
theorem disk_Disk_usable.geq (x_d : Option Addr) (x_at : Int) (Q : Value → H → Prop) (h : H) : evF Tryz.prog (envOf []) Tryz.f62 disk_Disk_usable.ann [(.pointer x_d), (.int .i64 x_at)] Q h = disk_Disk_usable x_d x_at h fun n15 h16 => Q (.int .i64 n15) h16 := by kernel_rfl
theorem disk_Disk_usable.good : FnGood Tryz.prog 62 disk_Disk_usable.W := by
  refine FnGood.of (ann := disk_Disk_usable.ann) (env := envOf []) mixed EnvGood.nil Tryz.func62 Tryz.call62 fun args => ?_
  show disk_Disk_usable.L disk_Disk_usable args.toList = _ ∨ ∀ Q m, evF Tryz.prog (envOf []) Tryz.f62 disk_Disk_usable.ann args.toList Q m = disk_Disk_usable.L disk_Disk_usable args.toList Q m
  generalize args.toList = l
  unfold disk_Disk_usable.L
  split
  · exact .inr fun Q m => disk_Disk_usable.geq  _ _ Q m
  · exact .inl rfl
def slices_Clonestring_string (x_s : Option Addr) (x_sL : Nat) (x_sC : Nat) (h : H) (Q : Option Addr → Nat → Nat → H → Prop) : Prop :=
(bif (Option.isNone x_s) then
Q none 0 0 h
else
M.new h (.cells (#[] : Array Value) 9) fun b4 h5 =>
M.cellsOf h5 x_s (x_sL * 1) fun cs10 =>
M.app h5 9 1 16 [(.string (ByteArray.empty))] (some (⟨b4, 0, none⟩ : Addr)) 0 0 x_sL cs10 fun a6 l7 c8 h9 =>
Q a6 l7 c8 h9)
def slices_Clonestring_string.L (F : Option Addr → Nat → Nat → H → (Option Addr → Nat → Nat → H → Prop) → Prop) : List Value → (Value → H → Prop) → H → Prop
  | [.slice x_s x_sL x_sC] => fun Q h => F x_s x_sL x_sC h fun a15 l16 c17 h18 => Q (.slice a15 l16 c17) h18
  | _ => fun _ _ => False
def slices_Clonestring_string.W : W := fun args => slices_Clonestring_string.L slices_Clonestring_string args.toList
def slices_Clonestring_string.ann : Ann := ⟨lookN [], lookN [], lookN []⟩
theorem slices_Clonestring_string.geq (x_s : Option Addr) (x_sL : Nat) (x_sC : Nat) (Q : Value → H → Prop) (h : H) : evF Tryz.prog (envOf []) Tryz.f63 slices_Clonestring_string.ann [(.slice x_s x_sL x_sC)] Q h = slices_Clonestring_string x_s x_sL x_sC h fun a15 l16 c17 h18 => Q (.slice a15 l16 c17) h18 := by kernel_rfl
theorem slices_Clonestring_string.good : FnGood Tryz.prog 63 slices_Clonestring_string.W := by
  refine FnGood.of (ann := slices_Clonestring_string.ann) (env := envOf []) mixed EnvGood.nil Tryz.func63 Tryz.call63 fun args => ?_
  show slices_Clonestring_string.L slices_Clonestring_string args.toList = _ ∨ ∀ Q m, evF Tryz.prog (envOf []) Tryz.f63 slices_Clonestring_string.ann args.toList Q m = slices_Clonestring_string.L slices_Clonestring_string args.toList Q m
  generalize args.toList = l
  unfold slices_Clonestring_string.L
  split
  · exact .inr fun Q m => slices_Clonestring_string.geq  _ _ _ Q m
  · exact .inl rfl
def disk_Disk_Tamper_1 (x_w_0 : Int) (x_w_1 : ByteArray) (a1 : Addr) (h : H) (Q : Bool → H → Prop) : Prop :=
M.new h (.cells (#[(.int .i64 x_w_0), (.string x_w_1)] : Array Value) 131) fun b3 h4 =>
M.load h4 (Addr.add (⟨b3, 0, none⟩ : Addr) 0) fun v5 =>
M.int .i64 v5 fun n6 =>
M.load h4 a1 fun v7 =>
M.int .i64 v7 fun n8 =>
Q (n6 == n8) h4
def disk_Disk_Tamper_1.L (F : Int → ByteArray → Addr → H → (Bool → H → Prop) → Prop) : List Value → (Value → H → Prop) → H → Prop
  | [.agg ⟨[.int .i64 x_w_0, .string x_w_1]⟩, .pointer (some a1)] => fun Q h => F x_w_0 x_w_1 a1 h fun b11 h12 => Q (.bool b11) h12
  | _ => fun _ _ => False
def disk_Disk_Tamper_1.W : W := fun args => disk_Disk_Tamper_1.L disk_Disk_Tamper_1 args.toList
def disk_Disk_Tamper_1.ann : Ann := ⟨lookN [], lookN [], lookN []⟩
theorem disk_Disk_Tamper_1.geq (x_w_0 : Int) (x_w_1 : ByteArray) (a1 : Addr) (Q : Value → H → Prop) (h : H) : evF Tryz.prog (envOf []) Tryz.f65 disk_Disk_Tamper_1.ann [(.agg (#[(.int .i64 x_w_0), (.string x_w_1)] : Array Value)), (.pointer (some a1))] Q h = disk_Disk_Tamper_1 x_w_0 x_w_1 a1 h fun b11 h12 => Q (.bool b11) h12 := by kernel_rfl
theorem disk_Disk_Tamper_1.good : FnGood Tryz.prog 65 disk_Disk_Tamper_1.W := by
  refine FnGood.of (ann := disk_Disk_Tamper_1.ann) (env := envOf []) mixed EnvGood.nil Tryz.func65 Tryz.call65 fun args => ?_
  show disk_Disk_Tamper_1.L disk_Disk_Tamper_1 args.toList = _ ∨ ∀ Q m, evF Tryz.prog (envOf []) Tryz.f65 disk_Disk_Tamper_1.ann args.toList Q m = disk_Disk_Tamper_1.L disk_Disk_Tamper_1 args.toList Q m
  generalize args.toList = l
  unfold disk_Disk_Tamper_1.L
  split
  · exact .inr fun Q m => disk_Disk_Tamper_1.geq  _ _ _ Q m
  · exact .inl rfl
def sha_New  (h : H) (Q : Option Addr → H → Prop) : Prop :=
M.load h ((⟨0, 0, none⟩ : Addr).add 0) fun v2 =>
M.int .u32 v2 fun n3 =>
M.load h ((⟨0, 0, none⟩ : Addr).add 1) fun v4 =>
M.int .u32 v4 fun n5 =>
M.load h ((⟨0, 0, none⟩ : Addr).add 2) fun v6 =>
M.int .u32 v6 fun n7 =>
M.load h ((⟨0, 0, none⟩ : Addr).add 3) fun v8 =>
M.int .u32 v8 fun n9 =>
M.load h ((⟨0, 0, none⟩ : Addr).add 4) fun v10 =>
M.int .u32 v10 fun n11 =>
M.load h ((⟨0, 0, none⟩ : Addr).add 5) fun v12 =>
M.int .u32 v12 fun n13 =>
M.load h ((⟨0, 0, none⟩ : Addr).add 6) fun v14 =>
M.int .u32 v14 fun n15 =>
M.load h ((⟨0, 0, none⟩ : Addr).add 7) fun v16 =>
M.int .u32 v16 fun n17 =>
M.new h (.cells (#[(.int .u32 n3), (.int .u32 n5), (.int .u32 n7), (.int .u32 n9), (.int .u32 n11), (.int .u32 n13), (.int .u32 n15), (.int .u32 n17), (.string (ByteArray.empty)), (.int .i64 (0 : Int))] : Array Value) 206) fun b18 h19 =>
Q (some (⟨b18, 0, none⟩ : Addr)) h19
def sha_New.L (F : H → (Option Addr → H → Prop) → Prop) : List Value → (Value → H → Prop) → H → Prop
  | [] => fun Q h => F  h fun p22 h23 => Q (.pointer p22) h23
  | _ => fun _ _ => False
def sha_New.W : W := fun args => sha_New.L sha_New args.toList
def sha_New.ann : Ann := ⟨lookN [], lookN [], lookN []⟩
theorem sha_New.geq  (Q : Value → H → Prop) (h : H) : evF Tryz.prog (envOf []) Tryz.f66 sha_New.ann [] Q h = sha_New  h fun p22 h23 => Q (.pointer p22) h23 := by kernel_rfl
theorem sha_New.good : FnGood Tryz.prog 66 sha_New.W := by
  refine FnGood.of (ann := sha_New.ann) (env := envOf []) mixed EnvGood.nil Tryz.func66 Tryz.call66 fun args => ?_
  show sha_New.L sha_New args.toList = _ ∨ ∀ Q m, evF Tryz.prog (envOf []) Tryz.f66 sha_New.ann args.toList Q m = sha_New.L sha_New args.toList Q m
  generalize args.toList = l
  unfold sha_New.L
  split
  · exact .inr fun Q m => sha_New.geq   Q m
  · exact .inl rfl
def ref09_Tamper.L (F : Option Addr → Int → ByteArray → H → (Bool → H → Prop) → Prop) : List Value → (Value → H → Prop) → H → Prop
  | [.pointer x_d, .int .i64 x_at, .string x_s] => fun Q h => F x_d x_at x_s h fun b67 h68 => Q (.bool b67) h68
  | _ => fun _ _ => False
def ref09_New (x_cells : Int) (h : H) (Q : Option Addr → H → Prop) : Prop :=
M.join (α := Int) (fun d3 h4 =>
M.join (α := Int) (fun d6 h7 =>
M.mk h7 9 [(.string (ByteArray.empty))] 16 d6 d6 fun a8 l9 c10 h11 =>
M.new h11 (.cells (#[(.slice a8 l9 c10), (.slice none 0 0), (.bool false)] : Array Value) 212) fun b12 h13 =>
Q (some (⟨b12, 0, none⟩ : Addr)) h13) fun J5 =>
(bif (decide (d3 > (512 : Int))) then
J5 (512 : Int) h4
else
J5 d3 h4)) fun J2 =>
(bif (decide (x_cells < (1 : Int))) then
J2 (1 : Int) h
else
J2 x_cells h)
def ref09_New.L (F : Int → H → (Option Addr → H → Prop) → Prop) : List Value → (Value → H → Prop) → H → Prop
  | [.int .i64 x_cells] => fun Q h => F x_cells h fun p16 h17 => Q (.pointer p16) h17
  | _ => fun _ _ => False
def ref09_New.W : W := fun args => ref09_New.L ref09_New args.toList
def ref09_New.ann : Ann := ⟨lookN [], lookN [(3, [(0, .int .i64)]), (7, [(0, .int .i64)])], lookN []⟩
theorem ref09_New.geq (x_cells : Int) (Q : Value → H → Prop) (h : H) : evF Tryz.prog (envOf []) Tryz.f88 ref09_New.ann [(.int .i64 x_cells)] Q h = ref09_New x_cells h fun p16 h17 => Q (.pointer p16) h17 := by kernel_rfl
theorem ref09_New.good : FnGood Tryz.prog 88 ref09_New.W := by
  refine FnGood.of (ann := ref09_New.ann) (env := envOf []) mixed EnvGood.nil Tryz.func88 Tryz.call88 fun args => ?_
  show ref09_New.L ref09_New args.toList = _ ∨ ∀ Q m, evF Tryz.prog (envOf []) Tryz.f88 ref09_New.ann args.toList Q m = ref09_New.L ref09_New args.toList Q m
  generalize args.toList = l
  unfold ref09_New.L
  split
  · exact .inr fun Q m => ref09_New.geq  _ Q m
  · exact .inl rfl
def aead_shape (x_key : ByteArray) (x_nonce : ByteArray) (h : H) (Q : Bool → H → Prop) : Prop :=
M.join (α := Bool) (fun d3 h4 =>
Q d3 h4) fun J2 =>
(bif ((ByteArray.size x_key : Int) == (32 : Int)) then
J2 ((ByteArray.size x_nonce : Int) == (12 : Int)) h
else
J2 false h)
def aead_shape.L (F : ByteArray → ByteArray → H → (Bool → H → Prop) → Prop) : List Value → (Value → H → Prop) → H → Prop
  | [.string x_key, .string x_nonce] => fun Q h => F x_key x_nonce h fun b7 h8 => Q (.bool b7) h8
  | _ => fun _ _ => False
def aead_shape.W : W := fun args => aead_shape.L aead_shape args.toList
def aead_shape.ann : Ann := ⟨lookN [(1, [(4, .bool)])], lookN [], lookN []⟩
theorem aead_shape.geq (x_key : ByteArray) (x_nonce : ByteArray) (Q : Value → H → Prop) (h : H) : evF Tryz.prog (envOf []) Tryz.f94 aead_shape.ann [(.string x_key), (.string x_nonce)] Q h = aead_shape x_key x_nonce h fun b7 h8 => Q (.bool b7) h8 := by kernel_rfl
theorem aead_shape.good : FnGood Tryz.prog 94 aead_shape.W := by
  refine FnGood.of (ann := aead_shape.ann) (env := envOf []) mixed EnvGood.nil Tryz.func94 Tryz.call94 fun args => ?_
  show aead_shape.L aead_shape args.toList = _ ∨ ∀ Q m, evF Tryz.prog (envOf []) Tryz.f94 aead_shape.ann args.toList Q m = aead_shape.L aead_shape args.toList Q m
  generalize args.toList = l
  unfold aead_shape.L
  split
  · exact .inr fun Q m => aead_shape.geq  _ _ Q m
  · exact .inl rfl
def tree_leaves.g (tree_depth' : Int → H → (Int → H → Prop) → Prop) (x_pairs : Int) (h : H) (Q : Int → H → Prop) : Prop :=
M.join (α := Bool) (fun d5 h6 =>
(bif d5 then
Q (0 : Int) h6
else
M.shr0 x_pairs (
M.val (shl .i64 (1 : Int) x_pairs) fun z7 =>
Q z7 h6))) fun J2 =>
(bif (decide (x_pairs < (1 : Int))) then
J2 true h
else
tree_depth' (16 : Int) h fun n3 h4 =>
J2 (decide (x_pairs > n3)) h4)
def tree_leaves (x_pairs : Int) (h : H) (Q : Int → H → Prop) : Prop := tree_leaves.g tree_depth x_pairs h Q
def tree_leaves.L (F : Int → H → (Int → H → Prop) → Prop) : List Value → (Value → H → Prop) → H → Prop
  | [.int .i64 x_pairs] => fun Q h => F x_pairs h fun n10 h11 => Q (.int .i64 n10) h11
  | _ => fun _ _ => False
def tree_leaves.W : W := fun args => tree_leaves.L tree_leaves args.toList
def tree_leaves.ann : Ann := ⟨lookN [(1, [(9, .bool)])], lookN [], lookN []⟩
theorem tree_leaves.geq (tree_depth' : Int → H → (Int → H → Prop) → Prop) (x_pairs : Int) (Q : Value → H → Prop) (h : H) : evF Tryz.prog (envOf [(103, fun args => tree_depth.L tree_depth' args.toList)]) Tryz.f99 tree_leaves.ann [(.int .i64 x_pairs)] Q h = tree_leaves.g tree_depth' x_pairs h fun n10 h11 => Q (.int .i64 n10) h11 := by kernel_rfl
theorem tree_leaves.good : FnGood Tryz.prog 99 tree_leaves.W := by
  refine FnGood.of (ann := tree_leaves.ann) (env := envOf [(103, fun args => tree_depth.L tree_depth args.toList)]) mixed (EnvGood.cons tree_depth.good EnvGood.nil) Tryz.func99 Tryz.call99 fun args => ?_
  show tree_leaves.L tree_leaves args.toList = _ ∨ ∀ Q m, evF Tryz.prog (envOf [(103, fun args => tree_depth.L tree_depth args.toList)]) Tryz.f99 tree_leaves.ann args.toList Q m = tree_leaves.L tree_leaves args.toList Q m
  generalize args.toList = l
  unfold tree_leaves.L
  split
  · exact .inr fun Q m => tree_leaves.geq tree_depth _ Q m
  · exact .inl rfl
def tree_second (x_slot : Int) (x_pairs : Int) (x_at : Int) (h : H) (Q : Bool → H → Prop) : Prop :=
M.val (IntKind.wrap .i64 (x_pairs - (1 : Int))) fun z2 =>
M.val (IntKind.wrap .i64 (z2 - x_at)) fun z3 =>
M.shr0 z3 (
M.val (shr .i64 x_slot z3) fun z4 =>
M.val (bAnd .i64 z4 (1 : Int)) fun z5 =>
Q (z5 == (1 : Int)) h)
def tree_second.L (F : Int → Int → Int → H → (Bool → H → Prop) → Prop) : List Value → (Value → H → Prop) → H → Prop
  | [.int .i64 x_slot, .int .i64 x_pairs, .int .i64 x_at] => fun Q h => F x_slot x_pairs x_at h fun b8 h9 => Q (.bool b8) h9
  | _ => fun _ _ => False
def tree_second.W : W := fun args => tree_second.L tree_second args.toList
def tree_second.ann : Ann := ⟨lookN [], lookN [], lookN []⟩
theorem tree_second.geq (x_slot : Int) (x_pairs : Int) (x_at : Int) (Q : Value → H → Prop) (h : H) : evF Tryz.prog (envOf []) Tryz.f100 tree_second.ann [(.int .i64 x_slot), (.int .i64 x_pairs), (.int .i64 x_at)] Q h = tree_second x_slot x_pairs x_at h fun b8 h9 => Q (.bool b8) h9 := by kernel_rfl
theorem tree_second.good : FnGood Tryz.prog 100 tree_second.W := by
  refine FnGood.of (ann := tree_second.ann) (env := envOf []) mixed EnvGood.nil Tryz.func100 Tryz.call100 fun args => ?_
  show tree_second.L tree_second args.toList = _ ∨ ∀ Q m, evF Tryz.prog (envOf []) Tryz.f100 tree_second.ann args.toList Q m = tree_second.L tree_second args.toList Q m
  generalize args.toList = l
  unfold tree_second.L
  split
  · exact .inr fun Q m => tree_second.geq  _ _ _ Q m
  · exact .inl rfl
def tree_half (x_pair : ByteArray) (x_second : Bool) (h : H) (Q : ByteArray → H → Prop) : Prop :=
(bif x_second then
M.ssub x_pair (32 : Int) (ByteArray.size x_pair : Int) fun s2 =>
Q s2 h
else
M.ssub x_pair 0 (32 : Int) fun s3 =>
Q s3 h)
def tree_half.L (F : ByteArray → Bool → H → (ByteArray → H → Prop) → Prop) : List Value → (Value → H → Prop) → H → Prop
  | [.string x_pair, .bool x_second] => fun Q h => F x_pair x_second h fun s6 h7 => Q (.string s6) h7
  | _ => fun _ _ => False
def tree_half.W : W := fun args => tree_half.L tree_half args.toList
def tree_half.ann : Ann := ⟨lookN [], lookN [], lookN []⟩
theorem tree_half.geq (x_pair : ByteArray) (x_second : Bool) (Q : Value → H → Prop) (h : H) : evF Tryz.prog (envOf []) Tryz.f101 tree_half.ann [(.string x_pair), (.bool x_second)] Q h = tree_half x_pair x_second h fun s6 h7 => Q (.string s6) h7 := by kernel_rfl
theorem tree_half.good : FnGood Tryz.prog 101 tree_half.W := by
  refine FnGood.of (ann := tree_half.ann) (env := envOf []) mixed EnvGood.nil Tryz.func101 Tryz.call101 fun args => ?_
  show tree_half.L tree_half args.toList = _ ∨ ∀ Q m, evF Tryz.prog (envOf []) Tryz.f101 tree_half.ann args.toList Q m = tree_half.L tree_half args.toList Q m
  generalize args.toList = l
  unfold tree_half.L
  split
  · exact .inr fun Q m => tree_half.geq  _ _ Q m
  · exact .inl rfl
def bank_Bank_there.g (bank_Bank_Disk' : Option Addr → Int → H → (Option Addr → H → Prop) → Prop) (x_b : Option Addr) (x_i : Int) (h : H) (Q : Int → H → Prop) : Prop :=
(bif (Option.isNone x_b) then
Q (1 : Int) h
else
bank_Bank_Disk' x_b x_i h fun p2 h3 =>
(bif (Option.isNone p2) then
Q (11 : Int) h3
else
Q (0 : Int) h3))
def bank_Bank_there (x_b : Option Addr) (x_i : Int) (h : H) (Q : Int → H → Prop) : Prop := bank_Bank_there.g bank_Bank_Disk x_b x_i h Q
def bank_Bank_there.L (F : Option Addr → Int → H → (Int → H → Prop) → Prop) : List Value → (Value → H → Prop) → H → Prop
  | [.pointer x_b, .int .i64 x_i] => fun Q h => F x_b x_i h fun n6 h7 => Q (.int .i64 n6) h7
  | _ => fun _ _ => False
def bank_Bank_there.W : W := fun args => bank_Bank_there.L bank_Bank_there args.toList
def bank_Bank_there.ann : Ann := ⟨lookN [], lookN [], lookN []⟩
theorem bank_Bank_there.geq (bank_Bank_Disk' : Option Addr → Int → H → (Option Addr → H → Prop) → Prop) (x_b : Option Addr) (x_i : Int) (Q : Value → H → Prop) (h : H) : evF Tryz.prog (envOf [(22, fun args => bank_Bank_Disk.L bank_Bank_Disk' args.toList)]) Tryz.f108 bank_Bank_there.ann [(.pointer x_b), (.int .i64 x_i)] Q h = bank_Bank_there.g bank_Bank_Disk' x_b x_i h fun n6 h7 => Q (.int .i64 n6) h7 := by kernel_rfl
theorem bank_Bank_there.good : FnGood Tryz.prog 108 bank_Bank_there.W := by
  refine FnGood.of (ann := bank_Bank_there.ann) (env := envOf [(22, fun args => bank_Bank_Disk.L bank_Bank_Disk args.toList)]) mixed (EnvGood.cons bank_Bank_Disk.good EnvGood.nil) Tryz.func108 Tryz.call108 fun args => ?_
  show bank_Bank_there.L bank_Bank_there args.toList = _ ∨ ∀ Q m, evF Tryz.prog (envOf [(22, fun args => bank_Bank_Disk.L bank_Bank_Disk args.toList)]) Tryz.f108 bank_Bank_there.ann args.toList Q m = bank_Bank_there.L bank_Bank_there args.toList Q m
  generalize args.toList = l
  unfold bank_Bank_there.L
  split
  · exact .inr fun Q m => bank_Bank_there.geq bank_Bank_Disk _ _ Q m
  · exact .inl rfl
def bank_Bank_Spend (x_b : Option Addr) (h : H) (Q : Int → H → Prop) : Prop :=
M.join (α := Unit) (fun d21 h22 =>
M.nn x_b fun a23 =>
M.load h22 (Addr.add a23 1) fun v24 =>
M.int .i64 v24 fun n25 =>
M.val (IntKind.wrap .i64 (n25 + (1 : Int))) fun z26 =>
M.nn x_b fun a27 =>
M.put h22 (Addr.add a27 1) (.int .i64 z26) fun h28 =>
Q (0 : Int) h28) fun J2 =>
(bif (Option.isNone x_b) then
Q (1 : Int) h
else
M.join (α := Bool) (fun d10 h11 =>
(bif d10 then
Q (21 : Int) h11
else
M.nn x_b fun a12 =>
M.load h11 (Addr.add a12 2) fun v13 =>
M.bool v13 fun b14 =>
(bif b14 then
M.nn x_b fun a15 =>
M.load h11 (Addr.add a15 3) fun v16 =>
M.int .i64 v16 fun n17 =>
M.val (IntKind.wrap .i64 (n17 - (1 : Int))) fun z18 =>
M.nn x_b fun a19 =>
M.put h11 (Addr.add a19 3) (.int .i64 z18) fun h20 =>
J2 () h20
else
J2 () h11))) fun J3 =>
M.nn x_b fun a4 =>
M.load h (Addr.add a4 2) fun v5 =>
M.bool v5 fun b6 =>
(bif b6 then
M.nn x_b fun a7 =>
M.load h (Addr.add a7 3) fun v8 =>
M.int .i64 v8 fun n9 =>
J3 (n9 == (0 : Int)) h
else
J3 false h))
def bank_Bank_Spend.L (F : Option Addr → H → (Int → H → Prop) → Prop) : List Value → (Value → H → Prop) → H → Prop
  | [.pointer x_b] => fun Q h => F x_b h fun n31 h32 => Q (.int .i64 n31) h32
  | _ => fun _ _ => False
def bank_Bank_Spend.W : W := fun args => bank_Bank_Spend.L bank_Bank_Spend args.toList
def bank_Bank_Spend.ann : Ann := ⟨lookN [(3, [(6, .bool)])], lookN [(3, [])], lookN []⟩
theorem bank_Bank_Spend.geq (x_b : Option Addr) (Q : Value → H → Prop) (h : H) : evF Tryz.prog (envOf []) Tryz.f109 bank_Bank_Spend.ann [(.pointer x_b)] Q h = bank_Bank_Spend x_b h fun n31 h32 => Q (.int .i64 n31) h32 := by kernel_rfl
theorem bank_Bank_Spend.good : FnGood Tryz.prog 109 bank_Bank_Spend.W := by
  refine FnGood.of (ann := bank_Bank_Spend.ann) (env := envOf []) mixed EnvGood.nil Tryz.func109 Tryz.call109 fun args => ?_
  show bank_Bank_Spend.L bank_Bank_Spend args.toList = _ ∨ ∀ Q m, evF Tryz.prog (envOf []) Tryz.f109 bank_Bank_Spend.ann args.toList Q m = bank_Bank_Spend.L bank_Bank_Spend args.toList Q m
  generalize args.toList = l
  unfold bank_Bank_Spend.L
  split
  · exact .inr fun Q m => bank_Bank_Spend.geq  _ Q m
  · exact .inl rfl
def disk_Disk_Write.g (disk_Disk_usable' : Option Addr → Int → H → (Int → H → Prop) → Prop) (x_d : Option Addr) (x_at : Int) (x_s : ByteArray) (h : H) (Q : Int → H → Prop) : Prop :=
disk_Disk_usable' x_d x_at h fun n2 h3 =>
(bif (n2 != (0 : Int)) then
Q n2 h3
else
(bif (decide ((ByteArray.size x_s : Int) > (2048 : Int))) then
Q (5 : Int) h3
else
M.nn x_d fun a4 =>
M.load h3 (Addr.add a4 1) fun v5 =>
M.slc v5 fun a6 l7 c8 =>
M.idx a6 l7 x_at fun a9 j10 =>
M.put h3 (Addr.add a9 (j10 * 1)) (.string x_s) fun h11 =>
M.nn x_d fun a12 =>
M.load h11 (Addr.add a12 2) fun v13 =>
M.slc v13 fun a14 l15 c16 =>
M.new h11 (.cells (#[(.int .i64 x_at), (.string x_s)] : Array Value) 131) fun b17 h18 =>
M.cellsOf h18 (some (⟨b17, 0, none⟩ : Addr)) (1 * 2) fun cs23 =>
M.app h18 131 2 24 [(.int .i64 (0 : Int)), (.string (ByteArray.empty))] a14 l15 c16 1 cs23 fun a19 l20 c21 h22 =>
M.nn x_d fun a24 =>
M.put h22 (Addr.add a24 2) (.slice a19 l20 c21) fun h25 =>
Q (0 : Int) h25))
def disk_Disk_Write (x_d : Option Addr) (x_at : Int) (x_s : ByteArray) (h : H) (Q : Int → H → Prop) : Prop := disk_Disk_Write.g disk_Disk_usable x_d x_at x_s h Q
def disk_Disk_Write.L (F : Option Addr → Int → ByteArray → H → (Int → H → Prop) → Prop) : List Value → (Value → H → Prop) → H → Prop
  | [.pointer x_d, .int .i64 x_at, .string x_s] => fun Q h => F x_d x_at x_s h fun n28 h29 => Q (.int .i64 n28) h29
  | _ => fun _ _ => False
def disk_Disk_Write.W : W := fun args => disk_Disk_Write.L disk_Disk_Write args.toList
def disk_Disk_Write.ann : Ann := ⟨lookN [], lookN [], lookN []⟩
theorem disk_Disk_Write.geq (disk_Disk_usable' : Option Addr → Int → H → (Int → H → Prop) → Prop) (x_d : Option Addr) (x_at : Int) (x_s : ByteArray) (Q : Value → H → Prop) (h : H) : evF Tryz.prog (envOf [(62, fun args => disk_Disk_usable.L disk_Disk_usable' args.toList)]) Tryz.f110 disk_Disk_Write.ann [(.pointer x_d), (.int .i64 x_at), (.string x_s)] Q h = disk_Disk_Write.g disk_Disk_usable' x_d x_at x_s h fun n28 h29 => Q (.int .i64 n28) h29 := by kernel_rfl
theorem disk_Disk_Write.good : FnGood Tryz.prog 110 disk_Disk_Write.W := by
  refine FnGood.of (ann := disk_Disk_Write.ann) (env := envOf [(62, fun args => disk_Disk_usable.L disk_Disk_usable args.toList)]) mixed (EnvGood.cons disk_Disk_usable.good EnvGood.nil) Tryz.func110 Tryz.call110 fun args => ?_
  show disk_Disk_Write.L disk_Disk_Write args.toList = _ ∨ ∀ Q m, evF Tryz.prog (envOf [(62, fun args => disk_Disk_usable.L disk_Disk_usable args.toList)]) Tryz.f110 disk_Disk_Write.ann args.toList Q m = disk_Disk_Write.L disk_Disk_Write args.toList Q m
  generalize args.toList = l
  unfold disk_Disk_Write.L
  split
  · exact .inr fun Q m => disk_Disk_Write.geq disk_Disk_usable _ _ _ Q m
  · exact .inl rfl
def disk_Disk_Flush.g (disk_Disk_usable' : Option Addr → Int → H → (Int → H → Prop) → Prop) (x_d : Option Addr) (h : H) (Q : Int → H → Prop) : Prop :=
disk_Disk_usable' x_d (0 : Int) h fun n2 h3 =>
(bif (n2 != (0 : Int)) then
Q n2 h3
else
M.nn x_d fun a4 =>
M.load h3 (Addr.add a4 0) fun v5 =>
M.slc v5 fun a6 l7 c8 =>
M.nn x_d fun a9 =>
M.load h3 (Addr.add a9 1) fun v10 =>
M.slc v10 fun a11 l12 c13 =>
M.cellsOf h3 a11 ((min l12 l7) * 1) fun cs15 =>
M.copy h3 a6 cs15 fun h14 =>
M.nn x_d fun a16 =>
M.put h14 (Addr.add a16 2) (.slice none 0 0) fun h17 =>
Q (0 : Int) h17)
def disk_Disk_Flush (x_d : Option Addr) (h : H) (Q : Int → H → Prop) : Prop := disk_Disk_Flush.g disk_Disk_usable x_d h Q
def disk_Disk_Flush.L (F : Option Addr → H → (Int → H → Prop) → Prop) : List Value → (Value → H → Prop) → H → Prop
  | [.pointer x_d] => fun Q h => F x_d h fun n20 h21 => Q (.int .i64 n20) h21
  | _ => fun _ _ => False
def disk_Disk_Flush.W : W := fun args => disk_Disk_Flush.L disk_Disk_Flush args.toList
def disk_Disk_Flush.ann : Ann := ⟨lookN [], lookN [], lookN []⟩
theorem disk_Disk_Flush.geq (disk_Disk_usable' : Option Addr → Int → H → (Int → H → Prop) → Prop) (x_d : Option Addr) (Q : Value → H → Prop) (h : H) : evF Tryz.prog (envOf [(62, fun args => disk_Disk_usable.L disk_Disk_usable' args.toList)]) Tryz.f111 disk_Disk_Flush.ann [(.pointer x_d)] Q h = disk_Disk_Flush.g disk_Disk_usable' x_d h fun n20 h21 => Q (.int .i64 n20) h21 := by kernel_rfl
theorem disk_Disk_Flush.good : FnGood Tryz.prog 111 disk_Disk_Flush.W := by
  refine FnGood.of (ann := disk_Disk_Flush.ann) (env := envOf [(62, fun args => disk_Disk_usable.L disk_Disk_usable args.toList)]) mixed (EnvGood.cons disk_Disk_usable.good EnvGood.nil) Tryz.func111 Tryz.call111 fun args => ?_
  show disk_Disk_Flush.L disk_Disk_Flush args.toList = _ ∨ ∀ Q m, evF Tryz.prog (envOf [(62, fun args => disk_Disk_usable.L disk_Disk_usable args.toList)]) Tryz.f111 disk_Disk_Flush.ann args.toList Q m = disk_Disk_Flush.L disk_Disk_Flush args.toList Q m
  generalize args.toList = l
  unfold disk_Disk_Flush.L
  split
  · exact .inr fun Q m => disk_Disk_Flush.geq disk_Disk_usable _ Q m
  · exact .inl rfl
def disk_Disk_Read.g (disk_Disk_usable' : Option Addr → Int → H → (Int → H → Prop) → Prop) (x_d : Option Addr) (x_at : Int) (h : H) (Q : ByteArray → Int → H → Prop) : Prop :=
disk_Disk_usable' x_d x_at h fun n3 h4 =>
(bif (n3 != (0 : Int)) then
Q (ByteArray.empty) n3 h4
else
M.nn x_d fun a5 =>
M.load h4 (Addr.add a5 1) fun v6 =>
M.slc v6 fun a7 l8 c9 =>
M.idx a7 l8 x_at fun a10 j11 =>
M.load h4 (Addr.add a10 (j11 * 1)) fun v12 =>
M.str v12 fun s13 =>
Q s13 (0 : Int) h4)
def disk_Disk_Read (x_d : Option Addr) (x_at : Int) (h : H) (Q : ByteArray → Int → H → Prop) : Prop := disk_Disk_Read.g disk_Disk_usable x_d x_at h Q
def disk_Disk_Read.L (F : Option Addr → Int → H → (ByteArray → Int → H → Prop) → Prop) : List Value → (Value → H → Prop) → H → Prop
  | [.pointer x_d, .int .i64 x_at] => fun Q h => F x_d x_at h fun s17 n18 h19 => Q (.tuple #[(.string s17), (.int .i64 n18)]) h19
  | _ => fun _ _ => False
def disk_Disk_Read.W : W := fun args => disk_Disk_Read.L disk_Disk_Read args.toList
def disk_Disk_Read.ann : Ann := ⟨lookN [], lookN [], lookN []⟩
theorem disk_Disk_Read.geq (disk_Disk_usable' : Option Addr → Int → H → (Int → H → Prop) → Prop) (x_d : Option Addr) (x_at : Int) (Q : Value → H → Prop) (h : H) : evF Tryz.prog (envOf [(62, fun args => disk_Disk_usable.L disk_Disk_usable' args.toList)]) Tryz.f112 disk_Disk_Read.ann [(.pointer x_d), (.int .i64 x_at)] Q h = disk_Disk_Read.g disk_Disk_usable' x_d x_at h fun s17 n18 h19 => Q (.tuple #[(.string s17), (.int .i64 n18)]) h19 := by kernel_rfl
theorem disk_Disk_Read.good : FnGood Tryz.prog 112 disk_Disk_Read.W := by
  refine FnGood.of (ann := disk_Disk_Read.ann) (env := envOf [(62, fun args => disk_Disk_usable.L disk_Disk_usable args.toList)]) mixed (EnvGood.cons disk_Disk_usable.good EnvGood.nil) Tryz.func112 Tryz.call112 fun args => ?_
  show disk_Disk_Read.L disk_Disk_Read args.toList = _ ∨ ∀ Q m, evF Tryz.prog (envOf [(62, fun args => disk_Disk_usable.L disk_Disk_usable args.toList)]) Tryz.f112 disk_Disk_Read.ann args.toList Q m = disk_Disk_Read.L disk_Disk_Read args.toList Q m
  generalize args.toList = l
  unfold disk_Disk_Read.L
  split
  · exact .inr fun Q m => disk_Disk_Read.geq disk_Disk_usable _ _ Q m
  · exact .inl rfl
def poly_Equal (x_a : ByteArray) (x_b : ByteArray) (h : H) (Q : Bool → H → Prop) : Prop :=
(bif ((ByteArray.size x_a : Int) != (ByteArray.size x_b : Int)) then
Q false h
else
M.join (α := Int) (fun d11 h12 =>
Q (d11 == (0 : Int)) h12) fun J2 =>
M.loop (α := Int × Int) (fun J3 d4 h5 =>
(bif (decide (d4.2 < (ByteArray.size x_a : Int))) then
M.byte x_a d4.2 fun n6 =>
M.byte x_b d4.2 fun n7 =>
M.val (bXor .u8 n6 n7) fun z8 =>
M.val (bOr .u8 d4.1 z8) fun z9 =>
M.val (IntKind.wrap .i64 (d4.2 + (1 : Int))) fun z10 =>
J3 (z9, z10) h5
else
J2 d4.1 h5)) ((0 : Int), (0 : Int)) h)
def poly_Equal.L (F : ByteArray → ByteArray → H → (Bool → H → Prop) → Prop) : List Value → (Value → H → Prop) → H → Prop
  | [.string x_a, .string x_b] => fun Q h => F x_a x_b h fun b15 h16 => Q (.bool b15) h16
  | _ => fun _ _ => False
def poly_Equal.W : W := fun args => poly_Equal.L poly_Equal args.toList
def poly_Equal.ann : Ann := ⟨lookN [], lookN [(15, [(5, .int .u8)])], lookN [(122, [(5, .int .u8), (14, .int .i64)])]⟩
theorem poly_Equal.geq (x_a : ByteArray) (x_b : ByteArray) (Q : Value → H → Prop) (h : H) : evF Tryz.prog (envOf []) Tryz.f119 poly_Equal.ann [(.string x_a), (.string x_b)] Q h = poly_Equal x_a x_b h fun b15 h16 => Q (.bool b15) h16 := by kernel_rfl
theorem poly_Equal.good : FnGood Tryz.prog 119 poly_Equal.W := by
  refine FnGood.of (ann := poly_Equal.ann) (env := envOf []) mixed EnvGood.nil Tryz.func119 Tryz.call119 fun args => ?_
  show poly_Equal.L poly_Equal args.toList = _ ∨ ∀ Q m, evF Tryz.prog (envOf []) Tryz.f119 poly_Equal.ann args.toList Q m = poly_Equal.L poly_Equal args.toList Q m
  generalize args.toList = l
  unfold poly_Equal.L
  split
  · exact .inr fun Q m => poly_Equal.geq  _ _ Q m
  · exact .inl rfl
def words_FromBig (x_l : Option Addr) (x_lL : Nat) (x_lC : Nat) (h : H) (Q : ByteArray → H → Prop) : Prop :=
M.val (IntKind.wrap .i64 ((4 : Int) * ((x_lL : Nat) : Int))) fun z2 =>
M.mk h 5 [(.int .u8 (0 : Int))] 1 (0 : Int) z2 fun a3 l4 c5 h6 =>
M.join (α := (Option Addr × Nat × Nat)) (fun d30 h31 =>
M.b2s h31 d30.1 d30.2.1 fun s32 =>
Q s32 h31) fun J7 =>
M.loop (α := (Option Addr × Nat × Nat) × Int) (fun J8 d9 h10 =>
(bif (decide (d9.2 < ((x_lL : Nat) : Int))) then
M.idx x_l x_lL d9.2 fun a11 j12 =>
M.load h10 (Addr.add a11 (j12 * 1)) fun v13 =>
M.int .u32 v13 fun n14 =>
M.shr0 (24 : Int) (
M.val (shr .u32 n14 (24 : Int)) fun z15 =>
M.val (IntKind.wrap .u8 z15) fun z16 =>
M.shr0 (16 : Int) (
M.val (shr .u32 n14 (16 : Int)) fun z17 =>
M.val (IntKind.wrap .u8 z17) fun z18 =>
M.shr0 (8 : Int) (
M.val (shr .u32 n14 (8 : Int)) fun z19 =>
M.val (IntKind.wrap .u8 z19) fun z20 =>
M.val (IntKind.wrap .u8 n14) fun z21 =>
M.new h10 (.cells (#[(.int .u8 z16), (.int .u8 z18), (.int .u8 z20), (.int .u8 z21)] : Array Value) 5) fun b22 h23 =>
M.cellsOf h23 (some (⟨b22, 0, none⟩ : Addr)) (4 * 1) fun cs28 =>
M.app h23 5 1 1 [(.int .u8 (0 : Int))] d9.1.1 d9.1.2.1 d9.1.2.2 4 cs28 fun a24 l25 c26 h27 =>
M.val (IntKind.wrap .i64 (d9.2 + (1 : Int))) fun z29 =>
J8 ((a24, l25, c26), z29) h27)))
else
J7 (d9.1.1, d9.1.2.1, d9.1.2.2) h10)) ((a3, l4, c5), (0 : Int)) h6
def words_FromBig.L (F : Option Addr → Nat → Nat → H → (ByteArray → H → Prop) → Prop) : List Value → (Value → H → Prop) → H → Prop
  | [.slice x_l x_lL x_lC] => fun Q h => F x_l x_lL x_lC h fun s35 h36 => Q (.string s35) h36
  | _ => fun _ _ => False
def words_FromBig.W : W := fun args => words_FromBig.L words_FromBig args.toList
def words_FromBig.ann : Ann := ⟨lookN [], lookN [(7, [(3, .slc)])], lookN [(58, [(3, .slc), (12, .int .i64)])]⟩
theorem words_FromBig.geq (x_l : Option Addr) (x_lL : Nat) (x_lC : Nat) (Q : Value → H → Prop) (h : H) : evF Tryz.prog (envOf []) Tryz.f122 words_FromBig.ann [(.slice x_l x_lL x_lC)] Q h = words_FromBig x_l x_lL x_lC h fun s35 h36 => Q (.string s35) h36 := by kernel_rfl
theorem words_FromBig.good : FnGood Tryz.prog 122 words_FromBig.W := by
  refine FnGood.of (ann := words_FromBig.ann) (env := envOf []) mixed EnvGood.nil Tryz.func122 Tryz.call122 fun args => ?_
  show words_FromBig.L words_FromBig args.toList = _ ∨ ∀ Q m, evF Tryz.prog (envOf []) Tryz.f122 words_FromBig.ann args.toList Q m = words_FromBig.L words_FromBig args.toList Q m
  generalize args.toList = l
  unfold words_FromBig.L
  split
  · exact .inr fun Q m => words_FromBig.geq  _ _ _ Q m
  · exact .inl rfl
def words_Xor (x_a : ByteArray) (x_b : ByteArray) (h : H) (Q : ByteArray → H → Prop) : Prop :=
M.mk h 5 [(.int .u8 (0 : Int))] 1 (mn (ByteArray.size x_a : Int) (ByteArray.size x_b : Int)) (mn (ByteArray.size x_a : Int) (ByteArray.size x_b : Int)) fun a2 l3 c4 h5 =>
M.join (α := Unit) (fun d17 h18 =>
M.b2s h18 a2 l3 fun s19 =>
Q s19 h18) fun J6 =>
M.loop (α := Int) (fun J7 d8 h9 =>
(bif (decide (d8 < ((l3 : Nat) : Int))) then
M.byte x_a d8 fun n10 =>
M.byte x_b d8 fun n11 =>
M.val (bXor .u8 n10 n11) fun z12 =>
M.idx a2 l3 d8 fun a13 j14 =>
M.put h9 (Addr.add a13 (j14 * 1)) (.int .u8 z12) fun h15 =>
M.val (IntKind.wrap .i64 (d8 + (1 : Int))) fun z16 =>
J7 z16 h15
else
J6 () h9)) (0 : Int) h5
def words_Xor.L (F : ByteArray → ByteArray → H → (ByteArray → H → Prop) → Prop) : List Value → (Value → H → Prop) → H → Prop
  | [.string x_a, .string x_b] => fun Q h => F x_a x_b h fun s22 h23 => Q (.string s22) h23
  | _ => fun _ _ => False
def words_Xor.W : W := fun args => words_Xor.L words_Xor args.toList
def words_Xor.ann : Ann := ⟨lookN [], lookN [(7, [])], lookN [(58, [(15, .int .i64)])]⟩
theorem words_Xor.geq (x_a : ByteArray) (x_b : ByteArray) (Q : Value → H → Prop) (h : H) : evF Tryz.prog (envOf []) Tryz.f134 words_Xor.ann [(.string x_a), (.string x_b)] Q h = words_Xor x_a x_b h fun s22 h23 => Q (.string s22) h23 := by kernel_rfl
theorem words_Xor.good : FnGood Tryz.prog 134 words_Xor.W := by
  refine FnGood.of (ann := words_Xor.ann) (env := envOf []) mixed EnvGood.nil Tryz.func134 Tryz.call134 fun args => ?_
  show words_Xor.L words_Xor args.toList = _ ∨ ∀ Q m, evF Tryz.prog (envOf []) Tryz.f134 words_Xor.ann args.toList Q m = words_Xor.L words_Xor args.toList Q m
  generalize args.toList = l
  unfold words_Xor.L
  split
  · exact .inr fun Q m => words_Xor.geq  _ _ Q m
  · exact .inl rfl
def ref12_Depth (x_n : Int) (h : H) (Q : Int → H → Prop) : Prop :=
(bif (x_n == (2 : Int)) then
Q (1 : Int) h
else
(bif (x_n == (4 : Int)) then
Q (2 : Int) h
else
(bif (x_n == (8 : Int)) then
Q (3 : Int) h
else
(bif (x_n == (16 : Int)) then
Q (4 : Int) h
else
Q (0 : Int) h))))
def ref12_Depth.L (F : Int → H → (Int → H → Prop) → Prop) : List Value → (Value → H → Prop) → H → Prop
  | [.int .i64 x_n] => fun Q h => F x_n h fun n4 h5 => Q (.int .i64 n4) h5
  | _ => fun _ _ => False
def ref12_Depth.W : W := fun args => ref12_Depth.L ref12_Depth args.toList
def ref12_Depth.ann : Ann := ⟨lookN [], lookN [], lookN []⟩
theorem ref12_Depth.geq (x_n : Int) (Q : Value → H → Prop) (h : H) : evF Tryz.prog (envOf []) Tryz.f142 ref12_Depth.ann [(.int .i64 x_n)] Q h = ref12_Depth x_n h fun n4 h5 => Q (.int .i64 n4) h5 := by kernel_rfl
theorem ref12_Depth.good : FnGood Tryz.prog 142 ref12_Depth.W := by
  refine FnGood.of (ann := ref12_Depth.ann) (env := envOf []) mixed EnvGood.nil Tryz.func142 Tryz.call142 fun args => ?_
  show ref12_Depth.L ref12_Depth args.toList = _ ∨ ∀ Q m, evF Tryz.prog (envOf []) Tryz.f142 ref12_Depth.ann args.toList Q m = ref12_Depth.L ref12_Depth args.toList Q m
  generalize args.toList = l
  unfold ref12_Depth.L
  split
  · exact .inr fun Q m => ref12_Depth.geq  _ Q m
  · exact .inl rfl
def ref10_Spend (x_b : Option Addr) (h : H) (Q : Int → H → Prop) : Prop :=
M.nn x_b fun a2 =>
M.load h (Addr.add a2 2) fun v3 =>
M.int .i64 v3 fun n4 =>
(bif (n4 == (0 : Int)) then
Q (21 : Int) h
else
M.join (α := Unit) (fun d15 h16 =>
M.nn x_b fun a17 =>
M.load h16 (Addr.add a17 1) fun v18 =>
M.int .i64 v18 fun n19 =>
M.val (IntKind.wrap .i64 (n19 + (1 : Int))) fun z20 =>
M.nn x_b fun a21 =>
M.put h16 (Addr.add a21 1) (.int .i64 z20) fun h22 =>
Q (0 : Int) h22) fun J5 =>
M.nn x_b fun a6 =>
M.load h (Addr.add a6 2) fun v7 =>
M.int .i64 v7 fun n8 =>
(bif (decide (n8 > (0 : Int))) then
M.nn x_b fun a9 =>
M.load h (Addr.add a9 2) fun v10 =>
M.int .i64 v10 fun n11 =>
M.val (IntKind.wrap .i64 (n11 - (1 : Int))) fun z12 =>
M.nn x_b fun a13 =>
M.put h (Addr.add a13 2) (.int .i64 z12) fun h14 =>
J5 () h14
else
J5 () h))
def ref10_Spend.L (F : Option Addr → H → (Int → H → Prop) → Prop) : List Value → (Value → H → Prop) → H → Prop
  | [.pointer x_b] => fun Q h => F x_b h fun n25 h26 => Q (.int .i64 n25) h26
  | _ => fun _ _ => False
def ref10_Spend.W : W := fun args => ref10_Spend.L ref10_Spend args.toList
def ref10_Spend.ann : Ann := ⟨lookN [], lookN [(7, [])], lookN []⟩
theorem ref10_Spend.geq (x_b : Option Addr) (Q : Value → H → Prop) (h : H) : evF Tryz.prog (envOf []) Tryz.f145 ref10_Spend.ann [(.pointer x_b)] Q h = ref10_Spend x_b h fun n25 h26 => Q (.int .i64 n25) h26 := by kernel_rfl
theorem ref10_Spend.good : FnGood Tryz.prog 145 ref10_Spend.W := by
  refine FnGood.of (ann := ref10_Spend.ann) (env := envOf []) mixed EnvGood.nil Tryz.func145 Tryz.call145 fun args => ?_
  show ref10_Spend.L ref10_Spend args.toList = _ ∨ ∀ Q m, evF Tryz.prog (envOf []) Tryz.f145 ref10_Spend.ann args.toList Q m = ref10_Spend.L ref10_Spend args.toList Q m
  generalize args.toList = l
  unfold ref10_Spend.L
  split
  · exact .inr fun Q m => ref10_Spend.geq  _ Q m
  · exact .inl rfl
def ref09_Put (x_d : Option Addr) (x_at : Int) (x_s : ByteArray) (h : H) (Q : Int → H → Prop) : Prop :=
M.nn x_d fun a2 =>
M.load h (Addr.add a2 2) fun v3 =>
M.bool v3 fun b4 =>
(bif b4 then
Q (20 : Int) h
else
M.join (α := Bool) (fun d11 h12 =>
(bif d11 then
Q (2 : Int) h12
else
(bif (decide ((ByteArray.size x_s : Int) > (2048 : Int))) then
Q (5 : Int) h12
else
M.nn x_d fun a13 =>
M.load h12 (Addr.add a13 1) fun v14 =>
M.slc v14 fun a15 l16 c17 =>
M.new h12 (.cells (#[(.int .i64 x_at), (.string x_s)] : Array Value) 214) fun b18 h19 =>
M.cellsOf h19 (some (⟨b18, 0, none⟩ : Addr)) (1 * 2) fun cs24 =>
M.app h19 214 2 24 [(.int .i64 (0 : Int)), (.string (ByteArray.empty))] a15 l16 c17 1 cs24 fun a20 l21 c22 h23 =>
M.nn x_d fun a25 =>
M.put h23 (Addr.add a25 1) (.slice a20 l21 c22) fun h26 =>
Q (0 : Int) h26))) fun J5 =>
(bif (decide (x_at < (0 : Int))) then
J5 true h
else
M.nn x_d fun a6 =>
M.load h (Addr.add a6 0) fun v7 =>
M.slc v7 fun a8 l9 c10 =>
J5 (decide (x_at ≥ ((l9 : Nat) : Int))) h))
def ref09_Put.L (F : Option Addr → Int → ByteArray → H → (Int → H → Prop) → Prop) : List Value → (Value → H → Prop) → H → Prop
  | [.pointer x_d, .int .i64 x_at, .string x_s] => fun Q h => F x_d x_at x_s h fun n29 h30 => Q (.int .i64 n29) h30
  | _ => fun _ _ => False
def ref09_Put.W : W := fun args => ref09_Put.L ref09_Put args.toList
def ref09_Put.ann : Ann := ⟨lookN [(3, [(21, .bool)])], lookN [], lookN []⟩
theorem ref09_Put.geq (x_d : Option Addr) (x_at : Int) (x_s : ByteArray) (Q : Value → H → Prop) (h : H) : evF Tryz.prog (envOf []) Tryz.f146 ref09_Put.ann [(.pointer x_d), (.int .i64 x_at), (.string x_s)] Q h = ref09_Put x_d x_at x_s h fun n29 h30 => Q (.int .i64 n29) h30 := by kernel_rfl
theorem ref09_Put.good : FnGood Tryz.prog 146 ref09_Put.W := by
  refine FnGood.of (ann := ref09_Put.ann) (env := envOf []) mixed EnvGood.nil Tryz.func146 Tryz.call146 fun args => ?_
  show ref09_Put.L ref09_Put args.toList = _ ∨ ∀ Q m, evF Tryz.prog (envOf []) Tryz.f146 ref09_Put.ann args.toList Q m = ref09_Put.L ref09_Put args.toList Q m
  generalize args.toList = l
  unfold ref09_Put.L
  split
  · exact .inr fun Q m => ref09_Put.geq  _ _ _ Q m
  · exact .inl rfl
def ref09_Flush (x_d : Option Addr) (h : H) (Q : Int → H → Prop) : Prop :=
M.nn x_d fun a2 =>
M.load h (Addr.add a2 2) fun v3 =>
M.bool v3 fun b4 =>
(bif b4 then
Q (20 : Int) h
else
M.join (α := Unit) (fun d41 h42 =>
M.nn x_d fun a43 =>
M.put h42 (Addr.add a43 1) (.slice none 0 0) fun h44 =>
Q (0 : Int) h44) fun J5 =>
M.loop (α := Int) (fun J6 d7 h8 =>
M.nn x_d fun a9 =>
M.load h8 (Addr.add a9 1) fun v10 =>
M.slc v10 fun a11 l12 c13 =>
(bif (decide (d7 < ((l12 : Nat) : Int))) then
M.nn x_d fun a14 =>
M.load h8 (Addr.add a14 0) fun v15 =>
M.slc v15 fun a16 l17 c18 =>
M.nn x_d fun a19 =>
M.load h8 (Addr.add a19 1) fun v20 =>
M.slc v20 fun a21 l22 c23 =>
M.idx a21 l22 d7 fun a24 j25 =>
M.load h8 (Addr.add (Addr.add a24 (j25 * 2)) 0) fun v26 =>
M.int .i64 v26 fun n27 =>
M.nn x_d fun a28 =>
M.load h8 (Addr.add a28 1) fun v29 =>
M.slc v29 fun a30 l31 c32 =>
M.idx a30 l31 d7 fun a33 j34 =>
M.load h8 (Addr.add (Addr.add a33 (j34 * 2)) 1) fun v35 =>
M.str v35 fun s36 =>
M.idx a16 l17 n27 fun a37 j38 =>
M.put h8 (Addr.add a37 (j38 * 1)) (.string s36) fun h39 =>
M.val (IntKind.wrap .i64 (d7 + (1 : Int))) fun z40 =>
J6 z40 h39
else
J5 () h8)) (0 : Int) h)
def ref09_Flush.L (F : Option Addr → H → (Int → H → Prop) → Prop) : List Value → (Value → H → Prop) → H → Prop
  | [.pointer x_d] => fun Q h => F x_d h fun n47 h48 => Q (.int .i64 n47) h48
  | _ => fun _ _ => False
def ref09_Flush.W : W := fun args => ref09_Flush.L ref09_Flush args.toList
def ref09_Flush.ann : Ann := ⟨lookN [], lookN [(7, [])], lookN [(58, [(3, .int .i64)])]⟩
theorem ref09_Flush.geq (x_d : Option Addr) (Q : Value → H → Prop) (h : H) : evF Tryz.prog (envOf []) Tryz.f147 ref09_Flush.ann [(.pointer x_d)] Q h = ref09_Flush x_d h fun n47 h48 => Q (.int .i64 n47) h48 := by kernel_rfl
theorem ref09_Flush.good : FnGood Tryz.prog 147 ref09_Flush.W := by
  refine FnGood.of (ann := ref09_Flush.ann) (env := envOf []) mixed EnvGood.nil Tryz.func147 Tryz.call147 fun args => ?_
  show ref09_Flush.L ref09_Flush args.toList = _ ∨ ∀ Q m, evF Tryz.prog (envOf []) Tryz.f147 ref09_Flush.ann args.toList Q m = ref09_Flush.L ref09_Flush args.toList Q m
  generalize args.toList = l
  unfold ref09_Flush.L
  split
  · exact .inr fun Q m => ref09_Flush.geq  _ Q m
  · exact .inl rfl
def chacha_shape (x_key : ByteArray) (x_nonce : ByteArray) (h : H) (Q : Bool → H → Prop) : Prop :=
M.join (α := Bool) (fun d3 h4 =>
Q d3 h4) fun J2 =>
(bif ((ByteArray.size x_key : Int) == (32 : Int)) then
J2 ((ByteArray.size x_nonce : Int) == (12 : Int)) h
else
J2 false h)
def chacha_shape.L (F : ByteArray → ByteArray → H → (Bool → H → Prop) → Prop) : List Value → (Value → H → Prop) → H → Prop
  | [.string x_key, .string x_nonce] => fun Q h => F x_key x_nonce h fun b7 h8 => Q (.bool b7) h8
  | _ => fun _ _ => False
def chacha_shape.W : W := fun args => chacha_shape.L chacha_shape args.toList
def chacha_shape.ann : Ann := ⟨lookN [(1, [(4, .bool)])], lookN [], lookN []⟩
theorem chacha_shape.geq (x_key : ByteArray) (x_nonce : ByteArray) (Q : Value → H → Prop) (h : H) : evF Tryz.prog (envOf []) Tryz.f148 chacha_shape.ann [(.string x_key), (.string x_nonce)] Q h = chacha_shape x_key x_nonce h fun b7 h8 => Q (.bool b7) h8 := by kernel_rfl
theorem chacha_shape.good : FnGood Tryz.prog 148 chacha_shape.W := by
  refine FnGood.of (ann := chacha_shape.ann) (env := envOf []) mixed EnvGood.nil Tryz.func148 Tryz.call148 fun args => ?_
  show chacha_shape.L chacha_shape args.toList = _ ∨ ∀ Q m, evF Tryz.prog (envOf []) Tryz.f148 chacha_shape.ann args.toList Q m = chacha_shape.L chacha_shape args.toList Q m
  generalize args.toList = l
  unfold chacha_shape.L
  split
  · exact .inr fun Q m => chacha_shape.geq  _ _ Q m
  · exact .inl rfl
def aead_pad.g (strings_Repeat' : ByteArray → Int → H → (ByteArray → H → Prop) → Prop) (x_s : ByteArray) (h : H) (Q : ByteArray → H → Prop) : Prop :=
M.nz (16 : Int) (
M.val (Int.tmod (ByteArray.size x_s : Int) (16 : Int)) fun z2 =>
M.val (IntKind.wrap .i64 ((16 : Int) - z2)) fun z3 =>
M.nz (16 : Int) (
M.val (Int.tmod z3 (16 : Int)) fun z4 =>
strings_Repeat' (⟨#[0]⟩ : ByteArray) z4 h fun s5 h6 =>
M.cat x_s s5 fun s7 =>
Q s7 h6))
def aead_pad (x_s : ByteArray) (h : H) (Q : ByteArray → H → Prop) : Prop := aead_pad.g strings_Repeat x_s h Q
def aead_pad.L (F : ByteArray → H → (ByteArray → H → Prop) → Prop) : List Value → (Value → H → Prop) → H → Prop
  | [.string x_s] => fun Q h => F x_s h fun s10 h11 => Q (.string s10) h11
  | _ => fun _ _ => False
def aead_pad.W : W := fun args => aead_pad.L aead_pad args.toList
def aead_pad.ann : Ann := ⟨lookN [], lookN [], lookN []⟩
theorem aead_pad.geq (strings_Repeat' : ByteArray → Int → H → (ByteArray → H → Prop) → Prop) (x_s : ByteArray) (Q : Value → H → Prop) (h : H) : evF Tryz.prog (envOf [(57, fun args => strings_Repeat.L strings_Repeat' args.toList)]) Tryz.f152 aead_pad.ann [(.string x_s)] Q h = aead_pad.g strings_Repeat' x_s h fun s10 h11 => Q (.string s10) h11 := by kernel_rfl
theorem aead_pad.good : FnGood Tryz.prog 152 aead_pad.W := by
  refine FnGood.of (ann := aead_pad.ann) (env := envOf [(57, fun args => strings_Repeat.L strings_Repeat args.toList)]) mixed (EnvGood.cons strings_Repeat.good EnvGood.nil) Tryz.func152 Tryz.call152 fun args => ?_
  show aead_pad.L aead_pad args.toList = _ ∨ ∀ Q m, evF Tryz.prog (envOf [(57, fun args => strings_Repeat.L strings_Repeat args.toList)]) Tryz.f152 aead_pad.ann args.toList Q m = aead_pad.L aead_pad args.toList Q m
  generalize args.toList = l
  unfold aead_pad.L
  split
  · exact .inr fun Q m => aead_pad.geq strings_Repeat _ Q m
  · exact .inl rfl
def math_bits_Mul64 (x_x : Int) (x_y : Int) (h : H) (Q : Int → Int → H → Prop) : Prop :=
M.val (bAnd .u64 x_x (4294967295 : Int)) fun z3 =>
M.shr0 (32 : Int) (
M.val (shr .u64 x_x (32 : Int)) fun z4 =>
M.val (bAnd .u64 x_y (4294967295 : Int)) fun z5 =>
M.shr0 (32 : Int) (
M.val (shr .u64 x_y (32 : Int)) fun z6 =>
M.val (IntKind.wrap .u64 (z3 * z5)) fun z7 =>
M.val (IntKind.wrap .u64 (z4 * z5)) fun z8 =>
M.shr0 (32 : Int) (
M.val (shr .u64 z7 (32 : Int)) fun z9 =>
M.val (IntKind.wrap .u64 (z8 + z9)) fun z10 =>
M.val (bAnd .u64 z10 (4294967295 : Int)) fun z11 =>
M.shr0 (32 : Int) (
M.val (shr .u64 z10 (32 : Int)) fun z12 =>
M.val (IntKind.wrap .u64 (z3 * z6)) fun z13 =>
M.val (IntKind.wrap .u64 (z11 + z13)) fun z14 =>
M.val (IntKind.wrap .u64 (z4 * z6)) fun z15 =>
M.val (IntKind.wrap .u64 (z15 + z12)) fun z16 =>
M.shr0 (32 : Int) (
M.val (shr .u64 z14 (32 : Int)) fun z17 =>
M.val (IntKind.wrap .u64 (z16 + z17)) fun z18 =>
M.val (IntKind.wrap .u64 (x_x * x_y)) fun z19 =>
Q z18 z19 h)))))
def math_bits_Mul64.L (F : Int → Int → H → (Int → Int → H → Prop) → Prop) : List Value → (Value → H → Prop) → H → Prop
  | [.int .u64 x_x, .int .u64 x_y] => fun Q h => F x_x x_y h fun n23 n24 h25 => Q (.tuple #[(.int .u64 n23), (.int .u64 n24)]) h25
  | _ => fun _ _ => False
def math_bits_Mul64.W : W := fun args => math_bits_Mul64.L math_bits_Mul64 args.toList
def math_bits_Mul64.ann : Ann := ⟨lookN [], lookN [], lookN []⟩
theorem math_bits_Mul64.geq (x_x : Int) (x_y : Int) (Q : Value → H → Prop) (h : H) : evF Tryz.prog (envOf []) Tryz.f160 math_bits_Mul64.ann [(.int .u64 x_x), (.int .u64 x_y)] Q h = math_bits_Mul64 x_x x_y h fun n23 n24 h25 => Q (.tuple #[(.int .u64 n23), (.int .u64 n24)]) h25 := by kernel_rfl
theorem math_bits_Mul64.good : FnGood Tryz.prog 160 math_bits_Mul64.W := by
  refine FnGood.of (ann := math_bits_Mul64.ann) (env := envOf []) mixed EnvGood.nil Tryz.func160 Tryz.call160 fun args => ?_
  show math_bits_Mul64.L math_bits_Mul64 args.toList = _ ∨ ∀ Q m, evF Tryz.prog (envOf []) Tryz.f160 math_bits_Mul64.ann args.toList Q m = math_bits_Mul64.L math_bits_Mul64 args.toList Q m
  generalize args.toList = l
  unfold math_bits_Mul64.L
  split
  · exact .inr fun Q m => math_bits_Mul64.geq  _ _ Q m
  · exact .inl rfl
def ref01_Text (x_l : Option Addr) (x_lL : Nat) (x_lC : Nat) (x_big : Bool) (h : H) (Q : ByteArray → H → Prop) : Prop :=
M.join (α := (Option Addr × Nat × Nat)) (fun d46 h47 =>
M.b2s h47 d46.1 d46.2.1 fun s48 =>
Q s48 h47) fun J2 =>
M.loop (α := (Option Addr × Nat × Nat) × Int) (fun J3 d4 h5 =>
(bif (decide (d4.2 < ((x_lL : Nat) : Int))) then
M.join (α := (Option Addr × Nat × Nat)) (fun d43 h44 =>
M.val (IntKind.wrap .i64 (d4.2 + (1 : Int))) fun z45 =>
J3 ((d43.1, d43.2.1, d43.2.2), z45) h44) fun J6 =>
M.new h5 (.cells (#[(.int .u8 (0 : Int)), (.int .u8 (0 : Int)), (.int .u8 (0 : Int)), (.int .u8 (0 : Int))] : Array Value) 303) fun b7 h8 =>
M.idx x_l x_lL d4.2 fun a9 j10 =>
M.load h8 (Addr.add a9 (j10 * 1)) fun v11 =>
M.int .u32 v11 fun n12 =>
M.join (α := Unit) (fun d27 h28 =>
M.loop (α := (Option Addr × Nat × Nat) × Int) (fun J29 d30 h31 =>
(bif (decide (d30.2 < (4 : Int))) then
M.aidx 4 d30.2 fun j32 =>
M.load h31 (Addr.add (⟨b7, 0, none⟩ : Addr) (j32 * 1)) fun v33 =>
M.int .u8 v33 fun n34 =>
M.new h31 (.cells (#[(.int .u8 n34)] : Array Value) 5) fun b35 h36 =>
M.cellsOf h36 (some (⟨b35, 0, none⟩ : Addr)) (1 * 1) fun cs41 =>
M.app h36 5 1 1 [(.int .u8 (0 : Int))] d30.1.1 d30.1.2.1 d30.1.2.2 1 cs41 fun a37 l38 c39 h40 =>
M.val (IntKind.wrap .i64 (d30.2 + (1 : Int))) fun z42 =>
J29 ((a37, l38, c39), z42) h40
else
J6 (d30.1.1, d30.1.2.1, d30.1.2.2) h31)) ((d4.1.1, d4.1.2.1, d4.1.2.2), (0 : Int)) h28) fun J13 =>
M.loop (α := Int × Int) (fun J14 d15 h16 =>
(bif (decide (d15.2 < (4 : Int))) then
M.join (α := Int) (fun d19 h20 =>
M.nz (256 : Int) (
M.val (Int.tmod d15.1 (256 : Int)) fun z21 =>
M.val (IntKind.wrap .u8 z21) fun z22 =>
M.aidx 4 d19 fun j23 =>
M.put h20 (Addr.add (⟨b7, 0, none⟩ : Addr) (j23 * 1)) (.int .u8 z22) fun h24 =>
M.nz (256 : Int) (
M.val (IntKind.wrap .u32 (Int.tdiv d15.1 (256 : Int))) fun z25 =>
M.val (IntKind.wrap .i64 (d15.2 + (1 : Int))) fun z26 =>
J14 (z25, z26) h24))) fun J17 =>
(bif x_big then
M.val (IntKind.wrap .i64 ((3 : Int) - d15.2)) fun z18 =>
J17 z18 h16
else
J17 d15.2 h16)
else
J13 () h16)) (n12, (0 : Int)) h8
else
J2 (d4.1.1, d4.1.2.1, d4.1.2.2) h5)) ((none, 0, 0), (0 : Int)) h
def ref01_Text.L (F : Option Addr → Nat → Nat → Bool → H → (ByteArray → H → Prop) → Prop) : List Value → (Value → H → Prop) → H → Prop
  | [.slice x_l x_lL x_lC, .bool x_big] => fun Q h => F x_l x_lL x_lC x_big h fun s51 h52 => Q (.string s51) h52
  | _ => fun _ _ => False
def ref01_Text.W : W := fun args => ref01_Text.L ref01_Text args.toList
def ref01_Text.ann : Ann := ⟨lookN [], lookN [(7, [(5, .slc)]), (233, [(5, .slc)]), (3731, []), (955209, [(10, .int .i64)])], lookN [(58, [(5, .slc), (6, .int .i64)]), (29850, [(8, .int .u32), (9, .int .i64)]), (29854, [(5, .slc), (11, .int .i64)])]⟩
theorem ref01_Text.geq (x_l : Option Addr) (x_lL : Nat) (x_lC : Nat) (x_big : Bool) (Q : Value → H → Prop) (h : H) : evF Tryz.prog (envOf []) Tryz.f188 ref01_Text.ann [(.slice x_l x_lL x_lC), (.bool x_big)] Q h = ref01_Text x_l x_lL x_lC x_big h fun s51 h52 => Q (.string s51) h52 := by kernel_rfl
theorem ref01_Text.good : FnGood Tryz.prog 188 ref01_Text.W := by
  refine FnGood.of (ann := ref01_Text.ann) (env := envOf []) mixed EnvGood.nil Tryz.func188 Tryz.call188 fun args => ?_
  show ref01_Text.L ref01_Text args.toList = _ ∨ ∀ Q m, evF Tryz.prog (envOf []) Tryz.f188 ref01_Text.ann args.toList Q m = ref01_Text.L ref01_Text args.toList Q m
  generalize args.toList = l
  unfold ref01_Text.L
  split
  · exact .inr fun Q m => ref01_Text.geq  _ _ _ _ Q m
  · exact .inl rfl
def words_FromLittle (x_l : Option Addr) (x_lL : Nat) (x_lC : Nat) (h : H) (Q : ByteArray → H → Prop) : Prop :=
M.val (IntKind.wrap .i64 ((4 : Int) * ((x_lL : Nat) : Int))) fun z2 =>
M.mk h 5 [(.int .u8 (0 : Int))] 1 (0 : Int) z2 fun a3 l4 c5 h6 =>
M.join (α := (Option Addr × Nat × Nat)) (fun d30 h31 =>
M.b2s h31 d30.1 d30.2.1 fun s32 =>
Q s32 h31) fun J7 =>
M.loop (α := (Option Addr × Nat × Nat) × Int) (fun J8 d9 h10 =>
(bif (decide (d9.2 < ((x_lL : Nat) : Int))) then
M.idx x_l x_lL d9.2 fun a11 j12 =>
M.load h10 (Addr.add a11 (j12 * 1)) fun v13 =>
M.int .u32 v13 fun n14 =>
M.val (IntKind.wrap .u8 n14) fun z15 =>
M.shr0 (8 : Int) (
M.val (shr .u32 n14 (8 : Int)) fun z16 =>
M.val (IntKind.wrap .u8 z16) fun z17 =>
M.shr0 (16 : Int) (
M.val (shr .u32 n14 (16 : Int)) fun z18 =>
M.val (IntKind.wrap .u8 z18) fun z19 =>
M.shr0 (24 : Int) (
M.val (shr .u32 n14 (24 : Int)) fun z20 =>
M.val (IntKind.wrap .u8 z20) fun z21 =>
M.new h10 (.cells (#[(.int .u8 z15), (.int .u8 z17), (.int .u8 z19), (.int .u8 z21)] : Array Value) 5) fun b22 h23 =>
M.cellsOf h23 (some (⟨b22, 0, none⟩ : Addr)) (4 * 1) fun cs28 =>
M.app h23 5 1 1 [(.int .u8 (0 : Int))] d9.1.1 d9.1.2.1 d9.1.2.2 4 cs28 fun a24 l25 c26 h27 =>
M.val (IntKind.wrap .i64 (d9.2 + (1 : Int))) fun z29 =>
J8 ((a24, l25, c26), z29) h27)))
else
J7 (d9.1.1, d9.1.2.1, d9.1.2.2) h10)) ((a3, l4, c5), (0 : Int)) h6
def words_FromLittle.L (F : Option Addr → Nat → Nat → H → (ByteArray → H → Prop) → Prop) : List Value → (Value → H → Prop) → H → Prop
  | [.slice x_l x_lL x_lC] => fun Q h => F x_l x_lL x_lC h fun s35 h36 => Q (.string s35) h36
  | _ => fun _ _ => False
def words_FromLittle.W : W := fun args => words_FromLittle.L words_FromLittle args.toList
def words_FromLittle.ann : Ann := ⟨lookN [], lookN [(7, [(3, .slc)])], lookN [(58, [(3, .slc), (12, .int .i64)])]⟩
theorem words_FromLittle.geq (x_l : Option Addr) (x_lL : Nat) (x_lC : Nat) (Q : Value → H → Prop) (h : H) : evF Tryz.prog (envOf []) Tryz.f191 words_FromLittle.ann [(.slice x_l x_lL x_lC)] Q h = words_FromLittle x_l x_lL x_lC h fun s35 h36 => Q (.string s35) h36 := by kernel_rfl
theorem words_FromLittle.good : FnGood Tryz.prog 191 words_FromLittle.W := by
  refine FnGood.of (ann := words_FromLittle.ann) (env := envOf []) mixed EnvGood.nil Tryz.func191 Tryz.call191 fun args => ?_
  show words_FromLittle.L words_FromLittle args.toList = _ ∨ ∀ Q m, evF Tryz.prog (envOf []) Tryz.f191 words_FromLittle.ann args.toList Q m = words_FromLittle.L words_FromLittle args.toList Q m
  generalize args.toList = l
  unfold words_FromLittle.L
  split
  · exact .inr fun Q m => words_FromLittle.geq  _ _ _ Q m
  · exact .inl rfl
def poly_Clamp (x_r : ByteArray) (h : H) (Q : ByteArray → Int → H → Prop) : Prop :=
(bif ((ByteArray.size x_r : Int) != (16 : Int)) then
Q (ByteArray.empty) (7 : Int) h
else
M.s2b h 5 x_r fun a3 l4 c5 h6 =>
M.join (α := Unit) (fun d35 h36 =>
M.b2s h36 a3 l4 fun s37 =>
Q s37 (0 : Int) h36) fun J7 =>
M.loop (α := Int) (fun J8 d9 h10 =>
(bif (decide (d9 < ((l4 : Nat) : Int))) then
M.nz (4 : Int) (
M.val (Int.tmod d9 (4 : Int)) fun z11 =>
(bif (z11 == (3 : Int)) then
M.idx a3 l4 d9 fun a12 j13 =>
M.load h10 (Addr.add a12 (j13 * 1)) fun v14 =>
M.int .u8 v14 fun n15 =>
M.val (bAnd .u8 n15 (15 : Int)) fun z16 =>
M.idx a3 l4 d9 fun a17 j18 =>
M.put h10 (Addr.add a17 (j18 * 1)) (.int .u8 z16) fun h19 =>
M.val (IntKind.wrap .i64 (d9 + (1 : Int))) fun z20 =>
J8 z20 h19
else
M.join (α := Bool) (fun d23 h24 =>
(bif d23 then
M.idx a3 l4 d9 fun a25 j26 =>
M.load h24 (Addr.add a25 (j26 * 1)) fun v27 =>
M.int .u8 v27 fun n28 =>
M.val (bAnd .u8 n28 (252 : Int)) fun z29 =>
M.idx a3 l4 d9 fun a30 j31 =>
M.put h24 (Addr.add a30 (j31 * 1)) (.int .u8 z29) fun h32 =>
M.val (IntKind.wrap .i64 (d9 + (1 : Int))) fun z33 =>
J8 z33 h32
else
M.val (IntKind.wrap .i64 (d9 + (1 : Int))) fun z34 =>
J8 z34 h24)) fun J21 =>
M.nz (4 : Int) (
M.val (Int.tmod d9 (4 : Int)) fun z22 =>
(bif (z22 == (0 : Int)) then
J21 (decide (d9 > (0 : Int))) h10
else
J21 false h10))))
else
J7 () h10)) (0 : Int) h6)
def poly_Clamp.L (F : ByteArray → H → (ByteArray → Int → H → Prop) → Prop) : List Value → (Value → H → Prop) → H → Prop
  | [.string x_r] => fun Q h => F x_r h fun s41 n42 h43 => Q (.tuple #[(.string s41), (.int .i64 n42)]) h43
  | _ => fun _ _ => False
def poly_Clamp.W : W := fun args => poly_Clamp.L poly_Clamp args.toList
def poly_Clamp.ann : Ann := ⟨lookN [(9, [(26, .bool)])], lookN [(15, [])], lookN [(122, [(13, .int .i64)])]⟩
theorem poly_Clamp.geq (x_r : ByteArray) (Q : Value → H → Prop) (h : H) : evF Tryz.prog (envOf []) Tryz.f192 poly_Clamp.ann [(.string x_r)] Q h = poly_Clamp x_r h fun s41 n42 h43 => Q (.tuple #[(.string s41), (.int .i64 n42)]) h43 := by kernel_rfl
theorem poly_Clamp.good : FnGood Tryz.prog 192 poly_Clamp.W := by
  refine FnGood.of (ann := poly_Clamp.ann) (env := envOf []) mixed EnvGood.nil Tryz.func192 Tryz.call192 fun args => ?_
  show poly_Clamp.L poly_Clamp args.toList = _ ∨ ∀ Q m, evF Tryz.prog (envOf []) Tryz.f192 poly_Clamp.ann args.toList Q m = poly_Clamp.L poly_Clamp args.toList Q m
  generalize args.toList = l
  unfold poly_Clamp.L
  split
  · exact .inr fun Q m => poly_Clamp.geq  _ Q m
  · exact .inl rfl
def words_Left (x_x : Int) (x_n : Int) (h : H) (Q : Int → H → Prop) : Prop :=
M.val (IntKind.wrap .u64 x_n) fun z2 =>
M.nz (32 : Int) (
M.val (Int.tmod z2 (32 : Int)) fun z3 =>
M.shr0 z3 (
M.val (shl .u32 x_x z3) fun z4 =>
M.val (IntKind.wrap .u64 ((32 : Int) - z3)) fun z5 =>
M.shr0 z5 (
M.val (shr .u32 x_x z5) fun z6 =>
M.val (bOr .u32 z4 z6) fun z7 =>
Q z7 h)))
def words_Left.L (F : Int → Int → H → (Int → H → Prop) → Prop) : List Value → (Value → H → Prop) → H → Prop
  | [.int .u32 x_x, .int .i64 x_n] => fun Q h => F x_x x_n h fun n10 h11 => Q (.int .u32 n10) h11
  | _ => fun _ _ => False
def words_Left.W : W := fun args => words_Left.L words_Left args.toList
def words_Left.ann : Ann := ⟨lookN [], lookN [], lookN []⟩
theorem words_Left.geq (x_x : Int) (x_n : Int) (Q : Value → H → Prop) (h : H) : evF Tryz.prog (envOf []) Tryz.f205 words_Left.ann [(.int .u32 x_x), (.int .i64 x_n)] Q h = words_Left x_x x_n h fun n10 h11 => Q (.int .u32 n10) h11 := by kernel_rfl
theorem words_Left.good : FnGood Tryz.prog 205 words_Left.W := by
  refine FnGood.of (ann := words_Left.ann) (env := envOf []) mixed EnvGood.nil Tryz.func205 Tryz.call205 fun args => ?_
  show words_Left.L words_Left args.toList = _ ∨ ∀ Q m, evF Tryz.prog (envOf []) Tryz.f205 words_Left.ann args.toList Q m = words_Left.L words_Left args.toList Q m
  generalize args.toList = l
  unfold words_Left.L
  split
  · exact .inr fun Q m => words_Left.geq  _ _ Q m
  · exact .inl rfl
def ref12_size (x_pairs : Int) (h : H) (Q : Int → H → Prop) : Prop :=
(bif (x_pairs == (1 : Int)) then
Q (2 : Int) h
else
(bif (x_pairs == (2 : Int)) then
Q (4 : Int) h
else
(bif (x_pairs == (3 : Int)) then
Q (8 : Int) h
else
(bif (x_pairs == (4 : Int)) then
Q (16 : Int) h
else
Q (0 : Int) h))))
def ref01_Words (x_s : ByteArray) (x_big : Bool) (h : H) (Q : Option Addr → Nat → Nat → Int → H → Prop) : Prop :=
M.nz (4 : Int) (
M.val (Int.tmod (ByteArray.size x_s : Int) (4 : Int)) fun z5 =>
(bif (z5 != (0 : Int)) then
Q none 0 0 (7 : Int) h
else
M.join (α := (Option Addr × Nat × Nat)) (fun d38 h39 =>
Q d38.1 d38.2.1 d38.2.2 (0 : Int) h39) fun J6 =>
M.loop (α := (Option Addr × Nat × Nat) × Int) (fun J7 d8 h9 =>
(bif (decide (d8.2 < (ByteArray.size x_s : Int))) then
M.join (α := (Option Addr × Nat × Nat)) (fun d35 h36 =>
M.val (IntKind.wrap .i64 (d8.2 + (4 : Int))) fun z37 =>
J7 ((d35.1, d35.2.1, d35.2.2), z37) h36) fun J10 =>
M.join (α := Int) (fun d26 h27 =>
M.new h27 (.cells (#[(.int .u32 d26)] : Array Value) 178) fun b28 h29 =>
M.cellsOf h29 (some (⟨b28, 0, none⟩ : Addr)) (1 * 1) fun cs34 =>
M.app h29 178 1 4 [(.int .u32 (0 : Int))] d8.1.1 d8.1.2.1 d8.1.2.2 1 cs34 fun a30 l31 c32 h33 =>
J10 (a30, l31, c32) h33) fun J11 =>
M.loop (α := Int × Int) (fun J12 d13 h14 =>
(bif (decide (d13.2 < (4 : Int))) then
M.val (IntKind.wrap .i64 (d8.2 + (3 : Int))) fun z15 =>
M.val (IntKind.wrap .i64 (z15 - d13.2)) fun z16 =>
M.join (α := Int) (fun d19 h20 =>
M.val (IntKind.wrap .u32 ((256 : Int) * d13.1)) fun z21 =>
M.byte x_s d19 fun n22 =>
M.val (IntKind.wrap .u32 n22) fun z23 =>
M.val (IntKind.wrap .u32 (z21 + z23)) fun z24 =>
M.val (IntKind.wrap .i64 (d13.2 + (1 : Int))) fun z25 =>
J12 (z24, z25) h20) fun J17 =>
(bif x_big then
M.val (IntKind.wrap .i64 (d8.2 + d13.2)) fun z18 =>
J17 z18 h14
else
J17 z16 h14)
else
J11 d13.1 h14)) ((0 : Int), (0 : Int)) h9
else
J6 (d8.1.1, d8.1.2.1, d8.1.2.2) h9)) ((none, 0, 0), (0 : Int)) h))
def ref01_Words.L (F : ByteArray → Bool → H → (Option Addr → Nat → Nat → Int → H → Prop) → Prop) : List Value → (Value → H → Prop) → H → Prop
  | [.string x_s, .bool x_big] => fun Q h => F x_s x_big h fun a45 l46 c47 n48 h49 => Q (.tuple #[(.slice a45 l46 c47), (.int .i64 n48)]) h49
  | _ => fun _ _ => False
def ref01_Words.W : W := fun args => ref01_Words.L ref01_Words args.toList
def ref01_Words.ann : Ann := ⟨lookN [], lookN [(15, [(6, .slc)]), (489, [(6, .slc)]), (3913, [(8, .int .u32)]), (1001801, [(10, .int .i64)])], lookN [(122, [(6, .slc), (7, .int .i64)]), (31306, [(8, .int .u32), (9, .int .i64)])]⟩
theorem ref01_Words.geq (x_s : ByteArray) (x_big : Bool) (Q : Value → H → Prop) (h : H) : evF Tryz.prog (envOf []) Tryz.f217 ref01_Words.ann [(.string x_s), (.bool x_big)] Q h = ref01_Words x_s x_big h fun a45 l46 c47 n48 h49 => Q (.tuple #[(.slice a45 l46 c47), (.int .i64 n48)]) h49 := by kernel_rfl
theorem ref01_Words.good : FnGood Tryz.prog 217 ref01_Words.W := by
  refine FnGood.of (ann := ref01_Words.ann) (env := envOf []) mixed EnvGood.nil Tryz.func217 Tryz.call217 fun args => ?_
  show ref01_Words.L ref01_Words args.toList = _ ∨ ∀ Q m, evF Tryz.prog (envOf []) Tryz.f217 ref01_Words.ann args.toList Q m = ref01_Words.L ref01_Words args.toList Q m
  generalize args.toList = l
  unfold ref01_Words.L
  split
  · exact .inr fun Q m => ref01_Words.geq  _ _ Q m
  · exact .inl rfl
def ref05_pick (x_x : Int) (x_y : Int) (x_z : Int) (h : H) (Q : Int → H → Prop) : Prop :=
M.val (bAnd .u32 x_x x_y) fun z2 =>
M.val (IntKind.wrap .u32 ((4294967295 : Int) - x_x)) fun z3 =>
M.val (bAnd .u32 z3 x_z) fun z4 =>
M.val (bXor .u32 z2 z4) fun z5 =>
Q z5 h
def ref05_pick.L (F : Int → Int → Int → H → (Int → H → Prop) → Prop) : List Value → (Value → H → Prop) → H → Prop
  | [.int .u32 x_x, .int .u32 x_y, .int .u32 x_z] => fun Q h => F x_x x_y x_z h fun n8 h9 => Q (.int .u32 n8) h9
  | _ => fun _ _ => False
def ref05_pick.W : W := fun args => ref05_pick.L ref05_pick args.toList
def ref05_pick.ann : Ann := ⟨lookN [], lookN [], lookN []⟩
theorem ref05_pick.geq (x_x : Int) (x_y : Int) (x_z : Int) (Q : Value → H → Prop) (h : H) : evF Tryz.prog (envOf []) Tryz.f220 ref05_pick.ann [(.int .u32 x_x), (.int .u32 x_y), (.int .u32 x_z)] Q h = ref05_pick x_x x_y x_z h fun n8 h9 => Q (.int .u32 n8) h9 := by kernel_rfl
theorem ref05_pick.good : FnGood Tryz.prog 220 ref05_pick.W := by
  refine FnGood.of (ann := ref05_pick.ann) (env := envOf []) mixed EnvGood.nil Tryz.func220 Tryz.call220 fun args => ?_
  show ref05_pick.L ref05_pick args.toList = _ ∨ ∀ Q m, evF Tryz.prog (envOf []) Tryz.f220 ref05_pick.ann args.toList Q m = ref05_pick.L ref05_pick args.toList Q m
  generalize args.toList = l
  unfold ref05_pick.L
  split
  · exact .inr fun Q m => ref05_pick.geq  _ _ _ Q m
  · exact .inl rfl
def ref05_most (x_x : Int) (x_y : Int) (x_z : Int) (h : H) (Q : Int → H → Prop) : Prop :=
M.val (bAnd .u32 x_x x_y) fun z2 =>
M.val (bAnd .u32 x_x x_z) fun z3 =>
M.val (bXor .u32 z2 z3) fun z4 =>
M.val (bAnd .u32 x_y x_z) fun z5 =>
M.val (bXor .u32 z4 z5) fun z6 =>
Q z6 h
def ref05_most.L (F : Int → Int → Int → H → (Int → H → Prop) → Prop) : List Value → (Value → H → Prop) → H → Prop
  | [.int .u32 x_x, .int .u32 x_y, .int .u32 x_z] => fun Q h => F x_x x_y x_z h fun n9 h10 => Q (.int .u32 n9) h10
  | _ => fun _ _ => False
def ref05_most.W : W := fun args => ref05_most.L ref05_most args.toList
def ref05_most.ann : Ann := ⟨lookN [], lookN [], lookN []⟩
theorem ref05_most.geq (x_x : Int) (x_y : Int) (x_z : Int) (Q : Value → H → Prop) (h : H) : evF Tryz.prog (envOf []) Tryz.f221 ref05_most.ann [(.int .u32 x_x), (.int .u32 x_y), (.int .u32 x_z)] Q h = ref05_most x_x x_y x_z h fun n9 h10 => Q (.int .u32 n9) h10 := by kernel_rfl
theorem ref05_most.good : FnGood Tryz.prog 221 ref05_most.W := by
  refine FnGood.of (ann := ref05_most.ann) (env := envOf []) mixed EnvGood.nil Tryz.func221 Tryz.call221 fun args => ?_
  show ref05_most.L ref05_most args.toList = _ ∨ ∀ Q m, evF Tryz.prog (envOf []) Tryz.f221 ref05_most.ann args.toList Q m = ref05_most.L ref05_most args.toList Q m
  generalize args.toList = l
  unfold ref05_most.L
  split
  · exact .inr fun Q m => ref05_most.geq  _ _ _ Q m
  · exact .inl rfl
def words_Little_1 (x_a : Int) (x_b : Int) (x_c : Int) (x_d : Int) (h : H) (Q : Int → H → Prop) : Prop :=
M.shr0 (8 : Int) (
M.val (shl .u32 x_b (8 : Int)) fun z2 =>
M.val (bOr .u32 x_a z2) fun z3 =>
M.shr0 (16 : Int) (
M.val (shl .u32 x_c (16 : Int)) fun z4 =>
M.val (bOr .u32 z3 z4) fun z5 =>
M.shr0 (24 : Int) (
M.val (shl .u32 x_d (24 : Int)) fun z6 =>
M.val (bOr .u32 z5 z6) fun z7 =>
Q z7 h)))
def words_Little_1.L (F : Int → Int → Int → Int → H → (Int → H → Prop) → Prop) : List Value → (Value → H → Prop) → H → Prop
  | [.int .u32 x_a, .int .u32 x_b, .int .u32 x_c, .int .u32 x_d] => fun Q h => F x_a x_b x_c x_d h fun n10 h11 => Q (.int .u32 n10) h11
  | _ => fun _ _ => False
def words_Little_1.W : W := fun args => words_Little_1.L words_Little_1 args.toList
def words_Little_1.ann : Ann := ⟨lookN [], lookN [], lookN []⟩
theorem words_Little_1.geq (x_a : Int) (x_b : Int) (x_c : Int) (x_d : Int) (Q : Value → H → Prop) (h : H) : evF Tryz.prog (envOf []) Tryz.f223 words_Little_1.ann [(.int .u32 x_a), (.int .u32 x_b), (.int .u32 x_c), (.int .u32 x_d)] Q h = words_Little_1 x_a x_b x_c x_d h fun n10 h11 => Q (.int .u32 n10) h11 := by kernel_rfl
theorem words_Little_1.good : FnGood Tryz.prog 223 words_Little_1.W := by
  refine FnGood.of (ann := words_Little_1.ann) (env := envOf []) mixed EnvGood.nil Tryz.func223 Tryz.call223 fun args => ?_
  show words_Little_1.L words_Little_1 args.toList = _ ∨ ∀ Q m, evF Tryz.prog (envOf []) Tryz.f223 words_Little_1.ann args.toList Q m = words_Little_1.L words_Little_1 args.toList Q m
  generalize args.toList = l
  unfold words_Little_1.L
  split
  · exact .inr fun Q m => words_Little_1.geq  _ _ _ _ Q m
  · exact .inl rfl
def chacha_Quarter.g (words_Left' : Int → Int → H → (Int → H → Prop) → Prop) (x_a : Int) (x_b : Int) (x_c : Int) (x_d : Int) (h : H) (Q : Int → Int → Int → Int → H → Prop) : Prop :=
M.join (α := Int × Int × Int × Int) (fun d32 h33 =>
Q d32.1 d32.2.1 d32.2.2.1 d32.2.2.2 h33) fun J5 =>
M.loop (α := Int × Int × Int × Int × Int) (fun J6 d7 h8 =>
(bif (decide (d7.2.2.2.2 < (2 : Int))) then
M.aidx 2 d7.2.2.2.2 fun j9 =>
M.at (#[(.int .i64 (16 : Int)), (.int .i64 (12 : Int)), (.int .i64 (8 : Int)), (.int .i64 (7 : Int))] : Array Value) (j9 * 2) fun v10 =>
M.int .i64 v10 fun n11 =>
M.at (#[(.int .i64 (16 : Int)), (.int .i64 (12 : Int)), (.int .i64 (8 : Int)), (.int .i64 (7 : Int))] : Array Value) (j9 * 2 + 1) fun v12 =>
M.int .i64 v12 fun n13 =>
M.new h8 (.cells (#[(.int .i64 (0 : Int)), (.int .i64 (0 : Int))] : Array Value) 66) fun b14 h15 =>
M.req (Array.size (#[(.int .i64 n11), (.int .i64 n13)] : Array Value) = 2) (M.puts h15 (⟨b14, 0, none⟩ : Addr) [(.int .i64 n11), (.int .i64 n13)] fun h16 =>
M.val (IntKind.wrap .u32 (d7.1 + d7.2.1)) fun z17 =>
M.val (bXor .u32 d7.2.2.2.1 z17) fun z18 =>
M.aidx 2 (0 : Int) fun j19 =>
M.load h16 (Addr.add (⟨b14, 0, none⟩ : Addr) (j19 * 1)) fun v20 =>
M.int .i64 v20 fun n21 =>
words_Left' z18 n21 h16 fun n22 h23 =>
M.val (IntKind.wrap .u32 (d7.2.2.1 + n22)) fun z24 =>
M.val (bXor .u32 d7.2.1 z24) fun z25 =>
M.aidx 2 (1 : Int) fun j26 =>
M.load h23 (Addr.add (⟨b14, 0, none⟩ : Addr) (j26 * 1)) fun v27 =>
M.int .i64 v27 fun n28 =>
words_Left' z25 n28 h23 fun n29 h30 =>
M.val (IntKind.wrap .i64 (d7.2.2.2.2 + (1 : Int))) fun z31 =>
J6 (z17, n29, z24, n22, z31) h30)
else
J5 (d7.1, d7.2.1, d7.2.2.1, d7.2.2.2.1) h8)) (x_a, x_b, x_c, x_d, (0 : Int)) h
def chacha_Quarter (x_a : Int) (x_b : Int) (x_c : Int) (x_d : Int) (h : H) (Q : Int → Int → Int → Int → H → Prop) : Prop := chacha_Quarter.g words_Left x_a x_b x_c x_d h Q
def chacha_Quarter.L (F : Int → Int → Int → Int → H → (Int → Int → Int → Int → H → Prop) → Prop) : List Value → (Value → H → Prop) → H → Prop
  | [.int .u32 x_a, .int .u32 x_b, .int .u32 x_c, .int .u32 x_d] => fun Q h => F x_a x_b x_c x_d h fun n39 n40 n41 n42 h43 => Q (.tuple #[(.int .u32 n39), (.int .u32 n40), (.int .u32 n41), (.int .u32 n42)]) h43
  | _ => fun _ _ => False
def chacha_Quarter.W : W := fun args => chacha_Quarter.L chacha_Quarter args.toList
def chacha_Quarter.ann : Ann := ⟨lookN [], lookN [(3, [(0, .int .u32), (1, .int .u32), (2, .int .u32), (3, .int .u32)])], lookN [(26, [(0, .int .u32), (1, .int .u32), (2, .int .u32), (3, .int .u32), (17, .int .i64)])]⟩
theorem chacha_Quarter.geq (words_Left' : Int → Int → H → (Int → H → Prop) → Prop) (x_a : Int) (x_b : Int) (x_c : Int) (x_d : Int) (Q : Value → H → Prop) (h : H) : evF Tryz.prog (envOf [(205, fun args => words_Left.L words_Left' args.toList)]) Tryz.f224 chacha_Quarter.ann [(.int .u32 x_a), (.int .u32 x_b), (.int .u32 x_c), (.int .u32 x_d)] Q h = chacha_Quarter.g words_Left' x_a x_b x_c x_d h fun n39 n40 n41 n42 h43 => Q (.tuple #[(.int .u32 n39), (.int .u32 n40), (.int .u32 n41), (.int .u32 n42)]) h43 := by kernel_rfl
theorem chacha_Quarter.good : FnGood Tryz.prog 224 chacha_Quarter.W := by
  refine FnGood.of (ann := chacha_Quarter.ann) (env := envOf [(205, fun args => words_Left.L words_Left args.toList)]) mixed (EnvGood.cons words_Left.good EnvGood.nil) Tryz.func224 Tryz.call224 fun args => ?_
  show chacha_Quarter.L chacha_Quarter args.toList = _ ∨ ∀ Q m, evF Tryz.prog (envOf [(205, fun args => words_Left.L words_Left args.toList)]) Tryz.f224 chacha_Quarter.ann args.toList Q m = chacha_Quarter.L chacha_Quarter args.toList Q m
  generalize args.toList = l
  unfold chacha_Quarter.L
  split
  · exact .inr fun Q m => chacha_Quarter.geq words_Left _ _ _ _ Q m
  · exact .inl rfl
def poly_limbs_carry (x_a : Option Addr) (h : H) (Q : H → Prop) : Prop :=
M.join (α := Int) (fun d27 h28 =>
M.nn x_a fun a29 =>
M.aidx 5 (0 : Int) fun j30 =>
M.load h28 (Addr.add a29 (j30 * 1)) fun v31 =>
M.int .u64 v31 fun n32 =>
M.val (IntKind.wrap .u64 (d27 * (5 : Int))) fun z33 =>
M.val (IntKind.wrap .u64 (n32 + z33)) fun z34 =>
M.nn x_a fun a35 =>
M.aidx 5 (0 : Int) fun j36 =>
M.put h28 (Addr.add a35 (j36 * 1)) (.int .u64 z34) fun h37 =>
M.nn x_a fun a38 =>
M.aidx 5 (1 : Int) fun j39 =>
M.load h37 (Addr.add a38 (j39 * 1)) fun v40 =>
M.int .u64 v40 fun n41 =>
M.nn x_a fun a42 =>
M.aidx 5 (0 : Int) fun j43 =>
M.load h37 (Addr.add a42 (j43 * 1)) fun v44 =>
M.int .u64 v44 fun n45 =>
M.shr0 (26 : Int) (
M.val (shr .u64 n45 (26 : Int)) fun z46 =>
M.val (IntKind.wrap .u64 (n41 + z46)) fun z47 =>
M.nn x_a fun a48 =>
M.aidx 5 (1 : Int) fun j49 =>
M.put h37 (Addr.add a48 (j49 * 1)) (.int .u64 z47) fun h50 =>
M.nn x_a fun a51 =>
M.aidx 5 (0 : Int) fun j52 =>
M.load h50 (Addr.add a51 (j52 * 1)) fun v53 =>
M.int .u64 v53 fun n54 =>
M.val (bAnd .u64 n54 (67108863 : Int)) fun z55 =>
M.nn x_a fun a56 =>
M.aidx 5 (0 : Int) fun j57 =>
M.put h50 (Addr.add a56 (j57 * 1)) (.int .u64 z55) fun h58 =>
Q  h58)) fun J1 =>
M.loop (α := Int × Int) (fun J2 d3 h4 =>
(bif (decide (d3.2 < (5 : Int))) then
M.nn x_a fun a5 =>
M.aidx 5 d3.2 fun j6 =>
M.load h4 (Addr.add a5 (j6 * 1)) fun v7 =>
M.int .u64 v7 fun n8 =>
M.val (IntKind.wrap .u64 (n8 + d3.1)) fun z9 =>
M.nn x_a fun a10 =>
M.aidx 5 d3.2 fun j11 =>
M.put h4 (Addr.add a10 (j11 * 1)) (.int .u64 z9) fun h12 =>
M.nn x_a fun a13 =>
M.aidx 5 d3.2 fun j14 =>
M.load h12 (Addr.add a13 (j14 * 1)) fun v15 =>
M.int .u64 v15 fun n16 =>
M.shr0 (26 : Int) (
M.val (shr .u64 n16 (26 : Int)) fun z17 =>
M.nn x_a fun a18 =>
M.aidx 5 d3.2 fun j19 =>
M.load h12 (Addr.add a18 (j19 * 1)) fun v20 =>
M.int .u64 v20 fun n21 =>
M.val (bAnd .u64 n21 (67108863 : Int)) fun z22 =>
M.nn x_a fun a23 =>
M.aidx 5 d3.2 fun j24 =>
M.put h12 (Addr.add a23 (j24 * 1)) (.int .u64 z22) fun h25 =>
M.val (IntKind.wrap .i64 (d3.2 + (1 : Int))) fun z26 =>
J2 (z17, z26) h25)
else
J1 d3.1 h4)) ((0 : Int), (0 : Int)) h
def poly_limbs_carry.L (F : Option Addr → H → (H → Prop) → Prop) : List Value → (Value → H → Prop) → H → Prop
  | [.pointer x_a] => fun Q h => F x_a h fun h60 => Q (.tuple #[]) h60
  | _ => fun _ _ => False
def poly_limbs_carry.W : W := fun args => poly_limbs_carry.L poly_limbs_carry args.toList
def poly_limbs_carry.ann : Ann := ⟨lookN [], lookN [(3, [(2, .int .u64)])], lookN [(26, [(2, .int .u64), (4, .int .i64)])]⟩
theorem poly_limbs_carry.geq (x_a : Option Addr) (Q : Value → H → Prop) (h : H) : evF Tryz.prog (envOf []) Tryz.f225 poly_limbs_carry.ann [(.pointer x_a)] Q h = poly_limbs_carry x_a h fun h60 => Q (.tuple #[]) h60 := by kernel_rfl
theorem poly_limbs_carry.good : FnGood Tryz.prog 225 poly_limbs_carry.W := by
  refine FnGood.of (ann := poly_limbs_carry.ann) (env := envOf []) mixed EnvGood.nil Tryz.func225 Tryz.call225 fun args => ?_
  show poly_limbs_carry.L poly_limbs_carry args.toList = _ ∨ ∀ Q m, evF Tryz.prog (envOf []) Tryz.f225 poly_limbs_carry.ann args.toList Q m = poly_limbs_carry.L poly_limbs_carry args.toList Q m
  generalize args.toList = l
  unfold poly_limbs_carry.L
  split
  · exact .inr fun Q m => poly_limbs_carry.geq  _ Q m
  · exact .inl rfl
def words_Big_1 (x_a : Int) (x_b : Int) (x_c : Int) (x_d : Int) (h : H) (Q : Int → H → Prop) : Prop :=
M.shr0 (24 : Int) (
M.val (shl .u32 x_a (24 : Int)) fun z2 =>
M.shr0 (16 : Int) (
M.val (shl .u32 x_b (16 : Int)) fun z3 =>
M.val (bOr .u32 z2 z3) fun z4 =>
M.shr0 (8 : Int) (
M.val (shl .u32 x_c (8 : Int)) fun z5 =>
M.val (bOr .u32 z4 z5) fun z6 =>
M.val (bOr .u32 z6 x_d) fun z7 =>
Q z7 h)))
def words_Big_1.L (F : Int → Int → Int → Int → H → (Int → H → Prop) → Prop) : List Value → (Value → H → Prop) → H → Prop
  | [.int .u32 x_a, .int .u32 x_b, .int .u32 x_c, .int .u32 x_d] => fun Q h => F x_a x_b x_c x_d h fun n10 h11 => Q (.int .u32 n10) h11
  | _ => fun _ _ => False
def words_Big_1.W : W := fun args => words_Big_1.L words_Big_1 args.toList
def words_Big_1.ann : Ann := ⟨lookN [], lookN [], lookN []⟩
theorem words_Big_1.geq (x_a : Int) (x_b : Int) (x_c : Int) (x_d : Int) (Q : Value → H → Prop) (h : H) : evF Tryz.prog (envOf []) Tryz.f237 words_Big_1.ann [(.int .u32 x_a), (.int .u32 x_b), (.int .u32 x_c), (.int .u32 x_d)] Q h = words_Big_1 x_a x_b x_c x_d h fun n10 h11 => Q (.int .u32 n10) h11 := by kernel_rfl
theorem words_Big_1.good : FnGood Tryz.prog 237 words_Big_1.W := by
  refine FnGood.of (ann := words_Big_1.ann) (env := envOf []) mixed EnvGood.nil Tryz.func237 Tryz.call237 fun args => ?_
  show words_Big_1.L words_Big_1 args.toList = _ ∨ ∀ Q m, evF Tryz.prog (envOf []) Tryz.f237 words_Big_1.ann args.toList Q m = words_Big_1.L words_Big_1 args.toList Q m
  generalize args.toList = l
  unfold words_Big_1.L
  split
  · exact .inr fun Q m => words_Big_1.geq  _ _ _ _ Q m
  · exact .inl rfl
def ref01_Right (x_x : Int) (x_n : Int) (h : H) (Q : Int → H → Prop) : Prop :=
M.nz (32 : Int) (
M.val (Int.tmod x_n (32 : Int)) fun z2 =>
M.join (α := Int) (fun d5 h6 =>
M.loop (α := Int × Int) (fun J7 d8 h9 =>
(bif (decide (d8.2 < d5)) then
M.nz (2 : Int) (
M.val (Int.tmod d8.1 (2 : Int)) fun z10 =>
M.nz (2 : Int) (
M.val (IntKind.wrap .u32 (Int.tdiv d8.1 (2 : Int))) fun z11 =>
M.val (IntKind.wrap .u32 (z10 * (2147483648 : Int))) fun z12 =>
M.val (IntKind.wrap .u32 (z11 + z12)) fun z13 =>
M.val (IntKind.wrap .i64 (d8.2 + (1 : Int))) fun z14 =>
J7 (z13, z14) h9))
else
Q d8.1 h9)) (x_x, (0 : Int)) h6) fun J3 =>
(bif (decide (z2 < (0 : Int))) then
M.val (IntKind.wrap .i64 (z2 + (32 : Int))) fun z4 =>
J3 z4 h
else
J3 z2 h))
def ref01_Right.L (F : Int → Int → H → (Int → H → Prop) → Prop) : List Value → (Value → H → Prop) → H → Prop
  | [.int .u32 x_x, .int .i64 x_n] => fun Q h => F x_x x_n h fun n17 h18 => Q (.int .u32 n17) h18
  | _ => fun _ _ => False
def ref01_Right.W : W := fun args => ref01_Right.L ref01_Right args.toList
def ref01_Right.ann : Ann := ⟨lookN [], lookN [(7, [(5, .int .i64)])], lookN [(122, [(0, .int .u32), (6, .int .i64)])]⟩
theorem ref01_Right.geq (x_x : Int) (x_n : Int) (Q : Value → H → Prop) (h : H) : evF Tryz.prog (envOf []) Tryz.f243 ref01_Right.ann [(.int .u32 x_x), (.int .i64 x_n)] Q h = ref01_Right x_x x_n h fun n17 h18 => Q (.int .u32 n17) h18 := by kernel_rfl
theorem ref01_Right.good : FnGood Tryz.prog 243 ref01_Right.W := by
  refine FnGood.of (ann := ref01_Right.ann) (env := envOf []) mixed EnvGood.nil Tryz.func243 Tryz.call243 fun args => ?_
  show ref01_Right.L ref01_Right args.toList = _ ∨ ∀ Q m, evF Tryz.prog (envOf []) Tryz.f243 ref01_Right.ann args.toList Q m = ref01_Right.L ref01_Right args.toList Q m
  generalize args.toList = l
  unfold ref01_Right.L
  split
  · exact .inr fun Q m => ref01_Right.geq  _ _ Q m
  · exact .inl rfl
def words_each_words_Little_1.g (words_Little_1' : Int → Int → Int → Int → H → (Int → H → Prop) → Prop) (x_s : ByteArray) (h : H) (Q : Option Addr → Nat → Nat → Int → H → Prop) : Prop :=
M.nz (4 : Int) (
M.val (Int.tmod (ByteArray.size x_s : Int) (4 : Int)) fun z5 =>
(bif (z5 != (0 : Int)) then
Q none 0 0 (7 : Int) h
else
M.nz (4 : Int) (
M.val (IntKind.wrap .i64 (Int.tdiv (ByteArray.size x_s : Int) (4 : Int))) fun z6 =>
M.mk h 178 [(.int .u32 (0 : Int))] 4 z6 z6 fun a7 l8 c9 h10 =>
M.join (α := Unit) (fun d214 h215 =>
Q a7 l8 c9 (0 : Int) h215) fun J11 =>
M.loop (α := Int) (fun J12 d13 h14 =>
(bif (decide (d13 < ((l8 : Nat) : Int))) then
M.join (α := Unit) (fun d211 h212 =>
M.val (IntKind.wrap .i64 (d13 + (1 : Int))) fun z213 =>
J12 z213 h212) fun J15 =>
M.val (IntKind.wrap .i64 ((4 : Int) * d13)) fun z16 =>
M.byte x_s z16 fun n17 =>
M.val (IntKind.wrap .i64 ((4 : Int) * d13)) fun z18 =>
M.val (IntKind.wrap .i64 (z18 + (1 : Int))) fun z19 =>
M.byte x_s z19 fun n20 =>
M.val (IntKind.wrap .i64 ((4 : Int) * d13)) fun z21 =>
M.val (IntKind.wrap .i64 (z21 + (2 : Int))) fun z22 =>
M.byte x_s z22 fun n23 =>
M.val (IntKind.wrap .i64 ((4 : Int) * d13)) fun z24 =>
M.val (IntKind.wrap .i64 (z24 + (3 : Int))) fun z25 =>
M.byte x_s z25 fun n26 =>
(M.val (IntKind.wrap .u32 n17) fun z27 =>
(M.val (IntKind.wrap .u32 n20) fun z28 =>
(M.val (IntKind.wrap .u32 n23) fun z29 =>
M.val (IntKind.wrap .u32 n26) fun z30 =>
words_Little_1' z27 z28 z29 z30 h14 fun n31 h32 =>
M.idx a7 l8 d13 fun a33 j34 =>
M.put h32 (Addr.add a33 (j34 * 1)) (.int .u32 n31) fun h35 =>
J15 () h35) ∧
(M.val (IntKind.wrap .u32 n26) fun z36 =>
M.val (IntKind.wrap .u32 n23) fun z37 =>
words_Little_1' z27 z28 z37 z36 h14 fun n38 h39 =>
M.idx a7 l8 d13 fun a40 j41 =>
M.put h39 (Addr.add a40 (j41 * 1)) (.int .u32 n38) fun h42 =>
J15 () h42)) ∧
(M.val (IntKind.wrap .u32 n23) fun z43 =>
(M.val (IntKind.wrap .u32 n20) fun z44 =>
M.val (IntKind.wrap .u32 n26) fun z45 =>
words_Little_1' z27 z44 z43 z45 h14 fun n46 h47 =>
M.idx a7 l8 d13 fun a48 j49 =>
M.put h47 (Addr.add a48 (j49 * 1)) (.int .u32 n46) fun h50 =>
J15 () h50) ∧
(M.val (IntKind.wrap .u32 n26) fun z51 =>
M.val (IntKind.wrap .u32 n20) fun z52 =>
words_Little_1' z27 z52 z43 z51 h14 fun n53 h54 =>
M.idx a7 l8 d13 fun a55 j56 =>
M.put h54 (Addr.add a55 (j56 * 1)) (.int .u32 n53) fun h57 =>
J15 () h57)) ∧
(M.val (IntKind.wrap .u32 n26) fun z58 =>
(M.val (IntKind.wrap .u32 n20) fun z59 =>
M.val (IntKind.wrap .u32 n23) fun z60 =>
words_Little_1' z27 z59 z60 z58 h14 fun n61 h62 =>
M.idx a7 l8 d13 fun a63 j64 =>
M.put h62 (Addr.add a63 (j64 * 1)) (.int .u32 n61) fun h65 =>
J15 () h65) ∧
(M.val (IntKind.wrap .u32 n23) fun z66 =>
M.val (IntKind.wrap .u32 n20) fun z67 =>
words_Little_1' z27 z67 z66 z58 h14 fun n68 h69 =>
M.idx a7 l8 d13 fun a70 j71 =>
M.put h69 (Addr.add a70 (j71 * 1)) (.int .u32 n68) fun h72 =>
J15 () h72))) ∧
(M.val (IntKind.wrap .u32 n20) fun z73 =>
(M.val (IntKind.wrap .u32 n17) fun z74 =>
(M.val (IntKind.wrap .u32 n23) fun z75 =>
M.val (IntKind.wrap .u32 n26) fun z76 =>
words_Little_1' z74 z73 z75 z76 h14 fun n77 h78 =>
M.idx a7 l8 d13 fun a79 j80 =>
M.put h78 (Addr.add a79 (j80 * 1)) (.int .u32 n77) fun h81 =>
J15 () h81) ∧
(M.val (IntKind.wrap .u32 n26) fun z82 =>
M.val (IntKind.wrap .u32 n23) fun z83 =>
words_Little_1' z74 z73 z83 z82 h14 fun n84 h85 =>
M.idx a7 l8 d13 fun a86 j87 =>
M.put h85 (Addr.add a86 (j87 * 1)) (.int .u32 n84) fun h88 =>
J15 () h88)) ∧
(M.val (IntKind.wrap .u32 n23) fun z89 =>
(M.val (IntKind.wrap .u32 n17) fun z90 =>
M.val (IntKind.wrap .u32 n26) fun z91 =>
words_Little_1' z90 z73 z89 z91 h14 fun n92 h93 =>
M.idx a7 l8 d13 fun a94 j95 =>
M.put h93 (Addr.add a94 (j95 * 1)) (.int .u32 n92) fun h96 =>
J15 () h96) ∧
(M.val (IntKind.wrap .u32 n26) fun z97 =>
M.val (IntKind.wrap .u32 n17) fun z98 =>
words_Little_1' z98 z73 z89 z97 h14 fun n99 h100 =>
M.idx a7 l8 d13 fun a101 j102 =>
M.put h100 (Addr.add a101 (j102 * 1)) (.int .u32 n99) fun h103 =>
J15 () h103)) ∧
(M.val (IntKind.wrap .u32 n26) fun z104 =>
(M.val (IntKind.wrap .u32 n17) fun z105 =>
M.val (IntKind.wrap .u32 n23) fun z106 =>
words_Little_1' z105 z73 z106 z104 h14 fun n107 h108 =>
M.idx a7 l8 d13 fun a109 j110 =>
M.put h108 (Addr.add a109 (j110 * 1)) (.int .u32 n107) fun h111 =>
J15 () h111) ∧
(M.val (IntKind.wrap .u32 n23) fun z112 =>
M.val (IntKind.wrap .u32 n17) fun z113 =>
words_Little_1' z113 z73 z112 z104 h14 fun n114 h115 =>
M.idx a7 l8 d13 fun a116 j117 =>
M.put h115 (Addr.add a116 (j117 * 1)) (.int .u32 n114) fun h118 =>
J15 () h118))) ∧
(M.val (IntKind.wrap .u32 n23) fun z119 =>
(M.val (IntKind.wrap .u32 n17) fun z120 =>
(M.val (IntKind.wrap .u32 n20) fun z121 =>
M.val (IntKind.wrap .u32 n26) fun z122 =>
words_Little_1' z120 z121 z119 z122 h14 fun n123 h124 =>
M.idx a7 l8 d13 fun a125 j126 =>
M.put h124 (Addr.add a125 (j126 * 1)) (.int .u32 n123) fun h127 =>
J15 () h127) ∧
(M.val (IntKind.wrap .u32 n26) fun z128 =>
M.val (IntKind.wrap .u32 n20) fun z129 =>
words_Little_1' z120 z129 z119 z128 h14 fun n130 h131 =>
M.idx a7 l8 d13 fun a132 j133 =>
M.put h131 (Addr.add a132 (j133 * 1)) (.int .u32 n130) fun h134 =>
J15 () h134)) ∧
(M.val (IntKind.wrap .u32 n20) fun z135 =>
(M.val (IntKind.wrap .u32 n17) fun z136 =>
M.val (IntKind.wrap .u32 n26) fun z137 =>
words_Little_1' z136 z135 z119 z137 h14 fun n138 h139 =>
M.idx a7 l8 d13 fun a140 j141 =>
M.put h139 (Addr.add a140 (j141 * 1)) (.int .u32 n138) fun h142 =>
J15 () h142) ∧
(M.val (IntKind.wrap .u32 n26) fun z143 =>
M.val (IntKind.wrap .u32 n17) fun z144 =>
words_Little_1' z144 z135 z119 z143 h14 fun n145 h146 =>
M.idx a7 l8 d13 fun a147 j148 =>
M.put h146 (Addr.add a147 (j148 * 1)) (.int .u32 n145) fun h149 =>
J15 () h149)) ∧
(M.val (IntKind.wrap .u32 n26) fun z150 =>
(M.val (IntKind.wrap .u32 n17) fun z151 =>
M.val (IntKind.wrap .u32 n20) fun z152 =>
words_Little_1' z151 z152 z119 z150 h14 fun n153 h154 =>
M.idx a7 l8 d13 fun a155 j156 =>
M.put h154 (Addr.add a155 (j156 * 1)) (.int .u32 n153) fun h157 =>
J15 () h157) ∧
(M.val (IntKind.wrap .u32 n20) fun z158 =>
M.val (IntKind.wrap .u32 n17) fun z159 =>
words_Little_1' z159 z158 z119 z150 h14 fun n160 h161 =>
M.idx a7 l8 d13 fun a162 j163 =>
M.put h161 (Addr.add a162 (j163 * 1)) (.int .u32 n160) fun h164 =>
J15 () h164))) ∧
(M.val (IntKind.wrap .u32 n26) fun z165 =>
(M.val (IntKind.wrap .u32 n17) fun z166 =>
(M.val (IntKind.wrap .u32 n20) fun z167 =>
M.val (IntKind.wrap .u32 n23) fun z168 =>
words_Little_1' z166 z167 z168 z165 h14 fun n169 h170 =>
M.idx a7 l8 d13 fun a171 j172 =>
M.put h170 (Addr.add a171 (j172 * 1)) (.int .u32 n169) fun h173 =>
J15 () h173) ∧
(M.val (IntKind.wrap .u32 n23) fun z174 =>
M.val (IntKind.wrap .u32 n20) fun z175 =>
words_Little_1' z166 z175 z174 z165 h14 fun n176 h177 =>
M.idx a7 l8 d13 fun a178 j179 =>
M.put h177 (Addr.add a178 (j179 * 1)) (.int .u32 n176) fun h180 =>
J15 () h180)) ∧
(M.val (IntKind.wrap .u32 n20) fun z181 =>
(M.val (IntKind.wrap .u32 n17) fun z182 =>
M.val (IntKind.wrap .u32 n23) fun z183 =>
words_Little_1' z182 z181 z183 z165 h14 fun n184 h185 =>
M.idx a7 l8 d13 fun a186 j187 =>
M.put h185 (Addr.add a186 (j187 * 1)) (.int .u32 n184) fun h188 =>
J15 () h188) ∧
(M.val (IntKind.wrap .u32 n23) fun z189 =>
M.val (IntKind.wrap .u32 n17) fun z190 =>
words_Little_1' z190 z181 z189 z165 h14 fun n191 h192 =>
M.idx a7 l8 d13 fun a193 j194 =>
M.put h192 (Addr.add a193 (j194 * 1)) (.int .u32 n191) fun h195 =>
J15 () h195)) ∧
(M.val (IntKind.wrap .u32 n23) fun z196 =>
(M.val (IntKind.wrap .u32 n17) fun z197 =>
M.val (IntKind.wrap .u32 n20) fun z198 =>
words_Little_1' z197 z198 z196 z165 h14 fun n199 h200 =>
M.idx a7 l8 d13 fun a201 j202 =>
M.put h200 (Addr.add a201 (j202 * 1)) (.int .u32 n199) fun h203 =>
J15 () h203) ∧
(M.val (IntKind.wrap .u32 n20) fun z204 =>
M.val (IntKind.wrap .u32 n17) fun z205 =>
words_Little_1' z205 z204 z196 z165 h14 fun n206 h207 =>
M.idx a7 l8 d13 fun a208 j209 =>
M.put h207 (Addr.add a208 (j209 * 1)) (.int .u32 n206) fun h210 =>
J15 () h210)))
else
J11 () h14)) (0 : Int) h10)))
def words_each_words_Little_1 (x_s : ByteArray) (h : H) (Q : Option Addr → Nat → Nat → Int → H → Prop) : Prop := words_each_words_Little_1.g words_Little_1 x_s h Q
def words_each_words_Little_1.L (F : ByteArray → H → (Option Addr → Nat → Nat → Int → H → Prop) → Prop) : List Value → (Value → H → Prop) → H → Prop
  | [.string x_s, .func (.func 223) ⟨[]⟩ ⟨[]⟩] => fun Q h => F x_s h fun a221 l222 c223 n224 h225 => Q (.tuple #[(.slice a221 l222 c223), (.int .i64 n224)]) h225
  | _ => fun _ _ => False
def words_each_words_Little_1.W : W := fun args => words_each_words_Little_1.L words_each_words_Little_1 args.toList
def words_each_words_Little_1.ann : Ann := ⟨lookN [(7, [])], lookN [(15, [])], lookN [(122, [(18, .int .i64)])]⟩
theorem words_each_words_Little_1.geq (words_Little_1' : Int → Int → Int → Int → H → (Int → H → Prop) → Prop) (x_s : ByteArray) (Q : Value → H → Prop) (h : H) : evF Tryz.prog (envOf [(223, fun args => words_Little_1.L words_Little_1' args.toList)]) Tryz.f222 words_each_words_Little_1.ann [(.string x_s), (.func (.func 223) #[] #[])] Q h = words_each_words_Little_1.g words_Little_1' x_s h fun a221 l222 c223 n224 h225 => Q (.tuple #[(.slice a221 l222 c223), (.int .i64 n224)]) h225 := by kernel_rfl
theorem words_each_words_Little_1.good : FnGood Tryz.prog 222 words_each_words_Little_1.W := by
  refine FnGood.of (ann := words_each_words_Little_1.ann) (env := envOf [(223, fun args => words_Little_1.L words_Little_1 args.toList)]) mixed (EnvGood.cons words_Little_1.good EnvGood.nil) Tryz.func222 Tryz.call222 fun args => ?_
  show words_each_words_Little_1.L words_each_words_Little_1 args.toList = _ ∨ ∀ Q m, evF Tryz.prog (envOf [(223, fun args => words_Little_1.L words_Little_1 args.toList)]) Tryz.f222 words_each_words_Little_1.ann args.toList Q m = words_each_words_Little_1.L words_each_words_Little_1 args.toList Q m
  generalize args.toList = l
  unfold words_each_words_Little_1.L
  split
  · exact .inr fun Q m => words_each_words_Little_1.geq words_Little_1 _ Q m
  · exact .inl rfl
def words_each_words_Big_1.g (words_Big_1' : Int → Int → Int → Int → H → (Int → H → Prop) → Prop) (x_s : ByteArray) (h : H) (Q : Option Addr → Nat → Nat → Int → H → Prop) : Prop :=
M.nz (4 : Int) (
M.val (Int.tmod (ByteArray.size x_s : Int) (4 : Int)) fun z5 =>
(bif (z5 != (0 : Int)) then
Q none 0 0 (7 : Int) h
else
M.nz (4 : Int) (
M.val (IntKind.wrap .i64 (Int.tdiv (ByteArray.size x_s : Int) (4 : Int))) fun z6 =>
M.mk h 178 [(.int .u32 (0 : Int))] 4 z6 z6 fun a7 l8 c9 h10 =>
M.join (α := Unit) (fun d214 h215 =>
Q a7 l8 c9 (0 : Int) h215) fun J11 =>
M.loop (α := Int) (fun J12 d13 h14 =>
(bif (decide (d13 < ((l8 : Nat) : Int))) then
M.join (α := Unit) (fun d211 h212 =>
M.val (IntKind.wrap .i64 (d13 + (1 : Int))) fun z213 =>
J12 z213 h212) fun J15 =>
M.val (IntKind.wrap .i64 ((4 : Int) * d13)) fun z16 =>
M.byte x_s z16 fun n17 =>
M.val (IntKind.wrap .i64 ((4 : Int) * d13)) fun z18 =>
M.val (IntKind.wrap .i64 (z18 + (1 : Int))) fun z19 =>
M.byte x_s z19 fun n20 =>
M.val (IntKind.wrap .i64 ((4 : Int) * d13)) fun z21 =>
M.val (IntKind.wrap .i64 (z21 + (2 : Int))) fun z22 =>
M.byte x_s z22 fun n23 =>
M.val (IntKind.wrap .i64 ((4 : Int) * d13)) fun z24 =>
M.val (IntKind.wrap .i64 (z24 + (3 : Int))) fun z25 =>
M.byte x_s z25 fun n26 =>
(M.val (IntKind.wrap .u32 n17) fun z27 =>
(M.val (IntKind.wrap .u32 n20) fun z28 =>
(M.val (IntKind.wrap .u32 n23) fun z29 =>
M.val (IntKind.wrap .u32 n26) fun z30 =>
words_Big_1' z27 z28 z29 z30 h14 fun n31 h32 =>
M.idx a7 l8 d13 fun a33 j34 =>
M.put h32 (Addr.add a33 (j34 * 1)) (.int .u32 n31) fun h35 =>
J15 () h35) ∧
(M.val (IntKind.wrap .u32 n26) fun z36 =>
M.val (IntKind.wrap .u32 n23) fun z37 =>
words_Big_1' z27 z28 z37 z36 h14 fun n38 h39 =>
M.idx a7 l8 d13 fun a40 j41 =>
M.put h39 (Addr.add a40 (j41 * 1)) (.int .u32 n38) fun h42 =>
J15 () h42)) ∧
(M.val (IntKind.wrap .u32 n23) fun z43 =>
(M.val (IntKind.wrap .u32 n20) fun z44 =>
M.val (IntKind.wrap .u32 n26) fun z45 =>
words_Big_1' z27 z44 z43 z45 h14 fun n46 h47 =>
M.idx a7 l8 d13 fun a48 j49 =>
M.put h47 (Addr.add a48 (j49 * 1)) (.int .u32 n46) fun h50 =>
J15 () h50) ∧
(M.val (IntKind.wrap .u32 n26) fun z51 =>
M.val (IntKind.wrap .u32 n20) fun z52 =>
words_Big_1' z27 z52 z43 z51 h14 fun n53 h54 =>
M.idx a7 l8 d13 fun a55 j56 =>
M.put h54 (Addr.add a55 (j56 * 1)) (.int .u32 n53) fun h57 =>
J15 () h57)) ∧
(M.val (IntKind.wrap .u32 n26) fun z58 =>
(M.val (IntKind.wrap .u32 n20) fun z59 =>
M.val (IntKind.wrap .u32 n23) fun z60 =>
words_Big_1' z27 z59 z60 z58 h14 fun n61 h62 =>
M.idx a7 l8 d13 fun a63 j64 =>
M.put h62 (Addr.add a63 (j64 * 1)) (.int .u32 n61) fun h65 =>
J15 () h65) ∧
(M.val (IntKind.wrap .u32 n23) fun z66 =>
M.val (IntKind.wrap .u32 n20) fun z67 =>
words_Big_1' z27 z67 z66 z58 h14 fun n68 h69 =>
M.idx a7 l8 d13 fun a70 j71 =>
M.put h69 (Addr.add a70 (j71 * 1)) (.int .u32 n68) fun h72 =>
J15 () h72))) ∧
(M.val (IntKind.wrap .u32 n20) fun z73 =>
(M.val (IntKind.wrap .u32 n17) fun z74 =>
(M.val (IntKind.wrap .u32 n23) fun z75 =>
M.val (IntKind.wrap .u32 n26) fun z76 =>
words_Big_1' z74 z73 z75 z76 h14 fun n77 h78 =>
M.idx a7 l8 d13 fun a79 j80 =>
M.put h78 (Addr.add a79 (j80 * 1)) (.int .u32 n77) fun h81 =>
J15 () h81) ∧
(M.val (IntKind.wrap .u32 n26) fun z82 =>
M.val (IntKind.wrap .u32 n23) fun z83 =>
words_Big_1' z74 z73 z83 z82 h14 fun n84 h85 =>
M.idx a7 l8 d13 fun a86 j87 =>
M.put h85 (Addr.add a86 (j87 * 1)) (.int .u32 n84) fun h88 =>
J15 () h88)) ∧
(M.val (IntKind.wrap .u32 n23) fun z89 =>
(M.val (IntKind.wrap .u32 n17) fun z90 =>
M.val (IntKind.wrap .u32 n26) fun z91 =>
words_Big_1' z90 z73 z89 z91 h14 fun n92 h93 =>
M.idx a7 l8 d13 fun a94 j95 =>
M.put h93 (Addr.add a94 (j95 * 1)) (.int .u32 n92) fun h96 =>
J15 () h96) ∧
(M.val (IntKind.wrap .u32 n26) fun z97 =>
M.val (IntKind.wrap .u32 n17) fun z98 =>
words_Big_1' z98 z73 z89 z97 h14 fun n99 h100 =>
M.idx a7 l8 d13 fun a101 j102 =>
M.put h100 (Addr.add a101 (j102 * 1)) (.int .u32 n99) fun h103 =>
J15 () h103)) ∧
(M.val (IntKind.wrap .u32 n26) fun z104 =>
(M.val (IntKind.wrap .u32 n17) fun z105 =>
M.val (IntKind.wrap .u32 n23) fun z106 =>
words_Big_1' z105 z73 z106 z104 h14 fun n107 h108 =>
M.idx a7 l8 d13 fun a109 j110 =>
M.put h108 (Addr.add a109 (j110 * 1)) (.int .u32 n107) fun h111 =>
J15 () h111) ∧
(M.val (IntKind.wrap .u32 n23) fun z112 =>
M.val (IntKind.wrap .u32 n17) fun z113 =>
words_Big_1' z113 z73 z112 z104 h14 fun n114 h115 =>
M.idx a7 l8 d13 fun a116 j117 =>
M.put h115 (Addr.add a116 (j117 * 1)) (.int .u32 n114) fun h118 =>
J15 () h118))) ∧
(M.val (IntKind.wrap .u32 n23) fun z119 =>
(M.val (IntKind.wrap .u32 n17) fun z120 =>
(M.val (IntKind.wrap .u32 n20) fun z121 =>
M.val (IntKind.wrap .u32 n26) fun z122 =>
words_Big_1' z120 z121 z119 z122 h14 fun n123 h124 =>
M.idx a7 l8 d13 fun a125 j126 =>
M.put h124 (Addr.add a125 (j126 * 1)) (.int .u32 n123) fun h127 =>
J15 () h127) ∧
(M.val (IntKind.wrap .u32 n26) fun z128 =>
M.val (IntKind.wrap .u32 n20) fun z129 =>
words_Big_1' z120 z129 z119 z128 h14 fun n130 h131 =>
M.idx a7 l8 d13 fun a132 j133 =>
M.put h131 (Addr.add a132 (j133 * 1)) (.int .u32 n130) fun h134 =>
J15 () h134)) ∧
(M.val (IntKind.wrap .u32 n20) fun z135 =>
(M.val (IntKind.wrap .u32 n17) fun z136 =>
M.val (IntKind.wrap .u32 n26) fun z137 =>
words_Big_1' z136 z135 z119 z137 h14 fun n138 h139 =>
M.idx a7 l8 d13 fun a140 j141 =>
M.put h139 (Addr.add a140 (j141 * 1)) (.int .u32 n138) fun h142 =>
J15 () h142) ∧
(M.val (IntKind.wrap .u32 n26) fun z143 =>
M.val (IntKind.wrap .u32 n17) fun z144 =>
words_Big_1' z144 z135 z119 z143 h14 fun n145 h146 =>
M.idx a7 l8 d13 fun a147 j148 =>
M.put h146 (Addr.add a147 (j148 * 1)) (.int .u32 n145) fun h149 =>
J15 () h149)) ∧
(M.val (IntKind.wrap .u32 n26) fun z150 =>
(M.val (IntKind.wrap .u32 n17) fun z151 =>
M.val (IntKind.wrap .u32 n20) fun z152 =>
words_Big_1' z151 z152 z119 z150 h14 fun n153 h154 =>
M.idx a7 l8 d13 fun a155 j156 =>
M.put h154 (Addr.add a155 (j156 * 1)) (.int .u32 n153) fun h157 =>
J15 () h157) ∧
(M.val (IntKind.wrap .u32 n20) fun z158 =>
M.val (IntKind.wrap .u32 n17) fun z159 =>
words_Big_1' z159 z158 z119 z150 h14 fun n160 h161 =>
M.idx a7 l8 d13 fun a162 j163 =>
M.put h161 (Addr.add a162 (j163 * 1)) (.int .u32 n160) fun h164 =>
J15 () h164))) ∧
(M.val (IntKind.wrap .u32 n26) fun z165 =>
(M.val (IntKind.wrap .u32 n17) fun z166 =>
(M.val (IntKind.wrap .u32 n20) fun z167 =>
M.val (IntKind.wrap .u32 n23) fun z168 =>
words_Big_1' z166 z167 z168 z165 h14 fun n169 h170 =>
M.idx a7 l8 d13 fun a171 j172 =>
M.put h170 (Addr.add a171 (j172 * 1)) (.int .u32 n169) fun h173 =>
J15 () h173) ∧
(M.val (IntKind.wrap .u32 n23) fun z174 =>
M.val (IntKind.wrap .u32 n20) fun z175 =>
words_Big_1' z166 z175 z174 z165 h14 fun n176 h177 =>
M.idx a7 l8 d13 fun a178 j179 =>
M.put h177 (Addr.add a178 (j179 * 1)) (.int .u32 n176) fun h180 =>
J15 () h180)) ∧
(M.val (IntKind.wrap .u32 n20) fun z181 =>
(M.val (IntKind.wrap .u32 n17) fun z182 =>
M.val (IntKind.wrap .u32 n23) fun z183 =>
words_Big_1' z182 z181 z183 z165 h14 fun n184 h185 =>
M.idx a7 l8 d13 fun a186 j187 =>
M.put h185 (Addr.add a186 (j187 * 1)) (.int .u32 n184) fun h188 =>
J15 () h188) ∧
(M.val (IntKind.wrap .u32 n23) fun z189 =>
M.val (IntKind.wrap .u32 n17) fun z190 =>
words_Big_1' z190 z181 z189 z165 h14 fun n191 h192 =>
M.idx a7 l8 d13 fun a193 j194 =>
M.put h192 (Addr.add a193 (j194 * 1)) (.int .u32 n191) fun h195 =>
J15 () h195)) ∧
(M.val (IntKind.wrap .u32 n23) fun z196 =>
(M.val (IntKind.wrap .u32 n17) fun z197 =>
M.val (IntKind.wrap .u32 n20) fun z198 =>
words_Big_1' z197 z198 z196 z165 h14 fun n199 h200 =>
M.idx a7 l8 d13 fun a201 j202 =>
M.put h200 (Addr.add a201 (j202 * 1)) (.int .u32 n199) fun h203 =>
J15 () h203) ∧
(M.val (IntKind.wrap .u32 n20) fun z204 =>
M.val (IntKind.wrap .u32 n17) fun z205 =>
words_Big_1' z205 z204 z196 z165 h14 fun n206 h207 =>
M.idx a7 l8 d13 fun a208 j209 =>
M.put h207 (Addr.add a208 (j209 * 1)) (.int .u32 n206) fun h210 =>
J15 () h210)))
else
J11 () h14)) (0 : Int) h10)))
def words_each_words_Big_1 (x_s : ByteArray) (h : H) (Q : Option Addr → Nat → Nat → Int → H → Prop) : Prop := words_each_words_Big_1.g words_Big_1 x_s h Q
def words_each_words_Big_1.L (F : ByteArray → H → (Option Addr → Nat → Nat → Int → H → Prop) → Prop) : List Value → (Value → H → Prop) → H → Prop
  | [.string x_s, .func (.func 237) ⟨[]⟩ ⟨[]⟩] => fun Q h => F x_s h fun a221 l222 c223 n224 h225 => Q (.tuple #[(.slice a221 l222 c223), (.int .i64 n224)]) h225
  | _ => fun _ _ => False
def words_each_words_Big_1.W : W := fun args => words_each_words_Big_1.L words_each_words_Big_1 args.toList
def words_each_words_Big_1.ann : Ann := ⟨lookN [(7, [])], lookN [(15, [])], lookN [(122, [(18, .int .i64)])]⟩
theorem words_each_words_Big_1.geq (words_Big_1' : Int → Int → Int → Int → H → (Int → H → Prop) → Prop) (x_s : ByteArray) (Q : Value → H → Prop) (h : H) : evF Tryz.prog (envOf [(237, fun args => words_Big_1.L words_Big_1' args.toList)]) Tryz.f222 words_each_words_Big_1.ann [(.string x_s), (.func (.func 237) #[] #[])] Q h = words_each_words_Big_1.g words_Big_1' x_s h fun a221 l222 c223 n224 h225 => Q (.tuple #[(.slice a221 l222 c223), (.int .i64 n224)]) h225 := by kernel_rfl
theorem words_each_words_Big_1.good : FnGood Tryz.prog 222 words_each_words_Big_1.W := by
  refine FnGood.of (ann := words_each_words_Big_1.ann) (env := envOf [(237, fun args => words_Big_1.L words_Big_1 args.toList)]) mixed (EnvGood.cons words_Big_1.good EnvGood.nil) Tryz.func222 Tryz.call222 fun args => ?_
  show words_each_words_Big_1.L words_each_words_Big_1 args.toList = _ ∨ ∀ Q m, evF Tryz.prog (envOf [(237, fun args => words_Big_1.L words_Big_1 args.toList)]) Tryz.f222 words_each_words_Big_1.ann args.toList Q m = words_each_words_Big_1.L words_each_words_Big_1 args.toList Q m
  generalize args.toList = l
  unfold words_each_words_Big_1.L
  split
  · exact .inr fun Q m => words_each_words_Big_1.geq words_Big_1 _ Q m
  · exact .inl rfl
end Go.Proofs.YthegnmanjdlmjaaGreatDoor

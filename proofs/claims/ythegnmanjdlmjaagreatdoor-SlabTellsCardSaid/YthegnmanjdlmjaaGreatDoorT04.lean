/- The shallow forms of the functions of this seat, printed by a program of mine, each checked by the kernel against the given code. -/
import Derived.Test.YthegnmanjdlmjaaGreatDoorT03
set_option linter.unusedSimpArgs false
set_option linter.unusedVariables false
namespace Go.Proofs.YthegnmanjdlmjaaGreatDoor
open Go.Sh
def bank_New.g (disk_New' : Int → H → (Option Addr → H → Prop) → Prop) (x_disks : Int) (x_cells : Int) (h : H) (Q : Option Addr → H → Prop) : Prop :=
M.new h (.cells (#[(.slice none 0 0), (.int .i64 (0 : Int)), (.bool false), (.int .i64 (0 : Int))] : Array Value) 122) fun b2 h3 =>
M.loop (α := Int) (fun J4 d5 h6 =>
(bif (decide (d5 < (mx (1 : Int) (mn x_disks (12 : Int))))) then
M.nn (some (⟨b2, 0, none⟩ : Addr)) fun a7 =>
M.load h6 (Addr.add a7 0) fun v8 =>
M.slc v8 fun a9 l10 c11 =>
disk_New' x_cells h6 fun p12 h13 =>
M.still h6 (Addr.add a7 0) 1 h13 (
M.new h13 (.cells (#[(.pointer p12)] : Array Value) 59) fun b14 h15 =>
M.still h6 (Addr.add a7 0) 1 h15 (
M.cellsOf h15 (some (⟨b14, 0, none⟩ : Addr)) (1 * 1) fun cs20 =>
M.app h15 59 1 8 [(.pointer none)] a9 l10 c11 1 cs20 fun a16 l17 c18 h19 =>
M.nn (some (⟨b2, 0, none⟩ : Addr)) fun a21 =>
M.put h19 (Addr.add a21 0) (.slice a16 l17 c18) fun h22 =>
M.val (IntKind.wrap .i64 (d5 + (1 : Int))) fun z23 =>
J4 z23 h22))
else
Q (some (⟨b2, 0, none⟩ : Addr)) h6)) (0 : Int) h3
def bank_New (x_disks : Int) (x_cells : Int) (h : H) (Q : Option Addr → H → Prop) : Prop := bank_New.g disk_New x_disks x_cells h Q
def bank_New.L (F : Int → Int → H → (Option Addr → H → Prop) → Prop) : List Value → (Value → H → Prop) → H → Prop
  | [.int .i64 x_disks, .int .i64 x_cells] => fun Q h => F x_disks x_cells h fun p26 h27 => Q (.pointer p26) h27
  | _ => fun _ _ => False
def bank_New.W : W := fun args => bank_New.L bank_New args.toList
def bank_New.ann : Ann := ⟨lookN [], lookN [], lookN [(58, [(11, .int .i64)])]⟩
theorem bank_New.geq (disk_New' : Int → H → (Option Addr → H → Prop) → Prop) (x_disks : Int) (x_cells : Int) (Q : Value → H → Prop) (h : H) : evF Tryz.prog (envOf [(59, fun args => disk_New.L disk_New' args.toList)]) Tryz.f19 bank_New.ann [(.int .i64 x_disks), (.int .i64 x_cells)] Q h = bank_New.g disk_New' x_disks x_cells h fun p26 h27 => Q (.pointer p26) h27 := by kernel_rfl
theorem bank_New.good : FnGood Tryz.prog 19 bank_New.W := by
  refine FnGood.of (ann := bank_New.ann) (env := envOf [(59, fun args => disk_New.L disk_New args.toList)]) mixed (EnvGood.cons disk_New.good EnvGood.nil) Tryz.func19 Tryz.call19 fun args => ?_
  show bank_New.L bank_New args.toList = _ ∨ ∀ Q m, evF Tryz.prog (envOf [(59, fun args => disk_New.L disk_New args.toList)]) Tryz.f19 bank_New.ann args.toList Q m = bank_New.L bank_New args.toList Q m
  generalize args.toList = l
  unfold bank_New.L
  split
  · exact .inr fun Q m => bank_New.geq disk_New _ _ Q m
  · exact .inl rfl
def disk_Disk_Image.g (disk_Disk_usable' : Option Addr → Int → H → (Int → H → Prop) → Prop) (slices_Clonestring_string' : Option Addr → Nat → Nat → H → (Option Addr → Nat → Nat → H → Prop) → Prop) (x_d : Option Addr) (h : H) (Q : Option Addr → Nat → Nat → H → Prop) : Prop :=
disk_Disk_usable' x_d (0 : Int) h fun n4 h5 =>
(bif (n4 != (0 : Int)) then
Q none 0 0 h5
else
M.nn x_d fun a6 =>
M.load h5 (Addr.add a6 1) fun v7 =>
M.slc v7 fun a8 l9 c10 =>
slices_Clonestring_string' a8 l9 c10 h5 fun a11 l12 c13 h14 =>
Q a11 l12 c13 h14)
def disk_Disk_Image (x_d : Option Addr) (h : H) (Q : Option Addr → Nat → Nat → H → Prop) : Prop := disk_Disk_Image.g disk_Disk_usable slices_Clonestring_string x_d h Q
def disk_Disk_Image.L (F : Option Addr → H → (Option Addr → Nat → Nat → H → Prop) → Prop) : List Value → (Value → H → Prop) → H → Prop
  | [.pointer x_d] => fun Q h => F x_d h fun a19 l20 c21 h22 => Q (.slice a19 l20 c21) h22
  | _ => fun _ _ => False
def disk_Disk_Image.W : W := fun args => disk_Disk_Image.L disk_Disk_Image args.toList
def disk_Disk_Image.ann : Ann := ⟨lookN [], lookN [], lookN []⟩
theorem disk_Disk_Image.geq (disk_Disk_usable' : Option Addr → Int → H → (Int → H → Prop) → Prop) (slices_Clonestring_string' : Option Addr → Nat → Nat → H → (Option Addr → Nat → Nat → H → Prop) → Prop) (x_d : Option Addr) (Q : Value → H → Prop) (h : H) : evF Tryz.prog (envOf [(62, fun args => disk_Disk_usable.L disk_Disk_usable' args.toList), (63, fun args => slices_Clonestring_string.L slices_Clonestring_string' args.toList)]) Tryz.f24 disk_Disk_Image.ann [(.pointer x_d)] Q h = disk_Disk_Image.g disk_Disk_usable' slices_Clonestring_string' x_d h fun a19 l20 c21 h22 => Q (.slice a19 l20 c21) h22 := by kernel_rfl
theorem disk_Disk_Image.good : FnGood Tryz.prog 24 disk_Disk_Image.W := by
  refine FnGood.of (ann := disk_Disk_Image.ann) (env := envOf [(62, fun args => disk_Disk_usable.L disk_Disk_usable args.toList), (63, fun args => slices_Clonestring_string.L slices_Clonestring_string args.toList)]) mixed (EnvGood.cons disk_Disk_usable.good (EnvGood.cons slices_Clonestring_string.good EnvGood.nil)) Tryz.func24 Tryz.call24 fun args => ?_
  show disk_Disk_Image.L disk_Disk_Image args.toList = _ ∨ ∀ Q m, evF Tryz.prog (envOf [(62, fun args => disk_Disk_usable.L disk_Disk_usable args.toList), (63, fun args => slices_Clonestring_string.L slices_Clonestring_string args.toList)]) Tryz.f24 disk_Disk_Image.ann args.toList Q m = disk_Disk_Image.L disk_Disk_Image args.toList Q m
  generalize args.toList = l
  unfold disk_Disk_Image.L
  split
  · exact .inr fun Q m => disk_Disk_Image.geq disk_Disk_usable slices_Clonestring_string _ Q m
  · exact .inl rfl
def ref10_New.g (ref09_New' : Int → H → (Option Addr → H → Prop) → Prop) (x_disks : Int) (x_cells : Int) (h : H) (Q : Option Addr → H → Prop) : Prop :=
M.join (α := Int) (fun d3 h4 =>
M.join (α := Int) (fun d6 h7 =>
M.new h7 (.cells (#[(.slice none 0 0), (.int .i64 (0 : Int)), (.int .i64 (-1 : Int))] : Array Value) 145) fun b8 h9 =>
M.loop (α := Int) (fun J10 d11 h12 =>
(bif (decide (d11 < d6)) then
ref09_New' x_cells h12 fun p13 h14 =>
M.nn (some (⟨b8, 0, none⟩ : Addr)) fun a15 =>
M.load h14 (Addr.add a15 0) fun v16 =>
M.slc v16 fun a17 l18 c19 =>
M.new h14 (.cells (#[(.pointer p13)] : Array Value) 142) fun b20 h21 =>
M.cellsOf h21 (some (⟨b20, 0, none⟩ : Addr)) (1 * 1) fun cs26 =>
M.app h21 142 1 8 [(.pointer none)] a17 l18 c19 1 cs26 fun a22 l23 c24 h25 =>
M.nn (some (⟨b8, 0, none⟩ : Addr)) fun a27 =>
M.put h25 (Addr.add a27 0) (.slice a22 l23 c24) fun h28 =>
M.val (IntKind.wrap .i64 (d11 + (1 : Int))) fun z29 =>
J10 z29 h28
else
Q (some (⟨b8, 0, none⟩ : Addr)) h12)) (0 : Int) h9) fun J5 =>
(bif (decide (d3 > (12 : Int))) then
J5 (12 : Int) h4
else
J5 d3 h4)) fun J2 =>
(bif (decide (x_disks < (1 : Int))) then
J2 (1 : Int) h
else
J2 x_disks h)
def ref10_New (x_disks : Int) (x_cells : Int) (h : H) (Q : Option Addr → H → Prop) : Prop := ref10_New.g ref09_New x_disks x_cells h Q
def ref10_New.L (F : Int → Int → H → (Option Addr → H → Prop) → Prop) : List Value → (Value → H → Prop) → H → Prop
  | [.int .i64 x_disks, .int .i64 x_cells] => fun Q h => F x_disks x_cells h fun p32 h33 => Q (.pointer p32) h33
  | _ => fun _ _ => False
def ref10_New.W : W := fun args => ref10_New.L ref10_New args.toList
def ref10_New.ann : Ann := ⟨lookN [], lookN [(3, [(0, .int .i64)]), (7, [(0, .int .i64)])], lookN [(250, [(6, .int .i64)])]⟩
theorem ref10_New.geq (ref09_New' : Int → H → (Option Addr → H → Prop) → Prop) (x_disks : Int) (x_cells : Int) (Q : Value → H → Prop) (h : H) : evF Tryz.prog (envOf [(88, fun args => ref09_New.L ref09_New' args.toList)]) Tryz.f40 ref10_New.ann [(.int .i64 x_disks), (.int .i64 x_cells)] Q h = ref10_New.g ref09_New' x_disks x_cells h fun p32 h33 => Q (.pointer p32) h33 := by kernel_rfl
theorem ref10_New.good : FnGood Tryz.prog 40 ref10_New.W := by
  refine FnGood.of (ann := ref10_New.ann) (env := envOf [(88, fun args => ref09_New.L ref09_New args.toList)]) mixed (EnvGood.cons ref09_New.good EnvGood.nil) Tryz.func40 Tryz.call40 fun args => ?_
  show ref10_New.L ref10_New args.toList = _ ∨ ∀ Q m, evF Tryz.prog (envOf [(88, fun args => ref09_New.L ref09_New args.toList)]) Tryz.f40 ref10_New.ann args.toList Q m = ref10_New.L ref10_New args.toList Q m
  generalize args.toList = l
  unfold ref10_New.L
  split
  · exact .inr fun Q m => ref10_New.geq ref09_New _ _ Q m
  · exact .inl rfl
def slab_Slab_may.g (slab_Slab_good' : Option Addr → Int → Int → ByteArray → H → (Bool → H → Prop) → Prop) (x_s_0 : Option Addr) (x_s_1 : Int) (x_s_2 : Int) (x_s_3 : ByteArray) (x_slot : Int) (h : H) (Q : Int → H → Prop) : Prop :=
M.new h (.cells (#[(.pointer x_s_0), (.int .i64 x_s_1), (.int .i64 x_s_2), (.string x_s_3)] : Array Value) 37) fun b2 h3 =>
M.load h3 ((⟨b2, 0, none⟩ : Addr).add 0) fun v4 =>
M.ptr v4 fun p5 =>
M.load h3 ((⟨b2, 0, none⟩ : Addr).add 1) fun v6 =>
M.int .i64 v6 fun n7 =>
M.load h3 ((⟨b2, 0, none⟩ : Addr).add 2) fun v8 =>
M.int .i64 v8 fun n9 =>
M.load h3 ((⟨b2, 0, none⟩ : Addr).add 3) fun v10 =>
M.str v10 fun s11 =>
slab_Slab_good' p5 n7 n9 s11 h3 fun b12 h13 =>
(bif (!b12) then
Q (4 : Int) h13
else
M.join (α := Bool) (fun d17 h18 =>
(bif d17 then
Q (2 : Int) h18
else
Q (0 : Int) h18)) fun J14 =>
(bif (decide (x_slot < (0 : Int))) then
J14 true h13
else
M.load h13 (Addr.add (⟨b2, 0, none⟩ : Addr) 2) fun v15 =>
M.int .i64 v15 fun n16 =>
J14 (decide (x_slot ≥ n16)) h13))
def slab_Slab_may (x_s_0 : Option Addr) (x_s_1 : Int) (x_s_2 : Int) (x_s_3 : ByteArray) (x_slot : Int) (h : H) (Q : Int → H → Prop) : Prop := slab_Slab_may.g slab_Slab_good x_s_0 x_s_1 x_s_2 x_s_3 x_slot h Q
def slab_Slab_may.L (F : Option Addr → Int → Int → ByteArray → Int → H → (Int → H → Prop) → Prop) : List Value → (Value → H → Prop) → H → Prop
  | [.agg ⟨[.pointer x_s_0, .int .i64 x_s_1, .int .i64 x_s_2, .string x_s_3]⟩, .int .i64 x_slot] => fun Q h => F x_s_0 x_s_1 x_s_2 x_s_3 x_slot h fun n21 h22 => Q (.int .i64 n21) h22
  | _ => fun _ _ => False
def slab_Slab_may.W : W := fun args => slab_Slab_may.L slab_Slab_may args.toList
def slab_Slab_may.ann : Ann := ⟨lookN [(3, [(9, .bool)])], lookN [], lookN []⟩
theorem slab_Slab_may.geq (slab_Slab_good' : Option Addr → Int → Int → ByteArray → H → (Bool → H → Prop) → Prop) (x_s_0 : Option Addr) (x_s_1 : Int) (x_s_2 : Int) (x_s_3 : ByteArray) (x_slot : Int) (Q : Value → H → Prop) (h : H) : evF Tryz.prog (envOf [(53, fun args => slab_Slab_good.L slab_Slab_good' args.toList)]) Tryz.f44 slab_Slab_may.ann [(.agg (#[(.pointer x_s_0), (.int .i64 x_s_1), (.int .i64 x_s_2), (.string x_s_3)] : Array Value)), (.int .i64 x_slot)] Q h = slab_Slab_may.g slab_Slab_good' x_s_0 x_s_1 x_s_2 x_s_3 x_slot h fun n21 h22 => Q (.int .i64 n21) h22 := by kernel_rfl
theorem slab_Slab_may.good : FnGood Tryz.prog 44 slab_Slab_may.W := by
  refine FnGood.of (ann := slab_Slab_may.ann) (env := envOf [(53, fun args => slab_Slab_good.L slab_Slab_good args.toList)]) mixed (EnvGood.cons slab_Slab_good.good EnvGood.nil) Tryz.func44 Tryz.call44 fun args => ?_
  show slab_Slab_may.L slab_Slab_may args.toList = _ ∨ ∀ Q m, evF Tryz.prog (envOf [(53, fun args => slab_Slab_good.L slab_Slab_good args.toList)]) Tryz.f44 slab_Slab_may.ann args.toList Q m = slab_Slab_may.L slab_Slab_may args.toList Q m
  generalize args.toList = l
  unfold slab_Slab_may.L
  split
  · exact .inr fun Q m => slab_Slab_may.geq slab_Slab_good _ _ _ _ _ Q m
  · exact .inl rfl
def slab_Slab_checked.g (slab_Slab_good' : Option Addr → Int → Int → ByteArray → H → (Bool → H → Prop) → Prop) (slab_Slab_may' : Option Addr → Int → Int → ByteArray → Int → H → (Int → H → Prop) → Prop) (x_s_0 : Option Addr) (x_s_1 : Int) (x_s_2 : Int) (x_s_3 : ByteArray) (x_l : Option Addr) (x_lL : Nat) (x_lC : Nat) (h : H) (Q : Int → H → Prop) : Prop :=
M.new h (.cells (#[(.pointer x_s_0), (.int .i64 x_s_1), (.int .i64 x_s_2), (.string x_s_3)] : Array Value) 37) fun b2 h3 =>
M.load h3 ((⟨b2, 0, none⟩ : Addr).add 0) fun v4 =>
M.ptr v4 fun p5 =>
M.load h3 ((⟨b2, 0, none⟩ : Addr).add 1) fun v6 =>
M.int .i64 v6 fun n7 =>
M.load h3 ((⟨b2, 0, none⟩ : Addr).add 2) fun v8 =>
M.int .i64 v8 fun n9 =>
M.load h3 ((⟨b2, 0, none⟩ : Addr).add 3) fun v10 =>
M.str v10 fun s11 =>
slab_Slab_good' p5 n7 n9 s11 h3 fun b12 h13 =>
(bif (!b12) then
Q (4 : Int) h13
else
M.loop (α := Int) (fun J14 d15 h16 =>
(bif (decide (d15 < ((x_lL : Nat) : Int))) then
M.idx x_l x_lL d15 fun a17 j18 =>
M.load h16 ((Addr.add a17 (j18 * 2)).add 0) fun v19 =>
M.int .i64 v19 fun n20 =>
M.load h16 ((Addr.add a17 (j18 * 2)).add 1) fun v21 =>
M.str v21 fun s22 =>
M.new h16 (.cells (#[(.int .i64 (0 : Int)), (.string (ByteArray.empty))] : Array Value) 45) fun b23 h24 =>
M.req (Array.size (#[(.int .i64 n20), (.string s22)] : Array Value) = 2) (M.puts h24 (⟨b23, 0, none⟩ : Addr) [(.int .i64 n20), (.string s22)] fun h25 =>
M.load h25 ((⟨b2, 0, none⟩ : Addr).add 0) fun v26 =>
M.ptr v26 fun p27 =>
M.load h25 ((⟨b2, 0, none⟩ : Addr).add 1) fun v28 =>
M.int .i64 v28 fun n29 =>
M.load h25 ((⟨b2, 0, none⟩ : Addr).add 2) fun v30 =>
M.int .i64 v30 fun n31 =>
M.load h25 ((⟨b2, 0, none⟩ : Addr).add 3) fun v32 =>
M.str v32 fun s33 =>
M.load h25 (Addr.add (⟨b23, 0, none⟩ : Addr) 0) fun v34 =>
M.int .i64 v34 fun n35 =>
slab_Slab_may' p27 n29 n31 s33 n35 h25 fun n36 h37 =>
(bif (n36 != (0 : Int)) then
Q n36 h37
else
M.load h37 (Addr.add (⟨b23, 0, none⟩ : Addr) 1) fun v38 =>
M.str v38 fun s39 =>
(bif (decide ((ByteArray.size s39 : Int) > (2032 : Int))) then
Q (5 : Int) h37
else
M.val (IntKind.wrap .i64 (d15 + (1 : Int))) fun z40 =>
J14 z40 h37)))
else
Q (0 : Int) h16)) (0 : Int) h13)
def slab_Slab_checked (x_s_0 : Option Addr) (x_s_1 : Int) (x_s_2 : Int) (x_s_3 : ByteArray) (x_l : Option Addr) (x_lL : Nat) (x_lC : Nat) (h : H) (Q : Int → H → Prop) : Prop := slab_Slab_checked.g slab_Slab_good slab_Slab_may x_s_0 x_s_1 x_s_2 x_s_3 x_l x_lL x_lC h Q
def slab_Slab_checked.L (F : Option Addr → Int → Int → ByteArray → Option Addr → Nat → Nat → H → (Int → H → Prop) → Prop) : List Value → (Value → H → Prop) → H → Prop
  | [.agg ⟨[.pointer x_s_0, .int .i64 x_s_1, .int .i64 x_s_2, .string x_s_3]⟩, .slice x_l x_lL x_lC] => fun Q h => F x_s_0 x_s_1 x_s_2 x_s_3 x_l x_lL x_lC h fun n43 h44 => Q (.int .i64 n43) h44
  | _ => fun _ _ => False
def slab_Slab_checked.W : W := fun args => slab_Slab_checked.L slab_Slab_checked args.toList
def slab_Slab_checked.ann : Ann := ⟨lookN [], lookN [], lookN [(58, [(13, .int .i64)])]⟩
theorem slab_Slab_checked.geq (slab_Slab_good' : Option Addr → Int → Int → ByteArray → H → (Bool → H → Prop) → Prop) (slab_Slab_may' : Option Addr → Int → Int → ByteArray → Int → H → (Int → H → Prop) → Prop) (x_s_0 : Option Addr) (x_s_1 : Int) (x_s_2 : Int) (x_s_3 : ByteArray) (x_l : Option Addr) (x_lL : Nat) (x_lC : Nat) (Q : Value → H → Prop) (h : H) : evF Tryz.prog (envOf [(53, fun args => slab_Slab_good.L slab_Slab_good' args.toList), (44, fun args => slab_Slab_may.L slab_Slab_may' args.toList)]) Tryz.f47 slab_Slab_checked.ann [(.agg (#[(.pointer x_s_0), (.int .i64 x_s_1), (.int .i64 x_s_2), (.string x_s_3)] : Array Value)), (.slice x_l x_lL x_lC)] Q h = slab_Slab_checked.g slab_Slab_good' slab_Slab_may' x_s_0 x_s_1 x_s_2 x_s_3 x_l x_lL x_lC h fun n43 h44 => Q (.int .i64 n43) h44 := by kernel_rfl
theorem slab_Slab_checked.good : FnGood Tryz.prog 47 slab_Slab_checked.W := by
  refine FnGood.of (ann := slab_Slab_checked.ann) (env := envOf [(53, fun args => slab_Slab_good.L slab_Slab_good args.toList), (44, fun args => slab_Slab_may.L slab_Slab_may args.toList)]) mixed (EnvGood.cons slab_Slab_good.good (EnvGood.cons slab_Slab_may.good EnvGood.nil)) Tryz.func47 Tryz.call47 fun args => ?_
  show slab_Slab_checked.L slab_Slab_checked args.toList = _ ∨ ∀ Q m, evF Tryz.prog (envOf [(53, fun args => slab_Slab_good.L slab_Slab_good args.toList), (44, fun args => slab_Slab_may.L slab_Slab_may args.toList)]) Tryz.f47 slab_Slab_checked.ann args.toList Q m = slab_Slab_checked.L slab_Slab_checked args.toList Q m
  generalize args.toList = l
  unfold slab_Slab_checked.L
  split
  · exact .inr fun Q m => slab_Slab_checked.geq slab_Slab_good slab_Slab_may _ _ _ _ _ _ _ Q m
  · exact .inl rfl
def bank_Bank_Write.g (bank_Bank_there' : Option Addr → Int → H → (Int → H → Prop) → Prop) (bank_Bank_Spend' : Option Addr → H → (Int → H → Prop) → Prop) (disk_Disk_Write' : Option Addr → Int → ByteArray → H → (Int → H → Prop) → Prop) (x_b : Option Addr) (x_i : Int) (x_at : Int) (x_s : ByteArray) (h : H) (Q : Int → H → Prop) : Prop :=
bank_Bank_there' x_b x_i h fun n2 h3 =>
(bif (n2 != (0 : Int)) then
Q n2 h3
else
bank_Bank_Spend' x_b h3 fun n4 h5 =>
(bif (n4 != (0 : Int)) then
Q n4 h5
else
M.nn x_b fun a6 =>
M.load h5 (Addr.add a6 0) fun v7 =>
M.slc v7 fun a8 l9 c10 =>
M.idx a8 l9 x_i fun a11 j12 =>
M.load h5 (Addr.add a11 (j12 * 1)) fun v13 =>
M.ptr v13 fun p14 =>
disk_Disk_Write' p14 x_at x_s h5 fun n15 h16 =>
Q n15 h16))
def bank_Bank_Write (x_b : Option Addr) (x_i : Int) (x_at : Int) (x_s : ByteArray) (h : H) (Q : Int → H → Prop) : Prop := bank_Bank_Write.g bank_Bank_there bank_Bank_Spend disk_Disk_Write x_b x_i x_at x_s h Q
def bank_Bank_Write.L (F : Option Addr → Int → Int → ByteArray → H → (Int → H → Prop) → Prop) : List Value → (Value → H → Prop) → H → Prop
  | [.pointer x_b, .int .i64 x_i, .int .i64 x_at, .string x_s] => fun Q h => F x_b x_i x_at x_s h fun n19 h20 => Q (.int .i64 n19) h20
  | _ => fun _ _ => False
def bank_Bank_Write.W : W := fun args => bank_Bank_Write.L bank_Bank_Write args.toList
def bank_Bank_Write.ann : Ann := ⟨lookN [], lookN [], lookN []⟩
theorem bank_Bank_Write.geq (bank_Bank_there' : Option Addr → Int → H → (Int → H → Prop) → Prop) (bank_Bank_Spend' : Option Addr → H → (Int → H → Prop) → Prop) (disk_Disk_Write' : Option Addr → Int → ByteArray → H → (Int → H → Prop) → Prop) (x_b : Option Addr) (x_i : Int) (x_at : Int) (x_s : ByteArray) (Q : Value → H → Prop) (h : H) : evF Tryz.prog (envOf [(108, fun args => bank_Bank_there.L bank_Bank_there' args.toList), (109, fun args => bank_Bank_Spend.L bank_Bank_Spend' args.toList), (110, fun args => disk_Disk_Write.L disk_Disk_Write' args.toList)]) Tryz.f54 bank_Bank_Write.ann [(.pointer x_b), (.int .i64 x_i), (.int .i64 x_at), (.string x_s)] Q h = bank_Bank_Write.g bank_Bank_there' bank_Bank_Spend' disk_Disk_Write' x_b x_i x_at x_s h fun n19 h20 => Q (.int .i64 n19) h20 := by kernel_rfl
theorem bank_Bank_Write.good : FnGood Tryz.prog 54 bank_Bank_Write.W := by
  refine FnGood.of (ann := bank_Bank_Write.ann) (env := envOf [(108, fun args => bank_Bank_there.L bank_Bank_there args.toList), (109, fun args => bank_Bank_Spend.L bank_Bank_Spend args.toList), (110, fun args => disk_Disk_Write.L disk_Disk_Write args.toList)]) mixed (EnvGood.cons bank_Bank_there.good (EnvGood.cons bank_Bank_Spend.good (EnvGood.cons disk_Disk_Write.good EnvGood.nil))) Tryz.func54 Tryz.call54 fun args => ?_
  show bank_Bank_Write.L bank_Bank_Write args.toList = _ ∨ ∀ Q m, evF Tryz.prog (envOf [(108, fun args => bank_Bank_there.L bank_Bank_there args.toList), (109, fun args => bank_Bank_Spend.L bank_Bank_Spend args.toList), (110, fun args => disk_Disk_Write.L disk_Disk_Write args.toList)]) Tryz.f54 bank_Bank_Write.ann args.toList Q m = bank_Bank_Write.L bank_Bank_Write args.toList Q m
  generalize args.toList = l
  unfold bank_Bank_Write.L
  split
  · exact .inr fun Q m => bank_Bank_Write.geq bank_Bank_there bank_Bank_Spend disk_Disk_Write _ _ _ _ Q m
  · exact .inl rfl
def bank_Bank_Flush.g (bank_Bank_there' : Option Addr → Int → H → (Int → H → Prop) → Prop) (bank_Bank_Spend' : Option Addr → H → (Int → H → Prop) → Prop) (disk_Disk_Flush' : Option Addr → H → (Int → H → Prop) → Prop) (x_b : Option Addr) (x_i : Int) (h : H) (Q : Int → H → Prop) : Prop :=
bank_Bank_there' x_b x_i h fun n2 h3 =>
(bif (n2 != (0 : Int)) then
Q n2 h3
else
bank_Bank_Spend' x_b h3 fun n4 h5 =>
(bif (n4 != (0 : Int)) then
Q n4 h5
else
M.nn x_b fun a6 =>
M.load h5 (Addr.add a6 0) fun v7 =>
M.slc v7 fun a8 l9 c10 =>
M.idx a8 l9 x_i fun a11 j12 =>
M.load h5 (Addr.add a11 (j12 * 1)) fun v13 =>
M.ptr v13 fun p14 =>
disk_Disk_Flush' p14 h5 fun n15 h16 =>
Q n15 h16))
def bank_Bank_Flush (x_b : Option Addr) (x_i : Int) (h : H) (Q : Int → H → Prop) : Prop := bank_Bank_Flush.g bank_Bank_there bank_Bank_Spend disk_Disk_Flush x_b x_i h Q
def bank_Bank_Flush.L (F : Option Addr → Int → H → (Int → H → Prop) → Prop) : List Value → (Value → H → Prop) → H → Prop
  | [.pointer x_b, .int .i64 x_i] => fun Q h => F x_b x_i h fun n19 h20 => Q (.int .i64 n19) h20
  | _ => fun _ _ => False
def bank_Bank_Flush.W : W := fun args => bank_Bank_Flush.L bank_Bank_Flush args.toList
def bank_Bank_Flush.ann : Ann := ⟨lookN [], lookN [], lookN []⟩
theorem bank_Bank_Flush.geq (bank_Bank_there' : Option Addr → Int → H → (Int → H → Prop) → Prop) (bank_Bank_Spend' : Option Addr → H → (Int → H → Prop) → Prop) (disk_Disk_Flush' : Option Addr → H → (Int → H → Prop) → Prop) (x_b : Option Addr) (x_i : Int) (Q : Value → H → Prop) (h : H) : evF Tryz.prog (envOf [(108, fun args => bank_Bank_there.L bank_Bank_there' args.toList), (109, fun args => bank_Bank_Spend.L bank_Bank_Spend' args.toList), (111, fun args => disk_Disk_Flush.L disk_Disk_Flush' args.toList)]) Tryz.f55 bank_Bank_Flush.ann [(.pointer x_b), (.int .i64 x_i)] Q h = bank_Bank_Flush.g bank_Bank_there' bank_Bank_Spend' disk_Disk_Flush' x_b x_i h fun n19 h20 => Q (.int .i64 n19) h20 := by kernel_rfl
theorem bank_Bank_Flush.good : FnGood Tryz.prog 55 bank_Bank_Flush.W := by
  refine FnGood.of (ann := bank_Bank_Flush.ann) (env := envOf [(108, fun args => bank_Bank_there.L bank_Bank_there args.toList), (109, fun args => bank_Bank_Spend.L bank_Bank_Spend args.toList), (111, fun args => disk_Disk_Flush.L disk_Disk_Flush args.toList)]) mixed (EnvGood.cons bank_Bank_there.good (EnvGood.cons bank_Bank_Spend.good (EnvGood.cons disk_Disk_Flush.good EnvGood.nil))) Tryz.func55 Tryz.call55 fun args => ?_
  show bank_Bank_Flush.L bank_Bank_Flush args.toList = _ ∨ ∀ Q m, evF Tryz.prog (envOf [(108, fun args => bank_Bank_there.L bank_Bank_there args.toList), (109, fun args => bank_Bank_Spend.L bank_Bank_Spend args.toList), (111, fun args => disk_Disk_Flush.L disk_Disk_Flush args.toList)]) Tryz.f55 bank_Bank_Flush.ann args.toList Q m = bank_Bank_Flush.L bank_Bank_Flush args.toList Q m
  generalize args.toList = l
  unfold bank_Bank_Flush.L
  split
  · exact .inr fun Q m => bank_Bank_Flush.geq bank_Bank_there bank_Bank_Spend disk_Disk_Flush _ _ Q m
  · exact .inl rfl
def bank_Bank_Read.g (bank_Bank_there' : Option Addr → Int → H → (Int → H → Prop) → Prop) (disk_Disk_Read' : Option Addr → Int → H → (ByteArray → Int → H → Prop) → Prop) (x_b : Option Addr) (x_i : Int) (x_at : Int) (h : H) (Q : ByteArray → Int → H → Prop) : Prop :=
bank_Bank_there' x_b x_i h fun n3 h4 =>
(bif (n3 != (0 : Int)) then
Q (ByteArray.empty) n3 h4
else
M.join (α := Bool) (fun d12 h13 =>
(bif d12 then
Q (ByteArray.empty) (21 : Int) h13
else
M.nn x_b fun a14 =>
M.load h13 (Addr.add a14 0) fun v15 =>
M.slc v15 fun a16 l17 c18 =>
M.idx a16 l17 x_i fun a19 j20 =>
M.load h13 (Addr.add a19 (j20 * 1)) fun v21 =>
M.ptr v21 fun p22 =>
disk_Disk_Read' p22 x_at h13 fun s23 n24 h25 =>
Q s23 n24 h25)) fun J5 =>
M.nn x_b fun a6 =>
M.load h4 (Addr.add a6 2) fun v7 =>
M.bool v7 fun b8 =>
(bif b8 then
M.nn x_b fun a9 =>
M.load h4 (Addr.add a9 3) fun v10 =>
M.int .i64 v10 fun n11 =>
J5 (n11 == (0 : Int)) h4
else
J5 false h4))
def bank_Bank_Read (x_b : Option Addr) (x_i : Int) (x_at : Int) (h : H) (Q : ByteArray → Int → H → Prop) : Prop := bank_Bank_Read.g bank_Bank_there disk_Disk_Read x_b x_i x_at h Q
def bank_Bank_Read.L (F : Option Addr → Int → Int → H → (ByteArray → Int → H → Prop) → Prop) : List Value → (Value → H → Prop) → H → Prop
  | [.pointer x_b, .int .i64 x_i, .int .i64 x_at] => fun Q h => F x_b x_i x_at h fun s29 n30 h31 => Q (.tuple #[(.string s29), (.int .i64 n30)]) h31
  | _ => fun _ _ => False
def bank_Bank_Read.W : W := fun args => bank_Bank_Read.L bank_Bank_Read args.toList
def bank_Bank_Read.ann : Ann := ⟨lookN [(4, [(25, .bool)])], lookN [], lookN []⟩
theorem bank_Bank_Read.geq (bank_Bank_there' : Option Addr → Int → H → (Int → H → Prop) → Prop) (disk_Disk_Read' : Option Addr → Int → H → (ByteArray → Int → H → Prop) → Prop) (x_b : Option Addr) (x_i : Int) (x_at : Int) (Q : Value → H → Prop) (h : H) : evF Tryz.prog (envOf [(108, fun args => bank_Bank_there.L bank_Bank_there' args.toList), (112, fun args => disk_Disk_Read.L disk_Disk_Read' args.toList)]) Tryz.f56 bank_Bank_Read.ann [(.pointer x_b), (.int .i64 x_i), (.int .i64 x_at)] Q h = bank_Bank_Read.g bank_Bank_there' disk_Disk_Read' x_b x_i x_at h fun s29 n30 h31 => Q (.tuple #[(.string s29), (.int .i64 n30)]) h31 := by kernel_rfl
theorem bank_Bank_Read.good : FnGood Tryz.prog 56 bank_Bank_Read.W := by
  refine FnGood.of (ann := bank_Bank_Read.ann) (env := envOf [(108, fun args => bank_Bank_there.L bank_Bank_there args.toList), (112, fun args => disk_Disk_Read.L disk_Disk_Read args.toList)]) mixed (EnvGood.cons bank_Bank_there.good (EnvGood.cons disk_Disk_Read.good EnvGood.nil)) Tryz.func56 Tryz.call56 fun args => ?_
  show bank_Bank_Read.L bank_Bank_Read args.toList = _ ∨ ∀ Q m, evF Tryz.prog (envOf [(108, fun args => bank_Bank_there.L bank_Bank_there args.toList), (112, fun args => disk_Disk_Read.L disk_Disk_Read args.toList)]) Tryz.f56 bank_Bank_Read.ann args.toList Q m = bank_Bank_Read.L bank_Bank_Read args.toList Q m
  generalize args.toList = l
  unfold bank_Bank_Read.L
  split
  · exact .inr fun Q m => bank_Bank_Read.geq bank_Bank_there disk_Disk_Read _ _ _ Q m
  · exact .inl rfl
def ref17_Good.g (ref12_Depth' : Int → H → (Int → H → Prop) → Prop) (x_s_0 : Option Addr) (x_s_1 : Int) (x_s_2 : Int) (x_s_3 : ByteArray) (h : H) (Q : Bool → H → Prop) : Prop :=
M.new h (.cells (#[(.pointer x_s_0), (.int .i64 x_s_1), (.int .i64 x_s_2), (.string x_s_3)] : Array Value) 40) fun b2 h3 =>
M.load h3 (Addr.add (⟨b2, 0, none⟩ : Addr) 2) fun v4 =>
M.int .i64 v4 fun n5 =>
ref12_Depth' n5 h3 fun n6 h7 =>
M.join (α := Bool) (fun d24 h25 =>
Q d24 h25) fun J8 =>
(bif (decide (n6 > (0 : Int))) then
M.load h7 (Addr.add (⟨b2, 0, none⟩ : Addr) 3) fun v9 =>
M.str v9 fun s10 =>
(bif ((ByteArray.size s10 : Int) == (32 : Int)) then
M.load h7 (Addr.add (⟨b2, 0, none⟩ : Addr) 0) fun v11 =>
M.ptr v11 fun p12 =>
(bif (!(Option.isNone p12)) then
M.load h7 (Addr.add (⟨b2, 0, none⟩ : Addr) 1) fun v13 =>
M.int .i64 v13 fun n14 =>
(bif (decide (n14 ≥ (0 : Int))) then
M.load h7 (Addr.add (⟨b2, 0, none⟩ : Addr) 1) fun v15 =>
M.int .i64 v15 fun n16 =>
M.load h7 (Addr.add (⟨b2, 0, none⟩ : Addr) 0) fun v17 =>
M.ptr v17 fun p18 =>
M.nn p18 fun a19 =>
M.load h7 (Addr.add a19 0) fun v20 =>
M.slc v20 fun a21 l22 c23 =>
J8 (decide (n16 < ((l22 : Nat) : Int))) h7
else
J8 false h7)
else
J8 false h7)
else
J8 false h7)
else
J8 false h7)
def ref17_Good (x_s_0 : Option Addr) (x_s_1 : Int) (x_s_2 : Int) (x_s_3 : ByteArray) (h : H) (Q : Bool → H → Prop) : Prop := ref17_Good.g ref12_Depth x_s_0 x_s_1 x_s_2 x_s_3 h Q
def ref17_Good.L (F : Option Addr → Int → Int → ByteArray → H → (Bool → H → Prop) → Prop) : List Value → (Value → H → Prop) → H → Prop
  | [.agg ⟨[.pointer x_s_0, .int .i64 x_s_1, .int .i64 x_s_2, .string x_s_3]⟩] => fun Q h => F x_s_0 x_s_1 x_s_2 x_s_3 h fun b28 h29 => Q (.bool b28) h29
  | _ => fun _ _ => False
def ref17_Good.W : W := fun args => ref17_Good.L ref17_Good args.toList
def ref17_Good.ann : Ann := ⟨lookN [(2, [(2, .bool)])], lookN [], lookN []⟩
theorem ref17_Good.geq (ref12_Depth' : Int → H → (Int → H → Prop) → Prop) (x_s_0 : Option Addr) (x_s_1 : Int) (x_s_2 : Int) (x_s_3 : ByteArray) (Q : Value → H → Prop) (h : H) : evF Tryz.prog (envOf [(142, fun args => ref12_Depth.L ref12_Depth' args.toList)]) Tryz.f89 ref17_Good.ann [(.agg (#[(.pointer x_s_0), (.int .i64 x_s_1), (.int .i64 x_s_2), (.string x_s_3)] : Array Value))] Q h = ref17_Good.g ref12_Depth' x_s_0 x_s_1 x_s_2 x_s_3 h fun b28 h29 => Q (.bool b28) h29 := by kernel_rfl
theorem ref17_Good.good : FnGood Tryz.prog 89 ref17_Good.W := by
  refine FnGood.of (ann := ref17_Good.ann) (env := envOf [(142, fun args => ref12_Depth.L ref12_Depth args.toList)]) mixed (EnvGood.cons ref12_Depth.good EnvGood.nil) Tryz.func89 Tryz.call89 fun args => ?_
  show ref17_Good.L ref17_Good args.toList = _ ∨ ∀ Q m, evF Tryz.prog (envOf [(142, fun args => ref12_Depth.L ref12_Depth args.toList)]) Tryz.f89 ref17_Good.ann args.toList Q m = ref17_Good.L ref17_Good args.toList Q m
  generalize args.toList = l
  unfold ref17_Good.L
  split
  · exact .inr fun Q m => ref17_Good.geq ref12_Depth _ _ _ _ Q m
  · exact .inl rfl
def ref10_Write.g (ref10_Spend' : Option Addr → H → (Int → H → Prop) → Prop) (ref09_Put' : Option Addr → Int → ByteArray → H → (Int → H → Prop) → Prop) (x_b : Option Addr) (x_i : Int) (x_at : Int) (x_s : ByteArray) (h : H) (Q : Int → H → Prop) : Prop :=
M.join (α := Bool) (fun d8 h9 =>
(bif d8 then
Q (11 : Int) h9
else
ref10_Spend' x_b h9 fun n10 h11 =>
(bif (n10 != (0 : Int)) then
Q n10 h11
else
M.nn x_b fun a12 =>
M.load h11 (Addr.add a12 0) fun v13 =>
M.slc v13 fun a14 l15 c16 =>
M.idx a14 l15 x_i fun a17 j18 =>
M.load h11 (Addr.add a17 (j18 * 1)) fun v19 =>
M.ptr v19 fun p20 =>
ref09_Put' p20 x_at x_s h11 fun n21 h22 =>
Q n21 h22))) fun J2 =>
(bif (decide (x_i < (0 : Int))) then
J2 true h
else
M.nn x_b fun a3 =>
M.load h (Addr.add a3 0) fun v4 =>
M.slc v4 fun a5 l6 c7 =>
J2 (decide (x_i ≥ ((l6 : Nat) : Int))) h)
def ref10_Write (x_b : Option Addr) (x_i : Int) (x_at : Int) (x_s : ByteArray) (h : H) (Q : Int → H → Prop) : Prop := ref10_Write.g ref10_Spend ref09_Put x_b x_i x_at x_s h Q
def ref10_Write.L (F : Option Addr → Int → Int → ByteArray → H → (Int → H → Prop) → Prop) : List Value → (Value → H → Prop) → H → Prop
  | [.pointer x_b, .int .i64 x_i, .int .i64 x_at, .string x_s] => fun Q h => F x_b x_i x_at x_s h fun n25 h26 => Q (.int .i64 n25) h26
  | _ => fun _ _ => False
def ref10_Write.W : W := fun args => ref10_Write.L ref10_Write args.toList
def ref10_Write.ann : Ann := ⟨lookN [(1, [(20, .bool)])], lookN [], lookN []⟩
theorem ref10_Write.geq (ref10_Spend' : Option Addr → H → (Int → H → Prop) → Prop) (ref09_Put' : Option Addr → Int → ByteArray → H → (Int → H → Prop) → Prop) (x_b : Option Addr) (x_i : Int) (x_at : Int) (x_s : ByteArray) (Q : Value → H → Prop) (h : H) : evF Tryz.prog (envOf [(145, fun args => ref10_Spend.L ref10_Spend' args.toList), (146, fun args => ref09_Put.L ref09_Put' args.toList)]) Tryz.f92 ref10_Write.ann [(.pointer x_b), (.int .i64 x_i), (.int .i64 x_at), (.string x_s)] Q h = ref10_Write.g ref10_Spend' ref09_Put' x_b x_i x_at x_s h fun n25 h26 => Q (.int .i64 n25) h26 := by kernel_rfl
theorem ref10_Write.good : FnGood Tryz.prog 92 ref10_Write.W := by
  refine FnGood.of (ann := ref10_Write.ann) (env := envOf [(145, fun args => ref10_Spend.L ref10_Spend args.toList), (146, fun args => ref09_Put.L ref09_Put args.toList)]) mixed (EnvGood.cons ref10_Spend.good (EnvGood.cons ref09_Put.good EnvGood.nil)) Tryz.func92 Tryz.call92 fun args => ?_
  show ref10_Write.L ref10_Write args.toList = _ ∨ ∀ Q m, evF Tryz.prog (envOf [(145, fun args => ref10_Spend.L ref10_Spend args.toList), (146, fun args => ref09_Put.L ref09_Put args.toList)]) Tryz.f92 ref10_Write.ann args.toList Q m = ref10_Write.L ref10_Write args.toList Q m
  generalize args.toList = l
  unfold ref10_Write.L
  split
  · exact .inr fun Q m => ref10_Write.geq ref10_Spend ref09_Put _ _ _ _ Q m
  · exact .inl rfl
def ref10_Flush.g (ref10_Spend' : Option Addr → H → (Int → H → Prop) → Prop) (ref09_Flush' : Option Addr → H → (Int → H → Prop) → Prop) (x_b : Option Addr) (x_i : Int) (h : H) (Q : Int → H → Prop) : Prop :=
M.join (α := Bool) (fun d8 h9 =>
(bif d8 then
Q (11 : Int) h9
else
ref10_Spend' x_b h9 fun n10 h11 =>
(bif (n10 != (0 : Int)) then
Q n10 h11
else
M.nn x_b fun a12 =>
M.load h11 (Addr.add a12 0) fun v13 =>
M.slc v13 fun a14 l15 c16 =>
M.idx a14 l15 x_i fun a17 j18 =>
M.load h11 (Addr.add a17 (j18 * 1)) fun v19 =>
M.ptr v19 fun p20 =>
ref09_Flush' p20 h11 fun n21 h22 =>
Q n21 h22))) fun J2 =>
(bif (decide (x_i < (0 : Int))) then
J2 true h
else
M.nn x_b fun a3 =>
M.load h (Addr.add a3 0) fun v4 =>
M.slc v4 fun a5 l6 c7 =>
J2 (decide (x_i ≥ ((l6 : Nat) : Int))) h)
def ref10_Flush (x_b : Option Addr) (x_i : Int) (h : H) (Q : Int → H → Prop) : Prop := ref10_Flush.g ref10_Spend ref09_Flush x_b x_i h Q
def ref10_Flush.L (F : Option Addr → Int → H → (Int → H → Prop) → Prop) : List Value → (Value → H → Prop) → H → Prop
  | [.pointer x_b, .int .i64 x_i] => fun Q h => F x_b x_i h fun n25 h26 => Q (.int .i64 n25) h26
  | _ => fun _ _ => False
def ref10_Flush.W : W := fun args => ref10_Flush.L ref10_Flush args.toList
def ref10_Flush.ann : Ann := ⟨lookN [(1, [(16, .bool)])], lookN [], lookN []⟩
theorem ref10_Flush.geq (ref10_Spend' : Option Addr → H → (Int → H → Prop) → Prop) (ref09_Flush' : Option Addr → H → (Int → H → Prop) → Prop) (x_b : Option Addr) (x_i : Int) (Q : Value → H → Prop) (h : H) : evF Tryz.prog (envOf [(145, fun args => ref10_Spend.L ref10_Spend' args.toList), (147, fun args => ref09_Flush.L ref09_Flush' args.toList)]) Tryz.f93 ref10_Flush.ann [(.pointer x_b), (.int .i64 x_i)] Q h = ref10_Flush.g ref10_Spend' ref09_Flush' x_b x_i h fun n25 h26 => Q (.int .i64 n25) h26 := by kernel_rfl
theorem ref10_Flush.good : FnGood Tryz.prog 93 ref10_Flush.W := by
  refine FnGood.of (ann := ref10_Flush.ann) (env := envOf [(145, fun args => ref10_Spend.L ref10_Spend args.toList), (147, fun args => ref09_Flush.L ref09_Flush args.toList)]) mixed (EnvGood.cons ref10_Spend.good (EnvGood.cons ref09_Flush.good EnvGood.nil)) Tryz.func93 Tryz.call93 fun args => ?_
  show ref10_Flush.L ref10_Flush args.toList = _ ∨ ∀ Q m, evF Tryz.prog (envOf [(145, fun args => ref10_Spend.L ref10_Spend args.toList), (147, fun args => ref09_Flush.L ref09_Flush args.toList)]) Tryz.f93 ref10_Flush.ann args.toList Q m = ref10_Flush.L ref10_Flush args.toList Q m
  generalize args.toList = l
  unfold ref10_Flush.L
  split
  · exact .inr fun Q m => ref10_Flush.geq ref10_Spend ref09_Flush _ _ Q m
  · exact .inl rfl
def codec_Num.g (words_FromBig' : Option Addr → Nat → Nat → H → (ByteArray → H → Prop) → Prop) (x_n : Int) (h : H) (Q : ByteArray → H → Prop) : Prop :=
M.shr0 (32 : Int) (
M.val (shr .u64 x_n (32 : Int)) fun z2 =>
M.val (IntKind.wrap .u32 z2) fun z3 =>
M.val (IntKind.wrap .u32 x_n) fun z4 =>
M.new h (.cells (#[(.int .u32 z3), (.int .u32 z4)] : Array Value) 178) fun b5 h6 =>
words_FromBig' (some (⟨b5, 0, none⟩ : Addr)) 2 2 h6 fun s7 h8 =>
Q s7 h8)
def codec_Num (x_n : Int) (h : H) (Q : ByteArray → H → Prop) : Prop := codec_Num.g words_FromBig x_n h Q
def codec_Num.L (F : Int → H → (ByteArray → H → Prop) → Prop) : List Value → (Value → H → Prop) → H → Prop
  | [.int .u64 x_n] => fun Q h => F x_n h fun s11 h12 => Q (.string s11) h12
  | _ => fun _ _ => False
def codec_Num.W : W := fun args => codec_Num.L codec_Num args.toList
def codec_Num.ann : Ann := ⟨lookN [], lookN [], lookN []⟩
theorem codec_Num.geq (words_FromBig' : Option Addr → Nat → Nat → H → (ByteArray → H → Prop) → Prop) (x_n : Int) (Q : Value → H → Prop) (h : H) : evF Tryz.prog (envOf [(122, fun args => words_FromBig.L words_FromBig' args.toList)]) Tryz.f97 codec_Num.ann [(.int .u64 x_n)] Q h = codec_Num.g words_FromBig' x_n h fun s11 h12 => Q (.string s11) h12 := by kernel_rfl
theorem codec_Num.good : FnGood Tryz.prog 97 codec_Num.W := by
  refine FnGood.of (ann := codec_Num.ann) (env := envOf [(122, fun args => words_FromBig.L words_FromBig args.toList)]) mixed (EnvGood.cons words_FromBig.good EnvGood.nil) Tryz.func97 Tryz.call97 fun args => ?_
  show codec_Num.L codec_Num args.toList = _ ∨ ∀ Q m, evF Tryz.prog (envOf [(122, fun args => words_FromBig.L words_FromBig args.toList)]) Tryz.f97 codec_Num.ann args.toList Q m = codec_Num.L codec_Num args.toList Q m
  generalize args.toList = l
  unfold codec_Num.L
  split
  · exact .inr fun Q m => codec_Num.geq words_FromBig _ Q m
  · exact .inl rfl
def math_bits_Mul.g (math_bits_Mul64' : Int → Int → H → (Int → Int → H → Prop) → Prop) (x_x : Int) (x_y : Int) (h : H) (Q : Int → Int → H → Prop) : Prop :=
math_bits_Mul64' x_x x_y h fun n3 n4 h5 =>
Q n3 n4 h5
def math_bits_Mul (x_x : Int) (x_y : Int) (h : H) (Q : Int → Int → H → Prop) : Prop := math_bits_Mul.g math_bits_Mul64 x_x x_y h Q
def math_bits_Mul.L (F : Int → Int → H → (Int → Int → H → Prop) → Prop) : List Value → (Value → H → Prop) → H → Prop
  | [.int .u64 x_x, .int .u64 x_y] => fun Q h => F x_x x_y h fun n9 n10 h11 => Q (.tuple #[(.int .u64 n9), (.int .u64 n10)]) h11
  | _ => fun _ _ => False
def math_bits_Mul.W : W := fun args => math_bits_Mul.L math_bits_Mul args.toList
def math_bits_Mul.ann : Ann := ⟨lookN [], lookN [], lookN []⟩
theorem math_bits_Mul.geq (math_bits_Mul64' : Int → Int → H → (Int → Int → H → Prop) → Prop) (x_x : Int) (x_y : Int) (Q : Value → H → Prop) (h : H) : evF Tryz.prog (envOf [(160, fun args => math_bits_Mul64.L math_bits_Mul64' args.toList)]) Tryz.f113 math_bits_Mul.ann [(.int .u64 x_x), (.int .u64 x_y)] Q h = math_bits_Mul.g math_bits_Mul64' x_x x_y h fun n9 n10 h11 => Q (.tuple #[(.int .u64 n9), (.int .u64 n10)]) h11 := by kernel_rfl
theorem math_bits_Mul.good : FnGood Tryz.prog 113 math_bits_Mul.W := by
  refine FnGood.of (ann := math_bits_Mul.ann) (env := envOf [(160, fun args => math_bits_Mul64.L math_bits_Mul64 args.toList)]) mixed (EnvGood.cons math_bits_Mul64.good EnvGood.nil) Tryz.func113 Tryz.call113 fun args => ?_
  show math_bits_Mul.L math_bits_Mul args.toList = _ ∨ ∀ Q m, evF Tryz.prog (envOf [(160, fun args => math_bits_Mul64.L math_bits_Mul64 args.toList)]) Tryz.f113 math_bits_Mul.ann args.toList Q m = math_bits_Mul.L math_bits_Mul args.toList Q m
  generalize args.toList = l
  unfold math_bits_Mul.L
  split
  · exact .inr fun Q m => math_bits_Mul.geq math_bits_Mul64 _ _ Q m
  · exact .inl rfl
def aead_lengths.g (words_FromLittle' : Option Addr → Nat → Nat → H → (ByteArray → H → Prop) → Prop) (x_texts : Option Addr) (x_textsL : Nat) (x_textsC : Nat) (h : H) (Q : ByteArray → H → Prop) : Prop :=
M.join (α := (Option Addr × Nat × Nat)) (fun d22 h23 =>
words_FromLittle' d22.1 d22.2.1 d22.2.2 h23 fun s24 h25 =>
Q s24 h25) fun J2 =>
M.loop (α := (Option Addr × Nat × Nat) × Int) (fun J3 d4 h5 =>
(bif (decide (d4.2 < ((x_textsL : Nat) : Int))) then
M.idx x_texts x_textsL d4.2 fun a6 j7 =>
M.load h5 (Addr.add a6 (j7 * 1)) fun v8 =>
M.str v8 fun s9 =>
M.val (IntKind.wrap .u64 (ByteArray.size s9 : Int)) fun z10 =>
M.val (IntKind.wrap .u32 z10) fun z11 =>
M.shr0 (32 : Int) (
M.val (shr .u64 z10 (32 : Int)) fun z12 =>
M.val (IntKind.wrap .u32 z12) fun z13 =>
M.new h5 (.cells (#[(.int .u32 z11), (.int .u32 z13)] : Array Value) 178) fun b14 h15 =>
M.cellsOf h15 (some (⟨b14, 0, none⟩ : Addr)) (2 * 1) fun cs20 =>
M.app h15 178 1 4 [(.int .u32 (0 : Int))] d4.1.1 d4.1.2.1 d4.1.2.2 2 cs20 fun a16 l17 c18 h19 =>
M.val (IntKind.wrap .i64 (d4.2 + (1 : Int))) fun z21 =>
J3 ((a16, l17, c18), z21) h19)
else
J2 (d4.1.1, d4.1.2.1, d4.1.2.2) h5)) ((none, 0, 0), (0 : Int)) h
def aead_lengths (x_texts : Option Addr) (x_textsL : Nat) (x_textsC : Nat) (h : H) (Q : ByteArray → H → Prop) : Prop := aead_lengths.g words_FromLittle x_texts x_textsL x_textsC h Q
def aead_lengths.L (F : Option Addr → Nat → Nat → H → (ByteArray → H → Prop) → Prop) : List Value → (Value → H → Prop) → H → Prop
  | [.slice x_texts x_textsL x_textsC] => fun Q h => F x_texts x_textsL x_textsC h fun s28 h29 => Q (.string s28) h29
  | _ => fun _ _ => False
def aead_lengths.W : W := fun args => aead_lengths.L aead_lengths args.toList
def aead_lengths.ann : Ann := ⟨lookN [], lookN [(7, [(3, .slc)])], lookN [(58, [(3, .slc), (9, .int .i64)])]⟩
theorem aead_lengths.geq (words_FromLittle' : Option Addr → Nat → Nat → H → (ByteArray → H → Prop) → Prop) (x_texts : Option Addr) (x_textsL : Nat) (x_textsC : Nat) (Q : Value → H → Prop) (h : H) : evF Tryz.prog (envOf [(191, fun args => words_FromLittle.L words_FromLittle' args.toList)]) Tryz.f153 aead_lengths.ann [(.slice x_texts x_textsL x_textsC)] Q h = aead_lengths.g words_FromLittle' x_texts x_textsL x_textsC h fun s28 h29 => Q (.string s28) h29 := by kernel_rfl
theorem aead_lengths.good : FnGood Tryz.prog 153 aead_lengths.W := by
  refine FnGood.of (ann := aead_lengths.ann) (env := envOf [(191, fun args => words_FromLittle.L words_FromLittle args.toList)]) mixed (EnvGood.cons words_FromLittle.good EnvGood.nil) Tryz.func153 Tryz.call153 fun args => ?_
  show aead_lengths.L aead_lengths args.toList = _ ∨ ∀ Q m, evF Tryz.prog (envOf [(191, fun args => words_FromLittle.L words_FromLittle args.toList)]) Tryz.f153 aead_lengths.ann args.toList Q m = aead_lengths.L aead_lengths args.toList Q m
  generalize args.toList = l
  unfold aead_lengths.L
  split
  · exact .inr fun Q m => aead_lengths.geq words_FromLittle _ _ _ Q m
  · exact .inl rfl
def words_Right.g (words_Left' : Int → Int → H → (Int → H → Prop) → Prop) (x_x : Int) (x_n : Int) (h : H) (Q : Int → H → Prop) : Prop :=
M.val (IntKind.wrap .u64 x_n) fun z2 =>
M.nz (32 : Int) (
M.val (Int.tmod z2 (32 : Int)) fun z3 =>
M.val (IntKind.wrap .i64 z3) fun z4 =>
M.val (IntKind.wrap .i64 ((32 : Int) - z4)) fun z5 =>
words_Left' x_x z5 h fun n6 h7 =>
Q n6 h7)
def words_Right (x_x : Int) (x_n : Int) (h : H) (Q : Int → H → Prop) : Prop := words_Right.g words_Left x_x x_n h Q
def words_Right.L (F : Int → Int → H → (Int → H → Prop) → Prop) : List Value → (Value → H → Prop) → H → Prop
  | [.int .u32 x_x, .int .i64 x_n] => fun Q h => F x_x x_n h fun n10 h11 => Q (.int .u32 n10) h11
  | _ => fun _ _ => False
def words_Right.W : W := fun args => words_Right.L words_Right args.toList
def words_Right.ann : Ann := ⟨lookN [], lookN [], lookN []⟩
theorem words_Right.geq (words_Left' : Int → Int → H → (Int → H → Prop) → Prop) (x_x : Int) (x_n : Int) (Q : Value → H → Prop) (h : H) : evF Tryz.prog (envOf [(205, fun args => words_Left.L words_Left' args.toList)]) Tryz.f165 words_Right.ann [(.int .u32 x_x), (.int .i64 x_n)] Q h = words_Right.g words_Left' x_x x_n h fun n10 h11 => Q (.int .u32 n10) h11 := by kernel_rfl
theorem words_Right.good : FnGood Tryz.prog 165 words_Right.W := by
  refine FnGood.of (ann := words_Right.ann) (env := envOf [(205, fun args => words_Left.L words_Left args.toList)]) mixed (EnvGood.cons words_Left.good EnvGood.nil) Tryz.func165 Tryz.call165 fun args => ?_
  show words_Right.L words_Right args.toList = _ ∨ ∀ Q m, evF Tryz.prog (envOf [(205, fun args => words_Left.L words_Left args.toList)]) Tryz.f165 words_Right.ann args.toList Q m = words_Right.L words_Right args.toList Q m
  generalize args.toList = l
  unfold words_Right.L
  split
  · exact .inr fun Q m => words_Right.geq words_Left _ _ Q m
  · exact .inl rfl
def ref05_padded.g (ref01_Text' : Option Addr → Nat → Nat → Bool → H → (ByteArray → H → Prop) → Prop) (x_s : ByteArray) (h : H) (Q : ByteArray → H → Prop) : Prop :=
M.cat x_s (⟨#[128]⟩ : ByteArray) fun s2 =>
M.s2b h 5 s2 fun a3 l4 c5 h6 =>
M.join (α := (Option Addr × Nat × Nat)) (fun d19 h20 =>
M.val (IntKind.wrap .i64 ((8 : Int) * (ByteArray.size x_s : Int))) fun z21 =>
M.nz (4294967296 : Int) (
M.val (IntKind.wrap .i64 (Int.tdiv z21 (4294967296 : Int))) fun z22 =>
M.val (IntKind.wrap .u32 z22) fun z23 =>
M.nz (4294967296 : Int) (
M.val (Int.tmod z21 (4294967296 : Int)) fun z24 =>
M.val (IntKind.wrap .u32 z24) fun z25 =>
M.new h20 (.cells (#[(.int .u32 z23), (.int .u32 z25)] : Array Value) 178) fun b26 h27 =>
ref01_Text' (some (⟨b26, 0, none⟩ : Addr)) 2 2 true h27 fun s28 h29 =>
M.b2s h29 d19.1 d19.2.1 fun s30 =>
M.cat s30 s28 fun s31 =>
Q s31 h29))) fun J7 =>
M.loop (α := (Option Addr × Nat × Nat)) (fun J8 d9 h10 =>
M.nz (64 : Int) (
M.val (Int.tmod ((d9.2.1 : Nat) : Int) (64 : Int)) fun z11 =>
(bif (z11 != (56 : Int)) then
M.new h10 (.cells (#[(.int .u8 (0 : Int))] : Array Value) 5) fun b12 h13 =>
M.cellsOf h13 (some (⟨b12, 0, none⟩ : Addr)) (1 * 1) fun cs18 =>
M.app h13 5 1 1 [(.int .u8 (0 : Int))] d9.1 d9.2.1 d9.2.2 1 cs18 fun a14 l15 c16 h17 =>
J8 (a14, l15, c16) h17
else
J7 (d9.1, d9.2.1, d9.2.2) h10))) (a3, l4, c5) h6
def ref05_padded (x_s : ByteArray) (h : H) (Q : ByteArray → H → Prop) : Prop := ref05_padded.g ref01_Text x_s h Q
def ref05_padded.L (F : ByteArray → H → (ByteArray → H → Prop) → Prop) : List Value → (Value → H → Prop) → H → Prop
  | [.string x_s] => fun Q h => F x_s h fun s34 h35 => Q (.string s34) h35
  | _ => fun _ _ => False
def ref05_padded.W : W := fun args => ref05_padded.L ref05_padded args.toList
def ref05_padded.ann : Ann := ⟨lookN [], lookN [(7, [(3, .slc)])], lookN [(28, [(3, .slc)])]⟩
theorem ref05_padded.geq (ref01_Text' : Option Addr → Nat → Nat → Bool → H → (ByteArray → H → Prop) → Prop) (x_s : ByteArray) (Q : Value → H → Prop) (h : H) : evF Tryz.prog (envOf [(188, fun args => ref01_Text.L ref01_Text' args.toList)]) Tryz.f186 ref05_padded.ann [(.string x_s)] Q h = ref05_padded.g ref01_Text' x_s h fun s34 h35 => Q (.string s34) h35 := by kernel_rfl
theorem ref05_padded.good : FnGood Tryz.prog 186 ref05_padded.W := by
  refine FnGood.of (ann := ref05_padded.ann) (env := envOf [(188, fun args => ref01_Text.L ref01_Text args.toList)]) mixed (EnvGood.cons ref01_Text.good EnvGood.nil) Tryz.func186 Tryz.call186 fun args => ?_
  show ref05_padded.L ref05_padded args.toList = _ ∨ ∀ Q m, evF Tryz.prog (envOf [(188, fun args => ref01_Text.L ref01_Text args.toList)]) Tryz.f186 ref05_padded.ann args.toList Q m = ref05_padded.L ref05_padded args.toList Q m
  generalize args.toList = l
  unfold ref05_padded.L
  split
  · exact .inr fun Q m => ref05_padded.geq ref01_Text _ Q m
  · exact .inl rfl
def words_Little.g (words_each_words_Little_1' : ByteArray → H → (Option Addr → Nat → Nat → Int → H → Prop) → Prop) (x_s : ByteArray) (h : H) (Q : Option Addr → Nat → Nat → Int → H → Prop) : Prop :=
words_each_words_Little_1' x_s h fun a5 l6 c7 n8 h9 =>
Q a5 l6 c7 n8 h9
def words_Little (x_s : ByteArray) (h : H) (Q : Option Addr → Nat → Nat → Int → H → Prop) : Prop := words_Little.g words_each_words_Little_1 x_s h Q
def words_Little.L (F : ByteArray → H → (Option Addr → Nat → Nat → Int → H → Prop) → Prop) : List Value → (Value → H → Prop) → H → Prop
  | [.string x_s] => fun Q h => F x_s h fun a15 l16 c17 n18 h19 => Q (.tuple #[(.slice a15 l16 c17), (.int .i64 n18)]) h19
  | _ => fun _ _ => False
def words_Little.W : W := fun args => words_Little.L words_Little args.toList
def words_Little.ann : Ann := ⟨lookN [], lookN [], lookN []⟩
theorem words_Little.geq (words_each_words_Little_1' : ByteArray → H → (Option Addr → Nat → Nat → Int → H → Prop) → Prop) (x_s : ByteArray) (Q : Value → H → Prop) (h : H) : evF Tryz.prog (envOf [(222, fun args => words_each_words_Little_1.L words_each_words_Little_1' args.toList)]) Tryz.f189 words_Little.ann [(.string x_s)] Q h = words_Little.g words_each_words_Little_1' x_s h fun a15 l16 c17 n18 h19 => Q (.tuple #[(.slice a15 l16 c17), (.int .i64 n18)]) h19 := by kernel_rfl
theorem words_Little.good : FnGood Tryz.prog 189 words_Little.W := by
  refine FnGood.of (ann := words_Little.ann) (env := envOf [(222, fun args => words_each_words_Little_1.L words_each_words_Little_1 args.toList)]) mixed (EnvGood.cons words_each_words_Little_1.good EnvGood.nil) Tryz.func189 Tryz.call189 fun args => ?_
  show words_Little.L words_Little args.toList = _ ∨ ∀ Q m, evF Tryz.prog (envOf [(222, fun args => words_each_words_Little_1.L words_each_words_Little_1 args.toList)]) Tryz.f189 words_Little.ann args.toList Q m = words_Little.L words_Little args.toList Q m
  generalize args.toList = l
  unfold words_Little.L
  split
  · exact .inr fun Q m => words_Little.geq words_each_words_Little_1 _ Q m
  · exact .inl rfl
def chacha_quarter.g (chacha_Quarter' : Int → Int → Int → Int → H → (Int → Int → Int → Int → H → Prop) → Prop) (x_s : Option Addr) (x_a : Int) (x_b : Int) (x_c : Int) (x_d : Int) (h : H) (Q : H → Prop) : Prop :=
M.nn x_s fun a1 =>
M.aidx 16 x_a fun j2 =>
M.load h (Addr.add a1 (j2 * 1)) fun v3 =>
M.int .u32 v3 fun n4 =>
M.nn x_s fun a5 =>
M.aidx 16 x_b fun j6 =>
M.load h (Addr.add a5 (j6 * 1)) fun v7 =>
M.int .u32 v7 fun n8 =>
M.nn x_s fun a9 =>
M.aidx 16 x_c fun j10 =>
M.load h (Addr.add a9 (j10 * 1)) fun v11 =>
M.int .u32 v11 fun n12 =>
M.nn x_s fun a13 =>
M.aidx 16 x_d fun j14 =>
M.load h (Addr.add a13 (j14 * 1)) fun v15 =>
M.int .u32 v15 fun n16 =>
M.nn x_s fun a17 =>
M.nn x_s fun a18 =>
M.nn x_s fun a19 =>
M.nn x_s fun a20 =>
chacha_Quarter' n4 n8 n12 n16 h fun n21 n22 n23 n24 h25 =>
M.aidx 16 x_a fun j26 =>
M.put h25 (Addr.add a17 (j26 * 1)) (.int .u32 n21) fun h27 =>
M.aidx 16 x_b fun j28 =>
M.put h27 (Addr.add a18 (j28 * 1)) (.int .u32 n22) fun h29 =>
M.aidx 16 x_c fun j30 =>
M.put h29 (Addr.add a19 (j30 * 1)) (.int .u32 n23) fun h31 =>
M.aidx 16 x_d fun j32 =>
M.put h31 (Addr.add a20 (j32 * 1)) (.int .u32 n24) fun h33 =>
Q  h33
def chacha_quarter (x_s : Option Addr) (x_a : Int) (x_b : Int) (x_c : Int) (x_d : Int) (h : H) (Q : H → Prop) : Prop := chacha_quarter.g chacha_Quarter x_s x_a x_b x_c x_d h Q
def chacha_quarter.L (F : Option Addr → Int → Int → Int → Int → H → (H → Prop) → Prop) : List Value → (Value → H → Prop) → H → Prop
  | [.pointer x_s, .int .i64 x_a, .int .i64 x_b, .int .i64 x_c, .int .i64 x_d] => fun Q h => F x_s x_a x_b x_c x_d h fun h35 => Q (.tuple #[]) h35
  | _ => fun _ _ => False
def chacha_quarter.W : W := fun args => chacha_quarter.L chacha_quarter args.toList
def chacha_quarter.ann : Ann := ⟨lookN [], lookN [], lookN []⟩
theorem chacha_quarter.geq (chacha_Quarter' : Int → Int → Int → Int → H → (Int → Int → Int → Int → H → Prop) → Prop) (x_s : Option Addr) (x_a : Int) (x_b : Int) (x_c : Int) (x_d : Int) (Q : Value → H → Prop) (h : H) : evF Tryz.prog (envOf [(224, fun args => chacha_Quarter.L chacha_Quarter' args.toList)]) Tryz.f190 chacha_quarter.ann [(.pointer x_s), (.int .i64 x_a), (.int .i64 x_b), (.int .i64 x_c), (.int .i64 x_d)] Q h = chacha_quarter.g chacha_Quarter' x_s x_a x_b x_c x_d h fun h35 => Q (.tuple #[]) h35 := by kernel_rfl
theorem chacha_quarter.good : FnGood Tryz.prog 190 chacha_quarter.W := by
  refine FnGood.of (ann := chacha_quarter.ann) (env := envOf [(224, fun args => chacha_Quarter.L chacha_Quarter args.toList)]) mixed (EnvGood.cons chacha_Quarter.good EnvGood.nil) Tryz.func190 Tryz.call190 fun args => ?_
  show chacha_quarter.L chacha_quarter args.toList = _ ∨ ∀ Q m, evF Tryz.prog (envOf [(224, fun args => chacha_Quarter.L chacha_Quarter args.toList)]) Tryz.f190 chacha_quarter.ann args.toList Q m = chacha_quarter.L chacha_quarter args.toList Q m
  generalize args.toList = l
  unfold chacha_quarter.L
  split
  · exact .inr fun Q m => chacha_quarter.geq chacha_Quarter _ _ _ _ _ Q m
  · exact .inl rfl
def poly_of.g (words_Little' : ByteArray → H → (Option Addr → Nat → Nat → Int → H → Prop) → Prop) (x_s : ByteArray) (x_above : Int) (h : H) (Q : Int → Int → Int → Int → Int → H → Prop) : Prop :=
M.new h (.cells (#[(.int .u64 (0 : Int)), (.int .u64 (0 : Int)), (.int .u64 (0 : Int)), (.int .u64 (0 : Int)), (.int .u64 (0 : Int))] : Array Value) 279) fun b6 h7 =>
words_Little' x_s h7 fun a8 l9 c10 n11 h12 =>
M.new h12 (.cells (#[(.int .u64 (0 : Int)), (.int .u64 (0 : Int)), (.int .u64 (0 : Int)), (.int .u64 (0 : Int))] : Array Value) 308) fun b13 h14 =>
M.join (α := Unit) (fun d27 h28 =>
M.aidx 4 (0 : Int) fun j29 =>
M.load h28 (Addr.add (⟨b13, 0, none⟩ : Addr) (j29 * 1)) fun v30 =>
M.int .u64 v30 fun n31 =>
M.val (bAnd .u64 n31 (67108863 : Int)) fun z32 =>
M.aidx 4 (0 : Int) fun j33 =>
M.load h28 (Addr.add (⟨b13, 0, none⟩ : Addr) (j33 * 1)) fun v34 =>
M.int .u64 v34 fun n35 =>
M.shr0 (26 : Int) (
M.val (shr .u64 n35 (26 : Int)) fun z36 =>
M.aidx 4 (1 : Int) fun j37 =>
M.load h28 (Addr.add (⟨b13, 0, none⟩ : Addr) (j37 * 1)) fun v38 =>
M.int .u64 v38 fun n39 =>
M.shr0 (6 : Int) (
M.val (shl .u64 n39 (6 : Int)) fun z40 =>
M.val (bOr .u64 z36 z40) fun z41 =>
M.val (bAnd .u64 z41 (67108863 : Int)) fun z42 =>
M.aidx 4 (1 : Int) fun j43 =>
M.load h28 (Addr.add (⟨b13, 0, none⟩ : Addr) (j43 * 1)) fun v44 =>
M.int .u64 v44 fun n45 =>
M.shr0 (20 : Int) (
M.val (shr .u64 n45 (20 : Int)) fun z46 =>
M.aidx 4 (2 : Int) fun j47 =>
M.load h28 (Addr.add (⟨b13, 0, none⟩ : Addr) (j47 * 1)) fun v48 =>
M.int .u64 v48 fun n49 =>
M.shr0 (12 : Int) (
M.val (shl .u64 n49 (12 : Int)) fun z50 =>
M.val (bOr .u64 z46 z50) fun z51 =>
M.val (bAnd .u64 z51 (67108863 : Int)) fun z52 =>
M.aidx 4 (2 : Int) fun j53 =>
M.load h28 (Addr.add (⟨b13, 0, none⟩ : Addr) (j53 * 1)) fun v54 =>
M.int .u64 v54 fun n55 =>
M.shr0 (14 : Int) (
M.val (shr .u64 n55 (14 : Int)) fun z56 =>
M.aidx 4 (3 : Int) fun j57 =>
M.load h28 (Addr.add (⟨b13, 0, none⟩ : Addr) (j57 * 1)) fun v58 =>
M.int .u64 v58 fun n59 =>
M.shr0 (18 : Int) (
M.val (shl .u64 n59 (18 : Int)) fun z60 =>
M.val (bOr .u64 z56 z60) fun z61 =>
M.val (bAnd .u64 z61 (67108863 : Int)) fun z62 =>
M.aidx 4 (3 : Int) fun j63 =>
M.load h28 (Addr.add (⟨b13, 0, none⟩ : Addr) (j63 * 1)) fun v64 =>
M.int .u64 v64 fun n65 =>
M.shr0 (8 : Int) (
M.val (shr .u64 n65 (8 : Int)) fun z66 =>
M.shr0 (24 : Int) (
M.val (shl .u64 x_above (24 : Int)) fun z67 =>
M.val (bOr .u64 z66 z67) fun z68 =>
M.req (Array.size (#[(.int .u64 z32), (.int .u64 z42), (.int .u64 z52), (.int .u64 z62), (.int .u64 z68)] : Array Value) = 5) (M.puts h28 (⟨b6, 0, none⟩ : Addr) [(.int .u64 z32), (.int .u64 z42), (.int .u64 z52), (.int .u64 z62), (.int .u64 z68)] fun h69 =>
M.load h69 ((⟨b6, 0, none⟩ : Addr).add 0) fun v70 =>
M.int .u64 v70 fun n71 =>
M.load h69 ((⟨b6, 0, none⟩ : Addr).add 1) fun v72 =>
M.int .u64 v72 fun n73 =>
M.load h69 ((⟨b6, 0, none⟩ : Addr).add 2) fun v74 =>
M.int .u64 v74 fun n75 =>
M.load h69 ((⟨b6, 0, none⟩ : Addr).add 3) fun v76 =>
M.int .u64 v76 fun n77 =>
M.load h69 ((⟨b6, 0, none⟩ : Addr).add 4) fun v78 =>
M.int .u64 v78 fun n79 =>
Q n71 n73 n75 n77 n79 h69)))))))))) fun J15 =>
M.loop (α := Int) (fun J16 d17 h18 =>
(bif (decide (d17 < (4 : Int))) then
M.idx a8 l9 d17 fun a19 j20 =>
M.load h18 (Addr.add a19 (j20 * 1)) fun v21 =>
M.int .u32 v21 fun n22 =>
M.val (IntKind.wrap .u64 n22) fun z23 =>
M.aidx 4 d17 fun j24 =>
M.put h18 (Addr.add (⟨b13, 0, none⟩ : Addr) (j24 * 1)) (.int .u64 z23) fun h25 =>
M.val (IntKind.wrap .i64 (d17 + (1 : Int))) fun z26 =>
J16 z26 h25
else
J15 () h18)) (0 : Int) h14
def poly_of (x_s : ByteArray) (x_above : Int) (h : H) (Q : Int → Int → Int → Int → Int → H → Prop) : Prop := poly_of.g words_Little x_s x_above h Q
def poly_of.L (F : ByteArray → Int → H → (Int → Int → Int → Int → Int → H → Prop) → Prop) : List Value → (Value → H → Prop) → H → Prop
  | [.string x_s, .int .u64 x_above] => fun Q h => F x_s x_above h fun n86 n87 n88 n89 n90 h91 => Q (.agg (#[(.int .u64 n86), (.int .u64 n87), (.int .u64 n88), (.int .u64 n89), (.int .u64 n90)] : Array Value)) h91
  | _ => fun _ _ => False
def poly_of.W : W := fun args => poly_of.L poly_of args.toList
def poly_of.ann : Ann := ⟨lookN [], lookN [(15, [])], lookN [(122, [(14, .int .i64)])]⟩
theorem poly_of.geq (words_Little' : ByteArray → H → (Option Addr → Nat → Nat → Int → H → Prop) → Prop) (x_s : ByteArray) (x_above : Int) (Q : Value → H → Prop) (h : H) : evF Tryz.prog (envOf [(189, fun args => words_Little.L words_Little' args.toList)]) Tryz.f193 poly_of.ann [(.string x_s), (.int .u64 x_above)] Q h = poly_of.g words_Little' x_s x_above h fun n86 n87 n88 n89 n90 h91 => Q (.agg (#[(.int .u64 n86), (.int .u64 n87), (.int .u64 n88), (.int .u64 n89), (.int .u64 n90)] : Array Value)) h91 := by kernel_rfl
theorem poly_of.good : FnGood Tryz.prog 193 poly_of.W := by
  refine FnGood.of (ann := poly_of.ann) (env := envOf [(189, fun args => words_Little.L words_Little args.toList)]) mixed (EnvGood.cons words_Little.good EnvGood.nil) Tryz.func193 Tryz.call193 fun args => ?_
  show poly_of.L poly_of args.toList = _ ∨ ∀ Q m, evF Tryz.prog (envOf [(189, fun args => words_Little.L words_Little args.toList)]) Tryz.f193 poly_of.ann args.toList Q m = poly_of.L poly_of args.toList Q m
  generalize args.toList = l
  unfold poly_of.L
  split
  · exact .inr fun Q m => poly_of.geq words_Little _ _ Q m
  · exact .inl rfl
def poly_limbs_times.g (poly_limbs_carry' : Option Addr → H → (H → Prop) → Prop) (x_a : Option Addr) (x_r_0 : Int) (x_r_1 : Int) (x_r_2 : Int) (x_r_3 : Int) (x_r_4 : Int) (h : H) (Q : H → Prop) : Prop :=
M.new h (.cells (#[(.int .u64 x_r_0), (.int .u64 x_r_1), (.int .u64 x_r_2), (.int .u64 x_r_3), (.int .u64 x_r_4)] : Array Value) 279) fun b1 h2 =>
M.new h2 (.cells (#[(.int .u64 (0 : Int)), (.int .u64 (0 : Int)), (.int .u64 (0 : Int)), (.int .u64 (0 : Int)), (.int .u64 (0 : Int))] : Array Value) 279) fun b3 h4 =>
M.join (α := Unit) (fun d51 h52 =>
poly_limbs_carry' (some (⟨b3, 0, none⟩ : Addr)) h52 fun h53 =>
M.load h53 ((⟨b3, 0, none⟩ : Addr).add 0) fun v54 =>
M.int .u64 v54 fun n55 =>
M.load h53 ((⟨b3, 0, none⟩ : Addr).add 1) fun v56 =>
M.int .u64 v56 fun n57 =>
M.load h53 ((⟨b3, 0, none⟩ : Addr).add 2) fun v58 =>
M.int .u64 v58 fun n59 =>
M.load h53 ((⟨b3, 0, none⟩ : Addr).add 3) fun v60 =>
M.int .u64 v60 fun n61 =>
M.load h53 ((⟨b3, 0, none⟩ : Addr).add 4) fun v62 =>
M.int .u64 v62 fun n63 =>
M.nn x_a fun a64 =>
M.req (Array.size (#[(.int .u64 n55), (.int .u64 n57), (.int .u64 n59), (.int .u64 n61), (.int .u64 n63)] : Array Value) = 5) (M.puts h53 a64 [(.int .u64 n55), (.int .u64 n57), (.int .u64 n59), (.int .u64 n61), (.int .u64 n63)] fun h65 =>
Q  h65)) fun J5 =>
M.loop (α := Int) (fun J6 d7 h8 =>
(bif (decide (d7 < (5 : Int))) then
M.nn x_a fun a9 =>
M.aidx 5 d7 fun j10 =>
M.load h8 (Addr.add a9 (j10 * 1)) fun v11 =>
M.int .u64 v11 fun n12 =>
M.load h8 ((⟨b1, 0, none⟩ : Addr).add 0) fun v13 =>
M.int .u64 v13 fun n14 =>
M.load h8 ((⟨b1, 0, none⟩ : Addr).add 1) fun v15 =>
M.int .u64 v15 fun n16 =>
M.load h8 ((⟨b1, 0, none⟩ : Addr).add 2) fun v17 =>
M.int .u64 v17 fun n18 =>
M.load h8 ((⟨b1, 0, none⟩ : Addr).add 3) fun v19 =>
M.int .u64 v19 fun n20 =>
M.load h8 ((⟨b1, 0, none⟩ : Addr).add 4) fun v21 =>
M.int .u64 v21 fun n22 =>
M.loop (α := Int) (fun J23 d24 h25 =>
(bif (decide (d24 < (5 : Int))) then
M.aidx 5 d24 fun j26 =>
M.at (#[(.int .u64 n14), (.int .u64 n16), (.int .u64 n18), (.int .u64 n20), (.int .u64 n22)] : Array Value) (j26 * 1) fun v27 =>
M.int .u64 v27 fun n28 =>
M.val (IntKind.wrap .i64 (d7 + d24)) fun z29 =>
(bif (decide (z29 < (5 : Int))) then
M.val (IntKind.wrap .i64 (d7 + d24)) fun z30 =>
M.aidx 5 z30 fun j31 =>
M.load h25 (Addr.add (⟨b3, 0, none⟩ : Addr) (j31 * 1)) fun v32 =>
M.int .u64 v32 fun n33 =>
M.val (IntKind.wrap .u64 (n12 * n28)) fun z34 =>
M.val (IntKind.wrap .u64 (n33 + z34)) fun z35 =>
M.aidx 5 z30 fun j36 =>
M.put h25 (Addr.add (⟨b3, 0, none⟩ : Addr) (j36 * 1)) (.int .u64 z35) fun h37 =>
M.val (IntKind.wrap .i64 (d24 + (1 : Int))) fun z38 =>
J23 z38 h37
else
M.val (IntKind.wrap .i64 (d7 + d24)) fun z39 =>
M.val (IntKind.wrap .i64 (z39 - (5 : Int))) fun z40 =>
M.aidx 5 z40 fun j41 =>
M.load h25 (Addr.add (⟨b3, 0, none⟩ : Addr) (j41 * 1)) fun v42 =>
M.int .u64 v42 fun n43 =>
M.val (IntKind.wrap .u64 (n12 * n28)) fun z44 =>
M.val (IntKind.wrap .u64 (z44 * (5 : Int))) fun z45 =>
M.val (IntKind.wrap .u64 (n43 + z45)) fun z46 =>
M.aidx 5 z40 fun j47 =>
M.put h25 (Addr.add (⟨b3, 0, none⟩ : Addr) (j47 * 1)) (.int .u64 z46) fun h48 =>
M.val (IntKind.wrap .i64 (d24 + (1 : Int))) fun z49 =>
J23 z49 h48)
else
M.val (IntKind.wrap .i64 (d7 + (1 : Int))) fun z50 =>
J6 z50 h25)) (0 : Int) h8
else
J5 () h8)) (0 : Int) h4
def poly_limbs_times (x_a : Option Addr) (x_r_0 : Int) (x_r_1 : Int) (x_r_2 : Int) (x_r_3 : Int) (x_r_4 : Int) (h : H) (Q : H → Prop) : Prop := poly_limbs_times.g poly_limbs_carry x_a x_r_0 x_r_1 x_r_2 x_r_3 x_r_4 h Q
def poly_limbs_times.L (F : Option Addr → Int → Int → Int → Int → Int → H → (H → Prop) → Prop) : List Value → (Value → H → Prop) → H → Prop
  | [.pointer x_a, .agg ⟨[.int .u64 x_r_0, .int .u64 x_r_1, .int .u64 x_r_2, .int .u64 x_r_3, .int .u64 x_r_4]⟩] => fun Q h => F x_a x_r_0 x_r_1 x_r_2 x_r_3 x_r_4 h fun h67 => Q (.tuple #[]) h67
  | _ => fun _ _ => False
def poly_limbs_times.W : W := fun args => poly_limbs_times.L poly_limbs_times args.toList
def poly_limbs_times.ann : Ann := ⟨lookN [], lookN [(7, [])], lookN [(58, [(10, .int .i64)]), (14950, [(17, .int .i64)])]⟩
theorem poly_limbs_times.geq (poly_limbs_carry' : Option Addr → H → (H → Prop) → Prop) (x_a : Option Addr) (x_r_0 : Int) (x_r_1 : Int) (x_r_2 : Int) (x_r_3 : Int) (x_r_4 : Int) (Q : Value → H → Prop) (h : H) : evF Tryz.prog (envOf [(225, fun args => poly_limbs_carry.L poly_limbs_carry' args.toList)]) Tryz.f194 poly_limbs_times.ann [(.pointer x_a), (.agg (#[(.int .u64 x_r_0), (.int .u64 x_r_1), (.int .u64 x_r_2), (.int .u64 x_r_3), (.int .u64 x_r_4)] : Array Value))] Q h = poly_limbs_times.g poly_limbs_carry' x_a x_r_0 x_r_1 x_r_2 x_r_3 x_r_4 h fun h67 => Q (.tuple #[]) h67 := by kernel_rfl
theorem poly_limbs_times.good : FnGood Tryz.prog 194 poly_limbs_times.W := by
  refine FnGood.of (ann := poly_limbs_times.ann) (env := envOf [(225, fun args => poly_limbs_carry.L poly_limbs_carry args.toList)]) mixed (EnvGood.cons poly_limbs_carry.good EnvGood.nil) Tryz.func194 Tryz.call194 fun args => ?_
  show poly_limbs_times.L poly_limbs_times args.toList = _ ∨ ∀ Q m, evF Tryz.prog (envOf [(225, fun args => poly_limbs_carry.L poly_limbs_carry args.toList)]) Tryz.f194 poly_limbs_times.ann args.toList Q m = poly_limbs_times.L poly_limbs_times args.toList Q m
  generalize args.toList = l
  unfold poly_limbs_times.L
  split
  · exact .inr fun Q m => poly_limbs_times.geq poly_limbs_carry _ _ _ _ _ _ Q m
  · exact .inl rfl
def poly_limbs_least.g (poly_limbs_carry' : Option Addr → H → (H → Prop) → Prop) (x_a : Option Addr) (h : H) (Q : H → Prop) : Prop :=
poly_limbs_carry' x_a h fun h1 =>
poly_limbs_carry' x_a h1 fun h2 =>
M.nn x_a fun a3 =>
M.load h2 (a3.add 0) fun v4 =>
M.int .u64 v4 fun n5 =>
M.load h2 (a3.add 1) fun v6 =>
M.int .u64 v6 fun n7 =>
M.load h2 (a3.add 2) fun v8 =>
M.int .u64 v8 fun n9 =>
M.load h2 (a3.add 3) fun v10 =>
M.int .u64 v10 fun n11 =>
M.load h2 (a3.add 4) fun v12 =>
M.int .u64 v12 fun n13 =>
M.new h2 (.cells (#[(.int .u64 (0 : Int)), (.int .u64 (0 : Int)), (.int .u64 (0 : Int)), (.int .u64 (0 : Int)), (.int .u64 (0 : Int))] : Array Value) 279) fun b14 h15 =>
M.req (Array.size (#[(.int .u64 n5), (.int .u64 n7), (.int .u64 n9), (.int .u64 n11), (.int .u64 n13)] : Array Value) = 5) (M.puts h15 (⟨b14, 0, none⟩ : Addr) [(.int .u64 n5), (.int .u64 n7), (.int .u64 n9), (.int .u64 n11), (.int .u64 n13)] fun h16 =>
M.aidx 5 (0 : Int) fun j17 =>
M.load h16 (Addr.add (⟨b14, 0, none⟩ : Addr) (j17 * 1)) fun v18 =>
M.int .u64 v18 fun n19 =>
M.val (IntKind.wrap .u64 (n19 + (5 : Int))) fun z20 =>
M.aidx 5 (0 : Int) fun j21 =>
M.put h16 (Addr.add (⟨b14, 0, none⟩ : Addr) (j21 * 1)) (.int .u64 z20) fun h22 =>
M.join (α := Unit) (fun d45 h46 =>
M.aidx 5 (4 : Int) fun j47 =>
M.load h46 (Addr.add (⟨b14, 0, none⟩ : Addr) (j47 * 1)) fun v48 =>
M.int .u64 v48 fun n49 =>
M.shr0 (26 : Int) (
M.val (shr .u64 n49 (26 : Int)) fun z50 =>
(bif (z50 != (0 : Int)) then
M.aidx 5 (4 : Int) fun j51 =>
M.load h46 (Addr.add (⟨b14, 0, none⟩ : Addr) (j51 * 1)) fun v52 =>
M.int .u64 v52 fun n53 =>
M.val (bAnd .u64 n53 (67108863 : Int)) fun z54 =>
M.aidx 5 (4 : Int) fun j55 =>
M.put h46 (Addr.add (⟨b14, 0, none⟩ : Addr) (j55 * 1)) (.int .u64 z54) fun h56 =>
M.load h56 ((⟨b14, 0, none⟩ : Addr).add 0) fun v57 =>
M.int .u64 v57 fun n58 =>
M.load h56 ((⟨b14, 0, none⟩ : Addr).add 1) fun v59 =>
M.int .u64 v59 fun n60 =>
M.load h56 ((⟨b14, 0, none⟩ : Addr).add 2) fun v61 =>
M.int .u64 v61 fun n62 =>
M.load h56 ((⟨b14, 0, none⟩ : Addr).add 3) fun v63 =>
M.int .u64 v63 fun n64 =>
M.load h56 ((⟨b14, 0, none⟩ : Addr).add 4) fun v65 =>
M.int .u64 v65 fun n66 =>
M.nn x_a fun a67 =>
M.req (Array.size (#[(.int .u64 n58), (.int .u64 n60), (.int .u64 n62), (.int .u64 n64), (.int .u64 n66)] : Array Value) = 5) (M.puts h56 a67 [(.int .u64 n58), (.int .u64 n60), (.int .u64 n62), (.int .u64 n64), (.int .u64 n66)] fun h68 =>
Q  h68)
else
Q  h46))) fun J23 =>
M.loop (α := Int) (fun J24 d25 h26 =>
(bif (decide (d25 < (4 : Int))) then
M.val (IntKind.wrap .i64 (d25 + (1 : Int))) fun z27 =>
M.aidx 5 z27 fun j28 =>
M.load h26 (Addr.add (⟨b14, 0, none⟩ : Addr) (j28 * 1)) fun v29 =>
M.int .u64 v29 fun n30 =>
M.aidx 5 d25 fun j31 =>
M.load h26 (Addr.add (⟨b14, 0, none⟩ : Addr) (j31 * 1)) fun v32 =>
M.int .u64 v32 fun n33 =>
M.shr0 (26 : Int) (
M.val (shr .u64 n33 (26 : Int)) fun z34 =>
M.val (IntKind.wrap .u64 (n30 + z34)) fun z35 =>
M.aidx 5 z27 fun j36 =>
M.put h26 (Addr.add (⟨b14, 0, none⟩ : Addr) (j36 * 1)) (.int .u64 z35) fun h37 =>
M.aidx 5 d25 fun j38 =>
M.load h37 (Addr.add (⟨b14, 0, none⟩ : Addr) (j38 * 1)) fun v39 =>
M.int .u64 v39 fun n40 =>
M.val (bAnd .u64 n40 (67108863 : Int)) fun z41 =>
M.aidx 5 d25 fun j42 =>
M.put h37 (Addr.add (⟨b14, 0, none⟩ : Addr) (j42 * 1)) (.int .u64 z41) fun h43 =>
M.val (IntKind.wrap .i64 (d25 + (1 : Int))) fun z44 =>
J24 z44 h43)
else
J23 () h26)) (0 : Int) h22)
def poly_limbs_least (x_a : Option Addr) (h : H) (Q : H → Prop) : Prop := poly_limbs_least.g poly_limbs_carry x_a h Q
def poly_limbs_least.L (F : Option Addr → H → (H → Prop) → Prop) : List Value → (Value → H → Prop) → H → Prop
  | [.pointer x_a] => fun Q h => F x_a h fun h70 => Q (.tuple #[]) h70
  | _ => fun _ _ => False
def poly_limbs_least.W : W := fun args => poly_limbs_least.L poly_limbs_least args.toList
def poly_limbs_least.ann : Ann := ⟨lookN [], lookN [(31, [])], lookN [(250, [(15, .int .i64)])]⟩
theorem poly_limbs_least.geq (poly_limbs_carry' : Option Addr → H → (H → Prop) → Prop) (x_a : Option Addr) (Q : Value → H → Prop) (h : H) : evF Tryz.prog (envOf [(225, fun args => poly_limbs_carry.L poly_limbs_carry' args.toList)]) Tryz.f195 poly_limbs_least.ann [(.pointer x_a)] Q h = poly_limbs_least.g poly_limbs_carry' x_a h fun h70 => Q (.tuple #[]) h70 := by kernel_rfl
theorem poly_limbs_least.good : FnGood Tryz.prog 195 poly_limbs_least.W := by
  refine FnGood.of (ann := poly_limbs_least.ann) (env := envOf [(225, fun args => poly_limbs_carry.L poly_limbs_carry args.toList)]) mixed (EnvGood.cons poly_limbs_carry.good EnvGood.nil) Tryz.func195 Tryz.call195 fun args => ?_
  show poly_limbs_least.L poly_limbs_least args.toList = _ ∨ ∀ Q m, evF Tryz.prog (envOf [(225, fun args => poly_limbs_carry.L poly_limbs_carry args.toList)]) Tryz.f195 poly_limbs_least.ann args.toList Q m = poly_limbs_least.L poly_limbs_least args.toList Q m
  generalize args.toList = l
  unfold poly_limbs_least.L
  split
  · exact .inr fun Q m => poly_limbs_least.geq poly_limbs_carry _ Q m
  · exact .inl rfl
def poly_limbs_plus.g (words_Little' : ByteArray → H → (Option Addr → Nat → Nat → Int → H → Prop) → Prop) (words_FromLittle' : Option Addr → Nat → Nat → H → (ByteArray → H → Prop) → Prop) (x_a_0 : Int) (x_a_1 : Int) (x_a_2 : Int) (x_a_3 : Int) (x_a_4 : Int) (x_s : ByteArray) (h : H) (Q : ByteArray → H → Prop) : Prop :=
M.new h (.cells (#[(.int .u64 x_a_0), (.int .u64 x_a_1), (.int .u64 x_a_2), (.int .u64 x_a_3), (.int .u64 x_a_4)] : Array Value) 279) fun b2 h3 =>
words_Little' x_s h3 fun a4 l5 c6 n7 h8 =>
M.aidx 5 (0 : Int) fun j9 =>
M.load h8 (Addr.add (⟨b2, 0, none⟩ : Addr) (j9 * 1)) fun v10 =>
M.int .u64 v10 fun n11 =>
M.aidx 5 (1 : Int) fun j12 =>
M.load h8 (Addr.add (⟨b2, 0, none⟩ : Addr) (j12 * 1)) fun v13 =>
M.int .u64 v13 fun n14 =>
M.shr0 (26 : Int) (
M.val (shl .u64 n14 (26 : Int)) fun z15 =>
M.val (bOr .u64 n11 z15) fun z16 =>
M.aidx 5 (1 : Int) fun j17 =>
M.load h8 (Addr.add (⟨b2, 0, none⟩ : Addr) (j17 * 1)) fun v18 =>
M.int .u64 v18 fun n19 =>
M.shr0 (6 : Int) (
M.val (shr .u64 n19 (6 : Int)) fun z20 =>
M.aidx 5 (2 : Int) fun j21 =>
M.load h8 (Addr.add (⟨b2, 0, none⟩ : Addr) (j21 * 1)) fun v22 =>
M.int .u64 v22 fun n23 =>
M.shr0 (20 : Int) (
M.val (shl .u64 n23 (20 : Int)) fun z24 =>
M.val (bOr .u64 z20 z24) fun z25 =>
M.aidx 5 (2 : Int) fun j26 =>
M.load h8 (Addr.add (⟨b2, 0, none⟩ : Addr) (j26 * 1)) fun v27 =>
M.int .u64 v27 fun n28 =>
M.shr0 (12 : Int) (
M.val (shr .u64 n28 (12 : Int)) fun z29 =>
M.aidx 5 (3 : Int) fun j30 =>
M.load h8 (Addr.add (⟨b2, 0, none⟩ : Addr) (j30 * 1)) fun v31 =>
M.int .u64 v31 fun n32 =>
M.shr0 (14 : Int) (
M.val (shl .u64 n32 (14 : Int)) fun z33 =>
M.val (bOr .u64 z29 z33) fun z34 =>
M.aidx 5 (3 : Int) fun j35 =>
M.load h8 (Addr.add (⟨b2, 0, none⟩ : Addr) (j35 * 1)) fun v36 =>
M.int .u64 v36 fun n37 =>
M.shr0 (18 : Int) (
M.val (shr .u64 n37 (18 : Int)) fun z38 =>
M.aidx 5 (4 : Int) fun j39 =>
M.load h8 (Addr.add (⟨b2, 0, none⟩ : Addr) (j39 * 1)) fun v40 =>
M.int .u64 v40 fun n41 =>
M.shr0 (8 : Int) (
M.val (shl .u64 n41 (8 : Int)) fun z42 =>
M.val (bOr .u64 z38 z42) fun z43 =>
M.new h8 (.cells (#[(.int .u64 (0 : Int)), (.int .u64 (0 : Int)), (.int .u64 (0 : Int)), (.int .u64 (0 : Int))] : Array Value) 308) fun b44 h45 =>
M.req (Array.size (#[(.int .u64 z16), (.int .u64 z25), (.int .u64 z34), (.int .u64 z43)] : Array Value) = 4) (M.puts h45 (⟨b44, 0, none⟩ : Addr) [(.int .u64 z16), (.int .u64 z25), (.int .u64 z34), (.int .u64 z43)] fun h46 =>
M.mk h46 178 [(.int .u32 (0 : Int))] 4 (4 : Int) (4 : Int) fun a47 l48 c49 h50 =>
M.join (α := Unit) (fun d72 h73 =>
words_FromLittle' a47 l48 c49 h73 fun s74 h75 =>
Q s74 h75) fun J51 =>
M.loop (α := Int × Int) (fun J52 d53 h54 =>
(bif (decide (d53.2 < (4 : Int))) then
M.aidx 4 d53.2 fun j55 =>
M.load h54 (Addr.add (⟨b44, 0, none⟩ : Addr) (j55 * 1)) fun v56 =>
M.int .u64 v56 fun n57 =>
M.val (bAnd .u64 n57 (4294967295 : Int)) fun z58 =>
M.idx a4 l5 d53.2 fun a59 j60 =>
M.load h54 (Addr.add a59 (j60 * 1)) fun v61 =>
M.int .u32 v61 fun n62 =>
M.val (IntKind.wrap .u64 n62) fun z63 =>
M.still h54 (Addr.add (⟨b44, 0, none⟩ : Addr) (j55 * 1)) 1 h54 (
M.val (IntKind.wrap .u64 (z58 + z63)) fun z64 =>
M.val (IntKind.wrap .u64 (d53.1 + z64)) fun z65 =>
M.val (IntKind.wrap .u32 z65) fun z66 =>
M.idx a47 l48 d53.2 fun a67 j68 =>
M.put h54 (Addr.add a67 (j68 * 1)) (.int .u32 z66) fun h69 =>
M.shr0 (32 : Int) (
M.val (shr .u64 z65 (32 : Int)) fun z70 =>
M.val (IntKind.wrap .i64 (d53.2 + (1 : Int))) fun z71 =>
J52 (z70, z71) h69))
else
J51 () h54)) ((0 : Int), (0 : Int)) h50))))))))
def poly_limbs_plus (x_a_0 : Int) (x_a_1 : Int) (x_a_2 : Int) (x_a_3 : Int) (x_a_4 : Int) (x_s : ByteArray) (h : H) (Q : ByteArray → H → Prop) : Prop := poly_limbs_plus.g words_Little words_FromLittle x_a_0 x_a_1 x_a_2 x_a_3 x_a_4 x_s h Q
def poly_limbs_plus.L (F : Int → Int → Int → Int → Int → ByteArray → H → (ByteArray → H → Prop) → Prop) : List Value → (Value → H → Prop) → H → Prop
  | [.agg ⟨[.int .u64 x_a_0, .int .u64 x_a_1, .int .u64 x_a_2, .int .u64 x_a_3, .int .u64 x_a_4]⟩, .string x_s] => fun Q h => F x_a_0 x_a_1 x_a_2 x_a_3 x_a_4 x_s h fun s78 h79 => Q (.string s78) h79
  | _ => fun _ _ => False
def poly_limbs_plus.W : W := fun args => poly_limbs_plus.L poly_limbs_plus args.toList
def poly_limbs_plus.ann : Ann := ⟨lookN [], lookN [(31, [])], lookN [(250, [(9, .int .u64), (45, .int .i64)])]⟩
theorem poly_limbs_plus.geq (words_Little' : ByteArray → H → (Option Addr → Nat → Nat → Int → H → Prop) → Prop) (words_FromLittle' : Option Addr → Nat → Nat → H → (ByteArray → H → Prop) → Prop) (x_a_0 : Int) (x_a_1 : Int) (x_a_2 : Int) (x_a_3 : Int) (x_a_4 : Int) (x_s : ByteArray) (Q : Value → H → Prop) (h : H) : evF Tryz.prog (envOf [(189, fun args => words_Little.L words_Little' args.toList), (191, fun args => words_FromLittle.L words_FromLittle' args.toList)]) Tryz.f196 poly_limbs_plus.ann [(.agg (#[(.int .u64 x_a_0), (.int .u64 x_a_1), (.int .u64 x_a_2), (.int .u64 x_a_3), (.int .u64 x_a_4)] : Array Value)), (.string x_s)] Q h = poly_limbs_plus.g words_Little' words_FromLittle' x_a_0 x_a_1 x_a_2 x_a_3 x_a_4 x_s h fun s78 h79 => Q (.string s78) h79 := by kernel_rfl
theorem poly_limbs_plus.good : FnGood Tryz.prog 196 poly_limbs_plus.W := by
  refine FnGood.of (ann := poly_limbs_plus.ann) (env := envOf [(189, fun args => words_Little.L words_Little args.toList), (191, fun args => words_FromLittle.L words_FromLittle args.toList)]) mixed (EnvGood.cons words_Little.good (EnvGood.cons words_FromLittle.good EnvGood.nil)) Tryz.func196 Tryz.call196 fun args => ?_
  show poly_limbs_plus.L poly_limbs_plus args.toList = _ ∨ ∀ Q m, evF Tryz.prog (envOf [(189, fun args => words_Little.L words_Little args.toList), (191, fun args => words_FromLittle.L words_FromLittle args.toList)]) Tryz.f196 poly_limbs_plus.ann args.toList Q m = poly_limbs_plus.L poly_limbs_plus args.toList Q m
  generalize args.toList = l
  unfold poly_limbs_plus.L
  split
  · exact .inr fun Q m => poly_limbs_plus.geq words_Little words_FromLittle _ _ _ _ _ _ Q m
  · exact .inl rfl
def words_Big.g (words_each_words_Big_1' : ByteArray → H → (Option Addr → Nat → Nat → Int → H → Prop) → Prop) (x_s : ByteArray) (h : H) (Q : Option Addr → Nat → Nat → Int → H → Prop) : Prop :=
words_each_words_Big_1' x_s h fun a5 l6 c7 n8 h9 =>
Q a5 l6 c7 n8 h9
def words_Big (x_s : ByteArray) (h : H) (Q : Option Addr → Nat → Nat → Int → H → Prop) : Prop := words_Big.g words_each_words_Big_1 x_s h Q
def words_Big.L (F : ByteArray → H → (Option Addr → Nat → Nat → Int → H → Prop) → Prop) : List Value → (Value → H → Prop) → H → Prop
  | [.string x_s] => fun Q h => F x_s h fun a15 l16 c17 n18 h19 => Q (.tuple #[(.slice a15 l16 c17), (.int .i64 n18)]) h19
  | _ => fun _ _ => False
def words_Big.W : W := fun args => words_Big.L words_Big args.toList
def words_Big.ann : Ann := ⟨lookN [], lookN [], lookN []⟩
theorem words_Big.geq (words_each_words_Big_1' : ByteArray → H → (Option Addr → Nat → Nat → Int → H → Prop) → Prop) (x_s : ByteArray) (Q : Value → H → Prop) (h : H) : evF Tryz.prog (envOf [(222, fun args => words_each_words_Big_1.L words_each_words_Big_1' args.toList)]) Tryz.f204 words_Big.ann [(.string x_s)] Q h = words_Big.g words_each_words_Big_1' x_s h fun a15 l16 c17 n18 h19 => Q (.tuple #[(.slice a15 l16 c17), (.int .i64 n18)]) h19 := by kernel_rfl
theorem words_Big.good : FnGood Tryz.prog 204 words_Big.W := by
  refine FnGood.of (ann := words_Big.ann) (env := envOf [(222, fun args => words_each_words_Big_1.L words_each_words_Big_1 args.toList)]) mixed (EnvGood.cons words_each_words_Big_1.good EnvGood.nil) Tryz.func204 Tryz.call204 fun args => ?_
  show words_Big.L words_Big args.toList = _ ∨ ∀ Q m, evF Tryz.prog (envOf [(222, fun args => words_each_words_Big_1.L words_each_words_Big_1 args.toList)]) Tryz.f204 words_Big.ann args.toList Q m = words_Big.L words_Big args.toList Q m
  generalize args.toList = l
  unfold words_Big.L
  split
  · exact .inr fun Q m => words_Big.geq words_each_words_Big_1 _ Q m
  · exact .inl rfl
def ref01_Xor.L (F : ByteArray → ByteArray → H → (ByteArray → H → Prop) → Prop) : List Value → (Value → H → Prop) → H → Prop
  | [.string x_a, .string x_b] => fun Q h => F x_a x_b h fun s26 h27 => Q (.string s26) h27
  | _ => fun _ _ => False
def ref05_moved.g (ref01_Right' : Int → Int → H → (Int → H → Prop) → Prop) (x_x : Int) (x_a : Int) (x_b : Int) (x_by : Int) (h : H) (Q : Int → H → Prop) : Prop :=
ref01_Right' x_x x_a h fun n2 h3 =>
ref01_Right' x_x x_b h3 fun n4 h5 =>
M.val (bXor .u32 n2 n4) fun z6 =>
M.nz x_by (
M.val (IntKind.wrap .u32 (Int.tdiv x_x x_by)) fun z7 =>
M.val (bXor .u32 z6 z7) fun z8 =>
Q z8 h5)
def ref05_moved (x_x : Int) (x_a : Int) (x_b : Int) (x_by : Int) (h : H) (Q : Int → H → Prop) : Prop := ref05_moved.g ref01_Right x_x x_a x_b x_by h Q
def ref05_moved.L (F : Int → Int → Int → Int → H → (Int → H → Prop) → Prop) : List Value → (Value → H → Prop) → H → Prop
  | [.int .u32 x_x, .int .i64 x_a, .int .i64 x_b, .int .u32 x_by] => fun Q h => F x_x x_a x_b x_by h fun n11 h12 => Q (.int .u32 n11) h12
  | _ => fun _ _ => False
def ref05_moved.W : W := fun args => ref05_moved.L ref05_moved args.toList
def ref05_moved.ann : Ann := ⟨lookN [], lookN [], lookN []⟩
theorem ref05_moved.geq (ref01_Right' : Int → Int → H → (Int → H → Prop) → Prop) (x_x : Int) (x_a : Int) (x_b : Int) (x_by : Int) (Q : Value → H → Prop) (h : H) : evF Tryz.prog (envOf [(243, fun args => ref01_Right.L ref01_Right' args.toList)]) Tryz.f218 ref05_moved.ann [(.int .u32 x_x), (.int .i64 x_a), (.int .i64 x_b), (.int .u32 x_by)] Q h = ref05_moved.g ref01_Right' x_x x_a x_b x_by h fun n11 h12 => Q (.int .u32 n11) h12 := by kernel_rfl
theorem ref05_moved.good : FnGood Tryz.prog 218 ref05_moved.W := by
  refine FnGood.of (ann := ref05_moved.ann) (env := envOf [(243, fun args => ref01_Right.L ref01_Right args.toList)]) mixed (EnvGood.cons ref01_Right.good EnvGood.nil) Tryz.func218 Tryz.call218 fun args => ?_
  show ref05_moved.L ref05_moved args.toList = _ ∨ ∀ Q m, evF Tryz.prog (envOf [(243, fun args => ref01_Right.L ref01_Right args.toList)]) Tryz.f218 ref05_moved.ann args.toList Q m = ref05_moved.L ref05_moved args.toList Q m
  generalize args.toList = l
  unfold ref05_moved.L
  split
  · exact .inr fun Q m => ref05_moved.geq ref01_Right _ _ _ _ Q m
  · exact .inl rfl
def ref05_turned.g (ref01_Right' : Int → Int → H → (Int → H → Prop) → Prop) (x_x : Int) (x_a : Int) (x_b : Int) (x_c : Int) (h : H) (Q : Int → H → Prop) : Prop :=
ref01_Right' x_x x_a h fun n2 h3 =>
ref01_Right' x_x x_b h3 fun n4 h5 =>
ref01_Right' x_x x_c h5 fun n6 h7 =>
M.val (bXor .u32 n2 n4) fun z8 =>
M.val (bXor .u32 z8 n6) fun z9 =>
Q z9 h7
def ref05_turned (x_x : Int) (x_a : Int) (x_b : Int) (x_c : Int) (h : H) (Q : Int → H → Prop) : Prop := ref05_turned.g ref01_Right x_x x_a x_b x_c h Q
def ref05_turned.L (F : Int → Int → Int → Int → H → (Int → H → Prop) → Prop) : List Value → (Value → H → Prop) → H → Prop
  | [.int .u32 x_x, .int .i64 x_a, .int .i64 x_b, .int .i64 x_c] => fun Q h => F x_x x_a x_b x_c h fun n12 h13 => Q (.int .u32 n12) h13
  | _ => fun _ _ => False
def ref05_turned.W : W := fun args => ref05_turned.L ref05_turned args.toList
def ref05_turned.ann : Ann := ⟨lookN [], lookN [], lookN []⟩
theorem ref05_turned.geq (ref01_Right' : Int → Int → H → (Int → H → Prop) → Prop) (x_x : Int) (x_a : Int) (x_b : Int) (x_c : Int) (Q : Value → H → Prop) (h : H) : evF Tryz.prog (envOf [(243, fun args => ref01_Right.L ref01_Right' args.toList)]) Tryz.f219 ref05_turned.ann [(.int .u32 x_x), (.int .i64 x_a), (.int .i64 x_b), (.int .i64 x_c)] Q h = ref05_turned.g ref01_Right' x_x x_a x_b x_c h fun n12 h13 => Q (.int .u32 n12) h13 := by kernel_rfl
theorem ref05_turned.good : FnGood Tryz.prog 219 ref05_turned.W := by
  refine FnGood.of (ann := ref05_turned.ann) (env := envOf [(243, fun args => ref01_Right.L ref01_Right args.toList)]) mixed (EnvGood.cons ref01_Right.good EnvGood.nil) Tryz.func219 Tryz.call219 fun args => ?_
  show ref05_turned.L ref05_turned args.toList = _ ∨ ∀ Q m, evF Tryz.prog (envOf [(243, fun args => ref01_Right.L ref01_Right args.toList)]) Tryz.f219 ref05_turned.ann args.toList Q m = ref05_turned.L ref05_turned args.toList Q m
  generalize args.toList = l
  unfold ref05_turned.L
  split
  · exact .inr fun Q m => ref05_turned.geq ref01_Right _ _ _ _ Q m
  · exact .inl rfl
def slab_Slab_Apply.g (slab_Slab_good' : Option Addr → Int → Int → ByteArray → H → (Bool → H → Prop) → Prop) (bank_Bank_Write' : Option Addr → Int → Int → ByteArray → H → (Int → H → Prop) → Prop) (bank_Bank_Flush' : Option Addr → Int → H → (Int → H → Prop) → Prop) (x_s_0 : Option Addr) (x_s_1 : Int) (x_s_2 : Int) (x_s_3 : ByteArray) (x_l : Option Addr) (x_lL : Nat) (x_lC : Nat) (h : H) (Q : Int → H → Prop) : Prop :=
M.new h (.cells (#[(.pointer x_s_0), (.int .i64 x_s_1), (.int .i64 x_s_2), (.string x_s_3)] : Array Value) 37) fun b2 h3 =>
M.load h3 ((⟨b2, 0, none⟩ : Addr).add 0) fun v4 =>
M.ptr v4 fun p5 =>
M.load h3 ((⟨b2, 0, none⟩ : Addr).add 1) fun v6 =>
M.int .i64 v6 fun n7 =>
M.load h3 ((⟨b2, 0, none⟩ : Addr).add 2) fun v8 =>
M.int .i64 v8 fun n9 =>
M.load h3 ((⟨b2, 0, none⟩ : Addr).add 3) fun v10 =>
M.str v10 fun s11 =>
slab_Slab_good' p5 n7 n9 s11 h3 fun b12 h13 =>
(bif (!b12) then
Q (4 : Int) h13
else
M.join (α := Unit) (fun d38 h39 =>
M.load h39 (Addr.add (⟨b2, 0, none⟩ : Addr) 0) fun v40 =>
M.ptr v40 fun p41 =>
M.load h39 (Addr.add (⟨b2, 0, none⟩ : Addr) 1) fun v42 =>
M.int .i64 v42 fun n43 =>
bank_Bank_Flush' p41 n43 h39 fun n44 h45 =>
Q n44 h45) fun J14 =>
M.loop (α := Int) (fun J15 d16 h17 =>
(bif (decide (d16 < ((x_lL : Nat) : Int))) then
M.idx x_l x_lL d16 fun a18 j19 =>
M.load h17 ((Addr.add a18 (j19 * 2)).add 0) fun v20 =>
M.int .i64 v20 fun n21 =>
M.load h17 ((Addr.add a18 (j19 * 2)).add 1) fun v22 =>
M.str v22 fun s23 =>
M.new h17 (.cells (#[(.int .i64 (0 : Int)), (.string (ByteArray.empty))] : Array Value) 116) fun b24 h25 =>
M.req (Array.size (#[(.int .i64 n21), (.string s23)] : Array Value) = 2) (M.puts h25 (⟨b24, 0, none⟩ : Addr) [(.int .i64 n21), (.string s23)] fun h26 =>
M.load h26 (Addr.add (⟨b2, 0, none⟩ : Addr) 0) fun v27 =>
M.ptr v27 fun p28 =>
M.load h26 (Addr.add (⟨b2, 0, none⟩ : Addr) 1) fun v29 =>
M.int .i64 v29 fun n30 =>
M.load h26 (Addr.add (⟨b24, 0, none⟩ : Addr) 0) fun v31 =>
M.int .i64 v31 fun n32 =>
M.load h26 (Addr.add (⟨b24, 0, none⟩ : Addr) 1) fun v33 =>
M.str v33 fun s34 =>
bank_Bank_Write' p28 n30 n32 s34 h26 fun n35 h36 =>
(bif (n35 != (0 : Int)) then
Q n35 h36
else
M.val (IntKind.wrap .i64 (d16 + (1 : Int))) fun z37 =>
J15 z37 h36))
else
J14 () h17)) (0 : Int) h13)
def slab_Slab_Apply (x_s_0 : Option Addr) (x_s_1 : Int) (x_s_2 : Int) (x_s_3 : ByteArray) (x_l : Option Addr) (x_lL : Nat) (x_lC : Nat) (h : H) (Q : Int → H → Prop) : Prop := slab_Slab_Apply.g slab_Slab_good bank_Bank_Write bank_Bank_Flush x_s_0 x_s_1 x_s_2 x_s_3 x_l x_lL x_lC h Q
def slab_Slab_Apply.L (F : Option Addr → Int → Int → ByteArray → Option Addr → Nat → Nat → H → (Int → H → Prop) → Prop) : List Value → (Value → H → Prop) → H → Prop
  | [.agg ⟨[.pointer x_s_0, .int .i64 x_s_1, .int .i64 x_s_2, .string x_s_3]⟩, .slice x_l x_lL x_lC] => fun Q h => F x_s_0 x_s_1 x_s_2 x_s_3 x_l x_lL x_lC h fun n48 h49 => Q (.int .i64 n48) h49
  | _ => fun _ _ => False
def slab_Slab_Apply.W : W := fun args => slab_Slab_Apply.L slab_Slab_Apply args.toList
def slab_Slab_Apply.ann : Ann := ⟨lookN [], lookN [(7, [])], lookN [(58, [(13, .int .i64)])]⟩
theorem slab_Slab_Apply.geq (slab_Slab_good' : Option Addr → Int → Int → ByteArray → H → (Bool → H → Prop) → Prop) (bank_Bank_Write' : Option Addr → Int → Int → ByteArray → H → (Int → H → Prop) → Prop) (bank_Bank_Flush' : Option Addr → Int → H → (Int → H → Prop) → Prop) (x_s_0 : Option Addr) (x_s_1 : Int) (x_s_2 : Int) (x_s_3 : ByteArray) (x_l : Option Addr) (x_lL : Nat) (x_lC : Nat) (Q : Value → H → Prop) (h : H) : evF Tryz.prog (envOf [(53, fun args => slab_Slab_good.L slab_Slab_good' args.toList), (54, fun args => bank_Bank_Write.L bank_Bank_Write' args.toList), (55, fun args => bank_Bank_Flush.L bank_Bank_Flush' args.toList)]) Tryz.f16 slab_Slab_Apply.ann [(.agg (#[(.pointer x_s_0), (.int .i64 x_s_1), (.int .i64 x_s_2), (.string x_s_3)] : Array Value)), (.slice x_l x_lL x_lC)] Q h = slab_Slab_Apply.g slab_Slab_good' bank_Bank_Write' bank_Bank_Flush' x_s_0 x_s_1 x_s_2 x_s_3 x_l x_lL x_lC h fun n48 h49 => Q (.int .i64 n48) h49 := by kernel_rfl
theorem slab_Slab_Apply.good : FnGood Tryz.prog 16 slab_Slab_Apply.W := by
  refine FnGood.of (ann := slab_Slab_Apply.ann) (env := envOf [(53, fun args => slab_Slab_good.L slab_Slab_good args.toList), (54, fun args => bank_Bank_Write.L bank_Bank_Write args.toList), (55, fun args => bank_Bank_Flush.L bank_Bank_Flush args.toList)]) mixed (EnvGood.cons slab_Slab_good.good (EnvGood.cons bank_Bank_Write.good (EnvGood.cons bank_Bank_Flush.good EnvGood.nil))) Tryz.func16 Tryz.call16 fun args => ?_
  show slab_Slab_Apply.L slab_Slab_Apply args.toList = _ ∨ ∀ Q m, evF Tryz.prog (envOf [(53, fun args => slab_Slab_good.L slab_Slab_good args.toList), (54, fun args => bank_Bank_Write.L bank_Bank_Write args.toList), (55, fun args => bank_Bank_Flush.L bank_Bank_Flush args.toList)]) Tryz.f16 slab_Slab_Apply.ann args.toList Q m = slab_Slab_Apply.L slab_Slab_Apply args.toList Q m
  generalize args.toList = l
  unfold slab_Slab_Apply.L
  split
  · exact .inr fun Q m => slab_Slab_Apply.geq slab_Slab_good bank_Bank_Write bank_Bank_Flush _ _ _ _ _ _ _ Q m
  · exact .inl rfl
def ref17_Apply.g (ref17_Good' : Option Addr → Int → Int → ByteArray → H → (Bool → H → Prop) → Prop) (ref10_Write' : Option Addr → Int → Int → ByteArray → H → (Int → H → Prop) → Prop) (ref10_Flush' : Option Addr → Int → H → (Int → H → Prop) → Prop) (x_s_0 : Option Addr) (x_s_1 : Int) (x_s_2 : Int) (x_s_3 : ByteArray) (x_l : Option Addr) (x_lL : Nat) (x_lC : Nat) (h : H) (Q : Int → H → Prop) : Prop :=
M.new h (.cells (#[(.pointer x_s_0), (.int .i64 x_s_1), (.int .i64 x_s_2), (.string x_s_3)] : Array Value) 40) fun b2 h3 =>
M.load h3 ((⟨b2, 0, none⟩ : Addr).add 0) fun v4 =>
M.ptr v4 fun p5 =>
M.load h3 ((⟨b2, 0, none⟩ : Addr).add 1) fun v6 =>
M.int .i64 v6 fun n7 =>
M.load h3 ((⟨b2, 0, none⟩ : Addr).add 2) fun v8 =>
M.int .i64 v8 fun n9 =>
M.load h3 ((⟨b2, 0, none⟩ : Addr).add 3) fun v10 =>
M.str v10 fun s11 =>
ref17_Good' p5 n7 n9 s11 h3 fun b12 h13 =>
(bif (!b12) then
Q (4 : Int) h13
else
M.join (α := Unit) (fun d33 h34 =>
M.load h34 (Addr.add (⟨b2, 0, none⟩ : Addr) 0) fun v35 =>
M.ptr v35 fun p36 =>
M.load h34 (Addr.add (⟨b2, 0, none⟩ : Addr) 1) fun v37 =>
M.int .i64 v37 fun n38 =>
ref10_Flush' p36 n38 h34 fun n39 h40 =>
Q n39 h40) fun J14 =>
M.loop (α := Int) (fun J15 d16 h17 =>
(bif (decide (d16 < ((x_lL : Nat) : Int))) then
M.load h17 (Addr.add (⟨b2, 0, none⟩ : Addr) 0) fun v18 =>
M.ptr v18 fun p19 =>
M.load h17 (Addr.add (⟨b2, 0, none⟩ : Addr) 1) fun v20 =>
M.int .i64 v20 fun n21 =>
M.idx x_l x_lL d16 fun a22 j23 =>
M.load h17 (Addr.add (Addr.add a22 (j23 * 2)) 0) fun v24 =>
M.int .i64 v24 fun n25 =>
M.idx x_l x_lL d16 fun a26 j27 =>
M.load h17 (Addr.add (Addr.add a26 (j27 * 2)) 1) fun v28 =>
M.str v28 fun s29 =>
ref10_Write' p19 n21 n25 s29 h17 fun n30 h31 =>
(bif (n30 != (0 : Int)) then
Q n30 h31
else
M.val (IntKind.wrap .i64 (d16 + (1 : Int))) fun z32 =>
J15 z32 h31)
else
J14 () h17)) (0 : Int) h13)
def ref17_Apply (x_s_0 : Option Addr) (x_s_1 : Int) (x_s_2 : Int) (x_s_3 : ByteArray) (x_l : Option Addr) (x_lL : Nat) (x_lC : Nat) (h : H) (Q : Int → H → Prop) : Prop := ref17_Apply.g ref17_Good ref10_Write ref10_Flush x_s_0 x_s_1 x_s_2 x_s_3 x_l x_lL x_lC h Q
def ref17_Apply.L (F : Option Addr → Int → Int → ByteArray → Option Addr → Nat → Nat → H → (Int → H → Prop) → Prop) : List Value → (Value → H → Prop) → H → Prop
  | [.agg ⟨[.pointer x_s_0, .int .i64 x_s_1, .int .i64 x_s_2, .string x_s_3]⟩, .slice x_l x_lL x_lC] => fun Q h => F x_s_0 x_s_1 x_s_2 x_s_3 x_l x_lL x_lC h fun n43 h44 => Q (.int .i64 n43) h44
  | _ => fun _ _ => False
def ref17_Apply.W : W := fun args => ref17_Apply.L ref17_Apply args.toList
def ref17_Apply.ann : Ann := ⟨lookN [], lookN [(15, [])], lookN [(122, [(6, .int .i64)])]⟩
theorem ref17_Apply.geq (ref17_Good' : Option Addr → Int → Int → ByteArray → H → (Bool → H → Prop) → Prop) (ref10_Write' : Option Addr → Int → Int → ByteArray → H → (Int → H → Prop) → Prop) (ref10_Flush' : Option Addr → Int → H → (Int → H → Prop) → Prop) (x_s_0 : Option Addr) (x_s_1 : Int) (x_s_2 : Int) (x_s_3 : ByteArray) (x_l : Option Addr) (x_lL : Nat) (x_lC : Nat) (Q : Value → H → Prop) (h : H) : evF Tryz.prog (envOf [(89, fun args => ref17_Good.L ref17_Good' args.toList), (92, fun args => ref10_Write.L ref10_Write' args.toList), (93, fun args => ref10_Flush.L ref10_Flush' args.toList)]) Tryz.f43 ref17_Apply.ann [(.agg (#[(.pointer x_s_0), (.int .i64 x_s_1), (.int .i64 x_s_2), (.string x_s_3)] : Array Value)), (.slice x_l x_lL x_lC)] Q h = ref17_Apply.g ref17_Good' ref10_Write' ref10_Flush' x_s_0 x_s_1 x_s_2 x_s_3 x_l x_lL x_lC h fun n43 h44 => Q (.int .i64 n43) h44 := by kernel_rfl
theorem ref17_Apply.good : FnGood Tryz.prog 43 ref17_Apply.W := by
  refine FnGood.of (ann := ref17_Apply.ann) (env := envOf [(89, fun args => ref17_Good.L ref17_Good args.toList), (92, fun args => ref10_Write.L ref10_Write args.toList), (93, fun args => ref10_Flush.L ref10_Flush args.toList)]) mixed (EnvGood.cons ref17_Good.good (EnvGood.cons ref10_Write.good (EnvGood.cons ref10_Flush.good EnvGood.nil))) Tryz.func43 Tryz.call43 fun args => ?_
  show ref17_Apply.L ref17_Apply args.toList = _ ∨ ∀ Q m, evF Tryz.prog (envOf [(89, fun args => ref17_Good.L ref17_Good args.toList), (92, fun args => ref10_Write.L ref10_Write args.toList), (93, fun args => ref10_Flush.L ref10_Flush args.toList)]) Tryz.f43 ref17_Apply.ann args.toList Q m = ref17_Apply.L ref17_Apply args.toList Q m
  generalize args.toList = l
  unfold ref17_Apply.L
  split
  · exact .inr fun Q m => ref17_Apply.geq ref17_Good ref10_Write ref10_Flush _ _ _ _ _ _ _ Q m
  · exact .inl rfl
def slab_Slab_with.g (codec_Num' : Int → H → (ByteArray → H → Prop) → Prop) (x_s_0 : Option Addr) (x_s_1 : Int) (x_s_2 : Int) (x_s_3 : ByteArray) (x_slot : Int) (h : H) (Q : ByteArray → H → Prop) : Prop :=
M.new h (.cells (#[(.pointer x_s_0), (.int .i64 x_s_1), (.int .i64 x_s_2), (.string x_s_3)] : Array Value) 37) fun b2 h3 =>
M.load h3 (Addr.add (⟨b2, 0, none⟩ : Addr) 1) fun v4 =>
M.int .i64 v4 fun n5 =>
M.val (IntKind.wrap .u64 n5) fun z6 =>
codec_Num' z6 h3 fun s7 h8 =>
M.val (IntKind.wrap .u64 x_slot) fun z9 =>
codec_Num' z9 h8 fun s10 h11 =>
M.cat s7 s10 fun s12 =>
Q s12 h11
def slab_Slab_with (x_s_0 : Option Addr) (x_s_1 : Int) (x_s_2 : Int) (x_s_3 : ByteArray) (x_slot : Int) (h : H) (Q : ByteArray → H → Prop) : Prop := slab_Slab_with.g codec_Num x_s_0 x_s_1 x_s_2 x_s_3 x_slot h Q
def slab_Slab_with.L (F : Option Addr → Int → Int → ByteArray → Int → H → (ByteArray → H → Prop) → Prop) : List Value → (Value → H → Prop) → H → Prop
  | [.agg ⟨[.pointer x_s_0, .int .i64 x_s_1, .int .i64 x_s_2, .string x_s_3]⟩, .int .i64 x_slot] => fun Q h => F x_s_0 x_s_1 x_s_2 x_s_3 x_slot h fun s15 h16 => Q (.string s15) h16
  | _ => fun _ _ => False
def slab_Slab_with.W : W := fun args => slab_Slab_with.L slab_Slab_with args.toList
def slab_Slab_with.ann : Ann := ⟨lookN [], lookN [], lookN []⟩
theorem slab_Slab_with.geq (codec_Num' : Int → H → (ByteArray → H → Prop) → Prop) (x_s_0 : Option Addr) (x_s_1 : Int) (x_s_2 : Int) (x_s_3 : ByteArray) (x_slot : Int) (Q : Value → H → Prop) (h : H) : evF Tryz.prog (envOf [(97, fun args => codec_Num.L codec_Num' args.toList)]) Tryz.f46 slab_Slab_with.ann [(.agg (#[(.pointer x_s_0), (.int .i64 x_s_1), (.int .i64 x_s_2), (.string x_s_3)] : Array Value)), (.int .i64 x_slot)] Q h = slab_Slab_with.g codec_Num' x_s_0 x_s_1 x_s_2 x_s_3 x_slot h fun s15 h16 => Q (.string s15) h16 := by kernel_rfl
theorem slab_Slab_with.good : FnGood Tryz.prog 46 slab_Slab_with.W := by
  refine FnGood.of (ann := slab_Slab_with.ann) (env := envOf [(97, fun args => codec_Num.L codec_Num args.toList)]) mixed (EnvGood.cons codec_Num.good EnvGood.nil) Tryz.func46 Tryz.call46 fun args => ?_
  show slab_Slab_with.L slab_Slab_with args.toList = _ ∨ ∀ Q m, evF Tryz.prog (envOf [(97, fun args => codec_Num.L codec_Num args.toList)]) Tryz.f46 slab_Slab_with.ann args.toList Q m = slab_Slab_with.L slab_Slab_with args.toList Q m
  generalize args.toList = l
  unfold slab_Slab_with.L
  split
  · exact .inr fun Q m => slab_Slab_with.geq codec_Num _ _ _ _ _ Q m
  · exact .inl rfl
def slices_Repeatstring_string.g (math_bits_Mul' : Int → Int → H → (Int → Int → H → Prop) → Prop) (x_x : Option Addr) (x_xL : Nat) (x_xC : Nat) (x_count : Int) (h : H) (Q : Option Addr → Nat → Nat → H → Prop) : Prop :=
M.join (α := Unit) (fun d5 h6 =>
M.val (IntKind.wrap .u64 ((x_xL : Nat) : Int)) fun z7 =>
M.val (IntKind.wrap .u64 x_count) fun z8 =>
math_bits_Mul' z7 z8 h6 fun n9 n10 h11 =>
M.join (α := Unit) (fun d16 h17 =>
M.val (IntKind.wrap .i64 n10) fun z18 =>
M.mk h17 9 [(.string (ByteArray.empty))] 16 z18 z18 fun a19 l20 c21 h22 =>
M.cellsOf h22 x_x ((min x_xL l20) * 1) fun cs24 =>
M.copy h22 a19 cs24 fun h23 =>
M.loop (α := Int) (fun J25 d26 h27 =>
(bif (decide (d26 < ((l20 : Nat) : Int))) then
M.sub a19 c21 1 d26 ((l20 : Nat) : Int) fun a28 l29 c30 =>
M.sub a19 c21 1 0 d26 fun a31 l32 c33 =>
M.cellsOf h27 a31 ((min l32 l29) * 1) fun cs35 =>
M.copy h27 a28 cs35 fun h34 =>
M.val (IntKind.wrap .i64 (d26 + (((min l32 l29) : Nat) : Int))) fun z36 =>
J25 z36 h34
else
Q a19 l20 c21 h27)) (((min x_xL l20) : Nat) : Int) h23) fun J12 =>
M.join (α := Bool) (fun d14 h15 =>
(bif d14 then
False
else
J12 () h15)) fun J13 =>
(bif (decide (n9 > (0 : Int))) then
J13 true h11
else
J13 (decide (n10 > (9223372036854775807 : Int))) h11)) fun J4 =>
(bif (decide (x_count < (0 : Int))) then
False
else
J4 () h)
def slices_Repeatstring_string (x_x : Option Addr) (x_xL : Nat) (x_xC : Nat) (x_count : Int) (h : H) (Q : Option Addr → Nat → Nat → H → Prop) : Prop := slices_Repeatstring_string.g math_bits_Mul x_x x_xL x_xC x_count h Q
def slices_Repeatstring_string.L (F : Option Addr → Nat → Nat → Int → H → (Option Addr → Nat → Nat → H → Prop) → Prop) : List Value → (Value → H → Prop) → H → Prop
  | [.slice x_x x_xL x_xC, .int .i64 x_count] => fun Q h => F x_x x_xL x_xC x_count h fun a41 l42 c43 h44 => Q (.slice a41 l42 c43) h44
  | _ => fun _ _ => False
def slices_Repeatstring_string.W : W := fun args => slices_Repeatstring_string.L slices_Repeatstring_string args.toList
def slices_Repeatstring_string.ann : Ann := ⟨lookN [(4, [(26, .bool)])], lookN [(3, []), (15, [])], lookN [(508, [(8, .int .i64)])]⟩
theorem slices_Repeatstring_string.geq (math_bits_Mul' : Int → Int → H → (Int → Int → H → Prop) → Prop) (x_x : Option Addr) (x_xL : Nat) (x_xC : Nat) (x_count : Int) (Q : Value → H → Prop) (h : H) : evF Tryz.prog (envOf [(113, fun args => math_bits_Mul.L math_bits_Mul' args.toList)]) Tryz.f61 slices_Repeatstring_string.ann [(.slice x_x x_xL x_xC), (.int .i64 x_count)] Q h = slices_Repeatstring_string.g math_bits_Mul' x_x x_xL x_xC x_count h fun a41 l42 c43 h44 => Q (.slice a41 l42 c43) h44 := by kernel_rfl
theorem slices_Repeatstring_string.good : FnGood Tryz.prog 61 slices_Repeatstring_string.W := by
  refine FnGood.of (ann := slices_Repeatstring_string.ann) (env := envOf [(113, fun args => math_bits_Mul.L math_bits_Mul args.toList)]) mixed (EnvGood.cons math_bits_Mul.good EnvGood.nil) Tryz.func61 Tryz.call61 fun args => ?_
  show slices_Repeatstring_string.L slices_Repeatstring_string args.toList = _ ∨ ∀ Q m, evF Tryz.prog (envOf [(113, fun args => math_bits_Mul.L math_bits_Mul args.toList)]) Tryz.f61 slices_Repeatstring_string.ann args.toList Q m = slices_Repeatstring_string.L slices_Repeatstring_string args.toList Q m
  generalize args.toList = l
  unfold slices_Repeatstring_string.L
  split
  · exact .inr fun Q m => slices_Repeatstring_string.geq math_bits_Mul _ _ _ _ Q m
  · exact .inl rfl
def chacha_stream.g (words_Little' : ByteArray → H → (Option Addr → Nat → Nat → Int → H → Prop) → Prop) (chacha_quarter' : Option Addr → Int → Int → Int → Int → H → (H → Prop) → Prop) (words_FromLittle' : Option Addr → Nat → Nat → H → (ByteArray → H → Prop) → Prop) (x_key : ByteArray) (x_nonce : ByteArray) (x_counter : Int) (h : H) (Q : ByteArray → H → Prop) : Prop :=
M.cat (⟨#[101, 120, 112, 97, 110, 100, 32, 51, 50, 45, 98, 121, 116, 101, 32, 107]⟩ : ByteArray) x_key fun s2 =>
words_Little' s2 h fun a3 l4 c5 n6 h7 =>
words_Little' x_nonce h7 fun a8 l9 c10 n11 h12 =>
M.new h12 (.cells (#[(.int .u32 (0 : Int)), (.int .u32 (0 : Int)), (.int .u32 (0 : Int)), (.int .u32 (0 : Int)), (.int .u32 (0 : Int)), (.int .u32 (0 : Int)), (.int .u32 (0 : Int)), (.int .u32 (0 : Int)), (.int .u32 (0 : Int)), (.int .u32 (0 : Int)), (.int .u32 (0 : Int)), (.int .u32 (0 : Int)), (.int .u32 (0 : Int)), (.int .u32 (0 : Int)), (.int .u32 (0 : Int)), (.int .u32 (0 : Int))] : Array Value) 274) fun b13 h14 =>
M.sub (some (⟨b13, 0, none⟩ : Addr)) 16 1 0 ((16 : Nat) : Int) fun a15 l16 c17 =>
M.new h14 (.cells (#[(.int .u32 x_counter)] : Array Value) 178) fun b18 h19 =>
M.cellsOf h19 (some (⟨b18, 0, none⟩ : Addr)) (1 * 1) fun cs24 =>
M.app h19 178 1 4 [(.int .u32 (0 : Int))] a3 l4 c5 1 cs24 fun a20 l21 c22 h23 =>
M.cellsOf h23 a8 (l9 * 1) fun cs29 =>
M.app h23 178 1 4 [(.int .u32 (0 : Int))] a20 l21 c22 l9 cs29 fun a25 l26 c27 h28 =>
M.cellsOf h28 a25 ((min l26 l16) * 1) fun cs31 =>
M.copy h28 a15 cs31 fun h30 =>
M.row h30 (⟨b13, 0, none⟩ : Addr) 16 fun cs32 =>
M.new h30 (.cells (#[(.int .u32 (0 : Int)), (.int .u32 (0 : Int)), (.int .u32 (0 : Int)), (.int .u32 (0 : Int)), (.int .u32 (0 : Int)), (.int .u32 (0 : Int)), (.int .u32 (0 : Int)), (.int .u32 (0 : Int)), (.int .u32 (0 : Int)), (.int .u32 (0 : Int)), (.int .u32 (0 : Int)), (.int .u32 (0 : Int)), (.int .u32 (0 : Int)), (.int .u32 (0 : Int)), (.int .u32 (0 : Int)), (.int .u32 (0 : Int))] : Array Value) 274) fun b33 h34 =>
M.req (Array.size (List.toArray cs32) = 16) (M.puts h34 (⟨b33, 0, none⟩ : Addr) (Array.toList (List.toArray cs32)) fun h35 =>
M.join (α := Unit) (fun d66 h67 =>
M.join (α := Unit) (fun d82 h83 =>
M.sub (some (⟨b33, 0, none⟩ : Addr)) 16 1 0 ((16 : Nat) : Int) fun a84 l85 c86 =>
words_FromLittle' a84 l85 c86 h83 fun s87 h88 =>
Q s87 h88) fun J68 =>
M.loop (α := Int) (fun J69 d70 h71 =>
(bif (decide (d70 < (16 : Int))) then
M.aidx 16 d70 fun j72 =>
M.load h71 (Addr.add (⟨b33, 0, none⟩ : Addr) (j72 * 1)) fun v73 =>
M.int .u32 v73 fun n74 =>
M.aidx 16 d70 fun j75 =>
M.load h71 (Addr.add (⟨b13, 0, none⟩ : Addr) (j75 * 1)) fun v76 =>
M.int .u32 v76 fun n77 =>
M.val (IntKind.wrap .u32 (n74 + n77)) fun z78 =>
M.aidx 16 d70 fun j79 =>
M.put h71 (Addr.add (⟨b33, 0, none⟩ : Addr) (j79 * 1)) (.int .u32 z78) fun h80 =>
M.val (IntKind.wrap .i64 (d70 + (1 : Int))) fun z81 =>
J69 z81 h80
else
J68 () h71)) (0 : Int) h67) fun J36 =>
M.loop (α := Int) (fun J37 d38 h39 =>
(bif (decide (d38 < (10 : Int))) then
M.join (α := Unit) (fun d49 h50 =>
M.loop (α := Int) (fun J51 d52 h53 =>
(bif (decide (d52 < (4 : Int))) then
M.val (IntKind.wrap .i64 (d52 + (1 : Int))) fun z54 =>
M.nz (4 : Int) (
M.val (Int.tmod z54 (4 : Int)) fun z55 =>
M.val (IntKind.wrap .i64 ((4 : Int) + z55)) fun z56 =>
M.val (IntKind.wrap .i64 (d52 + (2 : Int))) fun z57 =>
M.nz (4 : Int) (
M.val (Int.tmod z57 (4 : Int)) fun z58 =>
M.val (IntKind.wrap .i64 ((8 : Int) + z58)) fun z59 =>
M.val (IntKind.wrap .i64 (d52 + (3 : Int))) fun z60 =>
M.nz (4 : Int) (
M.val (Int.tmod z60 (4 : Int)) fun z61 =>
M.val (IntKind.wrap .i64 ((12 : Int) + z61)) fun z62 =>
chacha_quarter' (some (⟨b33, 0, none⟩ : Addr)) d52 z56 z59 z62 h53 fun h63 =>
M.val (IntKind.wrap .i64 (d52 + (1 : Int))) fun z64 =>
J51 z64 h63)))
else
M.val (IntKind.wrap .i64 (d38 + (1 : Int))) fun z65 =>
J37 z65 h53)) (0 : Int) h50) fun J40 =>
M.loop (α := Int) (fun J41 d42 h43 =>
(bif (decide (d42 < (4 : Int))) then
M.val (IntKind.wrap .i64 (d42 + (4 : Int))) fun z44 =>
M.val (IntKind.wrap .i64 (d42 + (8 : Int))) fun z45 =>
M.val (IntKind.wrap .i64 (d42 + (12 : Int))) fun z46 =>
chacha_quarter' (some (⟨b33, 0, none⟩ : Addr)) d42 z44 z45 z46 h43 fun h47 =>
M.val (IntKind.wrap .i64 (d42 + (1 : Int))) fun z48 =>
J41 z48 h47
else
J40 () h43)) (0 : Int) h39
else
J36 () h39)) (0 : Int) h35)
def chacha_stream (x_key : ByteArray) (x_nonce : ByteArray) (x_counter : Int) (h : H) (Q : ByteArray → H → Prop) : Prop := chacha_stream.g words_Little chacha_quarter words_FromLittle x_key x_nonce x_counter h Q
def chacha_stream.L (F : ByteArray → ByteArray → Int → H → (ByteArray → H → Prop) → Prop) : List Value → (Value → H → Prop) → H → Prop
  | [.string x_key, .string x_nonce, .int .u32 x_counter] => fun Q h => F x_key x_nonce x_counter h fun s91 h92 => Q (.string s91) h92
  | _ => fun _ _ => False
def chacha_stream.W : W := fun args => chacha_stream.L chacha_stream args.toList
def chacha_stream.ann : Ann := ⟨lookN [], lookN [(127, []), (255, []), (32588, [])], lookN [(1018, [(36, .int .i64)]), (2042, [(69, .int .i64)]), (260706, [(38, .int .i64)]), (260710, [(50, .int .i64)])]⟩
theorem chacha_stream.geq (words_Little' : ByteArray → H → (Option Addr → Nat → Nat → Int → H → Prop) → Prop) (chacha_quarter' : Option Addr → Int → Int → Int → Int → H → (H → Prop) → Prop) (words_FromLittle' : Option Addr → Nat → Nat → H → (ByteArray → H → Prop) → Prop) (x_key : ByteArray) (x_nonce : ByteArray) (x_counter : Int) (Q : Value → H → Prop) (h : H) : evF Tryz.prog (envOf [(189, fun args => words_Little.L words_Little' args.toList), (190, fun args => chacha_quarter.L chacha_quarter' args.toList), (191, fun args => words_FromLittle.L words_FromLittle' args.toList)]) Tryz.f149 chacha_stream.ann [(.string x_key), (.string x_nonce), (.int .u32 x_counter)] Q h = chacha_stream.g words_Little' chacha_quarter' words_FromLittle' x_key x_nonce x_counter h fun s91 h92 => Q (.string s91) h92 := by kernel_rfl
theorem chacha_stream.good : FnGood Tryz.prog 149 chacha_stream.W := by
  refine FnGood.of (ann := chacha_stream.ann) (env := envOf [(189, fun args => words_Little.L words_Little args.toList), (190, fun args => chacha_quarter.L chacha_quarter args.toList), (191, fun args => words_FromLittle.L words_FromLittle args.toList)]) mixed (EnvGood.cons words_Little.good (EnvGood.cons chacha_quarter.good (EnvGood.cons words_FromLittle.good EnvGood.nil))) Tryz.func149 Tryz.call149 fun args => ?_
  show chacha_stream.L chacha_stream args.toList = _ ∨ ∀ Q m, evF Tryz.prog (envOf [(189, fun args => words_Little.L words_Little args.toList), (190, fun args => chacha_quarter.L chacha_quarter args.toList), (191, fun args => words_FromLittle.L words_FromLittle args.toList)]) Tryz.f149 chacha_stream.ann args.toList Q m = chacha_stream.L chacha_stream args.toList Q m
  generalize args.toList = l
  unfold chacha_stream.L
  split
  · exact .inr fun Q m => chacha_stream.geq words_Little chacha_quarter words_FromLittle _ _ _ Q m
  · exact .inl rfl
def chacha_Block.g (chacha_shape' : ByteArray → ByteArray → H → (Bool → H → Prop) → Prop) (chacha_stream' : ByteArray → ByteArray → Int → H → (ByteArray → H → Prop) → Prop) (x_key : ByteArray) (x_nonce : ByteArray) (x_counter : Int) (h : H) (Q : ByteArray → Int → H → Prop) : Prop :=
chacha_shape' x_key x_nonce h fun b3 h4 =>
(bif (!b3) then
Q (ByteArray.empty) (7 : Int) h4
else
chacha_stream' x_key x_nonce x_counter h4 fun s5 h6 =>
Q s5 (0 : Int) h6)
def chacha_Block (x_key : ByteArray) (x_nonce : ByteArray) (x_counter : Int) (h : H) (Q : ByteArray → Int → H → Prop) : Prop := chacha_Block.g chacha_shape chacha_stream x_key x_nonce x_counter h Q
def chacha_Block.L (F : ByteArray → ByteArray → Int → H → (ByteArray → Int → H → Prop) → Prop) : List Value → (Value → H → Prop) → H → Prop
  | [.string x_key, .string x_nonce, .int .u32 x_counter] => fun Q h => F x_key x_nonce x_counter h fun s10 n11 h12 => Q (.tuple #[(.string s10), (.int .i64 n11)]) h12
  | _ => fun _ _ => False
def chacha_Block.W : W := fun args => chacha_Block.L chacha_Block args.toList
def chacha_Block.ann : Ann := ⟨lookN [], lookN [], lookN []⟩
theorem chacha_Block.geq (chacha_shape' : ByteArray → ByteArray → H → (Bool → H → Prop) → Prop) (chacha_stream' : ByteArray → ByteArray → Int → H → (ByteArray → H → Prop) → Prop) (x_key : ByteArray) (x_nonce : ByteArray) (x_counter : Int) (Q : Value → H → Prop) (h : H) : evF Tryz.prog (envOf [(148, fun args => chacha_shape.L chacha_shape' args.toList), (149, fun args => chacha_stream.L chacha_stream' args.toList)]) Tryz.f150 chacha_Block.ann [(.string x_key), (.string x_nonce), (.int .u32 x_counter)] Q h = chacha_Block.g chacha_shape' chacha_stream' x_key x_nonce x_counter h fun s10 n11 h12 => Q (.tuple #[(.string s10), (.int .i64 n11)]) h12 := by kernel_rfl
theorem chacha_Block.good : FnGood Tryz.prog 150 chacha_Block.W := by
  refine FnGood.of (ann := chacha_Block.ann) (env := envOf [(148, fun args => chacha_shape.L chacha_shape args.toList), (149, fun args => chacha_stream.L chacha_stream args.toList)]) mixed (EnvGood.cons chacha_shape.good (EnvGood.cons chacha_stream.good EnvGood.nil)) Tryz.func150 Tryz.call150 fun args => ?_
  show chacha_Block.L chacha_Block args.toList = _ ∨ ∀ Q m, evF Tryz.prog (envOf [(148, fun args => chacha_shape.L chacha_shape args.toList), (149, fun args => chacha_stream.L chacha_stream args.toList)]) Tryz.f150 chacha_Block.ann args.toList Q m = chacha_Block.L chacha_Block args.toList Q m
  generalize args.toList = l
  unfold chacha_Block.L
  split
  · exact .inr fun Q m => chacha_Block.geq chacha_shape chacha_stream _ _ _ Q m
  · exact .inl rfl
def poly_Sum.g (poly_Clamp' : ByteArray → H → (ByteArray → Int → H → Prop) → Prop) (poly_of' : ByteArray → Int → H → (Int → Int → Int → Int → Int → H → Prop) → Prop) (poly_limbs_times' : Option Addr → Int → Int → Int → Int → Int → H → (H → Prop) → Prop) (poly_limbs_least' : Option Addr → H → (H → Prop) → Prop) (poly_limbs_plus' : Int → Int → Int → Int → Int → ByteArray → H → (ByteArray → H → Prop) → Prop) (x_key : ByteArray) (x_s : ByteArray) (h : H) (Q : ByteArray → Int → H → Prop) : Prop :=
(bif ((ByteArray.size x_key : Int) != (32 : Int)) then
Q (ByteArray.empty) (7 : Int) h
else
(bif (decide ((ByteArray.size x_s : Int) > (65536 : Int))) then
Q (ByteArray.empty) (5 : Int) h
else
M.ssub x_key 0 (16 : Int) fun s3 =>
poly_Clamp' s3 h fun s4 n5 h6 =>
poly_of' s4 (0 : Int) h6 fun n7 n8 n9 n10 n11 h12 =>
M.new h12 (.cells (#[(.int .u64 (0 : Int)), (.int .u64 (0 : Int)), (.int .u64 (0 : Int)), (.int .u64 (0 : Int)), (.int .u64 (0 : Int))] : Array Value) 279) fun b13 h14 =>
M.req (Array.size (#[(.int .u64 n7), (.int .u64 n8), (.int .u64 n9), (.int .u64 n10), (.int .u64 n11)] : Array Value) = 5) (M.puts h14 (⟨b13, 0, none⟩ : Addr) [(.int .u64 n7), (.int .u64 n8), (.int .u64 n9), (.int .u64 n10), (.int .u64 n11)] fun h15 =>
M.new h15 (.cells (#[(.int .u64 (0 : Int)), (.int .u64 (0 : Int)), (.int .u64 (0 : Int)), (.int .u64 (0 : Int)), (.int .u64 (0 : Int))] : Array Value) 279) fun b16 h17 =>
M.join (α := Unit) (fun d81 h82 =>
poly_limbs_least' (some (⟨b16, 0, none⟩ : Addr)) h82 fun h83 =>
M.load h83 ((⟨b16, 0, none⟩ : Addr).add 0) fun v84 =>
M.int .u64 v84 fun n85 =>
M.load h83 ((⟨b16, 0, none⟩ : Addr).add 1) fun v86 =>
M.int .u64 v86 fun n87 =>
M.load h83 ((⟨b16, 0, none⟩ : Addr).add 2) fun v88 =>
M.int .u64 v88 fun n89 =>
M.load h83 ((⟨b16, 0, none⟩ : Addr).add 3) fun v90 =>
M.int .u64 v90 fun n91 =>
M.load h83 ((⟨b16, 0, none⟩ : Addr).add 4) fun v92 =>
M.int .u64 v92 fun n93 =>
M.ssub x_key (16 : Int) (ByteArray.size x_key : Int) fun s94 =>
poly_limbs_plus' n85 n87 n89 n91 n93 s94 h83 fun s95 h96 =>
Q s95 (0 : Int) h96) fun J18 =>
M.loop (α := ByteArray) (fun J19 d20 h21 =>
(bif (decide ((ByteArray.size d20 : Int) > (0 : Int))) then
M.new h21 (.cells (Array.replicate 17 ((.int .u8 (0 : Int)) : Value)) 281) fun b22 h23 =>
M.sub (some (⟨b22, 0, none⟩ : Addr)) 17 1 0 ((17 : Nat) : Int) fun a24 l25 c26 =>
M.ssub d20 0 (mn (ByteArray.size d20 : Int) (16 : Int)) fun s27 =>
M.copy h23 a24 (bytesOf (ByteArray.extract s27 0 (min (ByteArray.size s27) l25))) fun h28 =>
M.aidx 17 (mn (ByteArray.size d20 : Int) (16 : Int)) fun j29 =>
M.put h28 (Addr.add (⟨b22, 0, none⟩ : Addr) (j29 * 1)) (.int .u8 (1 : Int)) fun h30 =>
M.ssub d20 (mn (ByteArray.size d20 : Int) (16 : Int)) (ByteArray.size d20 : Int) fun s31 =>
M.join (α := (Int × Int × Int × Int × Int) × Int) (fun d55 h56 =>
M.loop (α := Int) (fun J57 d58 h59 =>
(bif (decide (d58 < (5 : Int))) then
M.aidx 5 d58 fun j60 =>
M.at (#[(.int .u64 d55.1.1), (.int .u64 d55.1.2.1), (.int .u64 d55.1.2.2.1), (.int .u64 d55.1.2.2.2.1), (.int .u64 d55.1.2.2.2.2)] : Array Value) (j60 * 1) fun v61 =>
M.int .u64 v61 fun n62 =>
M.aidx 5 d58 fun j63 =>
M.load h59 (Addr.add (⟨b16, 0, none⟩ : Addr) (j63 * 1)) fun v64 =>
M.int .u64 v64 fun n65 =>
M.val (IntKind.wrap .u64 (n65 + n62)) fun z66 =>
M.aidx 5 d58 fun j67 =>
M.put h59 (Addr.add (⟨b16, 0, none⟩ : Addr) (j67 * 1)) (.int .u64 z66) fun h68 =>
M.val (IntKind.wrap .i64 (d58 + (1 : Int))) fun z69 =>
J57 z69 h68
else
M.load h59 ((⟨b13, 0, none⟩ : Addr).add 0) fun v70 =>
M.int .u64 v70 fun n71 =>
M.load h59 ((⟨b13, 0, none⟩ : Addr).add 1) fun v72 =>
M.int .u64 v72 fun n73 =>
M.load h59 ((⟨b13, 0, none⟩ : Addr).add 2) fun v74 =>
M.int .u64 v74 fun n75 =>
M.load h59 ((⟨b13, 0, none⟩ : Addr).add 3) fun v76 =>
M.int .u64 v76 fun n77 =>
M.load h59 ((⟨b13, 0, none⟩ : Addr).add 4) fun v78 =>
M.int .u64 v78 fun n79 =>
poly_limbs_times' (some (⟨b16, 0, none⟩ : Addr)) n71 n73 n75 n77 n79 h59 fun h80 =>
J19 s31 h80)) d55.2 h56) fun J32 =>
M.sub (some (⟨b22, 0, none⟩ : Addr)) 17 1 0 (16 : Int) fun a33 l34 c35 =>
M.aidx 17 (16 : Int) fun j36 =>
M.load h30 (Addr.add (⟨b22, 0, none⟩ : Addr) (j36 * 1)) fun v37 =>
M.int .u8 v37 fun n38 =>
(M.b2s h30 a33 l34 fun s39 =>
M.still h30 (Addr.add (⟨b22, 0, none⟩ : Addr) (j36 * 1)) 1 h30 (
M.val (IntKind.wrap .u64 n38) fun z40 =>
poly_of' s39 z40 h30 fun n41 n42 n43 n44 n45 h46 =>
J32 ((n41, n42, n43, n44, n45), (0 : Int)) h46)) ∧
(M.val (IntKind.wrap .u64 n38) fun z47 =>
M.b2s h30 a33 l34 fun s48 =>
M.still h30 (Addr.add (⟨b22, 0, none⟩ : Addr) (j36 * 1)) 1 h30 (
poly_of' s48 z47 h30 fun n49 n50 n51 n52 n53 h54 =>
J32 ((n49, n50, n51, n52, n53), (0 : Int)) h54))
else
J18 () h21)) x_s h17)))
def poly_Sum (x_key : ByteArray) (x_s : ByteArray) (h : H) (Q : ByteArray → Int → H → Prop) : Prop := poly_Sum.g poly_Clamp poly_of poly_limbs_times poly_limbs_least poly_limbs_plus x_key x_s h Q
def poly_Sum.L (F : ByteArray → ByteArray → H → (ByteArray → Int → H → Prop) → Prop) : List Value → (Value → H → Prop) → H → Prop
  | [.string x_key, .string x_s] => fun Q h => F x_key x_s h fun s100 n101 h102 => Q (.tuple #[(.string s100), (.int .i64 n101)]) h102
  | _ => fun _ _ => False
def poly_Sum.W : W := fun args => poly_Sum.L poly_Sum args.toList
def poly_Sum.ann : Ann := ⟨lookN [(14, [(51, .agt [.int .u64, .int .u64, .int .u64, .int .u64, .int .u64]), (52, .int .i64)])], lookN [(63, [])], lookN [(252, [(1, .str)]), (516858, [(52, .int .i64)])]⟩
theorem poly_Sum.geq (poly_Clamp' : ByteArray → H → (ByteArray → Int → H → Prop) → Prop) (poly_of' : ByteArray → Int → H → (Int → Int → Int → Int → Int → H → Prop) → Prop) (poly_limbs_times' : Option Addr → Int → Int → Int → Int → Int → H → (H → Prop) → Prop) (poly_limbs_least' : Option Addr → H → (H → Prop) → Prop) (poly_limbs_plus' : Int → Int → Int → Int → Int → ByteArray → H → (ByteArray → H → Prop) → Prop) (x_key : ByteArray) (x_s : ByteArray) (Q : Value → H → Prop) (h : H) : evF Tryz.prog (envOf [(192, fun args => poly_Clamp.L poly_Clamp' args.toList), (193, fun args => poly_of.L poly_of' args.toList), (194, fun args => poly_limbs_times.L poly_limbs_times' args.toList), (195, fun args => poly_limbs_least.L poly_limbs_least' args.toList), (196, fun args => poly_limbs_plus.L poly_limbs_plus' args.toList)]) Tryz.f151 poly_Sum.ann [(.string x_key), (.string x_s)] Q h = poly_Sum.g poly_Clamp' poly_of' poly_limbs_times' poly_limbs_least' poly_limbs_plus' x_key x_s h fun s100 n101 h102 => Q (.tuple #[(.string s100), (.int .i64 n101)]) h102 := by kernel_rfl
theorem poly_Sum.good : FnGood Tryz.prog 151 poly_Sum.W := by
  refine FnGood.of (ann := poly_Sum.ann) (env := envOf [(192, fun args => poly_Clamp.L poly_Clamp args.toList), (193, fun args => poly_of.L poly_of args.toList), (194, fun args => poly_limbs_times.L poly_limbs_times args.toList), (195, fun args => poly_limbs_least.L poly_limbs_least args.toList), (196, fun args => poly_limbs_plus.L poly_limbs_plus args.toList)]) mixed (EnvGood.cons poly_Clamp.good (EnvGood.cons poly_of.good (EnvGood.cons poly_limbs_times.good (EnvGood.cons poly_limbs_least.good (EnvGood.cons poly_limbs_plus.good EnvGood.nil))))) Tryz.func151 Tryz.call151 fun args => ?_
  show poly_Sum.L poly_Sum args.toList = _ ∨ ∀ Q m, evF Tryz.prog (envOf [(192, fun args => poly_Clamp.L poly_Clamp args.toList), (193, fun args => poly_of.L poly_of args.toList), (194, fun args => poly_limbs_times.L poly_limbs_times args.toList), (195, fun args => poly_limbs_least.L poly_limbs_least args.toList), (196, fun args => poly_limbs_plus.L poly_limbs_plus args.toList)]) Tryz.f151 poly_Sum.ann args.toList Q m = poly_Sum.L poly_Sum args.toList Q m
  generalize args.toList = l
  unfold poly_Sum.L
  split
  · exact .inr fun Q m => poly_Sum.geq poly_Clamp poly_of poly_limbs_times poly_limbs_least poly_limbs_plus _ _ Q m
  · exact .inl rfl
def sha_schedule.g (words_Big' : ByteArray → H → (Option Addr → Nat → Nat → Int → H → Prop) → Prop) (words_Right' : Int → Int → H → (Int → H → Prop) → Prop) (x_s : ByteArray) (h : H) (Q : Array Value → H → Prop) : Prop :=
M.new h (.cells (Array.replicate 64 ((.int .u32 (0 : Int)) : Value)) 251) fun b2 h3 =>
M.new h3 (.cells (Array.replicate 64 ((.int .u32 (0 : Int)) : Value)) 251) fun b4 h5 =>
words_Big' x_s h5 fun a6 l7 c8 n9 h10 =>
M.sub (some (⟨b4, 0, none⟩ : Addr)) 64 1 0 ((64 : Nat) : Int) fun a11 l12 c13 =>
M.cellsOf h10 a6 ((min l7 l12) * 1) fun cs15 =>
M.copy h10 a11 cs15 fun h14 =>
M.loop (α := Int) (fun J16 d17 h18 =>
(bif (decide (d17 < (64 : Int))) then
M.val (IntKind.wrap .i64 (d17 - (15 : Int))) fun z19 =>
M.aidx 64 z19 fun j20 =>
M.load h18 (Addr.add (⟨b4, 0, none⟩ : Addr) (j20 * 1)) fun v21 =>
M.int .u32 v21 fun n22 =>
M.val (IntKind.wrap .i64 (d17 - (2 : Int))) fun z23 =>
M.aidx 64 z23 fun j24 =>
M.load h18 (Addr.add (⟨b4, 0, none⟩ : Addr) (j24 * 1)) fun v25 =>
M.int .u32 v25 fun n26 =>
words_Right' n22 (7 : Int) h18 fun n27 h28 =>
words_Right' n22 (18 : Int) h28 fun n29 h30 =>
M.val (bXor .u32 n27 n29) fun z31 =>
M.shr0 (3 : Int) (
M.val (shr .u32 n22 (3 : Int)) fun z32 =>
M.val (bXor .u32 z31 z32) fun z33 =>
words_Right' n26 (17 : Int) h30 fun n34 h35 =>
words_Right' n26 (19 : Int) h35 fun n36 h37 =>
M.val (bXor .u32 n34 n36) fun z38 =>
M.shr0 (10 : Int) (
M.val (shr .u32 n26 (10 : Int)) fun z39 =>
M.val (bXor .u32 z38 z39) fun z40 =>
M.val (IntKind.wrap .i64 (d17 - (16 : Int))) fun z41 =>
M.aidx 64 z41 fun j42 =>
M.load h37 (Addr.add (⟨b4, 0, none⟩ : Addr) (j42 * 1)) fun v43 =>
M.int .u32 v43 fun n44 =>
M.val (IntKind.wrap .u32 (n44 + z33)) fun z45 =>
M.val (IntKind.wrap .i64 (d17 - (7 : Int))) fun z46 =>
M.aidx 64 z46 fun j47 =>
M.load h37 (Addr.add (⟨b4, 0, none⟩ : Addr) (j47 * 1)) fun v48 =>
M.int .u32 v48 fun n49 =>
M.val (IntKind.wrap .u32 (z45 + n49)) fun z50 =>
M.val (IntKind.wrap .u32 (z50 + z40)) fun z51 =>
M.aidx 64 d17 fun j52 =>
M.put h37 (Addr.add (⟨b4, 0, none⟩ : Addr) (j52 * 1)) (.int .u32 z51) fun h53 =>
M.val (IntKind.wrap .i64 (d17 + (1 : Int))) fun z54 =>
J16 z54 h53))
else
M.row h18 (⟨b4, 0, none⟩ : Addr) 64 fun cs55 =>
M.req (Array.size (List.toArray cs55) = 64) (M.puts h18 (⟨b2, 0, none⟩ : Addr) (Array.toList (List.toArray cs55)) fun h56 =>
M.row h56 (⟨b2, 0, none⟩ : Addr) 64 fun cs57 =>
Q (List.toArray cs57) h56))) (16 : Int) h14
def sha_schedule (x_s : ByteArray) (h : H) (Q : Array Value → H → Prop) : Prop := sha_schedule.g words_Big words_Right x_s h Q
def sha_schedule.L (F : ByteArray → H → (Array Value → H → Prop) → Prop) : List Value → (Value → H → Prop) → H → Prop
  | [.string x_s] => fun Q h => F x_s h fun cs60 h61 => Q (.agg cs60) h61
  | _ => fun _ _ => False
def sha_schedule.W : W := fun args => sha_schedule.L sha_schedule args.toList
def sha_schedule.ann : Ann := ⟨lookN [], lookN [], lookN [(250, [(6, .int .i64)])]⟩
theorem sha_schedule.geq (words_Big' : ByteArray → H → (Option Addr → Nat → Nat → Int → H → Prop) → Prop) (words_Right' : Int → Int → H → (Int → H → Prop) → Prop) (x_s : ByteArray) (Q : Value → H → Prop) (h : H) : evF Tryz.prog (envOf [(204, fun args => words_Big.L words_Big' args.toList), (165, fun args => words_Right.L words_Right' args.toList)]) Tryz.f164 sha_schedule.ann [(.string x_s)] Q h = sha_schedule.g words_Big' words_Right' x_s h fun cs60 h61 => Q (.agg cs60) h61 := by kernel_rfl
theorem sha_schedule.good : FnGood Tryz.prog 164 sha_schedule.W := by
  refine FnGood.of (ann := sha_schedule.ann) (env := envOf [(204, fun args => words_Big.L words_Big args.toList), (165, fun args => words_Right.L words_Right args.toList)]) mixed (EnvGood.cons words_Big.good (EnvGood.cons words_Right.good EnvGood.nil)) Tryz.func164 Tryz.call164 fun args => ?_
  show sha_schedule.L sha_schedule args.toList = _ ∨ ∀ Q m, evF Tryz.prog (envOf [(204, fun args => words_Big.L words_Big args.toList), (165, fun args => words_Right.L words_Right args.toList)]) Tryz.f164 sha_schedule.ann args.toList Q m = sha_schedule.L sha_schedule args.toList Q m
  generalize args.toList = l
  unfold sha_schedule.L
  split
  · exact .inr fun Q m => sha_schedule.geq words_Big words_Right _ Q m
  · exact .inl rfl
end Go.Proofs.YthegnmanjdlmjaaGreatDoor

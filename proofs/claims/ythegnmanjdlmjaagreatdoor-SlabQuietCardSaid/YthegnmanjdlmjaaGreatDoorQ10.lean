/- The shallow forms of the functions of this seat, printed by a program of mine, each checked by the kernel against the given code. -/
import Derived.Test.YthegnmanjdlmjaaGreatDoorQ06
set_option linter.unusedSimpArgs false
set_option linter.unusedVariables false
namespace Go.Proofs.YthegnmanjdlmjaaGreatDoor
open Go.Sh
def law17_both_act.L (F : Option Addr → Int → Int → Int → Int → Option Addr → Nat → Nat → ByteArray → H → (Bool → H → Prop) → Prop) : List Value → (Value → H → Prop) → H → Prop
  | [.pointer x_x, .agg ⟨[.int .i64 x_a_0, .int .i64 x_a_1, .int .i64 x_a_2, .int .u8 x_a_3, .slice x_a_4 x_a_4L x_a_4C, .string x_a_5]⟩] => fun Q h => F x_x x_a_0 x_a_1 x_a_2 x_a_3 x_a_4 x_a_4L x_a_4C x_a_5 h fun b826 h827 => Q (.bool b826) h827
  | _ => fun _ _ => False
def law17_SlabKeeps.L (F : Int → Array Value → Option Addr → Nat → Nat → H → (Bool → H → Prop) → Prop) : List Value → (Value → H → Prop) → H → Prop
  | [.int .i64 x_n, .agg x_key, .slice x_l x_lL x_lC] => fun Q h => F x_n x_key x_l x_lL x_lC h fun b273 h274 => Q (.bool b273) h274
  | _ => fun _ _ => False
def law17_SlabQuiet.g (law17_begin' : Int → Int → Array Value → H → (Option Addr → Bool → H → Prop) → Prop) (law17_wakes' : H → (Bool → H → Prop) → Prop) (bank_Bank_Steps' : Option Addr → H → (Int → H → Prop) → Prop) (slab_Slab_Seal' : Option Addr → Int → Int → ByteArray → Int → ByteArray → ByteArray → H → (ByteArray → Int → H → Prop) → Prop) (slab_Slab_Get' : Option Addr → Int → Int → ByteArray → ByteArray → Int → H → (ByteArray → Int → H → Prop) → Prop) (slab_Slab_Prepare' : Option Addr → Int → Int → ByteArray → ByteArray → Option Addr → Nat → Nat → H → (Option Addr → Nat → Nat → ByteArray → Int → H → Prop) → Prop) (slab_Slab_Blank' : Option Addr → Int → Int → ByteArray → H → (Option Addr → Nat → Nat → ByteArray → Int → H → Prop) → Prop) (slab_Slab_Bad' : Option Addr → Int → Int → ByteArray → ByteArray → H → (Option Addr → Nat → Nat → H → Prop) → Prop) (bank_Bank_Disk' : Option Addr → Int → H → (Option Addr → H → Prop) → Prop) (disk_Disk_Waiting' : Option Addr → H → (Int → H → Prop) → Prop) (x_n : Int) (x_key : Array Value) (x_script : Option Addr) (x_scriptL : Nat) (x_scriptC : Nat) (h : H) (Q : Bool → H → Prop) : Prop :=
M.new h (.cells x_key 22) fun b2 h3 =>
M.nz (4 : Int) (
M.val (Int.tmod (mx (0 : Int) x_n) (4 : Int)) fun z4 =>
M.shr0 z4 (
M.val (shl .i64 (2 : Int) z4) fun z5 =>
M.row h3 (⟨b2, 0, none⟩ : Addr) 32 fun cs6 =>
law17_begin' z5 (0 : Int) (List.toArray cs6) h3 fun p7 b8 h9 =>
M.join (α := Bool) (fun d13 h14 =>
(bif d13 then
Q false h14
else
M.nn p7 fun a15 =>
M.load h14 (Addr.add (Addr.add a15 0) 0) fun v16 =>
M.ptr v16 fun p17 =>
bank_Bank_Steps' p17 h14 fun n18 h19 =>
M.join (α := Unit) (fun d140 h141 =>
M.join (α := Bool) (fun d155 h156 =>
Q d155 h156) fun J142 =>
M.nn p7 fun a143 =>
M.load h141 (Addr.add (Addr.add a143 0) 0) fun v144 =>
M.ptr v144 fun p145 =>
bank_Bank_Steps' p145 h141 fun n146 h147 =>
(bif (n146 == n18) then
M.nn p7 fun a148 =>
M.load h147 (Addr.add (Addr.add a148 0) 0) fun v149 =>
M.ptr v149 fun p150 =>
bank_Bank_Disk' p150 (0 : Int) h147 fun p151 h152 =>
disk_Disk_Waiting' p151 h152 fun n153 h154 =>
J142 (n153 == (0 : Int)) h154
else
J142 false h147)) fun J20 =>
M.sub x_script x_scriptC 6 0 (mn ((x_scriptL : Nat) : Int) (30 : Int)) fun a21 l22 c23 =>
M.loop (α := Int) (fun J24 d25 h26 =>
(bif (decide (d25 < ((l22 : Nat) : Int))) then
M.idx a21 l22 d25 fun a27 j28 =>
M.load h26 ((Addr.add a27 (j28 * 6)).add 0) fun v29 =>
M.int .i64 v29 fun n30 =>
M.load h26 ((Addr.add a27 (j28 * 6)).add 1) fun v31 =>
M.int .i64 v31 fun n32 =>
M.load h26 ((Addr.add a27 (j28 * 6)).add 2) fun v33 =>
M.int .i64 v33 fun n34 =>
M.load h26 ((Addr.add a27 (j28 * 6)).add 3) fun v35 =>
M.int .u8 v35 fun n36 =>
M.load h26 ((Addr.add a27 (j28 * 6)).add 4) fun v37 =>
M.slc v37 fun a38 l39 c40 =>
M.load h26 ((Addr.add a27 (j28 * 6)).add 5) fun v41 =>
M.str v41 fun s42 =>
M.new h26 (.cells (#[(.int .i64 (0 : Int)), (.int .i64 (0 : Int)), (.int .i64 (0 : Int)), (.int .u8 (0 : Int)), (.slice none 0 0), (.string (ByteArray.empty))] : Array Value) 32) fun b43 h44 =>
M.req (Array.size (#[(.int .i64 n30), (.int .i64 n32), (.int .i64 n34), (.int .u8 n36), (.slice a38 l39 c40), (.string s42)] : Array Value) = 6) (M.puts h44 (⟨b43, 0, none⟩ : Addr) [(.int .i64 n30), (.int .i64 n32), (.int .i64 n34), (.int .u8 n36), (.slice a38 l39 c40), (.string s42)] fun h45 =>
M.nn p7 fun a46 =>
M.load h45 ((Addr.add a46 0).add 0) fun v47 =>
M.ptr v47 fun p48 =>
M.load h45 ((Addr.add a46 0).add 1) fun v49 =>
M.int .i64 v49 fun n50 =>
M.load h45 ((Addr.add a46 0).add 2) fun v51 =>
M.int .i64 v51 fun n52 =>
M.load h45 ((Addr.add a46 0).add 3) fun v53 =>
M.str v53 fun s54 =>
M.load h45 (Addr.add (⟨b43, 0, none⟩ : Addr) 1) fun v55 =>
M.int .i64 v55 fun n56 =>
M.mk h45 5 [(.int .u8 (0 : Int))] 1 (32 : Int) (32 : Int) fun a57 l58 c59 h60 =>
M.still h45 (Addr.add (⟨b43, 0, none⟩ : Addr) 1) 1 h60 (
M.still h45 (Addr.add a46 0) 4 h60 (
M.b2s h60 a57 l58 fun s61 =>
M.still h45 (Addr.add (⟨b43, 0, none⟩ : Addr) 1) 1 h60 (
M.still h45 (Addr.add a46 0) 4 h60 (
slab_Slab_Seal' p48 n50 n52 s54 n56 (⟨#[49, 50, 51, 52, 53, 54, 55, 56, 57, 48, 49, 50]⟩ : ByteArray) s61 h60 fun s62 n63 h64 =>
M.nn p7 fun a65 =>
M.load h64 ((Addr.add a65 0).add 0) fun v66 =>
M.ptr v66 fun p67 =>
M.load h64 ((Addr.add a65 0).add 1) fun v68 =>
M.int .i64 v68 fun n69 =>
M.load h64 ((Addr.add a65 0).add 2) fun v70 =>
M.int .i64 v70 fun n71 =>
M.load h64 ((Addr.add a65 0).add 3) fun v72 =>
M.str v72 fun s73 =>
M.load h64 (Addr.add (⟨b43, 0, none⟩ : Addr) 5) fun v74 =>
M.str v74 fun s75 =>
M.load h64 (Addr.add (⟨b43, 0, none⟩ : Addr) 1) fun v76 =>
M.int .i64 v76 fun n77 =>
slab_Slab_Get' p67 n69 n71 s73 s75 n77 h64 fun s78 n79 h80 =>
M.nn p7 fun a81 =>
M.load h80 ((Addr.add a81 0).add 0) fun v82 =>
M.ptr v82 fun p83 =>
M.load h80 ((Addr.add a81 0).add 1) fun v84 =>
M.int .i64 v84 fun n85 =>
M.load h80 ((Addr.add a81 0).add 2) fun v86 =>
M.int .i64 v86 fun n87 =>
M.load h80 ((Addr.add a81 0).add 3) fun v88 =>
M.str v88 fun s89 =>
M.nn p7 fun a90 =>
M.load h80 (Addr.add a90 8) fun v91 =>
M.str v91 fun s92 =>
M.load h80 (Addr.add (⟨b43, 0, none⟩ : Addr) 1) fun v93 =>
M.int .i64 v93 fun n94 =>
M.load h80 (Addr.add (⟨b43, 0, none⟩ : Addr) 5) fun v95 =>
M.str v95 fun s96 =>
M.load h80 (Addr.add (⟨b43, 0, none⟩ : Addr) 5) fun v97 =>
M.str v97 fun s98 =>
M.ssub s96 0 (mn (ByteArray.size s98 : Int) (100 : Int)) fun s99 =>
M.new h80 (.cells (#[(.int .i64 n94), (.string s99)] : Array Value) 45) fun b100 h101 =>
M.still h80 (Addr.add a90 8) 1 h101 (
M.still h80 (Addr.add a81 0) 4 h101 (
slab_Slab_Prepare' p83 n85 n87 s89 s92 (some (⟨b100, 0, none⟩ : Addr)) 1 1 h101 fun a102 l103 c104 s105 n106 h107 =>
M.nn p7 fun a108 =>
M.load h107 ((Addr.add a108 0).add 0) fun v109 =>
M.ptr v109 fun p110 =>
M.load h107 ((Addr.add a108 0).add 1) fun v111 =>
M.int .i64 v111 fun n112 =>
M.load h107 ((Addr.add a108 0).add 2) fun v113 =>
M.int .i64 v113 fun n114 =>
M.load h107 ((Addr.add a108 0).add 3) fun v115 =>
M.str v115 fun s116 =>
slab_Slab_Blank' p110 n112 n114 s116 h107 fun a117 l118 c119 s120 n121 h122 =>
M.nn p7 fun a123 =>
M.load h122 ((Addr.add a123 0).add 0) fun v124 =>
M.ptr v124 fun p125 =>
M.load h122 ((Addr.add a123 0).add 1) fun v126 =>
M.int .i64 v126 fun n127 =>
M.load h122 ((Addr.add a123 0).add 2) fun v128 =>
M.int .i64 v128 fun n129 =>
M.load h122 ((Addr.add a123 0).add 3) fun v130 =>
M.str v130 fun s131 =>
M.nn p7 fun a132 =>
M.load h122 (Addr.add a132 8) fun v133 =>
M.str v133 fun s134 =>
slab_Slab_Bad' p125 n127 n129 s131 s134 h122 fun a135 l136 c137 h138 =>
M.val (IntKind.wrap .i64 (d25 + (1 : Int))) fun z139 =>
J24 z139 h138)))))))
else
J20 () h26)) (0 : Int) h19)) fun J10 =>
law17_wakes'  h9 fun b11 h12 =>
(bif (!b11) then
J10 true h12
else
J10 (!b8) h12)))
def law17_SlabQuiet (x_n : Int) (x_key : Array Value) (x_script : Option Addr) (x_scriptL : Nat) (x_scriptC : Nat) (h : H) (Q : Bool → H → Prop) : Prop := law17_SlabQuiet.g law17_begin law17_wakes bank_Bank_Steps slab_Slab_Seal slab_Slab_Get slab_Slab_Prepare slab_Slab_Blank slab_Slab_Bad bank_Bank_Disk disk_Disk_Waiting x_n x_key x_script x_scriptL x_scriptC h Q
def law17_SlabQuiet.L (F : Int → Array Value → Option Addr → Nat → Nat → H → (Bool → H → Prop) → Prop) : List Value → (Value → H → Prop) → H → Prop
  | [.int .i64 x_n, .agg x_key, .slice x_script x_scriptL x_scriptC] => fun Q h => F x_n x_key x_script x_scriptL x_scriptC h fun b159 h160 => Q (.bool b159) h160
  | _ => fun _ _ => False
def law17_SlabQuiet.W : W := fun args => law17_SlabQuiet.L law17_SlabQuiet args.toList
def law17_SlabQuiet.ann : Ann := ⟨lookN [(2, [(26, .bool)]), (14, [(6, .bool)])], lookN [(31, [])], lookN [(250, [(39, .int .i64)])]⟩
theorem law17_SlabQuiet.geq (law17_begin' : Int → Int → Array Value → H → (Option Addr → Bool → H → Prop) → Prop) (law17_wakes' : H → (Bool → H → Prop) → Prop) (bank_Bank_Steps' : Option Addr → H → (Int → H → Prop) → Prop) (slab_Slab_Seal' : Option Addr → Int → Int → ByteArray → Int → ByteArray → ByteArray → H → (ByteArray → Int → H → Prop) → Prop) (slab_Slab_Get' : Option Addr → Int → Int → ByteArray → ByteArray → Int → H → (ByteArray → Int → H → Prop) → Prop) (slab_Slab_Prepare' : Option Addr → Int → Int → ByteArray → ByteArray → Option Addr → Nat → Nat → H → (Option Addr → Nat → Nat → ByteArray → Int → H → Prop) → Prop) (slab_Slab_Blank' : Option Addr → Int → Int → ByteArray → H → (Option Addr → Nat → Nat → ByteArray → Int → H → Prop) → Prop) (slab_Slab_Bad' : Option Addr → Int → Int → ByteArray → ByteArray → H → (Option Addr → Nat → Nat → H → Prop) → Prop) (bank_Bank_Disk' : Option Addr → Int → H → (Option Addr → H → Prop) → Prop) (disk_Disk_Waiting' : Option Addr → H → (Int → H → Prop) → Prop) (x_n : Int) (x_key : Array Value) (x_script : Option Addr) (x_scriptL : Nat) (x_scriptC : Nat) (Q : Value → H → Prop) (h : H) : evF Tryz.prog (envOf [(12, fun args => law17_begin.L law17_begin' args.toList), (13, fun args => law17_wakes.L law17_wakes' args.toList), (21, fun args => bank_Bank_Steps.L bank_Bank_Steps' args.toList), (14, fun args => slab_Slab_Seal.L slab_Slab_Seal' args.toList), (17, fun args => slab_Slab_Get.L slab_Slab_Get' args.toList), (15, fun args => slab_Slab_Prepare.L slab_Slab_Prepare' args.toList), (20, fun args => slab_Slab_Blank.L slab_Slab_Blank' args.toList), (18, fun args => slab_Slab_Bad.L slab_Slab_Bad' args.toList), (22, fun args => bank_Bank_Disk.L bank_Bank_Disk' args.toList), (23, fun args => disk_Disk_Waiting.L disk_Disk_Waiting' args.toList)]) Tryz.f5 law17_SlabQuiet.ann [(.int .i64 x_n), (.agg x_key), (.slice x_script x_scriptL x_scriptC)] Q h = law17_SlabQuiet.g law17_begin' law17_wakes' bank_Bank_Steps' slab_Slab_Seal' slab_Slab_Get' slab_Slab_Prepare' slab_Slab_Blank' slab_Slab_Bad' bank_Bank_Disk' disk_Disk_Waiting' x_n x_key x_script x_scriptL x_scriptC h fun b159 h160 => Q (.bool b159) h160 := by kernel_rfl
theorem law17_SlabQuiet.W_eq (x_n : Int) (x_key : Array Value) (x_script : Option Addr) (x_scriptL : Nat) (x_scriptC : Nat) (Q : Value → H → Prop) (h : H) : law17_SlabQuiet.W #[(.int .i64 x_n), (.agg x_key), (.slice x_script x_scriptL x_scriptC)] Q h = law17_SlabQuiet x_n x_key x_script x_scriptL x_scriptC h fun b159 h160 => Q (.bool b159) h160 := by kernel_rfl
theorem law17_SlabQuiet.good : FnGood Tryz.prog 5 law17_SlabQuiet.W := by
  refine FnGood.of (ann := law17_SlabQuiet.ann) (env := envOf [(12, fun args => law17_begin.L law17_begin args.toList), (13, fun args => law17_wakes.L law17_wakes args.toList), (21, fun args => bank_Bank_Steps.L bank_Bank_Steps args.toList), (14, fun args => slab_Slab_Seal.L slab_Slab_Seal args.toList), (17, fun args => slab_Slab_Get.L slab_Slab_Get args.toList), (15, fun args => slab_Slab_Prepare.L slab_Slab_Prepare args.toList), (20, fun args => slab_Slab_Blank.L slab_Slab_Blank args.toList), (18, fun args => slab_Slab_Bad.L slab_Slab_Bad args.toList), (22, fun args => bank_Bank_Disk.L bank_Bank_Disk args.toList), (23, fun args => disk_Disk_Waiting.L disk_Disk_Waiting args.toList)]) mixed (EnvGood.cons law17_begin.good (EnvGood.cons law17_wakes.good (EnvGood.cons bank_Bank_Steps.good (EnvGood.cons slab_Slab_Seal.good (EnvGood.cons slab_Slab_Get.good (EnvGood.cons slab_Slab_Prepare.good (EnvGood.cons slab_Slab_Blank.good (EnvGood.cons slab_Slab_Bad.good (EnvGood.cons bank_Bank_Disk.good (EnvGood.cons disk_Disk_Waiting.good EnvGood.nil)))))))))) Tryz.func5 Tryz.call5 fun args => ?_
  show law17_SlabQuiet.L law17_SlabQuiet args.toList = _ ∨ ∀ Q m, evF Tryz.prog (envOf [(12, fun args => law17_begin.L law17_begin args.toList), (13, fun args => law17_wakes.L law17_wakes args.toList), (21, fun args => bank_Bank_Steps.L bank_Bank_Steps args.toList), (14, fun args => slab_Slab_Seal.L slab_Slab_Seal args.toList), (17, fun args => slab_Slab_Get.L slab_Slab_Get args.toList), (15, fun args => slab_Slab_Prepare.L slab_Slab_Prepare args.toList), (20, fun args => slab_Slab_Blank.L slab_Slab_Blank args.toList), (18, fun args => slab_Slab_Bad.L slab_Slab_Bad args.toList), (22, fun args => bank_Bank_Disk.L bank_Bank_Disk args.toList), (23, fun args => disk_Disk_Waiting.L disk_Disk_Waiting args.toList)]) Tryz.f5 law17_SlabQuiet.ann args.toList Q m = law17_SlabQuiet.L law17_SlabQuiet args.toList Q m
  generalize args.toList = l
  unfold law17_SlabQuiet.L
  split
  · exact .inr fun Q m => law17_SlabQuiet.geq law17_begin law17_wakes bank_Bank_Steps slab_Slab_Seal slab_Slab_Get slab_Slab_Prepare slab_Slab_Blank slab_Slab_Bad bank_Bank_Disk disk_Disk_Waiting _ _ _ _ _ Q m
  · exact .inl rfl
end Go.Proofs.YthegnmanjdlmjaaGreatDoor

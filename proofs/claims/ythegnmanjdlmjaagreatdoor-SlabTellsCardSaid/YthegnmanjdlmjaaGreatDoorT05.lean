/- The shallow forms of the functions of this seat, printed by a program of mine, each checked by the kernel against the given code. -/
import Derived.Test.YthegnmanjdlmjaaGreatDoorT04
set_option linter.unusedSimpArgs false
set_option linter.unusedVariables false
namespace Go.Proofs.YthegnmanjdlmjaaGreatDoor
open Go.Sh
def ref05_block.g (ref01_Words' : ByteArray → Bool → H → (Option Addr → Nat → Nat → Int → H → Prop) → Prop) (ref05_moved' : Int → Int → Int → Int → H → (Int → H → Prop) → Prop) (ref05_turned' : Int → Int → Int → Int → H → (Int → H → Prop) → Prop) (ref05_pick' : Int → Int → Int → H → (Int → H → Prop) → Prop) (ref05_most' : Int → Int → Int → H → (Int → H → Prop) → Prop) (x_h_0 : Int) (x_h_1 : Int) (x_h_2 : Int) (x_h_3 : Int) (x_h_4 : Int) (x_h_5 : Int) (x_h_6 : Int) (x_h_7 : Int) (x_s : ByteArray) (h : H) (Q : Int → Int → Int → Int → Int → Int → Int → Int → H → Prop) : Prop :=
M.new h (.cells (#[(.int .u32 x_h_0), (.int .u32 x_h_1), (.int .u32 x_h_2), (.int .u32 x_h_3), (.int .u32 x_h_4), (.int .u32 x_h_5), (.int .u32 x_h_6), (.int .u32 x_h_7)] : Array Value) 204) fun b9 h10 =>
M.new h10 (.cells (#[(.int .u32 (0 : Int)), (.int .u32 (0 : Int)), (.int .u32 (0 : Int)), (.int .u32 (0 : Int)), (.int .u32 (0 : Int)), (.int .u32 (0 : Int)), (.int .u32 (0 : Int)), (.int .u32 (0 : Int))] : Array Value) 204) fun b11 h12 =>
ref01_Words' x_s true h12 fun a13 l14 c15 n16 h17 =>
M.join (α := (Option Addr × Nat × Nat)) (fun d57 h58 =>
M.aidx 8 (0 : Int) fun j59 =>
M.load h58 (Addr.add (⟨b9, 0, none⟩ : Addr) (j59 * 1)) fun v60 =>
M.int .u32 v60 fun n61 =>
M.aidx 8 (1 : Int) fun j62 =>
M.load h58 (Addr.add (⟨b9, 0, none⟩ : Addr) (j62 * 1)) fun v63 =>
M.int .u32 v63 fun n64 =>
M.aidx 8 (2 : Int) fun j65 =>
M.load h58 (Addr.add (⟨b9, 0, none⟩ : Addr) (j65 * 1)) fun v66 =>
M.int .u32 v66 fun n67 =>
M.aidx 8 (3 : Int) fun j68 =>
M.load h58 (Addr.add (⟨b9, 0, none⟩ : Addr) (j68 * 1)) fun v69 =>
M.int .u32 v69 fun n70 =>
M.aidx 8 (4 : Int) fun j71 =>
M.load h58 (Addr.add (⟨b9, 0, none⟩ : Addr) (j71 * 1)) fun v72 =>
M.int .u32 v72 fun n73 =>
M.aidx 8 (5 : Int) fun j74 =>
M.load h58 (Addr.add (⟨b9, 0, none⟩ : Addr) (j74 * 1)) fun v75 =>
M.int .u32 v75 fun n76 =>
M.aidx 8 (6 : Int) fun j77 =>
M.load h58 (Addr.add (⟨b9, 0, none⟩ : Addr) (j77 * 1)) fun v78 =>
M.int .u32 v78 fun n79 =>
M.aidx 8 (7 : Int) fun j80 =>
M.load h58 (Addr.add (⟨b9, 0, none⟩ : Addr) (j80 * 1)) fun v81 =>
M.int .u32 v81 fun n82 =>
M.join (α := Int × Int × Int × Int × Int × Int × Int × Int) (fun d110 h111 =>
M.aidx 8 (0 : Int) fun j112 =>
M.load h111 (Addr.add (⟨b9, 0, none⟩ : Addr) (j112 * 1)) fun v113 =>
M.int .u32 v113 fun n114 =>
M.val (IntKind.wrap .u32 (n114 + d110.1)) fun z115 =>
M.aidx 8 (1 : Int) fun j116 =>
M.load h111 (Addr.add (⟨b9, 0, none⟩ : Addr) (j116 * 1)) fun v117 =>
M.int .u32 v117 fun n118 =>
M.val (IntKind.wrap .u32 (n118 + d110.2.1)) fun z119 =>
M.aidx 8 (2 : Int) fun j120 =>
M.load h111 (Addr.add (⟨b9, 0, none⟩ : Addr) (j120 * 1)) fun v121 =>
M.int .u32 v121 fun n122 =>
M.val (IntKind.wrap .u32 (n122 + d110.2.2.1)) fun z123 =>
M.aidx 8 (3 : Int) fun j124 =>
M.load h111 (Addr.add (⟨b9, 0, none⟩ : Addr) (j124 * 1)) fun v125 =>
M.int .u32 v125 fun n126 =>
M.val (IntKind.wrap .u32 (n126 + d110.2.2.2.1)) fun z127 =>
M.aidx 8 (4 : Int) fun j128 =>
M.load h111 (Addr.add (⟨b9, 0, none⟩ : Addr) (j128 * 1)) fun v129 =>
M.int .u32 v129 fun n130 =>
M.val (IntKind.wrap .u32 (n130 + d110.2.2.2.2.1)) fun z131 =>
M.aidx 8 (5 : Int) fun j132 =>
M.load h111 (Addr.add (⟨b9, 0, none⟩ : Addr) (j132 * 1)) fun v133 =>
M.int .u32 v133 fun n134 =>
M.val (IntKind.wrap .u32 (n134 + d110.2.2.2.2.2.1)) fun z135 =>
M.aidx 8 (6 : Int) fun j136 =>
M.load h111 (Addr.add (⟨b9, 0, none⟩ : Addr) (j136 * 1)) fun v137 =>
M.int .u32 v137 fun n138 =>
M.val (IntKind.wrap .u32 (n138 + d110.2.2.2.2.2.2.1)) fun z139 =>
M.aidx 8 (7 : Int) fun j140 =>
M.load h111 (Addr.add (⟨b9, 0, none⟩ : Addr) (j140 * 1)) fun v141 =>
M.int .u32 v141 fun n142 =>
M.val (IntKind.wrap .u32 (n142 + d110.2.2.2.2.2.2.2)) fun z143 =>
M.req (Array.size (#[(.int .u32 z115), (.int .u32 z119), (.int .u32 z123), (.int .u32 z127), (.int .u32 z131), (.int .u32 z135), (.int .u32 z139), (.int .u32 z143)] : Array Value) = 8) (M.puts h111 (⟨b11, 0, none⟩ : Addr) [(.int .u32 z115), (.int .u32 z119), (.int .u32 z123), (.int .u32 z127), (.int .u32 z131), (.int .u32 z135), (.int .u32 z139), (.int .u32 z143)] fun h144 =>
M.load h144 ((⟨b11, 0, none⟩ : Addr).add 0) fun v145 =>
M.int .u32 v145 fun n146 =>
M.load h144 ((⟨b11, 0, none⟩ : Addr).add 1) fun v147 =>
M.int .u32 v147 fun n148 =>
M.load h144 ((⟨b11, 0, none⟩ : Addr).add 2) fun v149 =>
M.int .u32 v149 fun n150 =>
M.load h144 ((⟨b11, 0, none⟩ : Addr).add 3) fun v151 =>
M.int .u32 v151 fun n152 =>
M.load h144 ((⟨b11, 0, none⟩ : Addr).add 4) fun v153 =>
M.int .u32 v153 fun n154 =>
M.load h144 ((⟨b11, 0, none⟩ : Addr).add 5) fun v155 =>
M.int .u32 v155 fun n156 =>
M.load h144 ((⟨b11, 0, none⟩ : Addr).add 6) fun v157 =>
M.int .u32 v157 fun n158 =>
M.load h144 ((⟨b11, 0, none⟩ : Addr).add 7) fun v159 =>
M.int .u32 v159 fun n160 =>
Q n146 n148 n150 n152 n154 n156 n158 n160 h144)) fun J83 =>
M.loop (α := Int × Int × Int × Int × Int × Int × Int × Int × Int) (fun J84 d85 h86 =>
(bif (decide (d85.2.2.2.2.2.2.2.2 < (64 : Int))) then
ref05_turned' d85.2.2.2.2.1 (6 : Int) (11 : Int) (25 : Int) h86 fun n87 h88 =>
ref05_turned' d85.1 (2 : Int) (13 : Int) (22 : Int) h88 fun n89 h90 =>
ref05_pick' d85.2.2.2.2.1 d85.2.2.2.2.2.1 d85.2.2.2.2.2.2.1 h90 fun n91 h92 =>
ref05_most' d85.1 d85.2.1 d85.2.2.1 h92 fun n93 h94 =>
M.val (IntKind.wrap .u32 (d85.2.2.2.2.2.2.2.1 + n87)) fun z95 =>
M.val (IntKind.wrap .u32 (z95 + n91)) fun z96 =>
M.aidx 64 d85.2.2.2.2.2.2.2.2 fun j97 =>
M.load h94 (Addr.add (⟨3, 0, none⟩ : Addr) (j97 * 1)) fun v98 =>
M.int .u32 v98 fun n99 =>
M.val (IntKind.wrap .u32 (z96 + n99)) fun z100 =>
M.idx d57.1 d57.2.1 d85.2.2.2.2.2.2.2.2 fun a101 j102 =>
M.load h94 (Addr.add a101 (j102 * 1)) fun v103 =>
M.int .u32 v103 fun n104 =>
M.val (IntKind.wrap .u32 (z100 + n104)) fun z105 =>
M.val (IntKind.wrap .u32 (n89 + n93)) fun z106 =>
M.val (IntKind.wrap .u32 (d85.2.2.2.1 + z105)) fun z107 =>
M.val (IntKind.wrap .u32 (z105 + z106)) fun z108 =>
M.val (IntKind.wrap .i64 (d85.2.2.2.2.2.2.2.2 + (1 : Int))) fun z109 =>
J84 (z108, d85.1, d85.2.1, d85.2.2.1, z107, d85.2.2.2.2.1, d85.2.2.2.2.2.1, d85.2.2.2.2.2.2.1, z109) h94
else
J83 (d85.1, d85.2.1, d85.2.2.1, d85.2.2.2.1, d85.2.2.2.2.1, d85.2.2.2.2.2.1, d85.2.2.2.2.2.2.1, d85.2.2.2.2.2.2.2.1) h86)) (n61, n64, n67, n70, n73, n76, n79, n82, (0 : Int)) h58) fun J18 =>
M.loop (α := (Option Addr × Nat × Nat) × Int) (fun J19 d20 h21 =>
(bif (decide (d20.2 < (64 : Int))) then
M.val (IntKind.wrap .i64 (d20.2 - (15 : Int))) fun z22 =>
M.idx d20.1.1 d20.1.2.1 z22 fun a23 j24 =>
M.load h21 (Addr.add a23 (j24 * 1)) fun v25 =>
M.int .u32 v25 fun n26 =>
ref05_moved' n26 (7 : Int) (18 : Int) (8 : Int) h21 fun n27 h28 =>
M.val (IntKind.wrap .i64 (d20.2 - (2 : Int))) fun z29 =>
M.idx d20.1.1 d20.1.2.1 z29 fun a30 j31 =>
M.load h28 (Addr.add a30 (j31 * 1)) fun v32 =>
M.int .u32 v32 fun n33 =>
ref05_moved' n33 (17 : Int) (19 : Int) (1024 : Int) h28 fun n34 h35 =>
M.val (IntKind.wrap .i64 (d20.2 - (7 : Int))) fun z36 =>
M.idx d20.1.1 d20.1.2.1 z36 fun a37 j38 =>
M.load h35 (Addr.add a37 (j38 * 1)) fun v39 =>
M.int .u32 v39 fun n40 =>
M.val (IntKind.wrap .u32 (n34 + n40)) fun z41 =>
M.val (IntKind.wrap .u32 (z41 + n27)) fun z42 =>
M.val (IntKind.wrap .i64 (d20.2 - (16 : Int))) fun z43 =>
M.idx d20.1.1 d20.1.2.1 z43 fun a44 j45 =>
M.load h35 (Addr.add a44 (j45 * 1)) fun v46 =>
M.int .u32 v46 fun n47 =>
M.val (IntKind.wrap .u32 (z42 + n47)) fun z48 =>
M.new h35 (.cells (#[(.int .u32 z48)] : Array Value) 178) fun b49 h50 =>
M.cellsOf h50 (some (⟨b49, 0, none⟩ : Addr)) (1 * 1) fun cs55 =>
M.app h50 178 1 4 [(.int .u32 (0 : Int))] d20.1.1 d20.1.2.1 d20.1.2.2 1 cs55 fun a51 l52 c53 h54 =>
M.val (IntKind.wrap .i64 (d20.2 + (1 : Int))) fun z56 =>
J19 ((a51, l52, c53), z56) h54
else
J18 (d20.1.1, d20.1.2.1, d20.1.2.2) h21)) ((a13, l14, c15), (16 : Int)) h17
def ref05_block (x_h_0 : Int) (x_h_1 : Int) (x_h_2 : Int) (x_h_3 : Int) (x_h_4 : Int) (x_h_5 : Int) (x_h_6 : Int) (x_h_7 : Int) (x_s : ByteArray) (h : H) (Q : Int → Int → Int → Int → Int → Int → Int → Int → H → Prop) : Prop := ref05_block.g ref01_Words ref05_moved ref05_turned ref05_pick ref05_most x_h_0 x_h_1 x_h_2 x_h_3 x_h_4 x_h_5 x_h_6 x_h_7 x_s h Q
def ref05_block.L (F : Int → Int → Int → Int → Int → Int → Int → Int → ByteArray → H → (Int → Int → Int → Int → Int → Int → Int → Int → H → Prop) → Prop) : List Value → (Value → H → Prop) → H → Prop
  | [.agg ⟨[.int .u32 x_h_0, .int .u32 x_h_1, .int .u32 x_h_2, .int .u32 x_h_3, .int .u32 x_h_4, .int .u32 x_h_5, .int .u32 x_h_6, .int .u32 x_h_7]⟩, .string x_s] => fun Q h => F x_h_0 x_h_1 x_h_2 x_h_3 x_h_4 x_h_5 x_h_6 x_h_7 x_s h fun n170 n171 n172 n173 n174 n175 n176 n177 h178 => Q (.agg (#[(.int .u32 n170), (.int .u32 n171), (.int .u32 n172), (.int .u32 n173), (.int .u32 n174), (.int .u32 n175), (.int .u32 n176), (.int .u32 n177)] : Array Value)) h178
  | _ => fun _ _ => False
def ref05_block.W : W := fun args => ref05_block.L ref05_block args.toList
def ref05_block.ann : Ann := ⟨lookN [], lookN [(7, [(5, .slc)]), (4095, [(10, .int .u32), (11, .int .u32), (12, .int .u32), (13, .int .u32), (14, .int .u32), (15, .int .u32), (16, .int .u32), (17, .int .u32)])], lookN [(58, [(5, .slc), (7, .int .i64)]), (32762, [(10, .int .u32), (11, .int .u32), (12, .int .u32), (13, .int .u32), (14, .int .u32), (15, .int .u32), (16, .int .u32), (17, .int .u32), (18, .int .i64)])]⟩
theorem ref05_block.geq (ref01_Words' : ByteArray → Bool → H → (Option Addr → Nat → Nat → Int → H → Prop) → Prop) (ref05_moved' : Int → Int → Int → Int → H → (Int → H → Prop) → Prop) (ref05_turned' : Int → Int → Int → Int → H → (Int → H → Prop) → Prop) (ref05_pick' : Int → Int → Int → H → (Int → H → Prop) → Prop) (ref05_most' : Int → Int → Int → H → (Int → H → Prop) → Prop) (x_h_0 : Int) (x_h_1 : Int) (x_h_2 : Int) (x_h_3 : Int) (x_h_4 : Int) (x_h_5 : Int) (x_h_6 : Int) (x_h_7 : Int) (x_s : ByteArray) (Q : Value → H → Prop) (h : H) : evF Tryz.prog (envOf [(217, fun args => ref01_Words.L ref01_Words' args.toList), (218, fun args => ref05_moved.L ref05_moved' args.toList), (219, fun args => ref05_turned.L ref05_turned' args.toList), (220, fun args => ref05_pick.L ref05_pick' args.toList), (221, fun args => ref05_most.L ref05_most' args.toList)]) Tryz.f187 ref05_block.ann [(.agg (#[(.int .u32 x_h_0), (.int .u32 x_h_1), (.int .u32 x_h_2), (.int .u32 x_h_3), (.int .u32 x_h_4), (.int .u32 x_h_5), (.int .u32 x_h_6), (.int .u32 x_h_7)] : Array Value)), (.string x_s)] Q h = ref05_block.g ref01_Words' ref05_moved' ref05_turned' ref05_pick' ref05_most' x_h_0 x_h_1 x_h_2 x_h_3 x_h_4 x_h_5 x_h_6 x_h_7 x_s h fun n170 n171 n172 n173 n174 n175 n176 n177 h178 => Q (.agg (#[(.int .u32 n170), (.int .u32 n171), (.int .u32 n172), (.int .u32 n173), (.int .u32 n174), (.int .u32 n175), (.int .u32 n176), (.int .u32 n177)] : Array Value)) h178 := by kernel_rfl
theorem ref05_block.good : FnGood Tryz.prog 187 ref05_block.W := by
  refine FnGood.of (ann := ref05_block.ann) (env := envOf [(217, fun args => ref01_Words.L ref01_Words args.toList), (218, fun args => ref05_moved.L ref05_moved args.toList), (219, fun args => ref05_turned.L ref05_turned args.toList), (220, fun args => ref05_pick.L ref05_pick args.toList), (221, fun args => ref05_most.L ref05_most args.toList)]) mixed (EnvGood.cons ref01_Words.good (EnvGood.cons ref05_moved.good (EnvGood.cons ref05_turned.good (EnvGood.cons ref05_pick.good (EnvGood.cons ref05_most.good EnvGood.nil))))) Tryz.func187 Tryz.call187 fun args => ?_
  show ref05_block.L ref05_block args.toList = _ ∨ ∀ Q m, evF Tryz.prog (envOf [(217, fun args => ref01_Words.L ref01_Words args.toList), (218, fun args => ref05_moved.L ref05_moved args.toList), (219, fun args => ref05_turned.L ref05_turned args.toList), (220, fun args => ref05_pick.L ref05_pick args.toList), (221, fun args => ref05_most.L ref05_most args.toList)]) Tryz.f187 ref05_block.ann args.toList Q m = ref05_block.L ref05_block args.toList Q m
  generalize args.toList = l
  unfold ref05_block.L
  split
  · exact .inr fun Q m => ref05_block.geq ref01_Words ref05_moved ref05_turned ref05_pick ref05_most _ _ _ _ _ _ _ _ _ Q m
  · exact .inl rfl
def ref06_quarter.L (F : Array Value → Int → Int → Int → Int → H → (Array Value → H → Prop) → Prop) : List Value → (Value → H → Prop) → H → Prop
  | [.agg x_s, .int .i64 x_a, .int .i64 x_b, .int .i64 x_c, .int .i64 x_d] => fun Q h => F x_s x_a x_b x_c x_d h fun cs62 h63 => Q (.agg cs62) h63
  | _ => fun _ _ => False
def slices_IndexFuncdisk_write_disk_write_disk_Disk_Tamper_1.g (disk_Disk_Tamper_1' : Int → ByteArray → Addr → H → (Bool → H → Prop) → Prop) (x_s : Option Addr) (x_sL : Nat) (x_sC : Nat) (x_f_0 : Addr) (h : H) (Q : Int → H → Prop) : Prop :=
M.loop (α := Int) (fun J2 d3 h4 =>
(bif (decide (d3 < ((x_sL : Nat) : Int))) then
M.idx x_s x_sL d3 fun a5 j6 =>
M.load h4 ((Addr.add a5 (j6 * 2)).add 0) fun v7 =>
M.int .i64 v7 fun n8 =>
M.load h4 ((Addr.add a5 (j6 * 2)).add 1) fun v9 =>
M.str v9 fun s10 =>
disk_Disk_Tamper_1' n8 s10 x_f_0 h4 fun b11 h12 =>
(bif b11 then
Q d3 h12
else
M.val (IntKind.wrap .i64 (d3 + (1 : Int))) fun z13 =>
J2 z13 h12)
else
Q (-1 : Int) h4)) (0 : Int) h
def slices_IndexFuncdisk_write_disk_write_disk_Disk_Tamper_1 (x_s : Option Addr) (x_sL : Nat) (x_sC : Nat) (x_f_0 : Addr) (h : H) (Q : Int → H → Prop) : Prop := slices_IndexFuncdisk_write_disk_write_disk_Disk_Tamper_1.g disk_Disk_Tamper_1 x_s x_sL x_sC x_f_0 h Q
def slices_IndexFuncdisk_write_disk_write_disk_Disk_Tamper_1.L (F : Option Addr → Nat → Nat → Addr → H → (Int → H → Prop) → Prop) : List Value → (Value → H → Prop) → H → Prop
  | [.slice x_s x_sL x_sC, .func (.func 65) ⟨[]⟩ ⟨[.pointer (some x_f_0)]⟩] => fun Q h => F x_s x_sL x_sC x_f_0 h fun n16 h17 => Q (.int .i64 n16) h17
  | _ => fun _ _ => False
def slices_IndexFuncdisk_write_disk_write_disk_Disk_Tamper_1.W : W := fun args => slices_IndexFuncdisk_write_disk_write_disk_Disk_Tamper_1.L slices_IndexFuncdisk_write_disk_write_disk_Disk_Tamper_1 args.toList
def slices_IndexFuncdisk_write_disk_write_disk_Disk_Tamper_1.ann : Ann := ⟨lookN [], lookN [], lookN [(26, [(8, .int .i64)])]⟩
theorem slices_IndexFuncdisk_write_disk_write_disk_Disk_Tamper_1.geq (disk_Disk_Tamper_1' : Int → ByteArray → Addr → H → (Bool → H → Prop) → Prop) (x_s : Option Addr) (x_sL : Nat) (x_sC : Nat) (x_f_0 : Addr) (Q : Value → H → Prop) (h : H) : evF Tryz.prog (envOf [(65, fun args => disk_Disk_Tamper_1.L disk_Disk_Tamper_1' args.toList)]) Tryz.f120 slices_IndexFuncdisk_write_disk_write_disk_Disk_Tamper_1.ann [(.slice x_s x_sL x_sC), (.func (.func 65) #[] #[(.pointer (some x_f_0))])] Q h = slices_IndexFuncdisk_write_disk_write_disk_Disk_Tamper_1.g disk_Disk_Tamper_1' x_s x_sL x_sC x_f_0 h fun n16 h17 => Q (.int .i64 n16) h17 := by kernel_rfl
theorem slices_IndexFuncdisk_write_disk_write_disk_Disk_Tamper_1.good : FnGood Tryz.prog 120 slices_IndexFuncdisk_write_disk_write_disk_Disk_Tamper_1.W := by
  refine FnGood.of (ann := slices_IndexFuncdisk_write_disk_write_disk_Disk_Tamper_1.ann) (env := envOf [(65, fun args => disk_Disk_Tamper_1.L disk_Disk_Tamper_1 args.toList)]) mixed (EnvGood.cons disk_Disk_Tamper_1.good EnvGood.nil) Tryz.func120 Tryz.call120 fun args => ?_
  show slices_IndexFuncdisk_write_disk_write_disk_Disk_Tamper_1.L slices_IndexFuncdisk_write_disk_write_disk_Disk_Tamper_1 args.toList = _ ∨ ∀ Q m, evF Tryz.prog (envOf [(65, fun args => disk_Disk_Tamper_1.L disk_Disk_Tamper_1 args.toList)]) Tryz.f120 slices_IndexFuncdisk_write_disk_write_disk_Disk_Tamper_1.ann args.toList Q m = slices_IndexFuncdisk_write_disk_write_disk_Disk_Tamper_1.L slices_IndexFuncdisk_write_disk_write_disk_Disk_Tamper_1 args.toList Q m
  generalize args.toList = l
  unfold slices_IndexFuncdisk_write_disk_write_disk_Disk_Tamper_1.L
  split
  · exact .inr fun Q m => slices_IndexFuncdisk_write_disk_write_disk_Disk_Tamper_1.geq disk_Disk_Tamper_1 _ _ _ _ Q m
  · exact .inl rfl
def chacha_Crypt.g (chacha_shape' : ByteArray → ByteArray → H → (Bool → H → Prop) → Prop) (chacha_stream' : ByteArray → ByteArray → Int → H → (ByteArray → H → Prop) → Prop) (words_Xor' : ByteArray → ByteArray → H → (ByteArray → H → Prop) → Prop) (x_key : ByteArray) (x_nonce : ByteArray) (x_counter : Int) (x_s : ByteArray) (h : H) (Q : ByteArray → Int → H → Prop) : Prop :=
chacha_shape' x_key x_nonce h fun b3 h4 =>
(bif (!b3) then
Q (ByteArray.empty) (7 : Int) h4
else
(bif (decide ((ByteArray.size x_s : Int) > (65536 : Int))) then
Q (ByteArray.empty) (5 : Int) h4
else
M.mk h4 5 [(.int .u8 (0 : Int))] 1 (0 : Int) (ByteArray.size x_s : Int) fun a5 l6 c7 h8 =>
M.join (α := (Option Addr × Nat × Nat)) (fun d24 h25 =>
M.b2s h25 d24.1 d24.2.1 fun s26 =>
Q s26 (0 : Int) h25) fun J9 =>
M.loop (α := Int × ByteArray × (Option Addr × Nat × Nat)) (fun J10 d11 h12 =>
(bif (decide ((ByteArray.size d11.2.1 : Int) > (0 : Int))) then
M.ssub d11.2.1 0 (mn (ByteArray.size d11.2.1 : Int) (64 : Int)) fun s13 =>
chacha_stream' x_key x_nonce d11.1 h12 fun s14 h15 =>
words_Xor' s13 s14 h15 fun s16 h17 =>
M.app h17 5 1 1 [(.int .u8 (0 : Int))] d11.2.2.1 d11.2.2.2.1 d11.2.2.2.2 (ByteArray.size s16) (bytesOf s16) fun a18 l19 c20 h21 =>
M.ssub d11.2.1 (mn (ByteArray.size d11.2.1 : Int) (64 : Int)) (ByteArray.size d11.2.1 : Int) fun s22 =>
M.val (IntKind.wrap .u32 (d11.1 + (1 : Int))) fun z23 =>
J10 (z23, s22, (a18, l19, c20)) h21
else
J9 (d11.2.2.1, d11.2.2.2.1, d11.2.2.2.2) h12)) (x_counter, x_s, (a5, l6, c7)) h8))
def chacha_Crypt (x_key : ByteArray) (x_nonce : ByteArray) (x_counter : Int) (x_s : ByteArray) (h : H) (Q : ByteArray → Int → H → Prop) : Prop := chacha_Crypt.g chacha_shape chacha_stream words_Xor x_key x_nonce x_counter x_s h Q
def chacha_Crypt.L (F : ByteArray → ByteArray → Int → ByteArray → H → (ByteArray → Int → H → Prop) → Prop) : List Value → (Value → H → Prop) → H → Prop
  | [.string x_key, .string x_nonce, .int .u32 x_counter, .string x_s] => fun Q h => F x_key x_nonce x_counter x_s h fun s30 n31 h32 => Q (.tuple #[(.string s30), (.int .i64 n31)]) h32
  | _ => fun _ _ => False
def chacha_Crypt.W : W := fun args => chacha_Crypt.L chacha_Crypt args.toList
def chacha_Crypt.ann : Ann := ⟨lookN [], lookN [(15, [(10, .slc)])], lookN [(60, [(2, .int .u32), (3, .str), (10, .slc)])]⟩
theorem chacha_Crypt.geq (chacha_shape' : ByteArray → ByteArray → H → (Bool → H → Prop) → Prop) (chacha_stream' : ByteArray → ByteArray → Int → H → (ByteArray → H → Prop) → Prop) (words_Xor' : ByteArray → ByteArray → H → (ByteArray → H → Prop) → Prop) (x_key : ByteArray) (x_nonce : ByteArray) (x_counter : Int) (x_s : ByteArray) (Q : Value → H → Prop) (h : H) : evF Tryz.prog (envOf [(148, fun args => chacha_shape.L chacha_shape' args.toList), (149, fun args => chacha_stream.L chacha_stream' args.toList), (134, fun args => words_Xor.L words_Xor' args.toList)]) Tryz.f95 chacha_Crypt.ann [(.string x_key), (.string x_nonce), (.int .u32 x_counter), (.string x_s)] Q h = chacha_Crypt.g chacha_shape' chacha_stream' words_Xor' x_key x_nonce x_counter x_s h fun s30 n31 h32 => Q (.tuple #[(.string s30), (.int .i64 n31)]) h32 := by kernel_rfl
theorem chacha_Crypt.good : FnGood Tryz.prog 95 chacha_Crypt.W := by
  refine FnGood.of (ann := chacha_Crypt.ann) (env := envOf [(148, fun args => chacha_shape.L chacha_shape args.toList), (149, fun args => chacha_stream.L chacha_stream args.toList), (134, fun args => words_Xor.L words_Xor args.toList)]) mixed (EnvGood.cons chacha_shape.good (EnvGood.cons chacha_stream.good (EnvGood.cons words_Xor.good EnvGood.nil))) Tryz.func95 Tryz.call95 fun args => ?_
  show chacha_Crypt.L chacha_Crypt args.toList = _ ∨ ∀ Q m, evF Tryz.prog (envOf [(148, fun args => chacha_shape.L chacha_shape args.toList), (149, fun args => chacha_stream.L chacha_stream args.toList), (134, fun args => words_Xor.L words_Xor args.toList)]) Tryz.f95 chacha_Crypt.ann args.toList Q m = chacha_Crypt.L chacha_Crypt args.toList Q m
  generalize args.toList = l
  unfold chacha_Crypt.L
  split
  · exact .inr fun Q m => chacha_Crypt.geq chacha_shape chacha_stream words_Xor _ _ _ _ Q m
  · exact .inl rfl
def aead_tag.g (chacha_Block' : ByteArray → ByteArray → Int → H → (ByteArray → Int → H → Prop) → Prop) (aead_pad' : ByteArray → H → (ByteArray → H → Prop) → Prop) (aead_lengths' : Option Addr → Nat → Nat → H → (ByteArray → H → Prop) → Prop) (poly_Sum' : ByteArray → ByteArray → H → (ByteArray → Int → H → Prop) → Prop) (x_key : ByteArray) (x_nonce : ByteArray) (x_with : ByteArray) (x_sealed : ByteArray) (h : H) (Q : ByteArray → H → Prop) : Prop :=
chacha_Block' x_key x_nonce (0 : Int) h fun s2 n3 h4 =>
M.join (α := ByteArray) (fun d44 h45 =>
Q d44 h45) fun J5 =>
M.ssub s2 0 (32 : Int) fun s6 =>
(aead_pad' x_with h4 fun s7 h8 =>
(aead_pad' x_sealed h8 fun s9 h10 =>
M.cat s7 s9 fun s11 =>
M.new h10 (.cells (#[(.string x_with), (.string x_sealed)] : Array Value) 9) fun b12 h13 =>
aead_lengths' (some (⟨b12, 0, none⟩ : Addr)) 2 2 h13 fun s14 h15 =>
M.cat s11 s14 fun s16 =>
poly_Sum' s6 s16 h15 fun s17 n18 h19 =>
J5 s17 h19) ∧
(M.new h8 (.cells (#[(.string x_with), (.string x_sealed)] : Array Value) 9) fun b20 h21 =>
aead_pad' x_sealed h21 fun s22 h23 =>
M.cat s7 s22 fun s24 =>
aead_lengths' (some (⟨b20, 0, none⟩ : Addr)) 2 2 h23 fun s25 h26 =>
M.cat s24 s25 fun s27 =>
poly_Sum' s6 s27 h26 fun s28 n29 h30 =>
J5 s28 h30)) ∧
(M.new h4 (.cells (#[(.string x_with), (.string x_sealed)] : Array Value) 9) fun b31 h32 =>
aead_pad' x_with h32 fun s33 h34 =>
aead_pad' x_sealed h34 fun s35 h36 =>
M.cat s33 s35 fun s37 =>
aead_lengths' (some (⟨b31, 0, none⟩ : Addr)) 2 2 h36 fun s38 h39 =>
M.cat s37 s38 fun s40 =>
poly_Sum' s6 s40 h39 fun s41 n42 h43 =>
J5 s41 h43)
def aead_tag (x_key : ByteArray) (x_nonce : ByteArray) (x_with : ByteArray) (x_sealed : ByteArray) (h : H) (Q : ByteArray → H → Prop) : Prop := aead_tag.g chacha_Block aead_pad aead_lengths poly_Sum x_key x_nonce x_with x_sealed h Q
def aead_tag.L (F : ByteArray → ByteArray → ByteArray → ByteArray → H → (ByteArray → H → Prop) → Prop) : List Value → (Value → H → Prop) → H → Prop
  | [.string x_key, .string x_nonce, .string x_with, .string x_sealed] => fun Q h => F x_key x_nonce x_with x_sealed h fun s48 h49 => Q (.string s48) h49
  | _ => fun _ _ => False
def aead_tag.W : W := fun args => aead_tag.L aead_tag args.toList
def aead_tag.ann : Ann := ⟨lookN [(2, [(11, .str)])], lookN [], lookN []⟩
theorem aead_tag.geq (chacha_Block' : ByteArray → ByteArray → Int → H → (ByteArray → Int → H → Prop) → Prop) (aead_pad' : ByteArray → H → (ByteArray → H → Prop) → Prop) (aead_lengths' : Option Addr → Nat → Nat → H → (ByteArray → H → Prop) → Prop) (poly_Sum' : ByteArray → ByteArray → H → (ByteArray → Int → H → Prop) → Prop) (x_key : ByteArray) (x_nonce : ByteArray) (x_with : ByteArray) (x_sealed : ByteArray) (Q : Value → H → Prop) (h : H) : evF Tryz.prog (envOf [(150, fun args => chacha_Block.L chacha_Block' args.toList), (152, fun args => aead_pad.L aead_pad' args.toList), (153, fun args => aead_lengths.L aead_lengths' args.toList), (151, fun args => poly_Sum.L poly_Sum' args.toList)]) Tryz.f96 aead_tag.ann [(.string x_key), (.string x_nonce), (.string x_with), (.string x_sealed)] Q h = aead_tag.g chacha_Block' aead_pad' aead_lengths' poly_Sum' x_key x_nonce x_with x_sealed h fun s48 h49 => Q (.string s48) h49 := by kernel_rfl
theorem aead_tag.good : FnGood Tryz.prog 96 aead_tag.W := by
  refine FnGood.of (ann := aead_tag.ann) (env := envOf [(150, fun args => chacha_Block.L chacha_Block args.toList), (152, fun args => aead_pad.L aead_pad args.toList), (153, fun args => aead_lengths.L aead_lengths args.toList), (151, fun args => poly_Sum.L poly_Sum args.toList)]) mixed (EnvGood.cons chacha_Block.good (EnvGood.cons aead_pad.good (EnvGood.cons aead_lengths.good (EnvGood.cons poly_Sum.good EnvGood.nil)))) Tryz.func96 Tryz.call96 fun args => ?_
  show aead_tag.L aead_tag args.toList = _ ∨ ∀ Q m, evF Tryz.prog (envOf [(150, fun args => chacha_Block.L chacha_Block args.toList), (152, fun args => aead_pad.L aead_pad args.toList), (153, fun args => aead_lengths.L aead_lengths args.toList), (151, fun args => poly_Sum.L poly_Sum args.toList)]) Tryz.f96 aead_tag.ann args.toList Q m = aead_tag.L aead_tag args.toList Q m
  generalize args.toList = l
  unfold aead_tag.L
  split
  · exact .inr fun Q m => aead_tag.geq chacha_Block aead_pad aead_lengths poly_Sum _ _ _ _ Q m
  · exact .inl rfl
def sha_Hash_take.g (sha_schedule' : ByteArray → H → (Array Value → H → Prop) → Prop) (words_Right' : Int → Int → H → (Int → H → Prop) → Prop) (x_h : Option Addr) (x_s : ByteArray) (h : H) (Q : H → Prop) : Prop :=
M.join (α := Addr × Addr) (fun d61 h62 =>
M.join (α := Unit) (fun d149 h150 =>
M.load h150 (d61.2.add 0) fun v151 =>
M.int .u32 v151 fun n152 =>
M.load h150 (d61.2.add 1) fun v153 =>
M.int .u32 v153 fun n154 =>
M.load h150 (d61.2.add 2) fun v155 =>
M.int .u32 v155 fun n156 =>
M.load h150 (d61.2.add 3) fun v157 =>
M.int .u32 v157 fun n158 =>
M.load h150 (d61.2.add 4) fun v159 =>
M.int .u32 v159 fun n160 =>
M.load h150 (d61.2.add 5) fun v161 =>
M.int .u32 v161 fun n162 =>
M.load h150 (d61.2.add 6) fun v163 =>
M.int .u32 v163 fun n164 =>
M.load h150 (d61.2.add 7) fun v165 =>
M.int .u32 v165 fun n166 =>
M.loop (α := Int) (fun J167 d168 h169 =>
(bif (decide (d168 < (8 : Int))) then
M.aidx 8 d168 fun j170 =>
M.at (#[(.int .u32 n152), (.int .u32 n154), (.int .u32 n156), (.int .u32 n158), (.int .u32 n160), (.int .u32 n162), (.int .u32 n164), (.int .u32 n166)] : Array Value) (j170 * 1) fun v171 =>
M.int .u32 v171 fun n172 =>
M.nn x_h fun a173 =>
M.aidx 8 d168 fun j174 =>
M.load h169 (Addr.add (Addr.add a173 0) (j174 * 1)) fun v175 =>
M.int .u32 v175 fun n176 =>
M.val (IntKind.wrap .u32 (n176 + n172)) fun z177 =>
M.nn x_h fun a178 =>
M.aidx 8 d168 fun j179 =>
M.put h169 (Addr.add (Addr.add a178 0) (j179 * 1)) (.int .u32 z177) fun h180 =>
M.val (IntKind.wrap .i64 (d168 + (1 : Int))) fun z181 =>
J167 z181 h180
else
Q  h169)) (0 : Int) h150) fun J63 =>
M.row h62 (⟨1, 0, none⟩ : Addr) 64 fun cs64 =>
M.loop (α := Int) (fun J65 d66 h67 =>
(bif (decide (d66 < (64 : Int))) then
M.aidx 64 d66 fun j68 =>
M.at (List.toArray cs64) (j68 * 1) fun v69 =>
M.int .u32 v69 fun n70 =>
M.aidx 8 (0 : Int) fun j71 =>
M.load h67 (Addr.add d61.2 (j71 * 1)) fun v72 =>
M.int .u32 v72 fun n73 =>
M.aidx 8 (4 : Int) fun j74 =>
M.load h67 (Addr.add d61.2 (j74 * 1)) fun v75 =>
M.int .u32 v75 fun n76 =>
words_Right' n76 (6 : Int) h67 fun n77 h78 =>
words_Right' n76 (11 : Int) h78 fun n79 h80 =>
M.val (bXor .u32 n77 n79) fun z81 =>
words_Right' n76 (25 : Int) h80 fun n82 h83 =>
M.val (bXor .u32 z81 n82) fun z84 =>
words_Right' n73 (2 : Int) h83 fun n85 h86 =>
words_Right' n73 (13 : Int) h86 fun n87 h88 =>
M.val (bXor .u32 n85 n87) fun z89 =>
words_Right' n73 (22 : Int) h88 fun n90 h91 =>
M.val (bXor .u32 z89 n90) fun z92 =>
M.aidx 8 (7 : Int) fun j93 =>
M.load h91 (Addr.add d61.2 (j93 * 1)) fun v94 =>
M.int .u32 v94 fun n95 =>
M.val (IntKind.wrap .u32 (n95 + z84)) fun z96 =>
M.aidx 8 (5 : Int) fun j97 =>
M.load h91 (Addr.add d61.2 (j97 * 1)) fun v98 =>
M.int .u32 v98 fun n99 =>
M.val (bAnd .u32 n76 n99) fun z100 =>
M.val (bNot .u32 n76) fun z101 =>
M.aidx 8 (6 : Int) fun j102 =>
M.load h91 (Addr.add d61.2 (j102 * 1)) fun v103 =>
M.int .u32 v103 fun n104 =>
M.val (bAnd .u32 z101 n104) fun z105 =>
M.val (bXor .u32 z100 z105) fun z106 =>
M.val (IntKind.wrap .u32 (z96 + z106)) fun z107 =>
M.val (IntKind.wrap .u32 (z107 + n70)) fun z108 =>
M.aidx 64 d66 fun j109 =>
M.load h91 (Addr.add d61.1 (j109 * 1)) fun v110 =>
M.int .u32 v110 fun n111 =>
M.val (IntKind.wrap .u32 (z108 + n111)) fun z112 =>
M.aidx 8 (1 : Int) fun j113 =>
M.load h91 (Addr.add d61.2 (j113 * 1)) fun v114 =>
M.int .u32 v114 fun n115 =>
M.val (bAnd .u32 n73 n115) fun z116 =>
M.aidx 8 (2 : Int) fun j117 =>
M.load h91 (Addr.add d61.2 (j117 * 1)) fun v118 =>
M.int .u32 v118 fun n119 =>
M.val (bAnd .u32 n73 n119) fun z120 =>
M.val (bXor .u32 z116 z120) fun z121 =>
M.aidx 8 (1 : Int) fun j122 =>
M.load h91 (Addr.add d61.2 (j122 * 1)) fun v123 =>
M.int .u32 v123 fun n124 =>
M.aidx 8 (2 : Int) fun j125 =>
M.load h91 (Addr.add d61.2 (j125 * 1)) fun v126 =>
M.int .u32 v126 fun n127 =>
M.val (bAnd .u32 n124 n127) fun z128 =>
M.val (bXor .u32 z121 z128) fun z129 =>
M.val (IntKind.wrap .u32 (z92 + z129)) fun z130 =>
M.sub (some d61.2) 8 1 (1 : Int) ((8 : Nat) : Int) fun a131 l132 c133 =>
M.sub (some d61.2) 8 1 0 (7 : Int) fun a134 l135 c136 =>
M.cellsOf h91 a134 ((min l135 l132) * 1) fun cs138 =>
M.copy h91 a131 cs138 fun h137 =>
M.val (IntKind.wrap .u32 (z112 + z130)) fun z139 =>
M.aidx 8 (4 : Int) fun j140 =>
M.load h137 (Addr.add d61.2 (j140 * 1)) fun v141 =>
M.int .u32 v141 fun n142 =>
M.val (IntKind.wrap .u32 (n142 + z112)) fun z143 =>
M.aidx 8 (0 : Int) fun j144 =>
M.put h137 (Addr.add d61.2 (j144 * 1)) (.int .u32 z139) fun h145 =>
M.aidx 8 (4 : Int) fun j146 =>
M.put h145 (Addr.add d61.2 (j146 * 1)) (.int .u32 z143) fun h147 =>
M.val (IntKind.wrap .i64 (d66 + (1 : Int))) fun z148 =>
J65 z148 h147
else
J63 () h67)) (0 : Int) h62) fun J1 =>
M.nn x_h fun a2 =>
M.load h ((Addr.add a2 0).add 0) fun v3 =>
M.int .u32 v3 fun n4 =>
M.load h ((Addr.add a2 0).add 1) fun v5 =>
M.int .u32 v5 fun n6 =>
M.load h ((Addr.add a2 0).add 2) fun v7 =>
M.int .u32 v7 fun n8 =>
M.load h ((Addr.add a2 0).add 3) fun v9 =>
M.int .u32 v9 fun n10 =>
M.load h ((Addr.add a2 0).add 4) fun v11 =>
M.int .u32 v11 fun n12 =>
M.load h ((Addr.add a2 0).add 5) fun v13 =>
M.int .u32 v13 fun n14 =>
M.load h ((Addr.add a2 0).add 6) fun v15 =>
M.int .u32 v15 fun n16 =>
M.load h ((Addr.add a2 0).add 7) fun v17 =>
M.int .u32 v17 fun n18 =>
(sha_schedule' x_s h fun cs19 h20 =>
M.still h (Addr.add a2 0) 8 h20 (
(M.new h20 (.cells (Array.replicate 64 ((.int .u32 (0 : Int)) : Value)) 251) fun b21 h22 =>
M.still h (Addr.add a2 0) 8 h22 (
M.new h22 (.cells (#[(.int .u32 (0 : Int)), (.int .u32 (0 : Int)), (.int .u32 (0 : Int)), (.int .u32 (0 : Int)), (.int .u32 (0 : Int)), (.int .u32 (0 : Int)), (.int .u32 (0 : Int)), (.int .u32 (0 : Int))] : Array Value) 204) fun b23 h24 =>
M.still h (Addr.add a2 0) 8 h24 (
M.req (Array.size cs19 = 64) (M.puts h24 (⟨b21, 0, none⟩ : Addr) (Array.toList cs19) fun h25 =>
M.still h (Addr.add a2 0) 8 h25 (
M.req (Array.size (#[(.int .u32 n4), (.int .u32 n6), (.int .u32 n8), (.int .u32 n10), (.int .u32 n12), (.int .u32 n14), (.int .u32 n16), (.int .u32 n18)] : Array Value) = 8) (M.puts h25 (⟨b23, 0, none⟩ : Addr) [(.int .u32 n4), (.int .u32 n6), (.int .u32 n8), (.int .u32 n10), (.int .u32 n12), (.int .u32 n14), (.int .u32 n16), (.int .u32 n18)] fun h26 =>
J1 ((⟨b21, 0, none⟩ : Addr), (⟨b23, 0, none⟩ : Addr)) h26)))))) ∧
(M.new h20 (.cells (#[(.int .u32 (0 : Int)), (.int .u32 (0 : Int)), (.int .u32 (0 : Int)), (.int .u32 (0 : Int)), (.int .u32 (0 : Int)), (.int .u32 (0 : Int)), (.int .u32 (0 : Int)), (.int .u32 (0 : Int))] : Array Value) 204) fun b27 h28 =>
M.still h (Addr.add a2 0) 8 h28 (
M.new h28 (.cells (Array.replicate 64 ((.int .u32 (0 : Int)) : Value)) 251) fun b29 h30 =>
M.still h (Addr.add a2 0) 8 h30 (
M.req (Array.size cs19 = 64) (M.puts h30 (⟨b29, 0, none⟩ : Addr) (Array.toList cs19) fun h31 =>
M.still h (Addr.add a2 0) 8 h31 (
M.req (Array.size (#[(.int .u32 n4), (.int .u32 n6), (.int .u32 n8), (.int .u32 n10), (.int .u32 n12), (.int .u32 n14), (.int .u32 n16), (.int .u32 n18)] : Array Value) = 8) (M.puts h31 (⟨b27, 0, none⟩ : Addr) [(.int .u32 n4), (.int .u32 n6), (.int .u32 n8), (.int .u32 n10), (.int .u32 n12), (.int .u32 n14), (.int .u32 n16), (.int .u32 n18)] fun h32 =>
J1 ((⟨b29, 0, none⟩ : Addr), (⟨b27, 0, none⟩ : Addr)) h32)))))))) ∧
(M.new h (.cells (Array.replicate 64 ((.int .u32 (0 : Int)) : Value)) 251) fun b33 h34 =>
M.still h (Addr.add a2 0) 8 h34 (
(sha_schedule' x_s h34 fun cs35 h36 =>
M.still h (Addr.add a2 0) 8 h36 (
M.new h36 (.cells (#[(.int .u32 (0 : Int)), (.int .u32 (0 : Int)), (.int .u32 (0 : Int)), (.int .u32 (0 : Int)), (.int .u32 (0 : Int)), (.int .u32 (0 : Int)), (.int .u32 (0 : Int)), (.int .u32 (0 : Int))] : Array Value) 204) fun b37 h38 =>
M.still h (Addr.add a2 0) 8 h38 (
M.req (Array.size cs35 = 64) (M.puts h38 (⟨b33, 0, none⟩ : Addr) (Array.toList cs35) fun h39 =>
M.still h (Addr.add a2 0) 8 h39 (
M.req (Array.size (#[(.int .u32 n4), (.int .u32 n6), (.int .u32 n8), (.int .u32 n10), (.int .u32 n12), (.int .u32 n14), (.int .u32 n16), (.int .u32 n18)] : Array Value) = 8) (M.puts h39 (⟨b37, 0, none⟩ : Addr) [(.int .u32 n4), (.int .u32 n6), (.int .u32 n8), (.int .u32 n10), (.int .u32 n12), (.int .u32 n14), (.int .u32 n16), (.int .u32 n18)] fun h40 =>
J1 ((⟨b33, 0, none⟩ : Addr), (⟨b37, 0, none⟩ : Addr)) h40)))))) ∧
(M.new h34 (.cells (#[(.int .u32 (0 : Int)), (.int .u32 (0 : Int)), (.int .u32 (0 : Int)), (.int .u32 (0 : Int)), (.int .u32 (0 : Int)), (.int .u32 (0 : Int)), (.int .u32 (0 : Int)), (.int .u32 (0 : Int))] : Array Value) 204) fun b41 h42 =>
M.still h (Addr.add a2 0) 8 h42 (
sha_schedule' x_s h42 fun cs43 h44 =>
M.still h (Addr.add a2 0) 8 h44 (
M.req (Array.size cs43 = 64) (M.puts h44 (⟨b33, 0, none⟩ : Addr) (Array.toList cs43) fun h45 =>
M.still h (Addr.add a2 0) 8 h45 (
M.req (Array.size (#[(.int .u32 n4), (.int .u32 n6), (.int .u32 n8), (.int .u32 n10), (.int .u32 n12), (.int .u32 n14), (.int .u32 n16), (.int .u32 n18)] : Array Value) = 8) (M.puts h45 (⟨b41, 0, none⟩ : Addr) [(.int .u32 n4), (.int .u32 n6), (.int .u32 n8), (.int .u32 n10), (.int .u32 n12), (.int .u32 n14), (.int .u32 n16), (.int .u32 n18)] fun h46 =>
J1 ((⟨b33, 0, none⟩ : Addr), (⟨b41, 0, none⟩ : Addr)) h46)))))))) ∧
(M.new h (.cells (#[(.int .u32 (0 : Int)), (.int .u32 (0 : Int)), (.int .u32 (0 : Int)), (.int .u32 (0 : Int)), (.int .u32 (0 : Int)), (.int .u32 (0 : Int)), (.int .u32 (0 : Int)), (.int .u32 (0 : Int))] : Array Value) 204) fun b47 h48 =>
M.still h (Addr.add a2 0) 8 h48 (
(sha_schedule' x_s h48 fun cs49 h50 =>
M.still h (Addr.add a2 0) 8 h50 (
M.new h50 (.cells (Array.replicate 64 ((.int .u32 (0 : Int)) : Value)) 251) fun b51 h52 =>
M.still h (Addr.add a2 0) 8 h52 (
M.req (Array.size cs49 = 64) (M.puts h52 (⟨b51, 0, none⟩ : Addr) (Array.toList cs49) fun h53 =>
M.still h (Addr.add a2 0) 8 h53 (
M.req (Array.size (#[(.int .u32 n4), (.int .u32 n6), (.int .u32 n8), (.int .u32 n10), (.int .u32 n12), (.int .u32 n14), (.int .u32 n16), (.int .u32 n18)] : Array Value) = 8) (M.puts h53 (⟨b47, 0, none⟩ : Addr) [(.int .u32 n4), (.int .u32 n6), (.int .u32 n8), (.int .u32 n10), (.int .u32 n12), (.int .u32 n14), (.int .u32 n16), (.int .u32 n18)] fun h54 =>
J1 ((⟨b51, 0, none⟩ : Addr), (⟨b47, 0, none⟩ : Addr)) h54)))))) ∧
(M.new h48 (.cells (Array.replicate 64 ((.int .u32 (0 : Int)) : Value)) 251) fun b55 h56 =>
M.still h (Addr.add a2 0) 8 h56 (
sha_schedule' x_s h56 fun cs57 h58 =>
M.still h (Addr.add a2 0) 8 h58 (
M.req (Array.size cs57 = 64) (M.puts h58 (⟨b55, 0, none⟩ : Addr) (Array.toList cs57) fun h59 =>
M.still h (Addr.add a2 0) 8 h59 (
M.req (Array.size (#[(.int .u32 n4), (.int .u32 n6), (.int .u32 n8), (.int .u32 n10), (.int .u32 n12), (.int .u32 n14), (.int .u32 n16), (.int .u32 n18)] : Array Value) = 8) (M.puts h59 (⟨b47, 0, none⟩ : Addr) [(.int .u32 n4), (.int .u32 n6), (.int .u32 n8), (.int .u32 n10), (.int .u32 n12), (.int .u32 n14), (.int .u32 n16), (.int .u32 n18)] fun h60 =>
J1 ((⟨b55, 0, none⟩ : Addr), (⟨b47, 0, none⟩ : Addr)) h60))))))))
def sha_Hash_take (x_h : Option Addr) (x_s : ByteArray) (h : H) (Q : H → Prop) : Prop := sha_Hash_take.g sha_schedule words_Right x_h x_s h Q
def sha_Hash_take.L (F : Option Addr → ByteArray → H → (H → Prop) → Prop) : List Value → (Value → H → Prop) → H → Prop
  | [.pointer x_h, .string x_s] => fun Q h => F x_h x_s h fun h183 => Q (.tuple #[]) h183
  | _ => fun _ _ => False
def sha_Hash_take.W : W := fun args => sha_Hash_take.L sha_Hash_take args.toList
def sha_Hash_take.ann : Ann := ⟨lookN [(0, [(4, .adr), (5, .adr)])], lookN [(3, [])], lookN [(26, [(23, .int .i64)]), (30, [(99, .int .i64)])]⟩
theorem sha_Hash_take.geq (sha_schedule' : ByteArray → H → (Array Value → H → Prop) → Prop) (words_Right' : Int → Int → H → (Int → H → Prop) → Prop) (x_h : Option Addr) (x_s : ByteArray) (Q : Value → H → Prop) (h : H) : evF Tryz.prog (envOf [(164, fun args => sha_schedule.L sha_schedule' args.toList), (165, fun args => words_Right.L words_Right' args.toList)]) Tryz.f121 sha_Hash_take.ann [(.pointer x_h), (.string x_s)] Q h = sha_Hash_take.g sha_schedule' words_Right' x_h x_s h fun h183 => Q (.tuple #[]) h183 := by kernel_rfl
theorem sha_Hash_take.good : FnGood Tryz.prog 121 sha_Hash_take.W := by
  refine FnGood.of (ann := sha_Hash_take.ann) (env := envOf [(164, fun args => sha_schedule.L sha_schedule args.toList), (165, fun args => words_Right.L words_Right args.toList)]) mixed (EnvGood.cons sha_schedule.good (EnvGood.cons words_Right.good EnvGood.nil)) Tryz.func121 Tryz.call121 fun args => ?_
  show sha_Hash_take.L sha_Hash_take args.toList = _ ∨ ∀ Q m, evF Tryz.prog (envOf [(164, fun args => sha_schedule.L sha_schedule args.toList), (165, fun args => words_Right.L words_Right args.toList)]) Tryz.f121 sha_Hash_take.ann args.toList Q m = sha_Hash_take.L sha_Hash_take args.toList Q m
  generalize args.toList = l
  unfold sha_Hash_take.L
  split
  · exact .inr fun Q m => sha_Hash_take.geq sha_schedule words_Right _ _ Q m
  · exact .inl rfl
def ref05_Sum.g (ref05_padded' : ByteArray → H → (ByteArray → H → Prop) → Prop) (ref05_block' : Int → Int → Int → Int → Int → Int → Int → Int → ByteArray → H → (Int → Int → Int → Int → Int → Int → Int → Int → H → Prop) → Prop) (ref01_Text' : Option Addr → Nat → Nat → Bool → H → (ByteArray → H → Prop) → Prop) (x_s : ByteArray) (h : H) (Q : ByteArray → H → Prop) : Prop :=
ref05_padded' x_s h fun s2 h3 =>
M.load h3 ((⟨2, 0, none⟩ : Addr).add 0) fun v4 =>
M.int .u32 v4 fun n5 =>
M.load h3 ((⟨2, 0, none⟩ : Addr).add 1) fun v6 =>
M.int .u32 v6 fun n7 =>
M.load h3 ((⟨2, 0, none⟩ : Addr).add 2) fun v8 =>
M.int .u32 v8 fun n9 =>
M.load h3 ((⟨2, 0, none⟩ : Addr).add 3) fun v10 =>
M.int .u32 v10 fun n11 =>
M.load h3 ((⟨2, 0, none⟩ : Addr).add 4) fun v12 =>
M.int .u32 v12 fun n13 =>
M.load h3 ((⟨2, 0, none⟩ : Addr).add 5) fun v14 =>
M.int .u32 v14 fun n15 =>
M.load h3 ((⟨2, 0, none⟩ : Addr).add 6) fun v16 =>
M.int .u32 v16 fun n17 =>
M.load h3 ((⟨2, 0, none⟩ : Addr).add 7) fun v18 =>
M.int .u32 v18 fun n19 =>
M.new h3 (.cells (#[(.int .u32 (0 : Int)), (.int .u32 (0 : Int)), (.int .u32 (0 : Int)), (.int .u32 (0 : Int)), (.int .u32 (0 : Int)), (.int .u32 (0 : Int)), (.int .u32 (0 : Int)), (.int .u32 (0 : Int))] : Array Value) 204) fun b20 h21 =>
M.req (Array.size (#[(.int .u32 n5), (.int .u32 n7), (.int .u32 n9), (.int .u32 n11), (.int .u32 n13), (.int .u32 n15), (.int .u32 n17), (.int .u32 n19)] : Array Value) = 8) (M.puts h21 (⟨b20, 0, none⟩ : Addr) [(.int .u32 n5), (.int .u32 n7), (.int .u32 n9), (.int .u32 n11), (.int .u32 n13), (.int .u32 n15), (.int .u32 n17), (.int .u32 n19)] fun h22 =>
M.join (α := Unit) (fun d56 h57 =>
M.join (α := (Option Addr × Nat × Nat)) (fun d73 h74 =>
ref01_Text' d73.1 d73.2.1 d73.2.2 true h74 fun s75 h76 =>
Q s75 h76) fun J58 =>
M.loop (α := (Option Addr × Nat × Nat) × Int) (fun J59 d60 h61 =>
(bif (decide (d60.2 < (8 : Int))) then
M.aidx 8 d60.2 fun j62 =>
M.load h61 (Addr.add (⟨b20, 0, none⟩ : Addr) (j62 * 1)) fun v63 =>
M.int .u32 v63 fun n64 =>
M.new h61 (.cells (#[(.int .u32 n64)] : Array Value) 178) fun b65 h66 =>
M.cellsOf h66 (some (⟨b65, 0, none⟩ : Addr)) (1 * 1) fun cs71 =>
M.app h66 178 1 4 [(.int .u32 (0 : Int))] d60.1.1 d60.1.2.1 d60.1.2.2 1 cs71 fun a67 l68 c69 h70 =>
M.val (IntKind.wrap .i64 (d60.2 + (1 : Int))) fun z72 =>
J59 ((a67, l68, c69), z72) h70
else
J58 (d60.1.1, d60.1.2.1, d60.1.2.2) h61)) ((none, 0, 0), (0 : Int)) h57) fun J23 =>
M.loop (α := Int) (fun J24 d25 h26 =>
(bif (decide (d25 < (ByteArray.size s2 : Int))) then
M.load h26 ((⟨b20, 0, none⟩ : Addr).add 0) fun v27 =>
M.int .u32 v27 fun n28 =>
M.load h26 ((⟨b20, 0, none⟩ : Addr).add 1) fun v29 =>
M.int .u32 v29 fun n30 =>
M.load h26 ((⟨b20, 0, none⟩ : Addr).add 2) fun v31 =>
M.int .u32 v31 fun n32 =>
M.load h26 ((⟨b20, 0, none⟩ : Addr).add 3) fun v33 =>
M.int .u32 v33 fun n34 =>
M.load h26 ((⟨b20, 0, none⟩ : Addr).add 4) fun v35 =>
M.int .u32 v35 fun n36 =>
M.load h26 ((⟨b20, 0, none⟩ : Addr).add 5) fun v37 =>
M.int .u32 v37 fun n38 =>
M.load h26 ((⟨b20, 0, none⟩ : Addr).add 6) fun v39 =>
M.int .u32 v39 fun n40 =>
M.load h26 ((⟨b20, 0, none⟩ : Addr).add 7) fun v41 =>
M.int .u32 v41 fun n42 =>
M.val (IntKind.wrap .i64 (d25 + (64 : Int))) fun z43 =>
M.ssub s2 d25 z43 fun s44 =>
ref05_block' n28 n30 n32 n34 n36 n38 n40 n42 s44 h26 fun n45 n46 n47 n48 n49 n50 n51 n52 h53 =>
M.req (Array.size (#[(.int .u32 n45), (.int .u32 n46), (.int .u32 n47), (.int .u32 n48), (.int .u32 n49), (.int .u32 n50), (.int .u32 n51), (.int .u32 n52)] : Array Value) = 8) (M.puts h53 (⟨b20, 0, none⟩ : Addr) [(.int .u32 n45), (.int .u32 n46), (.int .u32 n47), (.int .u32 n48), (.int .u32 n49), (.int .u32 n50), (.int .u32 n51), (.int .u32 n52)] fun h54 =>
M.val (IntKind.wrap .i64 (d25 + (64 : Int))) fun z55 =>
J24 z55 h54)
else
J23 () h26)) (0 : Int) h22)
def ref05_Sum (x_s : ByteArray) (h : H) (Q : ByteArray → H → Prop) : Prop := ref05_Sum.g ref05_padded ref05_block ref01_Text x_s h Q
def ref05_Sum.L (F : ByteArray → H → (ByteArray → H → Prop) → Prop) : List Value → (Value → H → Prop) → H → Prop
  | [.string x_s] => fun Q h => F x_s h fun s79 h80 => Q (.string s79) h80
  | _ => fun _ _ => False
def ref05_Sum.W : W := fun args => ref05_Sum.L ref05_Sum args.toList
def ref05_Sum.ann : Ann := ⟨lookN [], lookN [(15, []), (63, [(6, .slc)])], lookN [(122, [(5, .int .i64)]), (506, [(6, .slc), (7, .int .i64)])]⟩
theorem ref05_Sum.geq (ref05_padded' : ByteArray → H → (ByteArray → H → Prop) → Prop) (ref05_block' : Int → Int → Int → Int → Int → Int → Int → Int → ByteArray → H → (Int → Int → Int → Int → Int → Int → Int → Int → H → Prop) → Prop) (ref01_Text' : Option Addr → Nat → Nat → Bool → H → (ByteArray → H → Prop) → Prop) (x_s : ByteArray) (Q : Value → H → Prop) (h : H) : evF Tryz.prog (envOf [(186, fun args => ref05_padded.L ref05_padded' args.toList), (187, fun args => ref05_block.L ref05_block' args.toList), (188, fun args => ref01_Text.L ref01_Text' args.toList)]) Tryz.f143 ref05_Sum.ann [(.string x_s)] Q h = ref05_Sum.g ref05_padded' ref05_block' ref01_Text' x_s h fun s79 h80 => Q (.string s79) h80 := by kernel_rfl
theorem ref05_Sum.good : FnGood Tryz.prog 143 ref05_Sum.W := by
  refine FnGood.of (ann := ref05_Sum.ann) (env := envOf [(186, fun args => ref05_padded.L ref05_padded args.toList), (187, fun args => ref05_block.L ref05_block args.toList), (188, fun args => ref01_Text.L ref01_Text args.toList)]) mixed (EnvGood.cons ref05_padded.good (EnvGood.cons ref05_block.good (EnvGood.cons ref01_Text.good EnvGood.nil))) Tryz.func143 Tryz.call143 fun args => ?_
  show ref05_Sum.L ref05_Sum args.toList = _ ∨ ∀ Q m, evF Tryz.prog (envOf [(186, fun args => ref05_padded.L ref05_padded args.toList), (187, fun args => ref05_block.L ref05_block args.toList), (188, fun args => ref01_Text.L ref01_Text args.toList)]) Tryz.f143 ref05_Sum.ann args.toList Q m = ref05_Sum.L ref05_Sum args.toList Q m
  generalize args.toList = l
  unfold ref05_Sum.L
  split
  · exact .inr fun Q m => ref05_Sum.geq ref05_padded ref05_block ref01_Text _ Q m
  · exact .inl rfl
def slices_DeleteFuncdisk_write_disk_write_disk_Disk_Tamper_1.g (slices_IndexFuncdisk_write_disk_write_disk_Disk_Tamper_1' : Option Addr → Nat → Nat → Addr → H → (Int → H → Prop) → Prop) (disk_Disk_Tamper_1' : Int → ByteArray → Addr → H → (Bool → H → Prop) → Prop) (x_s : Option Addr) (x_sL : Nat) (x_sC : Nat) (x_del_0 : Addr) (h : H) (Q : Option Addr → Nat → Nat → H → Prop) : Prop :=
slices_IndexFuncdisk_write_disk_write_disk_Disk_Tamper_1' x_s x_sL x_sC x_del_0 h fun n4 h5 =>
(bif (n4 == (-1 : Int)) then
Q x_s x_sL x_sC h5
else
M.join (α := Int) (fun d38 h39 =>
M.sub x_s x_sC 2 d38 ((x_sL : Nat) : Int) fun a40 l41 c42 =>
M.copy h39 a40 (zerosOf [(.int .i64 (0 : Int)), (.string (ByteArray.empty))] l41) fun h43 =>
M.sub x_s x_sC 2 0 d38 fun a44 l45 c46 =>
Q a44 l45 c46 h43) fun J6 =>
M.val (IntKind.wrap .i64 (n4 + (1 : Int))) fun z7 =>
M.loop (α := Int × Int) (fun J8 d9 h10 =>
(bif (decide (d9.2 < ((x_sL : Nat) : Int))) then
M.join (α := Int) (fun d35 h36 =>
M.val (IntKind.wrap .i64 (d9.2 + (1 : Int))) fun z37 =>
J8 (d35, z37) h36) fun J11 =>
M.idx x_s x_sL d9.2 fun a12 j13 =>
M.load h10 ((Addr.add a12 (j13 * 2)).add 0) fun v14 =>
M.int .i64 v14 fun n15 =>
M.load h10 ((Addr.add a12 (j13 * 2)).add 1) fun v16 =>
M.str v16 fun s17 =>
M.new h10 (.cells (#[(.int .i64 (0 : Int)), (.string (ByteArray.empty))] : Array Value) 131) fun b18 h19 =>
M.req (Array.size (#[(.int .i64 n15), (.string s17)] : Array Value) = 2) (M.puts h19 (⟨b18, 0, none⟩ : Addr) [(.int .i64 n15), (.string s17)] fun h20 =>
M.load h20 ((⟨b18, 0, none⟩ : Addr).add 0) fun v21 =>
M.int .i64 v21 fun n22 =>
M.load h20 ((⟨b18, 0, none⟩ : Addr).add 1) fun v23 =>
M.str v23 fun s24 =>
disk_Disk_Tamper_1' n22 s24 x_del_0 h20 fun b25 h26 =>
(bif (!b25) then
M.load h26 ((⟨b18, 0, none⟩ : Addr).add 0) fun v27 =>
M.int .i64 v27 fun n28 =>
M.load h26 ((⟨b18, 0, none⟩ : Addr).add 1) fun v29 =>
M.str v29 fun s30 =>
M.idx x_s x_sL d9.1 fun a31 j32 =>
M.req (Array.size (#[(.int .i64 n28), (.string s30)] : Array Value) = 2) (M.puts h26 (Addr.add a31 (j32 * 2)) [(.int .i64 n28), (.string s30)] fun h33 =>
M.val (IntKind.wrap .i64 (d9.1 + (1 : Int))) fun z34 =>
J11 z34 h33)
else
J11 d9.1 h26))
else
J6 d9.1 h10)) (n4, z7) h5)
def slices_DeleteFuncdisk_write_disk_write_disk_Disk_Tamper_1 (x_s : Option Addr) (x_sL : Nat) (x_sC : Nat) (x_del_0 : Addr) (h : H) (Q : Option Addr → Nat → Nat → H → Prop) : Prop := slices_DeleteFuncdisk_write_disk_write_disk_Disk_Tamper_1.g slices_IndexFuncdisk_write_disk_write_disk_Disk_Tamper_1 disk_Disk_Tamper_1 x_s x_sL x_sC x_del_0 h Q
def slices_DeleteFuncdisk_write_disk_write_disk_Disk_Tamper_1.L (F : Option Addr → Nat → Nat → Addr → H → (Option Addr → Nat → Nat → H → Prop) → Prop) : List Value → (Value → H → Prop) → H → Prop
  | [.slice x_s x_sL x_sC, .func (.func 65) ⟨[]⟩ ⟨[.pointer (some x_del_0)]⟩] => fun Q h => F x_s x_sL x_sC x_del_0 h fun a51 l52 c53 h54 => Q (.slice a51 l52 c53) h54
  | _ => fun _ _ => False
def slices_DeleteFuncdisk_write_disk_write_disk_Disk_Tamper_1.W : W := fun args => slices_DeleteFuncdisk_write_disk_write_disk_Disk_Tamper_1.L slices_DeleteFuncdisk_write_disk_write_disk_Disk_Tamper_1 args.toList
def slices_DeleteFuncdisk_write_disk_write_disk_Disk_Tamper_1.ann : Ann := ⟨lookN [], lookN [(15, [(5, .int .i64)]), (489, [(5, .int .i64)])], lookN [(122, [(5, .int .i64), (6, .int .i64)])]⟩
theorem slices_DeleteFuncdisk_write_disk_write_disk_Disk_Tamper_1.geq (slices_IndexFuncdisk_write_disk_write_disk_Disk_Tamper_1' : Option Addr → Nat → Nat → Addr → H → (Int → H → Prop) → Prop) (disk_Disk_Tamper_1' : Int → ByteArray → Addr → H → (Bool → H → Prop) → Prop) (x_s : Option Addr) (x_sL : Nat) (x_sC : Nat) (x_del_0 : Addr) (Q : Value → H → Prop) (h : H) : evF Tryz.prog (envOf [(120, fun args => slices_IndexFuncdisk_write_disk_write_disk_Disk_Tamper_1.L slices_IndexFuncdisk_write_disk_write_disk_Disk_Tamper_1' args.toList), (65, fun args => disk_Disk_Tamper_1.L disk_Disk_Tamper_1' args.toList)]) Tryz.f64 slices_DeleteFuncdisk_write_disk_write_disk_Disk_Tamper_1.ann [(.slice x_s x_sL x_sC), (.func (.func 65) #[] #[(.pointer (some x_del_0))])] Q h = slices_DeleteFuncdisk_write_disk_write_disk_Disk_Tamper_1.g slices_IndexFuncdisk_write_disk_write_disk_Disk_Tamper_1' disk_Disk_Tamper_1' x_s x_sL x_sC x_del_0 h fun a51 l52 c53 h54 => Q (.slice a51 l52 c53) h54 := by kernel_rfl
theorem slices_DeleteFuncdisk_write_disk_write_disk_Disk_Tamper_1.good : FnGood Tryz.prog 64 slices_DeleteFuncdisk_write_disk_write_disk_Disk_Tamper_1.W := by
  refine FnGood.of (ann := slices_DeleteFuncdisk_write_disk_write_disk_Disk_Tamper_1.ann) (env := envOf [(120, fun args => slices_IndexFuncdisk_write_disk_write_disk_Disk_Tamper_1.L slices_IndexFuncdisk_write_disk_write_disk_Disk_Tamper_1 args.toList), (65, fun args => disk_Disk_Tamper_1.L disk_Disk_Tamper_1 args.toList)]) mixed (EnvGood.cons slices_IndexFuncdisk_write_disk_write_disk_Disk_Tamper_1.good (EnvGood.cons disk_Disk_Tamper_1.good EnvGood.nil)) Tryz.func64 Tryz.call64 fun args => ?_
  show slices_DeleteFuncdisk_write_disk_write_disk_Disk_Tamper_1.L slices_DeleteFuncdisk_write_disk_write_disk_Disk_Tamper_1 args.toList = _ ∨ ∀ Q m, evF Tryz.prog (envOf [(120, fun args => slices_IndexFuncdisk_write_disk_write_disk_Disk_Tamper_1.L slices_IndexFuncdisk_write_disk_write_disk_Disk_Tamper_1 args.toList), (65, fun args => disk_Disk_Tamper_1.L disk_Disk_Tamper_1 args.toList)]) Tryz.f64 slices_DeleteFuncdisk_write_disk_write_disk_Disk_Tamper_1.ann args.toList Q m = slices_DeleteFuncdisk_write_disk_write_disk_Disk_Tamper_1.L slices_DeleteFuncdisk_write_disk_write_disk_Disk_Tamper_1 args.toList Q m
  generalize args.toList = l
  unfold slices_DeleteFuncdisk_write_disk_write_disk_Disk_Tamper_1.L
  split
  · exact .inr fun Q m => slices_DeleteFuncdisk_write_disk_write_disk_Disk_Tamper_1.geq slices_IndexFuncdisk_write_disk_write_disk_Disk_Tamper_1 disk_Disk_Tamper_1 _ _ _ _ Q m
  · exact .inl rfl
def disk_Disk_Tamper.g (disk_Disk_usable' : Option Addr → Int → H → (Int → H → Prop) → Prop) (slices_DeleteFuncdisk_write_disk_write_disk_Disk_Tamper_1' : Option Addr → Nat → Nat → Addr → H → (Option Addr → Nat → Nat → H → Prop) → Prop) (x_d : Option Addr) (x_at : Int) (x_s : ByteArray) (h : H) (Q : Bool → H → Prop) : Prop :=
M.new h (.cells #[(.int .i64 x_at)] 3) fun b2 h3 =>
M.join (α := Bool) (fun d9 h10 =>
(bif d9 then
Q false h10
else
M.nn x_d fun a11 =>
M.load h10 (Addr.add a11 2) fun v12 =>
M.slc v12 fun a13 l14 c15 =>
slices_DeleteFuncdisk_write_disk_write_disk_Disk_Tamper_1' a13 l14 c15 (⟨b2, 0, none⟩ : Addr) h10 fun a16 l17 c18 h19 =>
M.nn x_d fun a20 =>
M.put h19 (Addr.add a20 2) (.slice a16 l17 c18) fun h21 =>
M.nn x_d fun a22 =>
M.load h21 (Addr.add a22 0) fun v23 =>
M.slc v23 fun a24 l25 c26 =>
M.load h21 (⟨b2, 0, none⟩ : Addr) fun v27 =>
M.int .i64 v27 fun n28 =>
M.nn x_d fun a29 =>
M.load h21 (Addr.add a29 1) fun v30 =>
M.slc v30 fun a31 l32 c33 =>
M.load h21 (⟨b2, 0, none⟩ : Addr) fun v34 =>
M.int .i64 v34 fun n35 =>
M.idx a24 l25 n28 fun a36 j37 =>
M.put h21 (Addr.add a36 (j37 * 1)) (.string x_s) fun h38 =>
M.still h21 (⟨b2, 0, none⟩ : Addr) 1 h38 (
M.idx a31 l32 n35 fun a39 j40 =>
M.put h38 (Addr.add a39 (j40 * 1)) (.string x_s) fun h41 =>
Q true h41))) fun J4 =>
M.load h3 (⟨b2, 0, none⟩ : Addr) fun v5 =>
M.int .i64 v5 fun n6 =>
disk_Disk_usable' x_d n6 h3 fun n7 h8 =>
(bif (n7 != (0 : Int)) then
J4 true h8
else
J4 (decide ((ByteArray.size x_s : Int) > (2048 : Int))) h8)
def disk_Disk_Tamper (x_d : Option Addr) (x_at : Int) (x_s : ByteArray) (h : H) (Q : Bool → H → Prop) : Prop := disk_Disk_Tamper.g disk_Disk_usable slices_DeleteFuncdisk_write_disk_write_disk_Disk_Tamper_1 x_d x_at x_s h Q
def disk_Disk_Tamper.L (F : Option Addr → Int → ByteArray → H → (Bool → H → Prop) → Prop) : List Value → (Value → H → Prop) → H → Prop
  | [.pointer x_d, .int .i64 x_at, .string x_s] => fun Q h => F x_d x_at x_s h fun b44 h45 => Q (.bool b44) h45
  | _ => fun _ _ => False
def disk_Disk_Tamper.W : W := fun args => disk_Disk_Tamper.L disk_Disk_Tamper args.toList
def disk_Disk_Tamper.ann : Ann := ⟨lookN [(1, [(15, .bool)])], lookN [], lookN []⟩
theorem disk_Disk_Tamper.geq (disk_Disk_usable' : Option Addr → Int → H → (Int → H → Prop) → Prop) (slices_DeleteFuncdisk_write_disk_write_disk_Disk_Tamper_1' : Option Addr → Nat → Nat → Addr → H → (Option Addr → Nat → Nat → H → Prop) → Prop) (x_d : Option Addr) (x_at : Int) (x_s : ByteArray) (Q : Value → H → Prop) (h : H) : evF Tryz.prog (envOf [(62, fun args => disk_Disk_usable.L disk_Disk_usable' args.toList), (64, fun args => slices_DeleteFuncdisk_write_disk_write_disk_Disk_Tamper_1.L slices_DeleteFuncdisk_write_disk_write_disk_Disk_Tamper_1' args.toList)]) Tryz.f25 disk_Disk_Tamper.ann [(.pointer x_d), (.int .i64 x_at), (.string x_s)] Q h = disk_Disk_Tamper.g disk_Disk_usable' slices_DeleteFuncdisk_write_disk_write_disk_Disk_Tamper_1' x_d x_at x_s h fun b44 h45 => Q (.bool b44) h45 := by kernel_rfl
theorem disk_Disk_Tamper.good : FnGood Tryz.prog 25 disk_Disk_Tamper.W := by
  refine FnGood.of (ann := disk_Disk_Tamper.ann) (env := envOf [(62, fun args => disk_Disk_usable.L disk_Disk_usable args.toList), (64, fun args => slices_DeleteFuncdisk_write_disk_write_disk_Disk_Tamper_1.L slices_DeleteFuncdisk_write_disk_write_disk_Disk_Tamper_1 args.toList)]) mixed (EnvGood.cons disk_Disk_usable.good (EnvGood.cons slices_DeleteFuncdisk_write_disk_write_disk_Disk_Tamper_1.good EnvGood.nil)) Tryz.func25 Tryz.call25 fun args => ?_
  show disk_Disk_Tamper.L disk_Disk_Tamper args.toList = _ ∨ ∀ Q m, evF Tryz.prog (envOf [(62, fun args => disk_Disk_usable.L disk_Disk_usable args.toList), (64, fun args => slices_DeleteFuncdisk_write_disk_write_disk_Disk_Tamper_1.L slices_DeleteFuncdisk_write_disk_write_disk_Disk_Tamper_1 args.toList)]) Tryz.f25 disk_Disk_Tamper.ann args.toList Q m = disk_Disk_Tamper.L disk_Disk_Tamper args.toList Q m
  generalize args.toList = l
  unfold disk_Disk_Tamper.L
  split
  · exact .inr fun Q m => disk_Disk_Tamper.geq disk_Disk_usable slices_DeleteFuncdisk_write_disk_write_disk_Disk_Tamper_1 _ _ _ Q m
  · exact .inl rfl
def aead_Seal.g (aead_shape' : ByteArray → ByteArray → H → (Bool → H → Prop) → Prop) (chacha_Crypt' : ByteArray → ByteArray → Int → ByteArray → H → (ByteArray → Int → H → Prop) → Prop) (aead_tag' : ByteArray → ByteArray → ByteArray → ByteArray → H → (ByteArray → H → Prop) → Prop) (x_key : ByteArray) (x_nonce : ByteArray) (x_with : ByteArray) (x_plain : ByteArray) (h : H) (Q : ByteArray → Int → H → Prop) : Prop :=
aead_shape' x_key x_nonce h fun b3 h4 =>
(bif (!b3) then
Q (ByteArray.empty) (7 : Int) h4
else
M.join (α := Bool) (fun d6 h7 =>
(bif d6 then
Q (ByteArray.empty) (5 : Int) h7
else
chacha_Crypt' x_key x_nonce (1 : Int) x_plain h7 fun s8 n9 h10 =>
aead_tag' x_key x_nonce x_with s8 h10 fun s11 h12 =>
M.cat s8 s11 fun s13 =>
Q s13 (0 : Int) h12)) fun J5 =>
(bif (decide ((ByteArray.size x_with : Int) > (16384 : Int))) then
J5 true h4
else
J5 (decide ((ByteArray.size x_plain : Int) > (16384 : Int))) h4))
def aead_Seal (x_key : ByteArray) (x_nonce : ByteArray) (x_with : ByteArray) (x_plain : ByteArray) (h : H) (Q : ByteArray → Int → H → Prop) : Prop := aead_Seal.g aead_shape chacha_Crypt aead_tag x_key x_nonce x_with x_plain h Q
def aead_Seal.L (F : ByteArray → ByteArray → ByteArray → ByteArray → H → (ByteArray → Int → H → Prop) → Prop) : List Value → (Value → H → Prop) → H → Prop
  | [.string x_key, .string x_nonce, .string x_with, .string x_plain] => fun Q h => F x_key x_nonce x_with x_plain h fun s17 n18 h19 => Q (.tuple #[(.string s17), (.int .i64 n18)]) h19
  | _ => fun _ _ => False
def aead_Seal.W : W := fun args => aead_Seal.L aead_Seal args.toList
def aead_Seal.ann : Ann := ⟨lookN [(3, [(17, .bool)])], lookN [], lookN []⟩
theorem aead_Seal.geq (aead_shape' : ByteArray → ByteArray → H → (Bool → H → Prop) → Prop) (chacha_Crypt' : ByteArray → ByteArray → Int → ByteArray → H → (ByteArray → Int → H → Prop) → Prop) (aead_tag' : ByteArray → ByteArray → ByteArray → ByteArray → H → (ByteArray → H → Prop) → Prop) (x_key : ByteArray) (x_nonce : ByteArray) (x_with : ByteArray) (x_plain : ByteArray) (Q : Value → H → Prop) (h : H) : evF Tryz.prog (envOf [(94, fun args => aead_shape.L aead_shape' args.toList), (95, fun args => chacha_Crypt.L chacha_Crypt' args.toList), (96, fun args => aead_tag.L aead_tag' args.toList)]) Tryz.f45 aead_Seal.ann [(.string x_key), (.string x_nonce), (.string x_with), (.string x_plain)] Q h = aead_Seal.g aead_shape' chacha_Crypt' aead_tag' x_key x_nonce x_with x_plain h fun s17 n18 h19 => Q (.tuple #[(.string s17), (.int .i64 n18)]) h19 := by kernel_rfl
theorem aead_Seal.good : FnGood Tryz.prog 45 aead_Seal.W := by
  refine FnGood.of (ann := aead_Seal.ann) (env := envOf [(94, fun args => aead_shape.L aead_shape args.toList), (95, fun args => chacha_Crypt.L chacha_Crypt args.toList), (96, fun args => aead_tag.L aead_tag args.toList)]) mixed (EnvGood.cons aead_shape.good (EnvGood.cons chacha_Crypt.good (EnvGood.cons aead_tag.good EnvGood.nil))) Tryz.func45 Tryz.call45 fun args => ?_
  show aead_Seal.L aead_Seal args.toList = _ ∨ ∀ Q m, evF Tryz.prog (envOf [(94, fun args => aead_shape.L aead_shape args.toList), (95, fun args => chacha_Crypt.L chacha_Crypt args.toList), (96, fun args => aead_tag.L aead_tag args.toList)]) Tryz.f45 aead_Seal.ann args.toList Q m = aead_Seal.L aead_Seal args.toList Q m
  generalize args.toList = l
  unfold aead_Seal.L
  split
  · exact .inr fun Q m => aead_Seal.geq aead_shape chacha_Crypt aead_tag _ _ _ _ Q m
  · exact .inl rfl
def aead_Open.g (aead_shape' : ByteArray → ByteArray → H → (Bool → H → Prop) → Prop) (aead_tag' : ByteArray → ByteArray → ByteArray → ByteArray → H → (ByteArray → H → Prop) → Prop) (poly_Equal' : ByteArray → ByteArray → H → (Bool → H → Prop) → Prop) (chacha_Crypt' : ByteArray → ByteArray → Int → ByteArray → H → (ByteArray → Int → H → Prop) → Prop) (x_key : ByteArray) (x_nonce : ByteArray) (x_with : ByteArray) (x_sealed : ByteArray) (h : H) (Q : ByteArray → Int → H → Prop) : Prop :=
M.val (IntKind.wrap .i64 ((ByteArray.size x_sealed : Int) - (16 : Int))) fun z3 =>
aead_shape' x_key x_nonce h fun b4 h5 =>
(bif (!b4) then
Q (ByteArray.empty) (7 : Int) h5
else
(bif (decide (z3 < (0 : Int))) then
Q (ByteArray.empty) (3 : Int) h5
else
M.join (α := Bool) (fun d7 h8 =>
(bif d7 then
Q (ByteArray.empty) (5 : Int) h8
else
M.ssub x_sealed z3 (ByteArray.size x_sealed : Int) fun s9 =>
M.ssub x_sealed 0 z3 fun s10 =>
aead_tag' x_key x_nonce x_with s10 h8 fun s11 h12 =>
poly_Equal' s9 s11 h12 fun b13 h14 =>
(bif (!b13) then
Q (ByteArray.empty) (23 : Int) h14
else
M.ssub x_sealed 0 z3 fun s15 =>
chacha_Crypt' x_key x_nonce (1 : Int) s15 h14 fun s16 n17 h18 =>
Q s16 n17 h18))) fun J6 =>
(bif (decide ((ByteArray.size x_with : Int) > (16384 : Int))) then
J6 true h5
else
J6 (decide (z3 > (16384 : Int))) h5)))
def aead_Open (x_key : ByteArray) (x_nonce : ByteArray) (x_with : ByteArray) (x_sealed : ByteArray) (h : H) (Q : ByteArray → Int → H → Prop) : Prop := aead_Open.g aead_shape aead_tag poly_Equal chacha_Crypt x_key x_nonce x_with x_sealed h Q
def aead_Open.L (F : ByteArray → ByteArray → ByteArray → ByteArray → H → (ByteArray → Int → H → Prop) → Prop) : List Value → (Value → H → Prop) → H → Prop
  | [.string x_key, .string x_nonce, .string x_with, .string x_sealed] => fun Q h => F x_key x_nonce x_with x_sealed h fun s22 n23 h24 => Q (.tuple #[(.string s22), (.int .i64 n23)]) h24
  | _ => fun _ _ => False
def aead_Open.W : W := fun args => aead_Open.L aead_Open args.toList
def aead_Open.ann : Ann := ⟨lookN [(6, [(22, .bool)])], lookN [], lookN []⟩
theorem aead_Open.geq (aead_shape' : ByteArray → ByteArray → H → (Bool → H → Prop) → Prop) (aead_tag' : ByteArray → ByteArray → ByteArray → ByteArray → H → (ByteArray → H → Prop) → Prop) (poly_Equal' : ByteArray → ByteArray → H → (Bool → H → Prop) → Prop) (chacha_Crypt' : ByteArray → ByteArray → Int → ByteArray → H → (ByteArray → Int → H → Prop) → Prop) (x_key : ByteArray) (x_nonce : ByteArray) (x_with : ByteArray) (x_sealed : ByteArray) (Q : Value → H → Prop) (h : H) : evF Tryz.prog (envOf [(94, fun args => aead_shape.L aead_shape' args.toList), (96, fun args => aead_tag.L aead_tag' args.toList), (119, fun args => poly_Equal.L poly_Equal' args.toList), (95, fun args => chacha_Crypt.L chacha_Crypt' args.toList)]) Tryz.f58 aead_Open.ann [(.string x_key), (.string x_nonce), (.string x_with), (.string x_sealed)] Q h = aead_Open.g aead_shape' aead_tag' poly_Equal' chacha_Crypt' x_key x_nonce x_with x_sealed h fun s22 n23 h24 => Q (.tuple #[(.string s22), (.int .i64 n23)]) h24 := by kernel_rfl
theorem aead_Open.good : FnGood Tryz.prog 58 aead_Open.W := by
  refine FnGood.of (ann := aead_Open.ann) (env := envOf [(94, fun args => aead_shape.L aead_shape args.toList), (96, fun args => aead_tag.L aead_tag args.toList), (119, fun args => poly_Equal.L poly_Equal args.toList), (95, fun args => chacha_Crypt.L chacha_Crypt args.toList)]) mixed (EnvGood.cons aead_shape.good (EnvGood.cons aead_tag.good (EnvGood.cons poly_Equal.good (EnvGood.cons chacha_Crypt.good EnvGood.nil)))) Tryz.func58 Tryz.call58 fun args => ?_
  show aead_Open.L aead_Open args.toList = _ ∨ ∀ Q m, evF Tryz.prog (envOf [(94, fun args => aead_shape.L aead_shape args.toList), (96, fun args => aead_tag.L aead_tag args.toList), (119, fun args => poly_Equal.L poly_Equal args.toList), (95, fun args => chacha_Crypt.L chacha_Crypt args.toList)]) Tryz.f58 aead_Open.ann args.toList Q m = aead_Open.L aead_Open args.toList Q m
  generalize args.toList = l
  unfold aead_Open.L
  split
  · exact .inr fun Q m => aead_Open.geq aead_shape aead_tag poly_Equal chacha_Crypt _ _ _ _ Q m
  · exact .inl rfl
def sha_Hash_Write.g (sha_Hash_take' : Option Addr → ByteArray → H → (H → Prop) → Prop) (x_h : Option Addr) (x_s : ByteArray) (h : H) (Q : H → Prop) : Prop :=
(bif (Option.isNone x_h) then
Q  h
else
M.nn x_h fun a1 =>
M.load h (Addr.add a1 9) fun v2 =>
M.int .i64 v2 fun n3 =>
M.val (IntKind.wrap .i64 (n3 + (ByteArray.size x_s : Int))) fun z4 =>
M.nn x_h fun a5 =>
M.put h (Addr.add a5 9) (.int .i64 z4) fun h6 =>
M.nn x_h fun a7 =>
M.load h6 (Addr.add a7 8) fun v8 =>
M.str v8 fun s9 =>
M.cat s9 x_s fun s10 =>
M.join (α := ByteArray) (fun d18 h19 =>
M.nn x_h fun a20 =>
M.put h19 (Addr.add a20 8) (.string d18) fun h21 =>
Q  h21) fun J11 =>
M.loop (α := ByteArray) (fun J12 d13 h14 =>
(bif (decide ((ByteArray.size d13 : Int) ≥ (64 : Int))) then
M.ssub d13 0 (64 : Int) fun s15 =>
sha_Hash_take' x_h s15 h14 fun h16 =>
M.ssub d13 (64 : Int) (ByteArray.size d13 : Int) fun s17 =>
J12 s17 h16
else
J11 d13 h14)) s10 h6)
def sha_Hash_Write (x_h : Option Addr) (x_s : ByteArray) (h : H) (Q : H → Prop) : Prop := sha_Hash_Write.g sha_Hash_take x_h x_s h Q
def sha_Hash_Write.L (F : Option Addr → ByteArray → H → (H → Prop) → Prop) : List Value → (Value → H → Prop) → H → Prop
  | [.pointer x_h, .string x_s] => fun Q h => F x_h x_s h fun h23 => Q (.tuple #[]) h23
  | _ => fun _ _ => False
def sha_Hash_Write.W : W := fun args => sha_Hash_Write.L sha_Hash_Write args.toList
def sha_Hash_Write.ann : Ann := ⟨lookN [], lookN [(15, [(1, .str)])], lookN [(60, [(1, .str)])]⟩
theorem sha_Hash_Write.geq (sha_Hash_take' : Option Addr → ByteArray → H → (H → Prop) → Prop) (x_h : Option Addr) (x_s : ByteArray) (Q : Value → H → Prop) (h : H) : evF Tryz.prog (envOf [(121, fun args => sha_Hash_take.L sha_Hash_take' args.toList)]) Tryz.f67 sha_Hash_Write.ann [(.pointer x_h), (.string x_s)] Q h = sha_Hash_Write.g sha_Hash_take' x_h x_s h fun h23 => Q (.tuple #[]) h23 := by kernel_rfl
theorem sha_Hash_Write.good : FnGood Tryz.prog 67 sha_Hash_Write.W := by
  refine FnGood.of (ann := sha_Hash_Write.ann) (env := envOf [(121, fun args => sha_Hash_take.L sha_Hash_take args.toList)]) mixed (EnvGood.cons sha_Hash_take.good EnvGood.nil) Tryz.func67 Tryz.call67 fun args => ?_
  show sha_Hash_Write.L sha_Hash_Write args.toList = _ ∨ ∀ Q m, evF Tryz.prog (envOf [(121, fun args => sha_Hash_take.L sha_Hash_take args.toList)]) Tryz.f67 sha_Hash_Write.ann args.toList Q m = sha_Hash_Write.L sha_Hash_Write args.toList Q m
  generalize args.toList = l
  unfold sha_Hash_Write.L
  split
  · exact .inr fun Q m => sha_Hash_Write.geq sha_Hash_take _ _ Q m
  · exact .inl rfl
def sha_Hash_Sum.g (strings_Repeat' : ByteArray → Int → H → (ByteArray → H → Prop) → Prop) (words_FromBig' : Option Addr → Nat → Nat → H → (ByteArray → H → Prop) → Prop) (sha_Hash_Write' : Option Addr → ByteArray → H → (H → Prop) → Prop) (x_h : Option Addr) (h : H) (Q : ByteArray → H → Prop) : Prop :=
(bif (Option.isNone x_h) then
Q (ByteArray.empty) h
else
M.nn x_h fun a2 =>
M.load h (a2.add 0) fun v3 =>
M.int .u32 v3 fun n4 =>
M.load h (a2.add 1) fun v5 =>
M.int .u32 v5 fun n6 =>
M.load h (a2.add 2) fun v7 =>
M.int .u32 v7 fun n8 =>
M.load h (a2.add 3) fun v9 =>
M.int .u32 v9 fun n10 =>
M.load h (a2.add 4) fun v11 =>
M.int .u32 v11 fun n12 =>
M.load h (a2.add 5) fun v13 =>
M.int .u32 v13 fun n14 =>
M.load h (a2.add 6) fun v15 =>
M.int .u32 v15 fun n16 =>
M.load h (a2.add 7) fun v17 =>
M.int .u32 v17 fun n18 =>
M.load h (a2.add 8) fun v19 =>
M.str v19 fun s20 =>
M.load h (a2.add 9) fun v21 =>
M.int .i64 v21 fun n22 =>
M.new h (.cells (#[(.int .u32 (0 : Int)), (.int .u32 (0 : Int)), (.int .u32 (0 : Int)), (.int .u32 (0 : Int)), (.int .u32 (0 : Int)), (.int .u32 (0 : Int)), (.int .u32 (0 : Int)), (.int .u32 (0 : Int)), (.string (ByteArray.empty)), (.int .i64 (0 : Int))] : Array Value) 206) fun b23 h24 =>
M.req (Array.size (#[(.int .u32 n4), (.int .u32 n6), (.int .u32 n8), (.int .u32 n10), (.int .u32 n12), (.int .u32 n14), (.int .u32 n16), (.int .u32 n18), (.string s20), (.int .i64 n22)] : Array Value) = 10) (M.puts h24 (⟨b23, 0, none⟩ : Addr) [(.int .u32 n4), (.int .u32 n6), (.int .u32 n8), (.int .u32 n10), (.int .u32 n12), (.int .u32 n14), (.int .u32 n16), (.int .u32 n18), (.string s20), (.int .i64 n22)] fun h25 =>
M.nn x_h fun a26 =>
M.load h25 (Addr.add a26 9) fun v27 =>
M.int .i64 v27 fun n28 =>
M.val (IntKind.wrap .u64 n28) fun z29 =>
M.val (IntKind.wrap .u64 (z29 * (8 : Int))) fun z30 =>
M.nn x_h fun a31 =>
M.load h25 (Addr.add a31 8) fun v32 =>
M.str v32 fun s33 =>
M.val (IntKind.wrap .i64 ((119 : Int) - (ByteArray.size s33 : Int))) fun z34 =>
M.nz (64 : Int) (
M.val (Int.tmod z34 (64 : Int)) fun z35 =>
strings_Repeat' (⟨#[0]⟩ : ByteArray) z35 h25 fun s36 h37 =>
M.cat (⟨#[128]⟩ : ByteArray) s36 fun s38 =>
M.shr0 (32 : Int) (
M.val (shr .u64 z30 (32 : Int)) fun z39 =>
M.val (IntKind.wrap .u32 z39) fun z40 =>
M.val (IntKind.wrap .u32 z30) fun z41 =>
M.new h37 (.cells (#[(.int .u32 z40), (.int .u32 z41)] : Array Value) 178) fun b42 h43 =>
words_FromBig' (some (⟨b42, 0, none⟩ : Addr)) 2 2 h43 fun s44 h45 =>
M.cat s38 s44 fun s46 =>
sha_Hash_Write' (some (⟨b23, 0, none⟩ : Addr)) s46 h45 fun h47 =>
M.sub (some (Addr.add (⟨b23, 0, none⟩ : Addr) 0)) 8 1 0 ((8 : Nat) : Int) fun a48 l49 c50 =>
words_FromBig' a48 l49 c50 h47 fun s51 h52 =>
Q s51 h52))))
def sha_Hash_Sum (x_h : Option Addr) (h : H) (Q : ByteArray → H → Prop) : Prop := sha_Hash_Sum.g strings_Repeat words_FromBig sha_Hash_Write x_h h Q
def sha_Hash_Sum.L (F : Option Addr → H → (ByteArray → H → Prop) → Prop) : List Value → (Value → H → Prop) → H → Prop
  | [.pointer x_h] => fun Q h => F x_h h fun s55 h56 => Q (.string s55) h56
  | _ => fun _ _ => False
def sha_Hash_Sum.W : W := fun args => sha_Hash_Sum.L sha_Hash_Sum args.toList
def sha_Hash_Sum.ann : Ann := ⟨lookN [], lookN [], lookN []⟩
theorem sha_Hash_Sum.geq (strings_Repeat' : ByteArray → Int → H → (ByteArray → H → Prop) → Prop) (words_FromBig' : Option Addr → Nat → Nat → H → (ByteArray → H → Prop) → Prop) (sha_Hash_Write' : Option Addr → ByteArray → H → (H → Prop) → Prop) (x_h : Option Addr) (Q : Value → H → Prop) (h : H) : evF Tryz.prog (envOf [(57, fun args => strings_Repeat.L strings_Repeat' args.toList), (122, fun args => words_FromBig.L words_FromBig' args.toList), (67, fun args => sha_Hash_Write.L sha_Hash_Write' args.toList)]) Tryz.f68 sha_Hash_Sum.ann [(.pointer x_h)] Q h = sha_Hash_Sum.g strings_Repeat' words_FromBig' sha_Hash_Write' x_h h fun s55 h56 => Q (.string s55) h56 := by kernel_rfl
theorem sha_Hash_Sum.good : FnGood Tryz.prog 68 sha_Hash_Sum.W := by
  refine FnGood.of (ann := sha_Hash_Sum.ann) (env := envOf [(57, fun args => strings_Repeat.L strings_Repeat args.toList), (122, fun args => words_FromBig.L words_FromBig args.toList), (67, fun args => sha_Hash_Write.L sha_Hash_Write args.toList)]) mixed (EnvGood.cons strings_Repeat.good (EnvGood.cons words_FromBig.good (EnvGood.cons sha_Hash_Write.good EnvGood.nil))) Tryz.func68 Tryz.call68 fun args => ?_
  show sha_Hash_Sum.L sha_Hash_Sum args.toList = _ ∨ ∀ Q m, evF Tryz.prog (envOf [(57, fun args => strings_Repeat.L strings_Repeat args.toList), (122, fun args => words_FromBig.L words_FromBig args.toList), (67, fun args => sha_Hash_Write.L sha_Hash_Write args.toList)]) Tryz.f68 sha_Hash_Sum.ann args.toList Q m = sha_Hash_Sum.L sha_Hash_Sum args.toList Q m
  generalize args.toList = l
  unfold sha_Hash_Sum.L
  split
  · exact .inr fun Q m => sha_Hash_Sum.geq strings_Repeat words_FromBig sha_Hash_Write _ Q m
  · exact .inl rfl
def ref05_Kind.g (ref05_Sum' : ByteArray → H → (ByteArray → H → Prop) → Prop) (x_k : Int) (x_s : ByteArray) (h : H) (Q : ByteArray → H → Prop) : Prop :=
M.new h (.cells (#[(.int .u8 x_k)] : Array Value) 5) fun b2 h3 =>
M.b2s h3 (some (⟨b2, 0, none⟩ : Addr)) 1 fun s4 =>
M.cat s4 x_s fun s5 =>
ref05_Sum' s5 h3 fun s6 h7 =>
Q s6 h7
def ref05_Kind (x_k : Int) (x_s : ByteArray) (h : H) (Q : ByteArray → H → Prop) : Prop := ref05_Kind.g ref05_Sum x_k x_s h Q
def ref05_Kind.L (F : Int → ByteArray → H → (ByteArray → H → Prop) → Prop) : List Value → (Value → H → Prop) → H → Prop
  | [.int .u8 x_k, .string x_s] => fun Q h => F x_k x_s h fun s10 h11 => Q (.string s10) h11
  | _ => fun _ _ => False
def ref05_Kind.W : W := fun args => ref05_Kind.L ref05_Kind args.toList
def ref05_Kind.ann : Ann := ⟨lookN [], lookN [], lookN []⟩
theorem ref05_Kind.geq (ref05_Sum' : ByteArray → H → (ByteArray → H → Prop) → Prop) (x_k : Int) (x_s : ByteArray) (Q : Value → H → Prop) (h : H) : evF Tryz.prog (envOf [(143, fun args => ref05_Sum.L ref05_Sum' args.toList)]) Tryz.f90 ref05_Kind.ann [(.int .u8 x_k), (.string x_s)] Q h = ref05_Kind.g ref05_Sum' x_k x_s h fun s10 h11 => Q (.string s10) h11 := by kernel_rfl
theorem ref05_Kind.good : FnGood Tryz.prog 90 ref05_Kind.W := by
  refine FnGood.of (ann := ref05_Kind.ann) (env := envOf [(143, fun args => ref05_Sum.L ref05_Sum args.toList)]) mixed (EnvGood.cons ref05_Sum.good EnvGood.nil) Tryz.func90 Tryz.call90 fun args => ?_
  show ref05_Kind.L ref05_Kind args.toList = _ ∨ ∀ Q m, evF Tryz.prog (envOf [(143, fun args => ref05_Sum.L ref05_Sum args.toList)]) Tryz.f90 ref05_Kind.ann args.toList Q m = ref05_Kind.L ref05_Kind args.toList Q m
  generalize args.toList = l
  unfold ref05_Kind.L
  split
  · exact .inr fun Q m => ref05_Kind.geq ref05_Sum _ _ Q m
  · exact .inl rfl
def ref12_digest.g (ref12_digest' : Option Addr → Nat → Nat → Int → H → (ByteArray → H → Prop) → Prop) (ref05_Kind' : Int → ByteArray → H → (ByteArray → H → Prop) → Prop) (x_l : Option Addr) (x_lL : Nat) (x_lC : Nat) (x_i : Int) (h : H) (Q : ByteArray → H → Prop) : Prop :=
(bif (decide (x_i ≥ ((x_lL : Nat) : Int))) then
M.val (IntKind.wrap .i64 (x_i - ((x_lL : Nat) : Int))) fun z2 =>
M.idx x_l x_lL z2 fun a3 j4 =>
M.load h (Addr.add a3 (j4 * 1)) fun v5 =>
M.str v5 fun s6 =>
Q s6 h
else
M.val (IntKind.wrap .i64 ((2 : Int) * x_i)) fun z7 =>
ref12_digest' x_l x_lL x_lC z7 h fun s8 h9 =>
M.val (IntKind.wrap .i64 ((2 : Int) * x_i)) fun z10 =>
M.val (IntKind.wrap .i64 (z10 + (1 : Int))) fun z11 =>
ref12_digest' x_l x_lL x_lC z11 h9 fun s12 h13 =>
M.cat s8 s12 fun s14 =>
ref05_Kind' (1 : Int) s14 h13 fun s15 h16 =>
Q s15 h16)
def ref12_digest.n : Nat → Option Addr → Nat → Nat → Int → H → (ByteArray → H → Prop) → Prop
  | 0 => fun _ _ _ _ _ _ => False
  | k + 1 => fun x_l x_lL x_lC x_i h Q => ref12_digest.g (ref12_digest.n k) ref05_Kind x_l x_lL x_lC x_i h Q
def ref12_digest (x_l : Option Addr) (x_lL : Nat) (x_lC : Nat) (x_i : Int) (h : H) (Q : ByteArray → H → Prop) : Prop := ∃ k, ref12_digest.n k x_l x_lL x_lC x_i h Q
def ref12_digest.L (F : Option Addr → Nat → Nat → Int → H → (ByteArray → H → Prop) → Prop) : List Value → (Value → H → Prop) → H → Prop
  | [.slice x_l x_lL x_lC, .int .i64 x_i] => fun Q h => F x_l x_lL x_lC x_i h fun s19 h20 => Q (.string s19) h20
  | _ => fun _ _ => False
def ref12_digest.W : W := fun args => ref12_digest.L ref12_digest args.toList
def ref12_digest.ann : Ann := ⟨lookN [], lookN [], lookN []⟩
theorem ref12_digest.geq (ref12_digest' : Option Addr → Nat → Nat → Int → H → (ByteArray → H → Prop) → Prop) (ref05_Kind' : Int → ByteArray → H → (ByteArray → H → Prop) → Prop) (x_l : Option Addr) (x_lL : Nat) (x_lC : Nat) (x_i : Int) (Q : Value → H → Prop) (h : H) : evF Tryz.prog (envOf [(144, fun args => ref12_digest.L ref12_digest' args.toList), (90, fun args => ref05_Kind.L ref05_Kind' args.toList)]) Tryz.f144 ref12_digest.ann [(.slice x_l x_lL x_lC), (.int .i64 x_i)] Q h = ref12_digest.g ref12_digest' ref05_Kind' x_l x_lL x_lC x_i h fun s19 h20 => Q (.string s19) h20 := by kernel_rfl
theorem ref12_digest.step (k : Nat) (ih : FnGood Tryz.prog 144 fun args => ref12_digest.L (ref12_digest.n k) args.toList) : FnGood Tryz.prog 144 fun args => ref12_digest.L (ref12_digest.n (k + 1)) args.toList := by
  refine FnGood.of (ann := ref12_digest.ann) (env := envOf [(144, fun args => ref12_digest.L (ref12_digest.n k) args.toList), (90, fun args => ref05_Kind.L ref05_Kind args.toList)]) mixed (EnvGood.cons ih (EnvGood.cons ref05_Kind.good EnvGood.nil)) Tryz.func144 Tryz.call144 fun args => ?_
  show ref12_digest.L (ref12_digest.n (k + 1)) args.toList = _ ∨ ∀ Q m, evF Tryz.prog (envOf [(144, fun args => ref12_digest.L (ref12_digest.n k) args.toList), (90, fun args => ref05_Kind.L ref05_Kind args.toList)]) Tryz.f144 ref12_digest.ann args.toList Q m = ref12_digest.L (ref12_digest.n (k + 1)) args.toList Q m
  generalize args.toList = l
  unfold ref12_digest.L
  split
  · exact .inr fun Q m => ref12_digest.geq (ref12_digest.n k) ref05_Kind _ _ _ _ Q m
  · exact .inl rfl
theorem ref12_digest.goodn : ∀ k, FnGood Tryz.prog 144 fun args => ref12_digest.L (ref12_digest.n k) args.toList
  | 0 => FnGood.fals fun args Q h => by
    show ¬ ref12_digest.L (ref12_digest.n 0) args.toList Q h
    generalize args.toList = l
    unfold ref12_digest.L
    split <;> exact id
  | k + 1 => ref12_digest.step k (ref12_digest.goodn k)
theorem ref12_digest.good : FnGood Tryz.prog 144 ref12_digest.W := (FnGood.ex ref12_digest.goodn).iff fun args Q h => by
  show ref12_digest.L ref12_digest args.toList Q h ↔ ∃ k, ref12_digest.L (ref12_digest.n k) args.toList Q h
  generalize args.toList = l
  unfold ref12_digest.L
  split
  · exact Iff.rfl
  · exact ⟨fun h => h.elim, fun ⟨_, h⟩ => h⟩
def slab_Slab_Seal.g (slab_Slab_may' : Option Addr → Int → Int → ByteArray → Int → H → (Int → H → Prop) → Prop) (slab_Slab_with' : Option Addr → Int → Int → ByteArray → Int → H → (ByteArray → H → Prop) → Prop) (aead_Seal' : ByteArray → ByteArray → ByteArray → ByteArray → H → (ByteArray → Int → H → Prop) → Prop) (x_s_0 : Option Addr) (x_s_1 : Int) (x_s_2 : Int) (x_s_3 : ByteArray) (x_slot : Int) (x_nonce : ByteArray) (x_plain : ByteArray) (h : H) (Q : ByteArray → Int → H → Prop) : Prop :=
M.new h (.cells (#[(.pointer x_s_0), (.int .i64 x_s_1), (.int .i64 x_s_2), (.string x_s_3)] : Array Value) 37) fun b3 h4 =>
M.load h4 ((⟨b3, 0, none⟩ : Addr).add 0) fun v5 =>
M.ptr v5 fun p6 =>
M.load h4 ((⟨b3, 0, none⟩ : Addr).add 1) fun v7 =>
M.int .i64 v7 fun n8 =>
M.load h4 ((⟨b3, 0, none⟩ : Addr).add 2) fun v9 =>
M.int .i64 v9 fun n10 =>
M.load h4 ((⟨b3, 0, none⟩ : Addr).add 3) fun v11 =>
M.str v11 fun s12 =>
slab_Slab_may' p6 n8 n10 s12 x_slot h4 fun n13 h14 =>
(bif (n13 != (0 : Int)) then
Q (ByteArray.empty) n13 h14
else
M.join (α := Bool) (fun d16 h17 =>
(bif d16 then
Q (ByteArray.empty) (7 : Int) h17
else
M.load h17 (Addr.add (⟨b3, 0, none⟩ : Addr) 3) fun v18 =>
M.str v18 fun s19 =>
M.load h17 ((⟨b3, 0, none⟩ : Addr).add 0) fun v20 =>
M.ptr v20 fun p21 =>
M.load h17 ((⟨b3, 0, none⟩ : Addr).add 1) fun v22 =>
M.int .i64 v22 fun n23 =>
M.load h17 ((⟨b3, 0, none⟩ : Addr).add 2) fun v24 =>
M.int .i64 v24 fun n25 =>
M.load h17 ((⟨b3, 0, none⟩ : Addr).add 3) fun v26 =>
M.str v26 fun s27 =>
slab_Slab_with' p21 n23 n25 s27 x_slot h17 fun s28 h29 =>
M.still h17 (Addr.add (⟨b3, 0, none⟩ : Addr) 3) 1 h29 (
aead_Seal' s19 x_nonce s28 x_plain h29 fun s30 n31 h32 =>
M.cat x_nonce s30 fun s33 =>
Q s33 (0 : Int) h32))) fun J15 =>
(bif ((ByteArray.size x_nonce : Int) != (12 : Int)) then
J15 true h14
else
J15 ((ByteArray.size x_plain : Int) != (32 : Int)) h14))
def slab_Slab_Seal (x_s_0 : Option Addr) (x_s_1 : Int) (x_s_2 : Int) (x_s_3 : ByteArray) (x_slot : Int) (x_nonce : ByteArray) (x_plain : ByteArray) (h : H) (Q : ByteArray → Int → H → Prop) : Prop := slab_Slab_Seal.g slab_Slab_may slab_Slab_with aead_Seal x_s_0 x_s_1 x_s_2 x_s_3 x_slot x_nonce x_plain h Q
def slab_Slab_Seal.L (F : Option Addr → Int → Int → ByteArray → Int → ByteArray → ByteArray → H → (ByteArray → Int → H → Prop) → Prop) : List Value → (Value → H → Prop) → H → Prop
  | [.agg ⟨[.pointer x_s_0, .int .i64 x_s_1, .int .i64 x_s_2, .string x_s_3]⟩, .int .i64 x_slot, .string x_nonce, .string x_plain] => fun Q h => F x_s_0 x_s_1 x_s_2 x_s_3 x_slot x_nonce x_plain h fun s37 n38 h39 => Q (.tuple #[(.string s37), (.int .i64 n38)]) h39
  | _ => fun _ _ => False
def slab_Slab_Seal.W : W := fun args => slab_Slab_Seal.L slab_Slab_Seal args.toList
def slab_Slab_Seal.ann : Ann := ⟨lookN [(4, [(26, .bool)])], lookN [], lookN []⟩
theorem slab_Slab_Seal.geq (slab_Slab_may' : Option Addr → Int → Int → ByteArray → Int → H → (Int → H → Prop) → Prop) (slab_Slab_with' : Option Addr → Int → Int → ByteArray → Int → H → (ByteArray → H → Prop) → Prop) (aead_Seal' : ByteArray → ByteArray → ByteArray → ByteArray → H → (ByteArray → Int → H → Prop) → Prop) (x_s_0 : Option Addr) (x_s_1 : Int) (x_s_2 : Int) (x_s_3 : ByteArray) (x_slot : Int) (x_nonce : ByteArray) (x_plain : ByteArray) (Q : Value → H → Prop) (h : H) : evF Tryz.prog (envOf [(44, fun args => slab_Slab_may.L slab_Slab_may' args.toList), (46, fun args => slab_Slab_with.L slab_Slab_with' args.toList), (45, fun args => aead_Seal.L aead_Seal' args.toList)]) Tryz.f14 slab_Slab_Seal.ann [(.agg (#[(.pointer x_s_0), (.int .i64 x_s_1), (.int .i64 x_s_2), (.string x_s_3)] : Array Value)), (.int .i64 x_slot), (.string x_nonce), (.string x_plain)] Q h = slab_Slab_Seal.g slab_Slab_may' slab_Slab_with' aead_Seal' x_s_0 x_s_1 x_s_2 x_s_3 x_slot x_nonce x_plain h fun s37 n38 h39 => Q (.tuple #[(.string s37), (.int .i64 n38)]) h39 := by kernel_rfl
theorem slab_Slab_Seal.good : FnGood Tryz.prog 14 slab_Slab_Seal.W := by
  refine FnGood.of (ann := slab_Slab_Seal.ann) (env := envOf [(44, fun args => slab_Slab_may.L slab_Slab_may args.toList), (46, fun args => slab_Slab_with.L slab_Slab_with args.toList), (45, fun args => aead_Seal.L aead_Seal args.toList)]) mixed (EnvGood.cons slab_Slab_may.good (EnvGood.cons slab_Slab_with.good (EnvGood.cons aead_Seal.good EnvGood.nil))) Tryz.func14 Tryz.call14 fun args => ?_
  show slab_Slab_Seal.L slab_Slab_Seal args.toList = _ ∨ ∀ Q m, evF Tryz.prog (envOf [(44, fun args => slab_Slab_may.L slab_Slab_may args.toList), (46, fun args => slab_Slab_with.L slab_Slab_with args.toList), (45, fun args => aead_Seal.L aead_Seal args.toList)]) Tryz.f14 slab_Slab_Seal.ann args.toList Q m = slab_Slab_Seal.L slab_Slab_Seal args.toList Q m
  generalize args.toList = l
  unfold slab_Slab_Seal.L
  split
  · exact .inr fun Q m => slab_Slab_Seal.geq slab_Slab_may slab_Slab_with aead_Seal _ _ _ _ _ _ _ Q m
  · exact .inl rfl
def sha_Sum.g (sha_New' : H → (Option Addr → H → Prop) → Prop) (sha_Hash_Write' : Option Addr → ByteArray → H → (H → Prop) → Prop) (sha_Hash_Sum' : Option Addr → H → (ByteArray → H → Prop) → Prop) (x_s : ByteArray) (h : H) (Q : ByteArray → H → Prop) : Prop :=
sha_New'  h fun p2 h3 =>
sha_Hash_Write' p2 x_s h3 fun h4 =>
sha_Hash_Sum' p2 h4 fun s5 h6 =>
Q s5 h6
def sha_Sum (x_s : ByteArray) (h : H) (Q : ByteArray → H → Prop) : Prop := sha_Sum.g sha_New sha_Hash_Write sha_Hash_Sum x_s h Q
def sha_Sum.L (F : ByteArray → H → (ByteArray → H → Prop) → Prop) : List Value → (Value → H → Prop) → H → Prop
  | [.string x_s] => fun Q h => F x_s h fun s9 h10 => Q (.string s9) h10
  | _ => fun _ _ => False
def sha_Sum.W : W := fun args => sha_Sum.L sha_Sum args.toList
def sha_Sum.ann : Ann := ⟨lookN [], lookN [], lookN []⟩
theorem sha_Sum.geq (sha_New' : H → (Option Addr → H → Prop) → Prop) (sha_Hash_Write' : Option Addr → ByteArray → H → (H → Prop) → Prop) (sha_Hash_Sum' : Option Addr → H → (ByteArray → H → Prop) → Prop) (x_s : ByteArray) (Q : Value → H → Prop) (h : H) : evF Tryz.prog (envOf [(66, fun args => sha_New.L sha_New' args.toList), (67, fun args => sha_Hash_Write.L sha_Hash_Write' args.toList), (68, fun args => sha_Hash_Sum.L sha_Hash_Sum' args.toList)]) Tryz.f26 sha_Sum.ann [(.string x_s)] Q h = sha_Sum.g sha_New' sha_Hash_Write' sha_Hash_Sum' x_s h fun s9 h10 => Q (.string s9) h10 := by kernel_rfl
theorem sha_Sum.good : FnGood Tryz.prog 26 sha_Sum.W := by
  refine FnGood.of (ann := sha_Sum.ann) (env := envOf [(66, fun args => sha_New.L sha_New args.toList), (67, fun args => sha_Hash_Write.L sha_Hash_Write args.toList), (68, fun args => sha_Hash_Sum.L sha_Hash_Sum args.toList)]) mixed (EnvGood.cons sha_New.good (EnvGood.cons sha_Hash_Write.good (EnvGood.cons sha_Hash_Sum.good EnvGood.nil))) Tryz.func26 Tryz.call26 fun args => ?_
  show sha_Sum.L sha_Sum args.toList = _ ∨ ∀ Q m, evF Tryz.prog (envOf [(66, fun args => sha_New.L sha_New args.toList), (67, fun args => sha_Hash_Write.L sha_Hash_Write args.toList), (68, fun args => sha_Hash_Sum.L sha_Hash_Sum args.toList)]) Tryz.f26 sha_Sum.ann args.toList Q m = sha_Sum.L sha_Sum args.toList Q m
  generalize args.toList = l
  unfold sha_Sum.L
  split
  · exact .inr fun Q m => sha_Sum.geq sha_New sha_Hash_Write sha_Hash_Sum _ Q m
  · exact .inl rfl
def sha_Leaf.g (sha_Sum' : ByteArray → H → (ByteArray → H → Prop) → Prop) (x_s : ByteArray) (h : H) (Q : ByteArray → H → Prop) : Prop :=
M.cat (⟨#[0]⟩ : ByteArray) x_s fun s2 =>
sha_Sum' s2 h fun s3 h4 =>
Q s3 h4
def sha_Leaf (x_s : ByteArray) (h : H) (Q : ByteArray → H → Prop) : Prop := sha_Leaf.g sha_Sum x_s h Q
def sha_Leaf.L (F : ByteArray → H → (ByteArray → H → Prop) → Prop) : List Value → (Value → H → Prop) → H → Prop
  | [.string x_s] => fun Q h => F x_s h fun s7 h8 => Q (.string s7) h8
  | _ => fun _ _ => False
def sha_Leaf.W : W := fun args => sha_Leaf.L sha_Leaf args.toList
def sha_Leaf.ann : Ann := ⟨lookN [], lookN [], lookN []⟩
theorem sha_Leaf.geq (sha_Sum' : ByteArray → H → (ByteArray → H → Prop) → Prop) (x_s : ByteArray) (Q : Value → H → Prop) (h : H) : evF Tryz.prog (envOf [(26, fun args => sha_Sum.L sha_Sum' args.toList)]) Tryz.f50 sha_Leaf.ann [(.string x_s)] Q h = sha_Leaf.g sha_Sum' x_s h fun s7 h8 => Q (.string s7) h8 := by kernel_rfl
theorem sha_Leaf.good : FnGood Tryz.prog 50 sha_Leaf.W := by
  refine FnGood.of (ann := sha_Leaf.ann) (env := envOf [(26, fun args => sha_Sum.L sha_Sum args.toList)]) mixed (EnvGood.cons sha_Sum.good EnvGood.nil) Tryz.func50 Tryz.call50 fun args => ?_
  show sha_Leaf.L sha_Leaf args.toList = _ ∨ ∀ Q m, evF Tryz.prog (envOf [(26, fun args => sha_Sum.L sha_Sum args.toList)]) Tryz.f50 sha_Leaf.ann args.toList Q m = sha_Leaf.L sha_Leaf args.toList Q m
  generalize args.toList = l
  unfold sha_Leaf.L
  split
  · exact .inr fun Q m => sha_Leaf.geq sha_Sum _ Q m
  · exact .inl rfl
def ref12_Build.g (ref12_Depth' : Int → H → (Int → H → Prop) → Prop) (ref12_digest' : Option Addr → Nat → Nat → Int → H → (ByteArray → H → Prop) → Prop) (x_l : Option Addr) (x_lL : Nat) (x_lC : Nat) (h : H) (Q : Option Addr → Nat → Nat → ByteArray → Int → H → Prop) : Prop :=
ref12_Depth' ((x_lL : Nat) : Int) h fun n6 h7 =>
(bif (n6 == (0 : Int)) then
Q none 0 0 (ByteArray.empty) (2 : Int) h7
else
M.join (α := Unit) (fun d17 h18 =>
M.mk h18 9 [(.string (ByteArray.empty))] 16 ((x_lL : Nat) : Int) ((x_lL : Nat) : Int) fun a19 l20 c21 h22 =>
M.join (α := Unit) (fun d39 h40 =>
ref12_digest' x_l x_lL x_lC (1 : Int) h40 fun s41 h42 =>
Q a19 l20 c21 s41 (0 : Int) h42) fun J23 =>
M.loop (α := Int) (fun J24 d25 h26 =>
(bif (decide (d25 < ((x_lL : Nat) : Int))) then
M.val (IntKind.wrap .i64 ((2 : Int) * d25)) fun z27 =>
ref12_digest' x_l x_lL x_lC z27 h26 fun s28 h29 =>
M.val (IntKind.wrap .i64 ((2 : Int) * d25)) fun z30 =>
M.val (IntKind.wrap .i64 (z30 + (1 : Int))) fun z31 =>
ref12_digest' x_l x_lL x_lC z31 h29 fun s32 h33 =>
M.cat s28 s32 fun s34 =>
M.idx a19 l20 d25 fun a35 j36 =>
M.put h33 (Addr.add a35 (j36 * 1)) (.string s34) fun h37 =>
M.val (IntKind.wrap .i64 (d25 + (1 : Int))) fun z38 =>
J24 z38 h37
else
J23 () h26)) (1 : Int) h22) fun J8 =>
M.loop (α := Int) (fun J9 d10 h11 =>
(bif (decide (d10 < ((x_lL : Nat) : Int))) then
M.idx x_l x_lL d10 fun a12 j13 =>
M.load h11 (Addr.add a12 (j13 * 1)) fun v14 =>
M.str v14 fun s15 =>
(bif ((ByteArray.size s15 : Int) != (32 : Int)) then
Q none 0 0 (ByteArray.empty) (7 : Int) h11
else
M.val (IntKind.wrap .i64 (d10 + (1 : Int))) fun z16 =>
J9 z16 h11)
else
J8 () h11)) (0 : Int) h7)
def ref12_Build (x_l : Option Addr) (x_lL : Nat) (x_lC : Nat) (h : H) (Q : Option Addr → Nat → Nat → ByteArray → Int → H → Prop) : Prop := ref12_Build.g ref12_Depth ref12_digest x_l x_lL x_lC h Q
def ref12_Build.L (F : Option Addr → Nat → Nat → H → (Option Addr → Nat → Nat → ByteArray → Int → H → Prop) → Prop) : List Value → (Value → H → Prop) → H → Prop
  | [.slice x_l x_lL x_lC] => fun Q h => F x_l x_lL x_lC h fun a49 l50 c51 s52 n53 h54 => Q (.tuple #[(.slice a49 l50 c51), (.string s52), (.int .i64 n53)]) h54
  | _ => fun _ _ => False
def ref12_Build.W : W := fun args => ref12_Build.L ref12_Build args.toList
def ref12_Build.ann : Ann := ⟨lookN [], lookN [(15, []), (63, [])], lookN [(122, [(6, .int .i64)]), (506, [(8, .int .i64)])]⟩
theorem ref12_Build.geq (ref12_Depth' : Int → H → (Int → H → Prop) → Prop) (ref12_digest' : Option Addr → Nat → Nat → Int → H → (ByteArray → H → Prop) → Prop) (x_l : Option Addr) (x_lL : Nat) (x_lC : Nat) (Q : Value → H → Prop) (h : H) : evF Tryz.prog (envOf [(142, fun args => ref12_Depth.L ref12_Depth' args.toList), (144, fun args => ref12_digest.L ref12_digest' args.toList)]) Tryz.f91 ref12_Build.ann [(.slice x_l x_lL x_lC)] Q h = ref12_Build.g ref12_Depth' ref12_digest' x_l x_lL x_lC h fun a49 l50 c51 s52 n53 h54 => Q (.tuple #[(.slice a49 l50 c51), (.string s52), (.int .i64 n53)]) h54 := by kernel_rfl
theorem ref12_Build.good : FnGood Tryz.prog 91 ref12_Build.W := by
  refine FnGood.of (ann := ref12_Build.ann) (env := envOf [(142, fun args => ref12_Depth.L ref12_Depth args.toList), (144, fun args => ref12_digest.L ref12_digest args.toList)]) mixed (EnvGood.cons ref12_Depth.good (EnvGood.cons ref12_digest.good EnvGood.nil)) Tryz.func91 Tryz.call91 fun args => ?_
  show ref12_Build.L ref12_Build args.toList = _ ∨ ∀ Q m, evF Tryz.prog (envOf [(142, fun args => ref12_Depth.L ref12_Depth args.toList), (144, fun args => ref12_digest.L ref12_digest args.toList)]) Tryz.f91 ref12_Build.ann args.toList Q m = ref12_Build.L ref12_Build args.toList Q m
  generalize args.toList = l
  unfold ref12_Build.L
  split
  · exact .inr fun Q m => ref12_Build.geq ref12_Depth ref12_digest _ _ _ Q m
  · exact .inl rfl
def sha_Node.g (sha_Sum' : ByteArray → H → (ByteArray → H → Prop) → Prop) (x_pair : ByteArray) (h : H) (Q : ByteArray → H → Prop) : Prop :=
M.cat (⟨#[1]⟩ : ByteArray) x_pair fun s2 =>
sha_Sum' s2 h fun s3 h4 =>
Q s3 h4
def sha_Node (x_pair : ByteArray) (h : H) (Q : ByteArray → H → Prop) : Prop := sha_Node.g sha_Sum x_pair h Q
def sha_Node.L (F : ByteArray → H → (ByteArray → H → Prop) → Prop) : List Value → (Value → H → Prop) → H → Prop
  | [.string x_pair] => fun Q h => F x_pair h fun s7 h8 => Q (.string s7) h8
  | _ => fun _ _ => False
def sha_Node.W : W := fun args => sha_Node.L sha_Node args.toList
def sha_Node.ann : Ann := ⟨lookN [], lookN [], lookN []⟩
theorem sha_Node.geq (sha_Sum' : ByteArray → H → (ByteArray → H → Prop) → Prop) (x_pair : ByteArray) (Q : Value → H → Prop) (h : H) : evF Tryz.prog (envOf [(26, fun args => sha_Sum.L sha_Sum' args.toList)]) Tryz.f102 sha_Node.ann [(.string x_pair)] Q h = sha_Node.g sha_Sum' x_pair h fun s7 h8 => Q (.string s7) h8 := by kernel_rfl
theorem sha_Node.good : FnGood Tryz.prog 102 sha_Node.W := by
  refine FnGood.of (ann := sha_Node.ann) (env := envOf [(26, fun args => sha_Sum.L sha_Sum args.toList)]) mixed (EnvGood.cons sha_Sum.good EnvGood.nil) Tryz.func102 Tryz.call102 fun args => ?_
  show sha_Node.L sha_Node args.toList = _ ∨ ∀ Q m, evF Tryz.prog (envOf [(26, fun args => sha_Sum.L sha_Sum args.toList)]) Tryz.f102 sha_Node.ann args.toList Q m = sha_Node.L sha_Node args.toList Q m
  generalize args.toList = l
  unfold sha_Node.L
  split
  · exact .inr fun Q m => sha_Node.geq sha_Sum _ Q m
  · exact .inl rfl
end Go.Proofs.YthegnmanjdlmjaaGreatDoor

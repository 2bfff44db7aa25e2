/- The shallow forms of the functions of this seat, printed by a program of mine, each checked by the kernel against the given code. -/
import Derived.Test.YthegnmanjdlmjaaGreatDoorT06
set_option linter.unusedSimpArgs false
set_option linter.unusedVariables false
namespace Go.Proofs.YthegnmanjdlmjaaGreatDoor
open Go.Sh
def law17_both_act.L (F : Option Addr → Int → Int → Int → Int → Option Addr → Nat → Nat → ByteArray → H → (Bool → H → Prop) → Prop) : List Value → (Value → H → Prop) → H → Prop
  | [.pointer x_x, .agg ⟨[.int .i64 x_a_0, .int .i64 x_a_1, .int .i64 x_a_2, .int .u8 x_a_3, .slice x_a_4 x_a_4L x_a_4C, .string x_a_5]⟩] => fun Q h => F x_x x_a_0 x_a_1 x_a_2 x_a_3 x_a_4 x_a_4L x_a_4C x_a_5 h fun b826 h827 => Q (.bool b826) h827
  | _ => fun _ _ => False
def law17_SlabKeeps.L (F : Int → Array Value → Option Addr → Nat → Nat → H → (Bool → H → Prop) → Prop) : List Value → (Value → H → Prop) → H → Prop
  | [.int .i64 x_n, .agg x_key, .slice x_l x_lL x_lC] => fun Q h => F x_n x_key x_l x_lL x_lC h fun b273 h274 => Q (.bool b273) h274
  | _ => fun _ _ => False
def law17_SlabTells.g (law17_begin' : Int → Int → Array Value → H → (Option Addr → Bool → H → Prop) → Prop) (law17_wakes' : H → (Bool → H → Prop) → Prop) (slab_Slab_Seal' : Option Addr → Int → Int → ByteArray → Int → ByteArray → ByteArray → H → (ByteArray → Int → H → Prop) → Prop) (slab_Slab_Prepare' : Option Addr → Int → Int → ByteArray → ByteArray → Option Addr → Nat → Nat → H → (Option Addr → Nat → Nat → ByteArray → Int → H → Prop) → Prop) (slab_Slab_Apply' : Option Addr → Int → Int → ByteArray → Option Addr → Nat → Nat → H → (Int → H → Prop) → Prop) (bank_Bank_Disk' : Option Addr → Int → H → (Option Addr → H → Prop) → Prop) (disk_Disk_Image' : Option Addr → H → (Option Addr → Nat → Nat → H → Prop) → Prop) (disk_Disk_Tamper' : Option Addr → Int → ByteArray → H → (Bool → H → Prop) → Prop) (sha_Sum' : ByteArray → H → (ByteArray → H → Prop) → Prop) (slab_Slab_Get' : Option Addr → Int → Int → ByteArray → ByteArray → Int → H → (ByteArray → Int → H → Prop) → Prop) (x_n : Int) (x_key : Array Value) (x_tampers : Option Addr) (x_tampersL : Nat) (x_tampersC : Nat) (h : H) (Q : Bool → H → Prop) : Prop :=
M.new h (.cells x_key 22) fun b2 h3 =>
M.nz (4 : Int) (
M.val (Int.tmod (mx (0 : Int) x_n) (4 : Int)) fun z4 =>
M.shr0 z4 (
M.val (shl .i64 (2 : Int) z4) fun z5 =>
M.row h3 (⟨b2, 0, none⟩ : Addr) 32 fun cs6 =>
law17_begin' z5 (0 : Int) (List.toArray cs6) h3 fun p7 b8 h9 =>
M.join (α := Bool) (fun d13 h14 =>
(bif d13 then
Q false h14
else
M.mk h14 9 [(.string (ByteArray.empty))] 16 z5 z5 fun a15 l16 c17 h18 =>
M.join (α := (Option Addr × Nat × Nat)) (fun d60 h61 =>
M.nn p7 fun a62 =>
M.load h61 ((Addr.add a62 0).add 0) fun v63 =>
M.ptr v63 fun p64 =>
M.load h61 ((Addr.add a62 0).add 1) fun v65 =>
M.int .i64 v65 fun n66 =>
M.load h61 ((Addr.add a62 0).add 2) fun v67 =>
M.int .i64 v67 fun n68 =>
M.load h61 ((Addr.add a62 0).add 3) fun v69 =>
M.str v69 fun s70 =>
M.nn p7 fun a71 =>
M.load h61 (Addr.add a71 8) fun v72 =>
M.str v72 fun s73 =>
slab_Slab_Prepare' p64 n66 n68 s70 s73 d60.1 d60.2.1 d60.2.2 h61 fun a74 l75 c76 s77 n78 h79 =>
M.join (α := Bool) (fun d92 h93 =>
(bif d92 then
Q false h93
else
M.nn p7 fun a94 =>
M.load h93 (Addr.add (Addr.add a94 0) 0) fun v95 =>
M.ptr v95 fun p96 =>
bank_Bank_Disk' p96 (0 : Int) h93 fun p97 h98 =>
disk_Disk_Image' p97 h98 fun a99 l100 c101 h102 =>
M.join (α := (Option Addr × Nat × Nat)) (fun d165 h166 =>
disk_Disk_Image' p97 h166 fun a167 l168 c169 h170 =>
M.cellsOf h170 a167 (l168 * 1) fun cs175 =>
M.app h170 9 1 16 [(.string (ByteArray.empty))] d165.1 d165.2.1 d165.2.2 l168 cs175 fun a171 l172 c173 h174 =>
M.new h174 (.map #[] 0) fun b176 h177 =>
M.join (α := Unit) (fun d210 h211 =>
M.loop (α := Int) (fun J212 d213 h214 =>
(bif (decide (d213 < ((l16 : Nat) : Int))) then
M.idx a15 l16 d213 fun a215 j216 =>
M.load h214 (Addr.add a215 (j216 * 1)) fun v217 =>
M.str v217 fun s218 =>
M.nn p7 fun a219 =>
M.load h214 ((Addr.add a219 0).add 0) fun v220 =>
M.ptr v220 fun p221 =>
M.load h214 ((Addr.add a219 0).add 1) fun v222 =>
M.int .i64 v222 fun n223 =>
M.load h214 ((Addr.add a219 0).add 2) fun v224 =>
M.int .i64 v224 fun n225 =>
M.load h214 ((Addr.add a219 0).add 3) fun v226 =>
M.str v226 fun s227 =>
slab_Slab_Get' p221 n223 n225 s227 s77 d213 h214 fun s228 n229 h230 =>
M.join (α := Bool) (fun d232 h233 =>
(bif d232 then
Q false h233
else
M.val (IntKind.wrap .i64 (d213 + (1 : Int))) fun z234 =>
J212 z234 h233)) fun J231 =>
(bif (n229 == (0 : Int)) then
(bif (!strEq s228 s218) then
J231 true h230
else
(bif (n229 != (0 : Int)) then
J231 (!strEq s228 (ByteArray.empty)) h230
else
J231 false h230))
else
(bif (n229 != (0 : Int)) then
J231 (!strEq s228 (ByteArray.empty)) h230
else
J231 false h230))
else
Q true h214)) (0 : Int) h211) fun J178 =>
M.loop (α := Int) (fun J179 d180 h181 =>
(bif (decide (d180 < ((l172 : Nat) : Int))) then
M.idx a171 l172 d180 fun a182 j183 =>
M.load h181 (Addr.add a182 (j183 * 1)) fun v184 =>
M.str v184 fun s185 =>
M.new h181 (.cells (#[(.string (⟨#[0]⟩ : ByteArray)), (.string (⟨#[1]⟩ : ByteArray))] : Array Value) 9) fun b186 h187 =>
M.loop (α := Int) (fun J188 d189 h190 =>
(bif (decide (d189 < ((2 : Nat) : Int))) then
M.idx (some (⟨b186, 0, none⟩ : Addr)) 2 d189 fun a191 j192 =>
M.load h190 (Addr.add a191 (j192 * 1)) fun v193 =>
M.str v193 fun s194 =>
M.cat s194 s185 fun s195 =>
sha_Sum' s195 h190 fun s196 h197 =>
M.lk2 Tryz.prog 63 (.map (some b176)) (.string s196) h197 fun v198 b200 h199 =>
M.str v198 fun s201 =>
M.join (α := Bool) (fun d204 h205 =>
(bif d204 then
Q true h205
else
M.cat s194 s185 fun s206 =>
M.mput Tryz.prog 63 (.map (some b176)) (.string s196) (.string s206) h205 fun h207 =>
M.val (IntKind.wrap .i64 (d189 + (1 : Int))) fun z208 =>
J188 z208 h207)) fun J202 =>
(bif b200 then
M.cat s194 s185 fun s203 =>
J202 (!strEq s201 s203) h199
else
J202 false h199)
else
M.val (IntKind.wrap .i64 (d180 + (1 : Int))) fun z209 =>
J179 z209 h190)) (0 : Int) h187
else
J178 () h181)) (0 : Int) h177) fun J103 =>
M.sub x_tampers x_tampersC 6 0 (mn ((x_tampersL : Nat) : Int) (30 : Int)) fun a104 l105 c106 =>
M.loop (α := (Option Addr × Nat × Nat) × Int) (fun J107 d108 h109 =>
(bif (decide (d108.2 < ((l105 : Nat) : Int))) then
M.idx a104 l105 d108.2 fun a110 j111 =>
M.load h109 ((Addr.add a110 (j111 * 6)).add 0) fun v112 =>
M.int .i64 v112 fun n113 =>
M.load h109 ((Addr.add a110 (j111 * 6)).add 1) fun v114 =>
M.int .i64 v114 fun n115 =>
M.load h109 ((Addr.add a110 (j111 * 6)).add 2) fun v116 =>
M.int .i64 v116 fun n117 =>
M.load h109 ((Addr.add a110 (j111 * 6)).add 3) fun v118 =>
M.int .u8 v118 fun n119 =>
M.load h109 ((Addr.add a110 (j111 * 6)).add 4) fun v120 =>
M.slc v120 fun a121 l122 c123 =>
M.load h109 ((Addr.add a110 (j111 * 6)).add 5) fun v124 =>
M.str v124 fun s125 =>
M.new h109 (.cells (#[(.int .i64 (0 : Int)), (.int .i64 (0 : Int)), (.int .i64 (0 : Int)), (.int .u8 (0 : Int)), (.slice none 0 0), (.string (ByteArray.empty))] : Array Value) 32) fun b126 h127 =>
M.req (Array.size (#[(.int .i64 n113), (.int .i64 n115), (.int .i64 n117), (.int .u8 n119), (.slice a121 l122 c123), (.string s125)] : Array Value) = 6) (M.puts h127 (⟨b126, 0, none⟩ : Addr) [(.int .i64 n113), (.int .i64 n115), (.int .i64 n117), (.int .u8 n119), (.slice a121 l122 c123), (.string s125)] fun h128 =>
M.load h128 (Addr.add (⟨b126, 0, none⟩ : Addr) 5) fun v129 =>
M.str v129 fun s130 =>
M.load h128 (Addr.add (⟨b126, 0, none⟩ : Addr) 5) fun v131 =>
M.str v131 fun s132 =>
M.ssub s130 0 (mn (ByteArray.size s132 : Int) (200 : Int)) fun s133 =>
M.join (α := ByteArray) (fun d151 h152 =>
M.new h152 (.cells (#[(.string d151)] : Array Value) 9) fun b153 h154 =>
M.cellsOf h154 (some (⟨b153, 0, none⟩ : Addr)) (1 * 1) fun cs159 =>
M.app h154 9 1 16 [(.string (ByteArray.empty))] d108.1.1 d108.1.2.1 d108.1.2.2 1 cs159 fun a155 l156 c157 h158 =>
M.load h158 (Addr.add (⟨b126, 0, none⟩ : Addr) 1) fun v160 =>
M.int .i64 v160 fun n161 =>
disk_Disk_Tamper' p97 n161 d151 h158 fun b162 h163 =>
M.val (IntKind.wrap .i64 (d108.2 + (1 : Int))) fun z164 =>
J107 ((a155, l156, c157), z164) h163) fun J134 =>
M.join (α := Bool) (fun d143 h144 =>
(bif d143 then
M.load h144 (Addr.add (⟨b126, 0, none⟩ : Addr) 2) fun v145 =>
M.int .i64 v145 fun n146 =>
M.idx d108.1.1 d108.1.2.1 n146 fun a147 j148 =>
M.load h144 (Addr.add a147 (j148 * 1)) fun v149 =>
M.str v149 fun s150 =>
J134 s150 h144
else
J134 s133 h144)) fun J135 =>
M.load h128 (Addr.add (⟨b126, 0, none⟩ : Addr) 0) fun v136 =>
M.int .i64 v136 fun n137 =>
M.val (bAnd .i64 n137 (1 : Int)) fun z138 =>
(bif (z138 == (1 : Int)) then
M.load h128 (Addr.add (⟨b126, 0, none⟩ : Addr) 2) fun v139 =>
M.int .i64 v139 fun n140 =>
(bif (decide (n140 ≥ (0 : Int))) then
M.load h128 (Addr.add (⟨b126, 0, none⟩ : Addr) 2) fun v141 =>
M.int .i64 v141 fun n142 =>
J135 (decide (n142 < ((d108.1.2.1 : Nat) : Int))) h128
else
J135 false h128)
else
J135 false h128))
else
J103 (d108.1.1, d108.1.2.1, d108.1.2.2) h109)) ((a99, l100, c101), (0 : Int)) h102)) fun J80 =>
(bif (n78 != (0 : Int)) then
J80 true h79
else
M.nn p7 fun a81 =>
M.load h79 ((Addr.add a81 0).add 0) fun v82 =>
M.ptr v82 fun p83 =>
M.load h79 ((Addr.add a81 0).add 1) fun v84 =>
M.int .i64 v84 fun n85 =>
M.load h79 ((Addr.add a81 0).add 2) fun v86 =>
M.int .i64 v86 fun n87 =>
M.load h79 ((Addr.add a81 0).add 3) fun v88 =>
M.str v88 fun s89 =>
slab_Slab_Apply' p83 n85 n87 s89 a74 l75 c76 h79 fun n90 h91 =>
J80 (n90 != (0 : Int)) h91)) fun J19 =>
M.loop (α := (Option Addr × Nat × Nat) × Int) (fun J20 d21 h22 =>
(bif (decide (d21.2 < ((l16 : Nat) : Int))) then
M.val (IntKind.wrap .u8 d21.2) fun z23 =>
M.new h22 (.cells (#[(.int .u8 z23)] : Array Value) 5) fun b24 h25 =>
M.b2s h25 (some (⟨b24, 0, none⟩ : Addr)) 1 fun s26 =>
M.cat s26 (⟨#[49, 50, 51, 52, 53, 54, 55, 56, 57, 97, 98, 99, 100, 101, 102, 48, 49, 50, 51, 52, 53, 54, 55, 56, 57, 97, 98, 99, 100, 101, 102]⟩ : ByteArray) fun s27 =>
M.idx a15 l16 d21.2 fun a28 j29 =>
M.put h25 (Addr.add a28 (j29 * 1)) (.string s27) fun h30 =>
M.nn p7 fun a31 =>
M.load h30 ((Addr.add a31 0).add 0) fun v32 =>
M.ptr v32 fun p33 =>
M.load h30 ((Addr.add a31 0).add 1) fun v34 =>
M.int .i64 v34 fun n35 =>
M.load h30 ((Addr.add a31 0).add 2) fun v36 =>
M.int .i64 v36 fun n37 =>
M.load h30 ((Addr.add a31 0).add 3) fun v38 =>
M.str v38 fun s39 =>
M.idx a15 l16 d21.2 fun a40 j41 =>
M.load h30 (Addr.add a40 (j41 * 1)) fun v42 =>
M.str v42 fun s43 =>
M.val (IntKind.wrap .u8 d21.2) fun z44 =>
M.still h30 (Addr.add a40 (j41 * 1)) 1 h30 (
M.still h30 (Addr.add a31 0) 4 h30 (
M.new h30 (.cells (#[(.int .u8 z44)] : Array Value) 5) fun b45 h46 =>
M.still h30 (Addr.add a40 (j41 * 1)) 1 h46 (
M.still h30 (Addr.add a31 0) 4 h46 (
M.b2s h46 (some (⟨b45, 0, none⟩ : Addr)) 1 fun s47 =>
M.still h30 (Addr.add a40 (j41 * 1)) 1 h46 (
M.still h30 (Addr.add a31 0) 4 h46 (
M.cat s47 (⟨#[97, 98, 99, 100, 101, 102, 103, 104, 105, 106, 107]⟩ : ByteArray) fun s48 =>
slab_Slab_Seal' p33 n35 n37 s39 d21.2 s48 s43 h46 fun s49 n50 h51 =>
(bif (n50 != (0 : Int)) then
Q false h51
else
M.new h51 (.cells (#[(.int .i64 d21.2), (.string s49)] : Array Value) 45) fun b52 h53 =>
M.cellsOf h53 (some (⟨b52, 0, none⟩ : Addr)) (1 * 2) fun cs58 =>
M.app h53 45 2 24 [(.int .i64 (0 : Int)), (.string (ByteArray.empty))] d21.1.1 d21.1.2.1 d21.1.2.2 1 cs58 fun a54 l55 c56 h57 =>
M.val (IntKind.wrap .i64 (d21.2 + (1 : Int))) fun z59 =>
J20 ((a54, l55, c56), z59) h57)))))))
else
J19 (d21.1.1, d21.1.2.1, d21.1.2.2) h22)) ((none, 0, 0), (0 : Int)) h18)) fun J10 =>
law17_wakes'  h9 fun b11 h12 =>
(bif (!b11) then
J10 true h12
else
J10 (!b8) h12)))
def law17_SlabTells (x_n : Int) (x_key : Array Value) (x_tampers : Option Addr) (x_tampersL : Nat) (x_tampersC : Nat) (h : H) (Q : Bool → H → Prop) : Prop := law17_SlabTells.g law17_begin law17_wakes slab_Slab_Seal slab_Slab_Prepare slab_Slab_Apply bank_Bank_Disk disk_Disk_Image disk_Disk_Tamper sha_Sum slab_Slab_Get x_n x_key x_tampers x_tampersL x_tampersC h Q
def law17_SlabTells.L (F : Int → Array Value → Option Addr → Nat → Nat → H → (Bool → H → Prop) → Prop) : List Value → (Value → H → Prop) → H → Prop
  | [.int .i64 x_n, .agg x_key, .slice x_tampers x_tampersL x_tampersC] => fun Q h => F x_n x_key x_tampers x_tampersL x_tampersC h fun b237 h238 => Q (.bool b237) h238
  | _ => fun _ _ => False
def law17_SlabTells.W : W := fun args => law17_SlabTells.L law17_SlabTells args.toList
def law17_SlabTells.ann : Ann := ⟨lookN [(3, [(50, .bool)]), (17, [(117, .bool)]), (25, [(158, .bool)]), (40, [(208, .bool)]), (49, [(247, .bool)])], lookN [(127, [(11, .slc)]), (4095, [(19, .slc)]), (32767, []), (4193587, [(22, .str)])], lookN [(1018, [(11, .slc), (55, .int .i64)]), (32762, [(19, .slc), (132, .int .i64)]), (262138, [(181, .int .i64)]), (524282, [(218, .int .i64)]), (67107430, [(187, .int .i64)])]⟩
theorem law17_SlabTells.geq (law17_begin' : Int → Int → Array Value → H → (Option Addr → Bool → H → Prop) → Prop) (law17_wakes' : H → (Bool → H → Prop) → Prop) (slab_Slab_Seal' : Option Addr → Int → Int → ByteArray → Int → ByteArray → ByteArray → H → (ByteArray → Int → H → Prop) → Prop) (slab_Slab_Prepare' : Option Addr → Int → Int → ByteArray → ByteArray → Option Addr → Nat → Nat → H → (Option Addr → Nat → Nat → ByteArray → Int → H → Prop) → Prop) (slab_Slab_Apply' : Option Addr → Int → Int → ByteArray → Option Addr → Nat → Nat → H → (Int → H → Prop) → Prop) (bank_Bank_Disk' : Option Addr → Int → H → (Option Addr → H → Prop) → Prop) (disk_Disk_Image' : Option Addr → H → (Option Addr → Nat → Nat → H → Prop) → Prop) (disk_Disk_Tamper' : Option Addr → Int → ByteArray → H → (Bool → H → Prop) → Prop) (sha_Sum' : ByteArray → H → (ByteArray → H → Prop) → Prop) (slab_Slab_Get' : Option Addr → Int → Int → ByteArray → ByteArray → Int → H → (ByteArray → Int → H → Prop) → Prop) (x_n : Int) (x_key : Array Value) (x_tampers : Option Addr) (x_tampersL : Nat) (x_tampersC : Nat) (Q : Value → H → Prop) (h : H) : evF Tryz.prog (envOf [(12, fun args => law17_begin.L law17_begin' args.toList), (13, fun args => law17_wakes.L law17_wakes' args.toList), (14, fun args => slab_Slab_Seal.L slab_Slab_Seal' args.toList), (15, fun args => slab_Slab_Prepare.L slab_Slab_Prepare' args.toList), (16, fun args => slab_Slab_Apply.L slab_Slab_Apply' args.toList), (22, fun args => bank_Bank_Disk.L bank_Bank_Disk' args.toList), (24, fun args => disk_Disk_Image.L disk_Disk_Image' args.toList), (25, fun args => disk_Disk_Tamper.L disk_Disk_Tamper' args.toList), (26, fun args => sha_Sum.L sha_Sum' args.toList), (17, fun args => slab_Slab_Get.L slab_Slab_Get' args.toList)]) Tryz.f6 law17_SlabTells.ann [(.int .i64 x_n), (.agg x_key), (.slice x_tampers x_tampersL x_tampersC)] Q h = law17_SlabTells.g law17_begin' law17_wakes' slab_Slab_Seal' slab_Slab_Prepare' slab_Slab_Apply' bank_Bank_Disk' disk_Disk_Image' disk_Disk_Tamper' sha_Sum' slab_Slab_Get' x_n x_key x_tampers x_tampersL x_tampersC h fun b237 h238 => Q (.bool b237) h238 := by kernel_rfl
theorem law17_SlabTells.W_eq (x_n : Int) (x_key : Array Value) (x_tampers : Option Addr) (x_tampersL : Nat) (x_tampersC : Nat) (Q : Value → H → Prop) (h : H) : law17_SlabTells.W #[(.int .i64 x_n), (.agg x_key), (.slice x_tampers x_tampersL x_tampersC)] Q h = law17_SlabTells x_n x_key x_tampers x_tampersL x_tampersC h fun b237 h238 => Q (.bool b237) h238 := by kernel_rfl
theorem law17_SlabTells.good : FnGood Tryz.prog 6 law17_SlabTells.W := by
  refine FnGood.of (ann := law17_SlabTells.ann) (env := envOf [(12, fun args => law17_begin.L law17_begin args.toList), (13, fun args => law17_wakes.L law17_wakes args.toList), (14, fun args => slab_Slab_Seal.L slab_Slab_Seal args.toList), (15, fun args => slab_Slab_Prepare.L slab_Slab_Prepare args.toList), (16, fun args => slab_Slab_Apply.L slab_Slab_Apply args.toList), (22, fun args => bank_Bank_Disk.L bank_Bank_Disk args.toList), (24, fun args => disk_Disk_Image.L disk_Disk_Image args.toList), (25, fun args => disk_Disk_Tamper.L disk_Disk_Tamper args.toList), (26, fun args => sha_Sum.L sha_Sum args.toList), (17, fun args => slab_Slab_Get.L slab_Slab_Get args.toList)]) mixed (EnvGood.cons law17_begin.good (EnvGood.cons law17_wakes.good (EnvGood.cons slab_Slab_Seal.good (EnvGood.cons slab_Slab_Prepare.good (EnvGood.cons slab_Slab_Apply.good (EnvGood.cons bank_Bank_Disk.good (EnvGood.cons disk_Disk_Image.good (EnvGood.cons disk_Disk_Tamper.good (EnvGood.cons sha_Sum.good (EnvGood.cons slab_Slab_Get.good EnvGood.nil)))))))))) Tryz.func6 Tryz.call6 fun args => ?_
  show law17_SlabTells.L law17_SlabTells args.toList = _ ∨ ∀ Q m, evF Tryz.prog (envOf [(12, fun args => law17_begin.L law17_begin args.toList), (13, fun args => law17_wakes.L law17_wakes args.toList), (14, fun args => slab_Slab_Seal.L slab_Slab_Seal args.toList), (15, fun args => slab_Slab_Prepare.L slab_Slab_Prepare args.toList), (16, fun args => slab_Slab_Apply.L slab_Slab_Apply args.toList), (22, fun args => bank_Bank_Disk.L bank_Bank_Disk args.toList), (24, fun args => disk_Disk_Image.L disk_Disk_Image args.toList), (25, fun args => disk_Disk_Tamper.L disk_Disk_Tamper args.toList), (26, fun args => sha_Sum.L sha_Sum args.toList), (17, fun args => slab_Slab_Get.L slab_Slab_Get args.toList)]) Tryz.f6 law17_SlabTells.ann args.toList Q m = law17_SlabTells.L law17_SlabTells args.toList Q m
  generalize args.toList = l
  unfold law17_SlabTells.L
  split
  · exact .inr fun Q m => law17_SlabTells.geq law17_begin law17_wakes slab_Slab_Seal slab_Slab_Prepare slab_Slab_Apply bank_Bank_Disk disk_Disk_Image disk_Disk_Tamper sha_Sum slab_Slab_Get _ _ _ _ _ Q m
  · exact .inl rfl
end Go.Proofs.YthegnmanjdlmjaaGreatDoor

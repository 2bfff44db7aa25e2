/- The shallow forms of the functions of this seat, printed by a program of mine, each checked by the kernel against the given code. -/
import Derived.Test.YthegnmanjdlmjaaGreatDoorK06
set_option linter.unusedSimpArgs false
set_option linter.unusedVariables false
namespace Go.Proofs.YthegnmanjdlmjaaGreatDoor
open Go.Sh
def law17_both_act.L (F : Option Addr → Int → Int → Int → Int → Option Addr → Nat → Nat → ByteArray → H → (Bool → H → Prop) → Prop) : List Value → (Value → H → Prop) → H → Prop
  | [.pointer x_x, .agg ⟨[.int .i64 x_a_0, .int .i64 x_a_1, .int .i64 x_a_2, .int .u8 x_a_3, .slice x_a_4 x_a_4L x_a_4C, .string x_a_5]⟩] => fun Q h => F x_x x_a_0 x_a_1 x_a_2 x_a_3 x_a_4 x_a_4L x_a_4C x_a_5 h fun b826 h827 => Q (.bool b826) h827
  | _ => fun _ _ => False
def law17_SlabKeeps.g (law17_begin' : Int → Int → Array Value → H → (Option Addr → Bool → H → Prop) → Prop) (law17_wakes' : H → (Bool → H → Prop) → Prop) (slab_Slab_Seal' : Option Addr → Int → Int → ByteArray → Int → ByteArray → ByteArray → H → (ByteArray → Int → H → Prop) → Prop) (slab_Slab_Prepare' : Option Addr → Int → Int → ByteArray → ByteArray → Option Addr → Nat → Nat → H → (Option Addr → Nat → Nat → ByteArray → Int → H → Prop) → Prop) (slab_Slab_Apply' : Option Addr → Int → Int → ByteArray → Option Addr → Nat → Nat → H → (Int → H → Prop) → Prop) (slab_Slab_Get' : Option Addr → Int → Int → ByteArray → ByteArray → Int → H → (ByteArray → Int → H → Prop) → Prop) (slab_Slab_Bad' : Option Addr → Int → Int → ByteArray → ByteArray → H → (Option Addr → Nat → Nat → H → Prop) → Prop) (x_n : Int) (x_key : Array Value) (x_l : Option Addr) (x_lL : Nat) (x_lC : Nat) (h : H) (Q : Bool → H → Prop) : Prop :=
M.new h (.cells x_key 22) fun b2 h3 =>
M.nz (4 : Int) (
M.val (Int.tmod (mx (0 : Int) x_n) (4 : Int)) fun z4 =>
M.shr0 z4 (
M.val (shl .i64 (2 : Int) z4) fun z5 =>
M.row h3 (⟨b2, 0, none⟩ : Addr) 32 fun cs6 =>
law17_begin' z5 (1 : Int) (List.toArray cs6) h3 fun p7 b8 h9 =>
M.join (α := Bool) (fun d13 h14 =>
(bif d13 then
Q false h14
else
M.mk h14 9 [(.string (ByteArray.empty))] 16 z5 z5 fun a15 l16 c17 h18 =>
M.join (α := Unit) (fun d32 h33 =>
M.join (α := Unit) (fun d224 h225 =>
M.join (α := Unit) (fun d253 h254 =>
M.nn p7 fun a255 =>
M.load h254 ((Addr.add a255 0).add 0) fun v256 =>
M.ptr v256 fun p257 =>
M.load h254 ((Addr.add a255 0).add 1) fun v258 =>
M.int .i64 v258 fun n259 =>
M.load h254 ((Addr.add a255 0).add 2) fun v260 =>
M.int .i64 v260 fun n261 =>
M.load h254 ((Addr.add a255 0).add 3) fun v262 =>
M.str v262 fun s263 =>
M.nn p7 fun a264 =>
M.load h254 (Addr.add a264 8) fun v265 =>
M.str v265 fun s266 =>
slab_Slab_Bad' p257 n259 n261 s263 s266 h254 fun a267 l268 c269 h270 =>
Q (((l268 : Nat) : Int) == (0 : Int)) h270) fun J226 =>
M.loop (α := Int) (fun J227 d228 h229 =>
(bif (decide (d228 < ((l16 : Nat) : Int))) then
M.idx a15 l16 d228 fun a230 j231 =>
M.load h229 (Addr.add a230 (j231 * 1)) fun v232 =>
M.str v232 fun s233 =>
M.nn p7 fun a234 =>
M.load h229 ((Addr.add a234 0).add 0) fun v235 =>
M.ptr v235 fun p236 =>
M.load h229 ((Addr.add a234 0).add 1) fun v237 =>
M.int .i64 v237 fun n238 =>
M.load h229 ((Addr.add a234 0).add 2) fun v239 =>
M.int .i64 v239 fun n240 =>
M.load h229 ((Addr.add a234 0).add 3) fun v241 =>
M.str v241 fun s242 =>
M.nn p7 fun a243 =>
M.load h229 (Addr.add a243 8) fun v244 =>
M.str v244 fun s245 =>
slab_Slab_Get' p236 n238 n240 s242 s245 d228 h229 fun s246 n247 h248 =>
M.join (α := Bool) (fun d250 h251 =>
(bif d250 then
Q false h251
else
M.val (IntKind.wrap .i64 (d228 + (1 : Int))) fun z252 =>
J227 z252 h251)) fun J249 =>
(bif (n247 != (0 : Int)) then
J249 true h248
else
J249 (!strEq s246 s233) h248)
else
J226 () h229)) (0 : Int) h225) fun J34 =>
M.loop (α := Int) (fun J35 d36 h37 =>
M.join (α := Bool) (fun d39 h40 =>
(bif d39 then
M.join (α := Int × (Option Addr × Nat × Nat)) (fun d188 h189 =>
M.nn p7 fun a190 =>
M.load h189 ((Addr.add a190 0).add 0) fun v191 =>
M.ptr v191 fun p192 =>
M.load h189 ((Addr.add a190 0).add 1) fun v193 =>
M.int .i64 v193 fun n194 =>
M.load h189 ((Addr.add a190 0).add 2) fun v195 =>
M.int .i64 v195 fun n196 =>
M.load h189 ((Addr.add a190 0).add 3) fun v197 =>
M.str v197 fun s198 =>
M.nn p7 fun a199 =>
M.load h189 (Addr.add a199 8) fun v200 =>
M.str v200 fun s201 =>
slab_Slab_Prepare' p192 n194 n196 s198 s201 d188.2.1 d188.2.2.1 d188.2.2.2 h189 fun a202 l203 c204 s205 n206 h207 =>
M.join (α := Bool) (fun d220 h221 =>
(bif d220 then
Q false h221
else
M.nn p7 fun a222 =>
M.put h221 (Addr.add a222 8) (.string s205) fun h223 =>
J35 d188.1 h223)) fun J208 =>
(bif (n206 != (0 : Int)) then
J208 true h207
else
M.nn p7 fun a209 =>
M.load h207 ((Addr.add a209 0).add 0) fun v210 =>
M.ptr v210 fun p211 =>
M.load h207 ((Addr.add a209 0).add 1) fun v212 =>
M.int .i64 v212 fun n213 =>
M.load h207 ((Addr.add a209 0).add 2) fun v214 =>
M.int .i64 v214 fun n215 =>
M.load h207 ((Addr.add a209 0).add 3) fun v216 =>
M.str v216 fun s217 =>
slab_Slab_Apply' p211 n213 n215 s217 a202 l203 c204 h207 fun n218 h219 =>
J208 (n218 != (0 : Int)) h219)) fun J41 =>
M.idx x_l x_lL d36 fun a42 j43 =>
M.load h40 (Addr.add (Addr.add a42 (j43 * 6)) 2) fun v44 =>
M.int .i64 v44 fun n45 =>
M.nz (4 : Int) (
M.val (Int.tmod (mx (0 : Int) n45) (4 : Int)) fun z46 =>
M.val (IntKind.wrap .i64 ((1 : Int) + z46)) fun z47 =>
M.loop (α := Int × (Option Addr × Nat × Nat) × Int) (fun J48 d49 h50 =>
(bif (decide (d49.2.2 < z47)) then
M.join (α := Bool) (fun d52 h53 =>
(bif d52 then
M.idx x_l x_lL d49.1 fun a54 j55 =>
M.load h53 (Addr.add (Addr.add a54 (j55 * 6)) 1) fun v56 =>
M.int .i64 v56 fun n57 =>
M.nz z5 (
M.val (Int.tmod (mx (0 : Int) n57) z5) fun z58 =>
M.join (α := Unit) (fun d155 h156 =>
M.nn p7 fun a157 =>
M.load h156 ((Addr.add a157 0).add 0) fun v158 =>
M.ptr v158 fun p159 =>
M.load h156 ((Addr.add a157 0).add 1) fun v160 =>
M.int .i64 v160 fun n161 =>
M.load h156 ((Addr.add a157 0).add 2) fun v162 =>
M.int .i64 v162 fun n163 =>
M.load h156 ((Addr.add a157 0).add 3) fun v164 =>
M.str v164 fun s165 =>
M.idx a15 l16 z58 fun a166 j167 =>
M.load h156 (Addr.add a166 (j167 * 1)) fun v168 =>
M.str v168 fun s169 =>
M.val (IntKind.wrap .u8 d49.1) fun z170 =>
M.still h156 (Addr.add a166 (j167 * 1)) 1 h156 (
M.still h156 (Addr.add a157 0) 4 h156 (
M.new h156 (.cells (#[(.int .u8 z170)] : Array Value) 5) fun b171 h172 =>
M.still h156 (Addr.add a166 (j167 * 1)) 1 h172 (
M.still h156 (Addr.add a157 0) 4 h172 (
M.b2s h172 (some (⟨b171, 0, none⟩ : Addr)) 1 fun s173 =>
M.still h156 (Addr.add a166 (j167 * 1)) 1 h172 (
M.still h156 (Addr.add a157 0) 4 h172 (
M.cat s173 (⟨#[97, 98, 99, 100, 101, 102, 103, 104, 105, 106, 107]⟩ : ByteArray) fun s174 =>
slab_Slab_Seal' p159 n161 n163 s165 z58 s174 s169 h172 fun s175 n176 h177 =>
(bif (n176 != (0 : Int)) then
Q false h177
else
M.new h177 (.cells (#[(.int .i64 z58), (.string s175)] : Array Value) 45) fun b178 h179 =>
M.cellsOf h179 (some (⟨b178, 0, none⟩ : Addr)) (1 * 2) fun cs184 =>
M.app h179 45 2 24 [(.int .i64 (0 : Int)), (.string (ByteArray.empty))] d49.2.1.1 d49.2.1.2.1 d49.2.1.2.2 1 cs184 fun a180 l181 c182 h183 =>
M.val (IntKind.wrap .i64 (d49.1 + (1 : Int))) fun z185 =>
M.val (IntKind.wrap .i64 (d49.2.2 + (1 : Int))) fun z186 =>
J48 (z185, (a180, l181, c182), z186) h183)))))))) fun J59 =>
M.idx x_l x_lL d49.1 fun a60 j61 =>
M.load h53 (Addr.add (Addr.add a60 (j61 * 6)) 3) fun v62 =>
M.int .u8 v62 fun n63 =>
(M.val (IntKind.wrap .u8 d49.1) fun z64 =>
M.still h53 (Addr.add (Addr.add a60 (j61 * 6)) 3) 1 h53 (
(M.new h53 (.cells (#[(.int .u8 n63), (.int .u8 z64)] : Array Value) 5) fun b65 h66 =>
(M.b2s h66 (some (⟨b65, 0, none⟩ : Addr)) 2 fun s67 =>
M.mk h66 5 [(.int .u8 (0 : Int))] 1 (30 : Int) (30 : Int) fun a68 l69 c70 h71 =>
M.still h53 (Addr.add (Addr.add a60 (j61 * 6)) 3) 1 h71 (
M.b2s h71 a68 l69 fun s72 =>
M.still h53 (Addr.add (Addr.add a60 (j61 * 6)) 3) 1 h71 (
M.cat s67 s72 fun s73 =>
M.idx a15 l16 z58 fun a74 j75 =>
M.put h71 (Addr.add a74 (j75 * 1)) (.string s73) fun h76 =>
J59 () h76))) ∧
(M.mk h66 5 [(.int .u8 (0 : Int))] 1 (30 : Int) (30 : Int) fun a77 l78 c79 h80 =>
M.still h53 (Addr.add (Addr.add a60 (j61 * 6)) 3) 1 h80 (
(M.b2s h80 (some (⟨b65, 0, none⟩ : Addr)) 2 fun s81 =>
M.b2s h80 a77 l78 fun s82 =>
M.still h53 (Addr.add (Addr.add a60 (j61 * 6)) 3) 1 h80 (
M.cat s81 s82 fun s83 =>
M.idx a15 l16 z58 fun a84 j85 =>
M.put h80 (Addr.add a84 (j85 * 1)) (.string s83) fun h86 =>
J59 () h86)) ∧
(M.b2s h80 a77 l78 fun s87 =>
M.still h53 (Addr.add (Addr.add a60 (j61 * 6)) 3) 1 h80 (
M.b2s h80 (some (⟨b65, 0, none⟩ : Addr)) 2 fun s88 =>
M.cat s88 s87 fun s89 =>
M.idx a15 l16 z58 fun a90 j91 =>
M.put h80 (Addr.add a90 (j91 * 1)) (.string s89) fun h92 =>
J59 () h92))))) ∧
(M.mk h53 5 [(.int .u8 (0 : Int))] 1 (30 : Int) (30 : Int) fun a93 l94 c95 h96 =>
M.still h53 (Addr.add (Addr.add a60 (j61 * 6)) 3) 1 h96 (
(M.new h96 (.cells (#[(.int .u8 n63), (.int .u8 z64)] : Array Value) 5) fun b97 h98 =>
(M.b2s h98 (some (⟨b97, 0, none⟩ : Addr)) 2 fun s99 =>
M.b2s h98 a93 l94 fun s100 =>
M.still h53 (Addr.add (Addr.add a60 (j61 * 6)) 3) 1 h98 (
M.cat s99 s100 fun s101 =>
M.idx a15 l16 z58 fun a102 j103 =>
M.put h98 (Addr.add a102 (j103 * 1)) (.string s101) fun h104 =>
J59 () h104)) ∧
(M.b2s h98 a93 l94 fun s105 =>
M.still h53 (Addr.add (Addr.add a60 (j61 * 6)) 3) 1 h98 (
M.b2s h98 (some (⟨b97, 0, none⟩ : Addr)) 2 fun s106 =>
M.cat s106 s105 fun s107 =>
M.idx a15 l16 z58 fun a108 j109 =>
M.put h98 (Addr.add a108 (j109 * 1)) (.string s107) fun h110 =>
J59 () h110))) ∧
(M.b2s h96 a93 l94 fun s111 =>
M.still h53 (Addr.add (Addr.add a60 (j61 * 6)) 3) 1 h96 (
M.new h96 (.cells (#[(.int .u8 n63), (.int .u8 z64)] : Array Value) 5) fun b112 h113 =>
M.b2s h113 (some (⟨b112, 0, none⟩ : Addr)) 2 fun s114 =>
M.cat s114 s111 fun s115 =>
M.idx a15 l16 z58 fun a116 j117 =>
M.put h113 (Addr.add a116 (j117 * 1)) (.string s115) fun h118 =>
J59 () h118)))))) ∧
(M.mk h53 5 [(.int .u8 (0 : Int))] 1 (30 : Int) (30 : Int) fun a119 l120 c121 h122 =>
M.still h53 (Addr.add (Addr.add a60 (j61 * 6)) 3) 1 h122 (
(M.val (IntKind.wrap .u8 d49.1) fun z123 =>
M.still h53 (Addr.add (Addr.add a60 (j61 * 6)) 3) 1 h122 (
(M.new h122 (.cells (#[(.int .u8 n63), (.int .u8 z123)] : Array Value) 5) fun b124 h125 =>
(M.b2s h125 (some (⟨b124, 0, none⟩ : Addr)) 2 fun s126 =>
M.b2s h125 a119 l120 fun s127 =>
M.still h53 (Addr.add (Addr.add a60 (j61 * 6)) 3) 1 h125 (
M.cat s126 s127 fun s128 =>
M.idx a15 l16 z58 fun a129 j130 =>
M.put h125 (Addr.add a129 (j130 * 1)) (.string s128) fun h131 =>
J59 () h131)) ∧
(M.b2s h125 a119 l120 fun s132 =>
M.still h53 (Addr.add (Addr.add a60 (j61 * 6)) 3) 1 h125 (
M.b2s h125 (some (⟨b124, 0, none⟩ : Addr)) 2 fun s133 =>
M.cat s133 s132 fun s134 =>
M.idx a15 l16 z58 fun a135 j136 =>
M.put h125 (Addr.add a135 (j136 * 1)) (.string s134) fun h137 =>
J59 () h137))) ∧
(M.b2s h122 a119 l120 fun s138 =>
M.still h53 (Addr.add (Addr.add a60 (j61 * 6)) 3) 1 h122 (
M.new h122 (.cells (#[(.int .u8 n63), (.int .u8 z123)] : Array Value) 5) fun b139 h140 =>
M.b2s h140 (some (⟨b139, 0, none⟩ : Addr)) 2 fun s141 =>
M.cat s141 s138 fun s142 =>
M.idx a15 l16 z58 fun a143 j144 =>
M.put h140 (Addr.add a143 (j144 * 1)) (.string s142) fun h145 =>
J59 () h145)))) ∧
(M.b2s h122 a119 l120 fun s146 =>
M.still h53 (Addr.add (Addr.add a60 (j61 * 6)) 3) 1 h122 (
M.val (IntKind.wrap .u8 d49.1) fun z147 =>
M.still h53 (Addr.add (Addr.add a60 (j61 * 6)) 3) 1 h122 (
M.new h122 (.cells (#[(.int .u8 n63), (.int .u8 z147)] : Array Value) 5) fun b148 h149 =>
M.b2s h149 (some (⟨b148, 0, none⟩ : Addr)) 2 fun s150 =>
M.cat s150 s146 fun s151 =>
M.idx a15 l16 z58 fun a152 j153 =>
M.put h149 (Addr.add a152 (j153 * 1)) (.string s151) fun h154 =>
J59 () h154))))))
else
M.val (IntKind.wrap .i64 (d49.2.2 + (1 : Int))) fun z187 =>
J48 (d49.1, (d49.2.1.1, d49.2.1.2.1, d49.2.1.2.2), z187) h53)) fun J51 =>
(bif (decide (d49.1 < ((x_lL : Nat) : Int))) then
J51 (decide (d49.1 < (30 : Int))) h50
else
J51 false h50)
else
J41 (d49.1, (d49.2.1.1, d49.2.1.2.1, d49.2.1.2.2)) h50)) (d36, (none, 0, 0), (0 : Int)) h40)
else
J34 () h40)) fun J38 =>
(bif (decide (d36 < ((x_lL : Nat) : Int))) then
J38 (decide (d36 < (30 : Int))) h37
else
J38 false h37)) (0 : Int) h33) fun J19 =>
M.loop (α := Int) (fun J20 d21 h22 =>
(bif (decide (d21 < ((l16 : Nat) : Int))) then
M.mk h22 5 [(.int .u8 (0 : Int))] 1 (32 : Int) (32 : Int) fun a23 l24 c25 h26 =>
M.b2s h26 a23 l24 fun s27 =>
M.idx a15 l16 d21 fun a28 j29 =>
M.put h26 (Addr.add a28 (j29 * 1)) (.string s27) fun h30 =>
M.val (IntKind.wrap .i64 (d21 + (1 : Int))) fun z31 =>
J20 z31 h30
else
J19 () h22)) (0 : Int) h18)) fun J10 =>
law17_wakes'  h9 fun b11 h12 =>
(bif (!b11) then
J10 true h12
else
J10 (!b8) h12)))
def law17_SlabKeeps (x_n : Int) (x_key : Array Value) (x_l : Option Addr) (x_lL : Nat) (x_lC : Nat) (h : H) (Q : Bool → H → Prop) : Prop := law17_SlabKeeps.g law17_begin law17_wakes slab_Slab_Seal slab_Slab_Prepare slab_Slab_Apply slab_Slab_Get slab_Slab_Bad x_n x_key x_l x_lL x_lC h Q
def law17_SlabKeeps.L (F : Int → Array Value → Option Addr → Nat → Nat → H → (Bool → H → Prop) → Prop) : List Value → (Value → H → Prop) → H → Prop
  | [.int .i64 x_n, .agg x_key, .slice x_l x_lL x_lC] => fun Q h => F x_n x_key x_l x_lL x_lC h fun b273 h274 => Q (.bool b273) h274
  | _ => fun _ _ => False
def law17_SlabKeeps.W : W := fun args => law17_SlabKeeps.L law17_SlabKeeps args.toList
def law17_SlabKeeps.ann : Ann := ⟨lookN [(3, [(39, .bool)]), (12, [(60, .bool)]), (16, [(78, .bool)]), (18, []), (26, [(155, .bool)]), (33, [(186, .bool)])], lookN [(63, []), (127, []), (255, []), (16293, [(12, .int .i64), (13, .slc)])], lookN [(506, [(44, .int .i64)]), (1018, [(12, .int .i64)]), (2042, [(162, .int .i64)]), (130346, [(12, .int .i64), (13, .slc), (69, .int .i64)])]⟩
theorem law17_SlabKeeps.geq (law17_begin' : Int → Int → Array Value → H → (Option Addr → Bool → H → Prop) → Prop) (law17_wakes' : H → (Bool → H → Prop) → Prop) (slab_Slab_Seal' : Option Addr → Int → Int → ByteArray → Int → ByteArray → ByteArray → H → (ByteArray → Int → H → Prop) → Prop) (slab_Slab_Prepare' : Option Addr → Int → Int → ByteArray → ByteArray → Option Addr → Nat → Nat → H → (Option Addr → Nat → Nat → ByteArray → Int → H → Prop) → Prop) (slab_Slab_Apply' : Option Addr → Int → Int → ByteArray → Option Addr → Nat → Nat → H → (Int → H → Prop) → Prop) (slab_Slab_Get' : Option Addr → Int → Int → ByteArray → ByteArray → Int → H → (ByteArray → Int → H → Prop) → Prop) (slab_Slab_Bad' : Option Addr → Int → Int → ByteArray → ByteArray → H → (Option Addr → Nat → Nat → H → Prop) → Prop) (x_n : Int) (x_key : Array Value) (x_l : Option Addr) (x_lL : Nat) (x_lC : Nat) (Q : Value → H → Prop) (h : H) : evF Tryz.prog (envOf [(12, fun args => law17_begin.L law17_begin' args.toList), (13, fun args => law17_wakes.L law17_wakes' args.toList), (14, fun args => slab_Slab_Seal.L slab_Slab_Seal' args.toList), (15, fun args => slab_Slab_Prepare.L slab_Slab_Prepare' args.toList), (16, fun args => slab_Slab_Apply.L slab_Slab_Apply' args.toList), (17, fun args => slab_Slab_Get.L slab_Slab_Get' args.toList), (18, fun args => slab_Slab_Bad.L slab_Slab_Bad' args.toList)]) Tryz.f3 law17_SlabKeeps.ann [(.int .i64 x_n), (.agg x_key), (.slice x_l x_lL x_lC)] Q h = law17_SlabKeeps.g law17_begin' law17_wakes' slab_Slab_Seal' slab_Slab_Prepare' slab_Slab_Apply' slab_Slab_Get' slab_Slab_Bad' x_n x_key x_l x_lL x_lC h fun b273 h274 => Q (.bool b273) h274 := by kernel_rfl
theorem law17_SlabKeeps.W_eq (x_n : Int) (x_key : Array Value) (x_l : Option Addr) (x_lL : Nat) (x_lC : Nat) (Q : Value → H → Prop) (h : H) : law17_SlabKeeps.W #[(.int .i64 x_n), (.agg x_key), (.slice x_l x_lL x_lC)] Q h = law17_SlabKeeps x_n x_key x_l x_lL x_lC h fun b273 h274 => Q (.bool b273) h274 := by kernel_rfl
theorem law17_SlabKeeps.good : FnGood Tryz.prog 3 law17_SlabKeeps.W := by
  refine FnGood.of (ann := law17_SlabKeeps.ann) (env := envOf [(12, fun args => law17_begin.L law17_begin args.toList), (13, fun args => law17_wakes.L law17_wakes args.toList), (14, fun args => slab_Slab_Seal.L slab_Slab_Seal args.toList), (15, fun args => slab_Slab_Prepare.L slab_Slab_Prepare args.toList), (16, fun args => slab_Slab_Apply.L slab_Slab_Apply args.toList), (17, fun args => slab_Slab_Get.L slab_Slab_Get args.toList), (18, fun args => slab_Slab_Bad.L slab_Slab_Bad args.toList)]) mixed (EnvGood.cons law17_begin.good (EnvGood.cons law17_wakes.good (EnvGood.cons slab_Slab_Seal.good (EnvGood.cons slab_Slab_Prepare.good (EnvGood.cons slab_Slab_Apply.good (EnvGood.cons slab_Slab_Get.good (EnvGood.cons slab_Slab_Bad.good EnvGood.nil))))))) Tryz.func3 Tryz.call3 fun args => ?_
  show law17_SlabKeeps.L law17_SlabKeeps args.toList = _ ∨ ∀ Q m, evF Tryz.prog (envOf [(12, fun args => law17_begin.L law17_begin args.toList), (13, fun args => law17_wakes.L law17_wakes args.toList), (14, fun args => slab_Slab_Seal.L slab_Slab_Seal args.toList), (15, fun args => slab_Slab_Prepare.L slab_Slab_Prepare args.toList), (16, fun args => slab_Slab_Apply.L slab_Slab_Apply args.toList), (17, fun args => slab_Slab_Get.L slab_Slab_Get args.toList), (18, fun args => slab_Slab_Bad.L slab_Slab_Bad args.toList)]) Tryz.f3 law17_SlabKeeps.ann args.toList Q m = law17_SlabKeeps.L law17_SlabKeeps args.toList Q m
  generalize args.toList = l
  unfold law17_SlabKeeps.L
  split
  · exact .inr fun Q m => law17_SlabKeeps.geq law17_begin law17_wakes slab_Slab_Seal slab_Slab_Prepare slab_Slab_Apply slab_Slab_Get slab_Slab_Bad _ _ _ _ _ Q m
  · exact .inl rfl
def law17_SlabForm.g (bank_New' : Int → Int → H → (Option Addr → H → Prop) → Prop) (slab_Slab_Seal' : Option Addr → Int → Int → ByteArray → Int → ByteArray → ByteArray → H → (ByteArray → Int → H → Prop) → Prop) (slab_Slab_Get' : Option Addr → Int → Int → ByteArray → ByteArray → Int → H → (ByteArray → Int → H → Prop) → Prop) (slab_Slab_Prepare' : Option Addr → Int → Int → ByteArray → ByteArray → Option Addr → Nat → Nat → H → (Option Addr → Nat → Nat → ByteArray → Int → H → Prop) → Prop) (slab_Slab_Blank' : Option Addr → Int → Int → ByteArray → H → (Option Addr → Nat → Nat → ByteArray → Int → H → Prop) → Prop) (slab_Slab_Apply' : Option Addr → Int → Int → ByteArray → Option Addr → Nat → Nat → H → (Int → H → Prop) → Prop) (slab_Slab_Bad' : Option Addr → Int → Int → ByteArray → ByteArray → H → (Option Addr → Nat → Nat → H → Prop) → Prop) (law17_wakes' : H → (Bool → H → Prop) → Prop) (x_slots : Int) (x_disk : Int) (x_key : ByteArray) (h : H) (Q : Bool → H → Prop) : Prop :=
bank_New' (2 : Int) (140 : Int) h fun p2 h3 =>
M.join (α := Bool) (fun d5 h6 =>
M.new h6 (.cells (#[(.pointer p2), (.int .i64 x_disk), (.int .i64 x_slots), (.string x_key), (.pointer none), (.int .i64 x_disk), (.int .i64 x_slots), (.string x_key)] : Array Value) 37) fun b7 h8 =>
M.loop (α := Int) (fun J9 d10 h11 =>
(bif (decide (d10 < ((2 : Nat) : Int))) then
M.idx (some (⟨b7, 0, none⟩ : Addr)) 2 d10 fun a12 j13 =>
M.load h11 ((Addr.add a12 (j13 * 4)).add 0) fun v14 =>
M.ptr v14 fun p15 =>
M.load h11 ((Addr.add a12 (j13 * 4)).add 1) fun v16 =>
M.int .i64 v16 fun n17 =>
M.load h11 ((Addr.add a12 (j13 * 4)).add 2) fun v18 =>
M.int .i64 v18 fun n19 =>
M.load h11 ((Addr.add a12 (j13 * 4)).add 3) fun v20 =>
M.str v20 fun s21 =>
M.new h11 (.cells (#[(.pointer none), (.int .i64 (0 : Int)), (.int .i64 (0 : Int)), (.string (ByteArray.empty))] : Array Value) 37) fun b22 h23 =>
M.req (Array.size (#[(.pointer p15), (.int .i64 n17), (.int .i64 n19), (.string s21)] : Array Value) = 4) (M.puts h23 (⟨b22, 0, none⟩ : Addr) [(.pointer p15), (.int .i64 n17), (.int .i64 n19), (.string s21)] fun h24 =>
M.join (α := Bool) (fun d28 h29 =>
M.load h29 ((⟨b22, 0, none⟩ : Addr).add 0) fun v30 =>
M.ptr v30 fun p31 =>
M.load h29 ((⟨b22, 0, none⟩ : Addr).add 1) fun v32 =>
M.int .i64 v32 fun n33 =>
M.load h29 ((⟨b22, 0, none⟩ : Addr).add 2) fun v34 =>
M.int .i64 v34 fun n35 =>
M.load h29 ((⟨b22, 0, none⟩ : Addr).add 3) fun v36 =>
M.str v36 fun s37 =>
M.mk h29 5 [(.int .u8 (0 : Int))] 1 (32 : Int) (32 : Int) fun a38 l39 c40 h41 =>
M.still h29 (⟨b22, 0, none⟩ : Addr) 4 h41 (
M.b2s h41 a38 l39 fun s42 =>
M.still h29 (⟨b22, 0, none⟩ : Addr) 4 h41 (
slab_Slab_Seal' p31 n33 n35 s37 (0 : Int) (⟨#[49, 50, 51, 52, 53, 54, 55, 56, 57, 48, 49, 50]⟩ : ByteArray) s42 h41 fun s43 n44 h45 =>
M.load h45 ((⟨b22, 0, none⟩ : Addr).add 0) fun v46 =>
M.ptr v46 fun p47 =>
M.load h45 ((⟨b22, 0, none⟩ : Addr).add 1) fun v48 =>
M.int .i64 v48 fun n49 =>
M.load h45 ((⟨b22, 0, none⟩ : Addr).add 2) fun v50 =>
M.int .i64 v50 fun n51 =>
M.load h45 ((⟨b22, 0, none⟩ : Addr).add 3) fun v52 =>
M.str v52 fun s53 =>
slab_Slab_Get' p47 n49 n51 s53 (ByteArray.empty) (0 : Int) h45 fun s54 n55 h56 =>
M.load h56 ((⟨b22, 0, none⟩ : Addr).add 0) fun v57 =>
M.ptr v57 fun p58 =>
M.load h56 ((⟨b22, 0, none⟩ : Addr).add 1) fun v59 =>
M.int .i64 v59 fun n60 =>
M.load h56 ((⟨b22, 0, none⟩ : Addr).add 2) fun v61 =>
M.int .i64 v61 fun n62 =>
M.load h56 ((⟨b22, 0, none⟩ : Addr).add 3) fun v63 =>
M.str v63 fun s64 =>
slab_Slab_Prepare' p58 n60 n62 s64 (ByteArray.empty) none 0 0 h56 fun a65 l66 c67 s68 n69 h70 =>
M.load h70 ((⟨b22, 0, none⟩ : Addr).add 0) fun v71 =>
M.ptr v71 fun p72 =>
M.load h70 ((⟨b22, 0, none⟩ : Addr).add 1) fun v73 =>
M.int .i64 v73 fun n74 =>
M.load h70 ((⟨b22, 0, none⟩ : Addr).add 2) fun v75 =>
M.int .i64 v75 fun n76 =>
M.load h70 ((⟨b22, 0, none⟩ : Addr).add 3) fun v77 =>
M.str v77 fun s78 =>
slab_Slab_Blank' p72 n74 n76 s78 h70 fun a79 l80 c81 s82 n83 h84 =>
M.load h84 ((⟨b22, 0, none⟩ : Addr).add 0) fun v85 =>
M.ptr v85 fun p86 =>
M.load h84 ((⟨b22, 0, none⟩ : Addr).add 1) fun v87 =>
M.int .i64 v87 fun n88 =>
M.load h84 ((⟨b22, 0, none⟩ : Addr).add 2) fun v89 =>
M.int .i64 v89 fun n90 =>
M.load h84 ((⟨b22, 0, none⟩ : Addr).add 3) fun v91 =>
M.str v91 fun s92 =>
slab_Slab_Apply' p86 n88 n90 s92 none 0 0 h84 fun n93 h94 =>
M.join (α := Bool) (fun d108 h109 =>
(bif d108 then
Q false h109
else
M.val (IntKind.wrap .i64 (d10 + (1 : Int))) fun z110 =>
J9 z110 h109)) fun J95 =>
(bif (!((n44 == (4 : Int)) == d28)) then
J95 true h94
else
(bif (!((n55 == (4 : Int)) == d28)) then
J95 true h94
else
(bif (!((n69 == (4 : Int)) == d28)) then
J95 true h94
else
(bif (!((n83 == (4 : Int)) == d28)) then
J95 true h94
else
(bif (!((n93 == (4 : Int)) == d28)) then
J95 true h94
else
(bif d28 then
M.load h94 ((⟨b22, 0, none⟩ : Addr).add 0) fun v96 =>
M.ptr v96 fun p97 =>
M.load h94 ((⟨b22, 0, none⟩ : Addr).add 1) fun v98 =>
M.int .i64 v98 fun n99 =>
M.load h94 ((⟨b22, 0, none⟩ : Addr).add 2) fun v100 =>
M.int .i64 v100 fun n101 =>
M.load h94 ((⟨b22, 0, none⟩ : Addr).add 3) fun v102 =>
M.str v102 fun s103 =>
slab_Slab_Bad' p97 n99 n101 s103 (ByteArray.empty) h94 fun a104 l105 c106 h107 =>
J95 (((l105 : Nat) : Int) != (0 : Int)) h107
else
J95 false h94))))))))) fun J25 =>
(bif (!d5) then
J25 true h24
else
M.load h24 (Addr.add (⟨b22, 0, none⟩ : Addr) 0) fun v26 =>
M.ptr v26 fun p27 =>
J25 (Option.isNone p27) h24))
else
law17_wakes'  h11 fun b111 h112 =>
Q b111 h112)) (0 : Int) h8) fun J4 =>
(bif (x_slots == (2 : Int)) then
(bif (x_disk == (0 : Int)) then
J4 ((ByteArray.size x_key : Int) == (32 : Int)) h3
else
(bif (x_disk == (1 : Int)) then
J4 ((ByteArray.size x_key : Int) == (32 : Int)) h3
else
J4 false h3))
else
(bif (x_slots == (4 : Int)) then
(bif (x_disk == (0 : Int)) then
J4 ((ByteArray.size x_key : Int) == (32 : Int)) h3
else
(bif (x_disk == (1 : Int)) then
J4 ((ByteArray.size x_key : Int) == (32 : Int)) h3
else
J4 false h3))
else
(bif (x_slots == (8 : Int)) then
(bif (x_disk == (0 : Int)) then
J4 ((ByteArray.size x_key : Int) == (32 : Int)) h3
else
(bif (x_disk == (1 : Int)) then
J4 ((ByteArray.size x_key : Int) == (32 : Int)) h3
else
J4 false h3))
else
(bif (x_slots == (16 : Int)) then
(bif (x_disk == (0 : Int)) then
J4 ((ByteArray.size x_key : Int) == (32 : Int)) h3
else
(bif (x_disk == (1 : Int)) then
J4 ((ByteArray.size x_key : Int) == (32 : Int)) h3
else
J4 false h3))
else
J4 false h3))))
def law17_SlabForm (x_slots : Int) (x_disk : Int) (x_key : ByteArray) (h : H) (Q : Bool → H → Prop) : Prop := law17_SlabForm.g bank_New slab_Slab_Seal slab_Slab_Get slab_Slab_Prepare slab_Slab_Blank slab_Slab_Apply slab_Slab_Bad law17_wakes x_slots x_disk x_key h Q
def law17_SlabForm.L (F : Int → Int → ByteArray → H → (Bool → H → Prop) → Prop) : List Value → (Value → H → Prop) → H → Prop
  | [.int .i64 x_slots, .int .i64 x_disk, .string x_key] => fun Q h => F x_slots x_disk x_key h fun b115 h116 => Q (.bool b115) h116
  | _ => fun _ _ => False
def law17_SlabForm.W : W := fun args => law17_SlabForm.L law17_SlabForm args.toList
def law17_SlabForm.ann : Ann := ⟨lookN [(2, [(8, .bool)]), (6, [(11, .bool)]), (12, [(135, .bool)])], lookN [], lookN [(122, [(62, .int .i64)])]⟩
theorem law17_SlabForm.geq (bank_New' : Int → Int → H → (Option Addr → H → Prop) → Prop) (slab_Slab_Seal' : Option Addr → Int → Int → ByteArray → Int → ByteArray → ByteArray → H → (ByteArray → Int → H → Prop) → Prop) (slab_Slab_Get' : Option Addr → Int → Int → ByteArray → ByteArray → Int → H → (ByteArray → Int → H → Prop) → Prop) (slab_Slab_Prepare' : Option Addr → Int → Int → ByteArray → ByteArray → Option Addr → Nat → Nat → H → (Option Addr → Nat → Nat → ByteArray → Int → H → Prop) → Prop) (slab_Slab_Blank' : Option Addr → Int → Int → ByteArray → H → (Option Addr → Nat → Nat → ByteArray → Int → H → Prop) → Prop) (slab_Slab_Apply' : Option Addr → Int → Int → ByteArray → Option Addr → Nat → Nat → H → (Int → H → Prop) → Prop) (slab_Slab_Bad' : Option Addr → Int → Int → ByteArray → ByteArray → H → (Option Addr → Nat → Nat → H → Prop) → Prop) (law17_wakes' : H → (Bool → H → Prop) → Prop) (x_slots : Int) (x_disk : Int) (x_key : ByteArray) (Q : Value → H → Prop) (h : H) : evF Tryz.prog (envOf [(19, fun args => bank_New.L bank_New' args.toList), (14, fun args => slab_Slab_Seal.L slab_Slab_Seal' args.toList), (17, fun args => slab_Slab_Get.L slab_Slab_Get' args.toList), (15, fun args => slab_Slab_Prepare.L slab_Slab_Prepare' args.toList), (20, fun args => slab_Slab_Blank.L slab_Slab_Blank' args.toList), (16, fun args => slab_Slab_Apply.L slab_Slab_Apply' args.toList), (18, fun args => slab_Slab_Bad.L slab_Slab_Bad' args.toList), (13, fun args => law17_wakes.L law17_wakes' args.toList)]) Tryz.f4 law17_SlabForm.ann [(.int .i64 x_slots), (.int .i64 x_disk), (.string x_key)] Q h = law17_SlabForm.g bank_New' slab_Slab_Seal' slab_Slab_Get' slab_Slab_Prepare' slab_Slab_Blank' slab_Slab_Apply' slab_Slab_Bad' law17_wakes' x_slots x_disk x_key h fun b115 h116 => Q (.bool b115) h116 := by kernel_rfl
theorem law17_SlabForm.W_eq (x_slots : Int) (x_disk : Int) (x_key : ByteArray) (Q : Value → H → Prop) (h : H) : law17_SlabForm.W #[(.int .i64 x_slots), (.int .i64 x_disk), (.string x_key)] Q h = law17_SlabForm x_slots x_disk x_key h fun b115 h116 => Q (.bool b115) h116 := by kernel_rfl
theorem law17_SlabForm.good : FnGood Tryz.prog 4 law17_SlabForm.W := by
  refine FnGood.of (ann := law17_SlabForm.ann) (env := envOf [(19, fun args => bank_New.L bank_New args.toList), (14, fun args => slab_Slab_Seal.L slab_Slab_Seal args.toList), (17, fun args => slab_Slab_Get.L slab_Slab_Get args.toList), (15, fun args => slab_Slab_Prepare.L slab_Slab_Prepare args.toList), (20, fun args => slab_Slab_Blank.L slab_Slab_Blank args.toList), (16, fun args => slab_Slab_Apply.L slab_Slab_Apply args.toList), (18, fun args => slab_Slab_Bad.L slab_Slab_Bad args.toList), (13, fun args => law17_wakes.L law17_wakes args.toList)]) mixed (EnvGood.cons bank_New.good (EnvGood.cons slab_Slab_Seal.good (EnvGood.cons slab_Slab_Get.good (EnvGood.cons slab_Slab_Prepare.good (EnvGood.cons slab_Slab_Blank.good (EnvGood.cons slab_Slab_Apply.good (EnvGood.cons slab_Slab_Bad.good (EnvGood.cons law17_wakes.good EnvGood.nil)))))))) Tryz.func4 Tryz.call4 fun args => ?_
  show law17_SlabForm.L law17_SlabForm args.toList = _ ∨ ∀ Q m, evF Tryz.prog (envOf [(19, fun args => bank_New.L bank_New args.toList), (14, fun args => slab_Slab_Seal.L slab_Slab_Seal args.toList), (17, fun args => slab_Slab_Get.L slab_Slab_Get args.toList), (15, fun args => slab_Slab_Prepare.L slab_Slab_Prepare args.toList), (20, fun args => slab_Slab_Blank.L slab_Slab_Blank args.toList), (16, fun args => slab_Slab_Apply.L slab_Slab_Apply args.toList), (18, fun args => slab_Slab_Bad.L slab_Slab_Bad args.toList), (13, fun args => law17_wakes.L law17_wakes args.toList)]) Tryz.f4 law17_SlabForm.ann args.toList Q m = law17_SlabForm.L law17_SlabForm args.toList Q m
  generalize args.toList = l
  unfold law17_SlabForm.L
  split
  · exact .inr fun Q m => law17_SlabForm.geq bank_New slab_Slab_Seal slab_Slab_Get slab_Slab_Prepare slab_Slab_Blank slab_Slab_Apply slab_Slab_Bad law17_wakes _ _ _ Q m
  · exact .inl rfl
end Go.Proofs.YthegnmanjdlmjaaGreatDoor

/- The shallow forms of the functions of this seat, printed by a program of mine, each checked by the kernel against the given code. -/
import Derived.Test.YthegnmanjdlmjaaGreatDoorP05
set_option linter.unusedSimpArgs false
set_option linter.unusedVariables false
namespace Go.Proofs.YthegnmanjdlmjaaGreatDoor
open Go.Sh
def ref17_Bad.g (F0:type_of% ref17_Good) (F1:type_of% ref17_Get) (x0_0:Option Addr) (x0_1 x0_2:Int) (x0_3 x1:ByteArray) (h:H) (Q:Option Addr→Nat→Nat→H→Prop):Prop:=
M.new h (.cells #[.pointer x0_0,.int .i64 x0_1,.int .i64 x0_2,.string x0_3] 40) fun b4 h5=>
M.load h5 (Addr.add ⟨b4,0,none⟩ 0) fun v6=>
M.ptr v6 fun p7=>
M.load h5 (Addr.add ⟨b4,0,none⟩ 1) fun v8=>
M.int .i64 v8 fun n9=>
M.load h5 (Addr.add ⟨b4,0,none⟩ 2) fun v10=>
M.int .i64 v10 fun n11=>
M.load h5 (Addr.add ⟨b4,0,none⟩ 3) fun v12=>
M.str v12 fun s13=>
F0 p7 n9 n11 s13 h5 fun b14 h15=>
(bif (!b14) then
Q none 0 0 h15
else
M.loop (α:=(Option Addr × Nat × Nat) × Int) (fun J16 d17 h18=>
M.load h18 (Addr.add ⟨b4,0,none⟩ 2) fun v19=>
M.int .i64 v19 fun n20=>
(bif (decide (d17.2<n20)) then
M.join (α:=(Option Addr × Nat × Nat)) (fun d40 h41=>
M.val (IntKind.wrap .i64 (d17.2+1)) fun z42=>
J16 ((d40.1,d40.2.1,d40.2.2),z42) h41) fun J21=>
M.load h18 (Addr.add ⟨b4,0,none⟩ 0) fun v22=>
M.ptr v22 fun p23=>
M.load h18 (Addr.add ⟨b4,0,none⟩ 1) fun v24=>
M.int .i64 v24 fun n25=>
M.load h18 (Addr.add ⟨b4,0,none⟩ 2) fun v26=>
M.int .i64 v26 fun n27=>
M.load h18 (Addr.add ⟨b4,0,none⟩ 3) fun v28=>
M.str v28 fun s29=>
F1 p23 n25 n27 s29 x1 d17.2 h18 fun s30 n31 h32=>
(bif (n31 != 0) then
M.new h32 (.cells #[.int .i64 d17.2] 3) fun b33 h34=>
M.cellsOf h34 (some ⟨b33,0,none⟩) (1*1) fun cs39=>
M.app h34 3 1 8 [.int .i64 0] d17.1.1 d17.1.2.1 d17.1.2.2 1 cs39 fun a35 l36 c37 h38=>
J21 (a35,l36,c37) h38
else
J21 (d17.1.1,d17.1.2.1,d17.1.2.2) h32)
else
Q d17.1.1 d17.1.2.1 d17.1.2.2 h18)) ((none,0,0),0) h15)
def ref17_Bad:=ref17_Bad.g ref17_Good ref17_Get
def ref17_Bad.L (F:type_of% ref17_Bad):LT
 | [.agg ⟨[.pointer x0_0,.int .i64 x0_1,.int .i64 x0_2,.string x0_3]⟩,.string x1]=>fun Q h=>F x0_0 x0_1 x0_2 x0_3 x1 h fun a47 l48 c49 h50=>Q (.slice a47 l48 c49) h50
 | _=>fun _ _=>False
def ref17_Bad.ann:Ann:=⟨lookN [],lookN [(1001,[(5,.slc)])],lookN [(250,[(5,.slc),(7,.int .i64)])]⟩
theorem ref17_Bad.geq (F0) (F1):∀ l,OkL (evF Tryz.prog (envOf [(89,WL (ref17_Good.L F0)),(76,WL (ref17_Get.L F1))]) Tryz.f70 ref17_Bad.ann) l (ref17_Bad.L (ref17_Bad.g F0 F1) l):=by
 intro l; unfold ref17_Bad.L; split; exact .inr (by intros; kernel_rfl); exact .inl rfl
theorem ref17_Bad.good:FnGood Tryz.prog 70 (WL (ref17_Bad.L ref17_Bad)):=.ofL mixed (.cons ref17_Good.good (.cons ref17_Get.good .nil)) Tryz.func70 Tryz.call70 (ref17_Bad.geq ref17_Good ref17_Get)
def law17_begin.g (F0:type_of% bank_New) (F1:type_of% ref10_New) (F2:type_of% slab_Slab_Blank) (F3:type_of% ref17_Blank) (F4:type_of% law17_sameWrites) (F5:type_of% slab_Slab_Apply) (F6:type_of% ref17_Apply) (x0 x1:Int) (x2:Array Value) (h:H) (Q:Option Addr→Bool→H→Prop):Prop:=
M.new h (.cells x2 22) fun b3 h4=>
F0 2 140 h4 fun p5 h6=>
F1 2 140 h6 fun p7 h8=>
M.join (α:=Addr) (fun d24 h25=>
M.nn (some d24) fun a26=>
M.load h25 ((Addr.add a26 0).add 0) fun v27=>
M.ptr v27 fun p28=>
M.load h25 ((Addr.add a26 0).add 1) fun v29=>
M.int .i64 v29 fun n30=>
M.load h25 ((Addr.add a26 0).add 2) fun v31=>
M.int .i64 v31 fun n32=>
M.load h25 ((Addr.add a26 0).add 3) fun v33=>
M.str v33 fun s34=>
F2 p28 n30 n32 s34 h25 fun a35 l36 c37 s38 n39 h40=>
M.nn (some d24) fun a41=>
M.load h40 ((Addr.add a41 4).add 0) fun v42=>
M.ptr v42 fun p43=>
M.load h40 ((Addr.add a41 4).add 1) fun v44=>
M.int .i64 v44 fun n45=>
M.load h40 ((Addr.add a41 4).add 2) fun v46=>
M.int .i64 v46 fun n47=>
M.load h40 ((Addr.add a41 4).add 3) fun v48=>
M.str v48 fun s49=>
F3 p43 n45 n47 s49 h40 fun a50 l51 c52 s53 n54 h55=>
M.join (α:=Bool) (fun d81 h82=>
(bif d81 then
Q (some d24) false h82
else
M.nn (some d24) fun a83=>
M.put h82 (Addr.add a83 8) (.string s38) fun h84=>
Q (some d24) true h84)) fun J56=>
F4 a35 l36 c37 a50 l51 c52 h55 fun b57 h58=>
(bif (!b57) then
J56 true h58
else
(bif (!strEq s38 s53) then
J56 true h58
else
(bif (n39 != n54) then
J56 true h58
else
M.nn (some d24) fun a59=>
M.load h58 ((Addr.add a59 0).add 0) fun v60=>
M.ptr v60 fun p61=>
M.load h58 ((Addr.add a59 0).add 1) fun v62=>
M.int .i64 v62 fun n63=>
M.load h58 ((Addr.add a59 0).add 2) fun v64=>
M.int .i64 v64 fun n65=>
M.load h58 ((Addr.add a59 0).add 3) fun v66=>
M.str v66 fun s67=>
M.nn (some d24) fun a68=>
M.load h58 ((Addr.add a68 4).add 0) fun v69=>
M.ptr v69 fun p70=>
M.load h58 ((Addr.add a68 4).add 1) fun v71=>
M.int .i64 v71 fun n72=>
M.load h58 ((Addr.add a68 4).add 2) fun v73=>
M.int .i64 v73 fun n74=>
M.load h58 ((Addr.add a68 4).add 3) fun v75=>
M.str v75 fun s76=>
F5 p61 n63 n65 s67 a35 l36 c37 h58 fun n77 h78=>
M.still h58 (Addr.add a68 4) 4 h78 (
F6 p70 n72 n74 s76 a50 l51 c52 h78 fun n79 h80=>
J56 (n77 != n79) h80))))) fun J9=>
M.sub (some ⟨b3,0,none⟩) 32 1 0 ((32:Nat):Int) fun a10 l11 c12=>
M.sub (some ⟨b3,0,none⟩) 32 1 0 ((32:Nat):Int) fun a13 l14 c15=>
(M.b2s h8 a10 l11 fun s16=>
M.b2s h8 a13 l14 fun s17=>
M.new h8 (.cells #[.pointer p5,.int .i64 x1,.int .i64 x0,.string s16,.pointer p7,.int .i64 x1,.int .i64 x0,.string s17,.string ByteArray.empty] 42) fun b18 h19=>
J9 ⟨b18,0,none⟩ h19) ∧
(M.b2s h8 a13 l14 fun s20=>
M.b2s h8 a10 l11 fun s21=>
M.new h8 (.cells #[.pointer p5,.int .i64 x1,.int .i64 x0,.string s21,.pointer p7,.int .i64 x1,.int .i64 x0,.string s20,.string ByteArray.empty] 42) fun b22 h23=>
J9 ⟨b22,0,none⟩ h23)
def law17_begin:=law17_begin.g bank_New ref10_New slab_Slab_Blank ref17_Blank law17_sameWrites slab_Slab_Apply ref17_Apply
def law17_begin.L (F:type_of% law17_begin):LT
 | [.int .i64 x0,.int .i64 x1,.agg x2]=>fun Q h=>F x0 x1 x2 h fun p88 b89 h90=>Q (.tuple #[.pointer p88,.bool b89]) h90
 | _=>fun _ _=>False
def law17_begin.ann:Ann:=⟨lookN [(2,[(10,.adr)]),(5,[(79,.bool)])],lookN [],lookN []⟩
theorem law17_begin.geq (F0) (F1) (F2) (F3) (F4) (F5) (F6):∀ l,OkL (evF Tryz.prog (envOf [(19,WL (bank_New.L F0)),(40,WL (ref10_New.L F1)),(20,WL (slab_Slab_Blank.L F2)),(41,WL (ref17_Blank.L F3)),(42,WL (law17_sameWrites.L F4)),(16,WL (slab_Slab_Apply.L F5)),(43,WL (ref17_Apply.L F6))]) Tryz.f12 law17_begin.ann) l (law17_begin.L (law17_begin.g F0 F1 F2 F3 F4 F5 F6) l):=by
 intro l; unfold law17_begin.L; split; exact .inr (by intros; kernel_rfl); exact .inl rfl
def law17_begin.W:W:=WL (law17_begin.L law17_begin)
theorem law17_begin.good:FnGood Tryz.prog 12 law17_begin.W:=.ofL mixed (.cons bank_New.good (.cons ref10_New.good (.cons slab_Slab_Blank.good (.cons ref17_Blank.good (.cons law17_sameWrites.good (.cons slab_Slab_Apply.good (.cons ref17_Apply.good .nil))))))) Tryz.func12 Tryz.call12 (law17_begin.geq bank_New ref10_New slab_Slab_Blank ref17_Blank law17_sameWrites slab_Slab_Apply ref17_Apply)
def slab_Slab_Prepare.g (F0:type_of% slab_Slab_checked) (F1:type_of% slab_Slab_over) (F2:type_of% sha_Leaf) (F3:type_of% tree_Put) (F4:type_of% tree_Path) (F5:type_of% slab_rising) (x0_0:Option Addr) (x0_1 x0_2:Int) (x0_3 x1:ByteArray) (x2:Option Addr) (x2L x2C:Nat) (h:H) (Q:Option Addr→Nat→Nat→ByteArray→Int→H→Prop):Prop:=
M.new h (.cells #[.pointer x0_0,.int .i64 x0_1,.int .i64 x0_2,.string x0_3] 37) fun b6 h7=>
M.load h7 (Addr.add ⟨b6,0,none⟩ 0) fun v8=>
M.ptr v8 fun p9=>
M.load h7 (Addr.add ⟨b6,0,none⟩ 1) fun v10=>
M.int .i64 v10 fun n11=>
M.load h7 (Addr.add ⟨b6,0,none⟩ 2) fun v12=>
M.int .i64 v12 fun n13=>
M.load h7 (Addr.add ⟨b6,0,none⟩ 3) fun v14=>
M.str v14 fun s15=>
F0 p9 n11 n13 s15 x2 x2L x2C h7 fun n16 h17=>
(bif (n16 != 0) then
Q none 0 0 ByteArray.empty n16 h17
else
M.new h17 (.map #[] 0) fun b18 h19=>
M.new h19 (.map #[] 0) fun b20 h21=>
M.join (α:=ByteArray) (fun d94 h95=>
M.join (α:=(Option Addr × Nat × Nat)) (fun d120 h121=>
M.join (α:=(Option Addr × Nat × Nat)) (fun d146 h147=>
Q d146.1 d146.2.1 d146.2.2 d94 0 h147) fun J122=>
F5 (some b20) h121 fun a123 l124 c125 h126=>
M.loop (α:=(Option Addr × Nat × Nat) × Int) (fun J127 d128 h129=>
(bif (decide (d128.2<(l124:Int))) then
M.idx a123 l124 d128.2 fun a130 j131=>
M.load h129 (Addr.add a130 (j131*1)) fun v132=>
M.int .i64 v132 fun n133=>
M.val (IntKind.wrap .i64 (120+n133)) fun z134=>
M.lk Tryz.prog 107 (.map (some b20)) (.int .i64 n133) h129 fun v135 h136=>
M.str v135 fun s137=>
M.new h136 (.cells #[.int .i64 z134,.string s137] 116) fun b138 h139=>
M.cellsOf h139 (some ⟨b138,0,none⟩) (1*2) fun cs144=>
M.app h139 116 2 24 [.int .i64 0,.string ByteArray.empty] d128.1.1 d128.1.2.1 d128.1.2.2 1 cs144 fun a140 l141 c142 h143=>
M.val (IntKind.wrap .i64 (d128.2+1)) fun z145=>
J127 ((a140,l141,c142),z145) h143
else
J122 (d128.1.1,d128.1.2.1,d128.1.2.2) h129)) ((d120.1,d120.2.1,d120.2.2),0) h126) fun J96=>
F5 (some b18) h95 fun a97 l98 c99 h100=>
M.loop (α:=(Option Addr × Nat × Nat) × Int) (fun J101 d102 h103=>
(bif (decide (d102.2<(l98:Int))) then
M.idx a97 l98 d102.2 fun a104 j105=>
M.load h103 (Addr.add a104 (j105*1)) fun v106=>
M.int .i64 v106 fun n107=>
M.val (IntKind.wrap .i64 (100+n107)) fun z108=>
M.lk Tryz.prog 108 (.map (some b18)) (.int .i64 n107) h103 fun v109 h110=>
M.str v109 fun s111=>
M.new h110 (.cells #[.int .i64 z108,.string s111] 116) fun b112 h113=>
M.cellsOf h113 (some ⟨b112,0,none⟩) (1*2) fun cs118=>
M.app h113 116 2 24 [.int .i64 0,.string ByteArray.empty] d102.1.1 d102.1.2.1 d102.1.2.2 1 cs118 fun a114 l115 c116 h117=>
M.val (IntKind.wrap .i64 (d102.2+1)) fun z119=>
J101 ((a114,l115,c116),z119) h117
else
J96 (d102.1.1,d102.1.2.1,d102.1.2.2) h103)) ((none,0,0),0) h100) fun J22=>
M.loop (α:=ByteArray × Int) (fun J23 d24 h25=>
(bif (decide (d24.2<(x2L:Int))) then
M.idx x2 x2L d24.2 fun a26 j27=>
M.load h25 ((Addr.add a26 (j27*2)).add 0) fun v28=>
M.int .i64 v28 fun n29=>
M.load h25 ((Addr.add a26 (j27*2)).add 1) fun v30=>
M.str v30 fun s31=>
M.new h25 (.cells #[.int .i64 0,.string ByteArray.empty] 45) fun b32 h33=>
M.req (Array.size (#[.int .i64 n29,.string s31]:Array Value)=2) (M.puts h33 ⟨b32,0,none⟩ [.int .i64 n29,.string s31] fun h34=>
M.load h34 (Addr.add ⟨b6,0,none⟩ 0) fun v35=>
M.ptr v35 fun p36=>
M.load h34 (Addr.add ⟨b6,0,none⟩ 1) fun v37=>
M.int .i64 v37 fun n38=>
M.load h34 (Addr.add ⟨b6,0,none⟩ 2) fun v39=>
M.int .i64 v39 fun n40=>
M.load h34 (Addr.add ⟨b6,0,none⟩ 3) fun v41=>
M.str v41 fun s42=>
M.load h34 (Addr.add ⟨b32,0,none⟩ 0) fun v43=>
M.int .i64 v43 fun n44=>
F1 p36 n38 n40 s42 d24.1 n44 (some b18) h34 fun a45 l46 c47 s48 n49 h50=>
(bif (n49 != 0) then
Q none 0 0 ByteArray.empty n49 h50
else
M.load h50 (Addr.add ⟨b32,0,none⟩ 0) fun v51=>
M.int .i64 v51 fun n52=>
M.load h50 (Addr.add ⟨b32,0,none⟩ 1) fun v53=>
M.str v53 fun s54=>
F2 s54 h50 fun s55 h56=>
M.still h50 (Addr.add ⟨b32,0,none⟩ 0) 1 h56 (
F3 n52 a45 l46 c47 s55 h56 fun a57 l58 c59 s60 n61 h62=>
M.load h62 (Addr.add ⟨b6,0,none⟩ 2) fun v63=>
M.int .i64 v63 fun n64=>
M.load h62 (Addr.add ⟨b32,0,none⟩ 0) fun v65=>
M.int .i64 v65 fun n66=>
F4 n64 n66 h62 fun a67 l68 c69 n70 h71=>
M.join (α:=Unit) (fun d86 h87=>
M.load h87 (Addr.add ⟨b32,0,none⟩ 0) fun v88=>
M.int .i64 v88 fun n89=>
M.load h87 (Addr.add ⟨b32,0,none⟩ 1) fun v90=>
M.str v90 fun s91=>
M.mput Tryz.prog 107 (.map (some b20)) (.int .i64 n89) (.string s91) h87 fun h92=>
M.val (IntKind.wrap .i64 (d24.2+1)) fun z93=>
J23 (s60,z93) h92) fun J72=>
M.loop (α:=Int) (fun J73 d74 h75=>
(bif (decide (d74<(l68:Int))) then
M.idx a67 l68 d74 fun a76 j77=>
M.load h75 (Addr.add a76 (j77*1)) fun v78=>
M.int .i64 v78 fun n79=>
M.idx a57 l58 d74 fun a80 j81=>
M.load h75 (Addr.add a80 (j81*1)) fun v82=>
M.str v82 fun s83=>
M.mput Tryz.prog 108 (.map (some b18)) (.int .i64 n79) (.string s83) h75 fun h84=>
M.val (IntKind.wrap .i64 (d74+1)) fun z85=>
J73 z85 h84
else
J72 () h75)) 0 h71)))
else
J22 d24.1 h25)) (x1,0) h21)
def slab_Slab_Prepare:=slab_Slab_Prepare.g slab_Slab_checked slab_Slab_over sha_Leaf tree_Put tree_Path slab_rising
def slab_Slab_Prepare.L (F:type_of% slab_Slab_Prepare):LT
 | [.agg ⟨[.pointer x0_0,.int .i64 x0_1,.int .i64 x0_2,.string x0_3]⟩,.string x1,.slice x2 x2L x2C]=>fun Q h=>F x0_0 x0_1 x0_2 x0_3 x1 x2 x2L x2C h fun a154 l155 c156 s157 n158 h159=>Q (.tuple #[.slice a154 l155 c156,.string s157,.int .i64 n158]) h159
 | _=>fun _ _=>False
def slab_Slab_Prepare.ann:Ann:=⟨lookN [],lookN [(15,[(1,.str)]),(63,[(21,.slc)]),(127,[(21,.slc)]),(125343,[])],lookN [(122,[(1,.str),(36,.int .i64)]),(506,[(21,.slc),(95,.int .i64)]),(1018,[(21,.slc),(112,.int .i64)]),(1002746,[(74,.int .i64)])]⟩
theorem slab_Slab_Prepare.geq (F0) (F1) (F2) (F3) (F4) (F5):∀ l,OkL (evF Tryz.prog (envOf [(47,WL (slab_Slab_checked.L F0)),(48,WL (slab_Slab_over.L F1)),(50,WL (sha_Leaf.L F2)),(49,WL (tree_Put.L F3)),(51,WL (tree_Path.L F4)),(52,WL (slab_rising.L F5))]) Tryz.f15 slab_Slab_Prepare.ann) l (slab_Slab_Prepare.L (slab_Slab_Prepare.g F0 F1 F2 F3 F4 F5) l):=by
 intro l; unfold slab_Slab_Prepare.L; split; exact .inr (by intros; kernel_rfl); exact .inl rfl
theorem slab_Slab_Prepare.good:FnGood Tryz.prog 15 (WL (slab_Slab_Prepare.L slab_Slab_Prepare)):=.ofL mixed (.cons slab_Slab_checked.good (.cons slab_Slab_over.good (.cons sha_Leaf.good (.cons tree_Put.good (.cons tree_Path.good (.cons slab_rising.good .nil)))))) Tryz.func15 Tryz.call15 (slab_Slab_Prepare.geq slab_Slab_checked slab_Slab_over sha_Leaf tree_Put tree_Path slab_rising)
def slab_Slab_Get.g (F0:type_of% slab_Slab_may) (F1:type_of% slab_Slab_over) (F2:type_of% bank_Bank_Read) (F3:type_of% sha_Leaf) (F4:type_of% strings_Repeat) (F5:type_of% slab_Slab_with) (F6:type_of% aead_Open) (x0_0:Option Addr) (x0_1 x0_2:Int) (x0_3 x1:ByteArray) (x2:Int) (h:H) (Q:ByteArray→Int→H→Prop):Prop:=
M.new h (.cells #[.pointer x0_0,.int .i64 x0_1,.int .i64 x0_2,.string x0_3] 37) fun b3 h4=>
M.load h4 (Addr.add ⟨b3,0,none⟩ 0) fun v5=>
M.ptr v5 fun p6=>
M.load h4 (Addr.add ⟨b3,0,none⟩ 1) fun v7=>
M.int .i64 v7 fun n8=>
M.load h4 (Addr.add ⟨b3,0,none⟩ 2) fun v9=>
M.int .i64 v9 fun n10=>
M.load h4 (Addr.add ⟨b3,0,none⟩ 3) fun v11=>
M.str v11 fun s12=>
F0 p6 n8 n10 s12 x2 h4 fun n13 h14=>
(bif (n13 != 0) then
Q ByteArray.empty n13 h14
else
M.load h14 (Addr.add ⟨b3,0,none⟩ 0) fun v15=>
M.ptr v15 fun p16=>
M.load h14 (Addr.add ⟨b3,0,none⟩ 1) fun v17=>
M.int .i64 v17 fun n18=>
M.load h14 (Addr.add ⟨b3,0,none⟩ 2) fun v19=>
M.int .i64 v19 fun n20=>
M.load h14 (Addr.add ⟨b3,0,none⟩ 3) fun v21=>
M.str v21 fun s22=>
F1 p16 n18 n20 s22 x1 x2 none h14 fun a23 l24 c25 s26 n27 h28=>
(bif (n27 != 0) then
Q ByteArray.empty n27 h28
else
M.load h28 (Addr.add ⟨b3,0,none⟩ 0) fun v29=>
M.ptr v29 fun p30=>
M.load h28 (Addr.add ⟨b3,0,none⟩ 1) fun v31=>
M.int .i64 v31 fun n32=>
M.val (IntKind.wrap .i64 (120+x2)) fun z33=>
F2 p30 n32 z33 h28 fun s34 n35 h36=>
(bif (n35 != 0) then
Q ByteArray.empty n35 h36
else
F3 s34 h36 fun s37 h38=>
(bif (!strEq s37 s26) then
Q ByteArray.empty 22 h38
else
(bif (strEq s34 ByteArray.empty) then
F4 (⟨#[0]⟩:ByteArray) 32 h38 fun s39 h40=>
Q s39 0 h40
else
(bif (decide ((ByteArray.size s34:Int)<12)) then
Q ByteArray.empty 3 h38
else
M.load h38 (Addr.add ⟨b3,0,none⟩ 3) fun v41=>
M.str v41 fun s42=>
M.ssub s34 0 12 fun s43=>
M.load h38 (Addr.add ⟨b3,0,none⟩ 0) fun v44=>
M.ptr v44 fun p45=>
M.load h38 (Addr.add ⟨b3,0,none⟩ 1) fun v46=>
M.int .i64 v46 fun n47=>
M.load h38 (Addr.add ⟨b3,0,none⟩ 2) fun v48=>
M.int .i64 v48 fun n49=>
M.load h38 (Addr.add ⟨b3,0,none⟩ 3) fun v50=>
M.str v50 fun s51=>
M.ssub s34 12 (ByteArray.size s34:Int) fun s52=>
F5 p45 n47 n49 s51 x2 h38 fun s53 h54=>
M.still h38 (Addr.add ⟨b3,0,none⟩ 3) 1 h54 (
F6 s42 s43 s53 s52 h54 fun s55 n56 h57=>
Q s55 n56 h57)))))))
def slab_Slab_Get:=slab_Slab_Get.g slab_Slab_may slab_Slab_over bank_Bank_Read sha_Leaf strings_Repeat slab_Slab_with aead_Open
def slab_Slab_Get.L (F:type_of% slab_Slab_Get):LT
 | [.agg ⟨[.pointer x0_0,.int .i64 x0_1,.int .i64 x0_2,.string x0_3]⟩,.string x1,.int .i64 x2]=>fun Q h=>F x0_0 x0_1 x0_2 x0_3 x1 x2 h fun s61 n62 h63=>Q (.tuple #[.string s61,.int .i64 n62]) h63
 | _=>fun _ _=>False
theorem slab_Slab_Get.geq (F0) (F1) (F2) (F3) (F4) (F5) (F6):∀ l,OkL (evF Tryz.prog (envOf [(44,WL (slab_Slab_may.L F0)),(48,WL (slab_Slab_over.L F1)),(56,WL (bank_Bank_Read.L F2)),(50,WL (sha_Leaf.L F3)),(57,WL (strings_Repeat.L F4)),(46,WL (slab_Slab_with.L F5)),(58,WL (aead_Open.L F6))]) Tryz.f17 an0) l (slab_Slab_Get.L (slab_Slab_Get.g F0 F1 F2 F3 F4 F5 F6) l):=by
 intro l; unfold slab_Slab_Get.L; split; exact .inr (by intros; kernel_rfl); exact .inl rfl
theorem slab_Slab_Get.good:FnGood Tryz.prog 17 (WL (slab_Slab_Get.L slab_Slab_Get)):=.ofL mixed (.cons slab_Slab_may.good (.cons slab_Slab_over.good (.cons bank_Bank_Read.good (.cons sha_Leaf.good (.cons strings_Repeat.good (.cons slab_Slab_with.good (.cons aead_Open.good .nil))))))) Tryz.func17 Tryz.call17 (slab_Slab_Get.geq slab_Slab_may slab_Slab_over bank_Bank_Read sha_Leaf strings_Repeat slab_Slab_with aead_Open)
def slab_Slab_Bad.g (F0:type_of% slab_Slab_good) (F1:type_of% slab_Slab_Get) (x0_0:Option Addr) (x0_1 x0_2:Int) (x0_3 x1:ByteArray) (h:H) (Q:Option Addr→Nat→Nat→H→Prop):Prop:=
M.new h (.cells #[.pointer x0_0,.int .i64 x0_1,.int .i64 x0_2,.string x0_3] 37) fun b4 h5=>
M.load h5 (Addr.add ⟨b4,0,none⟩ 0) fun v6=>
M.ptr v6 fun p7=>
M.load h5 (Addr.add ⟨b4,0,none⟩ 1) fun v8=>
M.int .i64 v8 fun n9=>
M.load h5 (Addr.add ⟨b4,0,none⟩ 2) fun v10=>
M.int .i64 v10 fun n11=>
M.load h5 (Addr.add ⟨b4,0,none⟩ 3) fun v12=>
M.str v12 fun s13=>
F0 p7 n9 n11 s13 h5 fun b14 h15=>
(bif (!b14) then
Q none 0 0 h15
else
M.load h15 (Addr.add ⟨b4,0,none⟩ 2) fun v16=>
M.int .i64 v16 fun n17=>
M.loop (α:=(Option Addr × Nat × Nat) × Int) (fun J18 d19 h20=>
(bif (decide (d19.2<n17)) then
M.load h20 (Addr.add ⟨b4,0,none⟩ 0) fun v21=>
M.ptr v21 fun p22=>
M.load h20 (Addr.add ⟨b4,0,none⟩ 1) fun v23=>
M.int .i64 v23 fun n24=>
M.load h20 (Addr.add ⟨b4,0,none⟩ 2) fun v25=>
M.int .i64 v25 fun n26=>
M.load h20 (Addr.add ⟨b4,0,none⟩ 3) fun v27=>
M.str v27 fun s28=>
F1 p22 n24 n26 s28 x1 d19.2 h20 fun s29 n30 h31=>
(bif (n30 != 0) then
M.new h31 (.cells #[.int .i64 d19.2] 3) fun b32 h33=>
M.cellsOf h33 (some ⟨b32,0,none⟩) (1*1) fun cs38=>
M.app h33 3 1 8 [.int .i64 0] d19.1.1 d19.1.2.1 d19.1.2.2 1 cs38 fun a34 l35 c36 h37=>
M.val (IntKind.wrap .i64 (d19.2+1)) fun z39=>
J18 ((a34,l35,c36),z39) h37
else
M.val (IntKind.wrap .i64 (d19.2+1)) fun z40=>
J18 ((d19.1.1,d19.1.2.1,d19.1.2.2),z40) h31)
else
Q d19.1.1 d19.1.2.1 d19.1.2.2 h20)) ((none,0,0),0) h15)
def slab_Slab_Bad:=slab_Slab_Bad.g slab_Slab_good slab_Slab_Get
def slab_Slab_Bad.L (F:type_of% slab_Slab_Bad):LT
 | [.agg ⟨[.pointer x0_0,.int .i64 x0_1,.int .i64 x0_2,.string x0_3]⟩,.string x1]=>fun Q h=>F x0_0 x0_1 x0_2 x0_3 x1 h fun a45 l46 c47 h48=>Q (.slice a45 l46 c47) h48
 | _=>fun _ _=>False
def slab_Slab_Bad.ann:Ann:=⟨lookN [],lookN [],lookN [(122,[(5,.slc),(14,.int .i64)])]⟩
theorem slab_Slab_Bad.geq (F0) (F1):∀ l,OkL (evF Tryz.prog (envOf [(53,WL (slab_Slab_good.L F0)),(17,WL (slab_Slab_Get.L F1))]) Tryz.f18 slab_Slab_Bad.ann) l (slab_Slab_Bad.L (slab_Slab_Bad.g F0 F1) l):=by
 intro l; unfold slab_Slab_Bad.L; split; exact .inr (by intros; kernel_rfl); exact .inl rfl
theorem slab_Slab_Bad.good:FnGood Tryz.prog 18 (WL (slab_Slab_Bad.L slab_Slab_Bad)):=.ofL mixed (.cons slab_Slab_good.good (.cons slab_Slab_Get.good .nil)) Tryz.func18 Tryz.call18 (slab_Slab_Bad.geq slab_Slab_good slab_Slab_Get)
def law17_both_change.g (F0:type_of% slab_Slab_Prepare) (F1:type_of% ref17_Prepare) (F2:type_of% law17_sameWrites) (F3:type_of% slab_Slab_Apply) (F4:type_of% ref17_Apply) (x0 x1:Option Addr) (x1L x1C:Nat) (x2:Option Addr) (x2L x2C:Nat) (h:H) (Q:Bool→H→Prop):Prop:=
M.nn x0 fun a2=>
M.load h ((Addr.add a2 0).add 0) fun v3=>
M.ptr v3 fun p4=>
M.load h ((Addr.add a2 0).add 1) fun v5=>
M.int .i64 v5 fun n6=>
M.load h ((Addr.add a2 0).add 2) fun v7=>
M.int .i64 v7 fun n8=>
M.load h ((Addr.add a2 0).add 3) fun v9=>
M.str v9 fun s10=>
M.nn x0 fun a11=>
M.load h (Addr.add a11 8) fun v12=>
M.str v12 fun s13=>
F0 p4 n6 n8 s10 s13 x1 x1L x1C h fun a14 l15 c16 s17 n18 h19=>
M.nn x0 fun a20=>
M.load h19 ((Addr.add a20 4).add 0) fun v21=>
M.ptr v21 fun p22=>
M.load h19 ((Addr.add a20 4).add 1) fun v23=>
M.int .i64 v23 fun n24=>
M.load h19 ((Addr.add a20 4).add 2) fun v25=>
M.int .i64 v25 fun n26=>
M.load h19 ((Addr.add a20 4).add 3) fun v27=>
M.str v27 fun s28=>
M.nn x0 fun a29=>
M.load h19 (Addr.add a29 8) fun v30=>
M.str v30 fun s31=>
F1 p22 n24 n26 s28 s31 x2 x2L x2C h19 fun a32 l33 c34 s35 n36 h37=>
M.join (α:=Bool) (fun d41 h42=>
(bif d41 then
Q false h42
else
(bif (n18 == 0) then
M.nn x0 fun a43=>
M.load h42 ((Addr.add a43 0).add 0) fun v44=>
M.ptr v44 fun p45=>
M.load h42 ((Addr.add a43 0).add 1) fun v46=>
M.int .i64 v46 fun n47=>
M.load h42 ((Addr.add a43 0).add 2) fun v48=>
M.int .i64 v48 fun n49=>
M.load h42 ((Addr.add a43 0).add 3) fun v50=>
M.str v50 fun s51=>
F3 p45 n47 n49 s51 a14 l15 c16 h42 fun n52 h53=>
M.nn x0 fun a54=>
M.load h53 ((Addr.add a54 4).add 0) fun v55=>
M.ptr v55 fun p56=>
M.load h53 ((Addr.add a54 4).add 1) fun v57=>
M.int .i64 v57 fun n58=>
M.load h53 ((Addr.add a54 4).add 2) fun v59=>
M.int .i64 v59 fun n60=>
M.load h53 ((Addr.add a54 4).add 3) fun v61=>
M.str v61 fun s62=>
F4 p56 n58 n60 s62 a32 l33 c34 h53 fun n63 h64=>
(bif (n52 != n63) then
Q false h64
else
(bif (n52 == 0) then
M.nn x0 fun a65=>
M.put h64 (Addr.add a65 8) (.string s17) fun h66=>
Q true h66
else
Q true h64))
else
Q true h42))) fun J38=>
F2 a14 l15 c16 a32 l33 c34 h37 fun b39 h40=>
(bif (!b39) then
J38 true h40
else
(bif (!strEq s17 s35) then
J38 true h40
else
J38 (n18 != n36) h40))
def law17_both_change:=law17_both_change.g slab_Slab_Prepare ref17_Prepare law17_sameWrites slab_Slab_Apply ref17_Apply
def law17_both_change.L (F:type_of% law17_both_change):LT
 | [.pointer x0,.slice x1 x1L x1C,.slice x2 x2L x2C]=>fun Q h=>F x0 x1 x1L x1C x2 x2L x2C h fun b69 h70=>Q (.bool b69) h70
 | _=>fun _ _=>False
def law17_both_change.ann:Ann:=⟨lookN [(3,[(55,.bool)])],lookN [],lookN []⟩
theorem law17_both_change.geq (F0) (F1) (F2) (F3) (F4):∀ l,OkL (evF Tryz.prog (envOf [(15,WL (slab_Slab_Prepare.L F0)),(123,WL (ref17_Prepare.L F1)),(42,WL (law17_sameWrites.L F2)),(16,WL (slab_Slab_Apply.L F3)),(43,WL (ref17_Apply.L F4))]) Tryz.f69 law17_both_change.ann) l (law17_both_change.L (law17_both_change.g F0 F1 F2 F3 F4) l):=by
 intro l; unfold law17_both_change.L; split; exact .inr (by intros; kernel_rfl); exact .inl rfl
def law17_both_change.W:W:=WL (law17_both_change.L law17_both_change)
theorem law17_both_change.good:FnGood Tryz.prog 69 law17_both_change.W:=.ofL mixed (.cons slab_Slab_Prepare.good (.cons ref17_Prepare.good (.cons law17_sameWrites.good (.cons slab_Slab_Apply.good (.cons ref17_Apply.good .nil))))) Tryz.func69 Tryz.call69 (law17_both_change.geq slab_Slab_Prepare ref17_Prepare law17_sameWrites slab_Slab_Apply ref17_Apply)
def law17_wakes.g (F0:type_of% law17_begin) (F1:type_of% slab_Slab_Seal) (F2:type_of% slab_Slab_Prepare) (F3:type_of% slab_Slab_Apply) (F4:type_of% slab_Slab_Get)  (h:H) (Q:Bool→H→Prop):Prop:=
F0 4 0 (Array.replicate 32 ((.int .u8 0):Value)) h fun p2 b3 h4=>
M.nn p2 fun a5=>
M.load h4 ((Addr.add a5 0).add 0) fun v6=>
M.ptr v6 fun p7=>
M.load h4 ((Addr.add a5 0).add 1) fun v8=>
M.int .i64 v8 fun n9=>
M.load h4 ((Addr.add a5 0).add 2) fun v10=>
M.int .i64 v10 fun n11=>
M.load h4 ((Addr.add a5 0).add 3) fun v12=>
M.str v12 fun s13=>
F1 p7 n9 n11 s13 2 (⟨#[49,50,51,52,53,54,55,56,57,48,49,50]⟩:ByteArray) (⟨#[48,49,50,51,52,53,54,55,56,57,97,98,99,100,101,102,48,49,50,51,52,53,54,55,56,57,97,98,99,100,101,102]⟩:ByteArray) h4 fun s14 n15 h16=>
M.nn p2 fun a17=>
M.load h16 ((Addr.add a17 0).add 0) fun v18=>
M.ptr v18 fun p19=>
M.load h16 ((Addr.add a17 0).add 1) fun v20=>
M.int .i64 v20 fun n21=>
M.load h16 ((Addr.add a17 0).add 2) fun v22=>
M.int .i64 v22 fun n23=>
M.load h16 ((Addr.add a17 0).add 3) fun v24=>
M.str v24 fun s25=>
M.nn p2 fun a26=>
M.load h16 (Addr.add a26 8) fun v27=>
M.str v27 fun s28=>
M.new h16 (.cells #[.int .i64 2,.string s14] 45) fun b29 h30=>
M.still h16 (Addr.add a26 8) 1 h30 (
M.still h16 (Addr.add a17 0) 4 h30 (
F2 p19 n21 n23 s25 s28 (some ⟨b29,0,none⟩) 1 1 h30 fun a31 l32 c33 s34 n35 h36=>
M.nn p2 fun a37=>
M.load h36 ((Addr.add a37 0).add 0) fun v38=>
M.ptr v38 fun p39=>
M.load h36 ((Addr.add a37 0).add 1) fun v40=>
M.int .i64 v40 fun n41=>
M.load h36 ((Addr.add a37 0).add 2) fun v42=>
M.int .i64 v42 fun n43=>
M.load h36 ((Addr.add a37 0).add 3) fun v44=>
M.str v44 fun s45=>
F3 p39 n41 n43 s45 a31 l32 c33 h36 fun n46 h47=>
M.nn p2 fun a48=>
M.load h47 ((Addr.add a48 0).add 0) fun v49=>
M.ptr v49 fun p50=>
M.load h47 ((Addr.add a48 0).add 1) fun v51=>
M.int .i64 v51 fun n52=>
M.load h47 ((Addr.add a48 0).add 2) fun v53=>
M.int .i64 v53 fun n54=>
M.load h47 ((Addr.add a48 0).add 3) fun v55=>
M.str v55 fun s56=>
F4 p50 n52 n54 s56 s34 2 h47 fun s57 n58 h59=>
M.nn p2 fun a60=>
M.load h59 ((Addr.add a60 0).add 0) fun v61=>
M.ptr v61 fun p62=>
M.load h59 ((Addr.add a60 0).add 1) fun v63=>
M.int .i64 v63 fun n64=>
M.load h59 ((Addr.add a60 0).add 2) fun v65=>
M.int .i64 v65 fun n66=>
M.load h59 ((Addr.add a60 0).add 3) fun v67=>
M.str v67 fun s68=>
F4 p62 n64 n66 s68 s34 1 h59 fun s69 n70 h71=>
M.join (α:=Bool) (fun d78 h79=>
Q d78 h79) fun J72=>
(bif b3 then
(bif (n15 == 0) then
(bif (n35 == 0) then
(bif (n46 == 0) then
(bif (n58 == 0) then
(bif (n70 == 0) then
(bif (strEq s57 (⟨#[48,49,50,51,52,53,54,55,56,57,97,98,99,100,101,102,48,49,50,51,52,53,54,55,56,57,97,98,99,100,101,102]⟩:ByteArray)) then
M.mk h71 5 [.int .u8 0] 1 32 32 fun a73 l74 c75 h76=>
M.b2s h76 a73 l74 fun s77=>
(bif (strEq s69 s77) then
(bif ((ByteArray.size s14:Int) == 60) then
J72 ((l32:Int) == 3) h76
else
J72 false h76)
else
J72 false h76)
else
J72 false h71)
else
J72 false h71)
else
J72 false h71)
else
J72 false h71)
else
J72 false h71)
else
J72 false h71)
else
J72 false h71)))
def law17_wakes:=law17_wakes.g law17_begin slab_Slab_Seal slab_Slab_Prepare slab_Slab_Apply slab_Slab_Get
def law17_wakes.L (F:type_of% law17_wakes):LT
 | []=>fun Q h=>F  h fun b82 h83=>Q (.bool b82) h83
 | _=>fun _ _=>False
def law17_wakes.ann:Ann:=⟨lookN [(8,[(0,.bool)])],lookN [],lookN []⟩
theorem law17_wakes.geq (F0) (F1) (F2) (F3) (F4):∀ l,OkL (evF Tryz.prog (envOf [(12,WL (law17_begin.L F0)),(14,WL (slab_Slab_Seal.L F1)),(15,WL (slab_Slab_Prepare.L F2)),(16,WL (slab_Slab_Apply.L F3)),(17,WL (slab_Slab_Get.L F4))]) Tryz.f13 law17_wakes.ann) l (law17_wakes.L (law17_wakes.g F0 F1 F2 F3 F4) l):=by
 intro l; unfold law17_wakes.L; split; exact .inr (by intros; kernel_rfl); exact .inl rfl
def law17_wakes.W:W:=WL (law17_wakes.L law17_wakes)
theorem law17_wakes.good:FnGood Tryz.prog 13 law17_wakes.W:=.ofL mixed (.cons law17_begin.good (.cons slab_Slab_Seal.good (.cons slab_Slab_Prepare.good (.cons slab_Slab_Apply.good (.cons slab_Slab_Get.good .nil))))) Tryz.func13 Tryz.call13 (law17_wakes.geq law17_begin slab_Slab_Seal slab_Slab_Prepare slab_Slab_Apply slab_Slab_Get)
def law17_both_act.g (F0:type_of% law17_both_change) (F1:type_of% slab_Slab_Bad) (F2:type_of% ref17_Bad) (F3:type_of% bank_Bank_Disk) (F4:type_of% disk_Disk_Tamper) (F5:type_of% ref09_Tamper) (F6:type_of% bank_Bank_Cut) (F7:type_of% ref10_Cut) (F8:type_of% bank_Bank_Crash) (F9:type_of% ref10_Crash) (F10:type_of% slab_Slab_Get) (F11:type_of% ref17_Get) (F12:type_of% slab_Slab_Seal) (F13:type_of% ref17_Seal) (x0:Option Addr) (x1_0 x1_1 x1_2 x1_3:Int) (x1_4:Option Addr) (x1_4L x1_4C:Nat) (x1_5:ByteArray) (h:H) (Q:Bool→H→Prop):Prop:=
M.new h (.cells #[.int .i64 x1_0,.int .i64 x1_1,.int .i64 x1_2,.int .u8 x1_3,.slice x1_4 x1_4L x1_4C,.string x1_5] 32) fun b2 h3=>
M.nn x0 fun a4=>
M.load h3 (Addr.add a4 8) fun v5=>
M.str v5 fun s6=>
M.join (α:=Unit) (fun d238 h239=>
M.join (α:=ByteArray × ByteArray) (fun d771 h772=>
M.join (α:=ByteArray) (fun d778 h779=>
M.nn x0 fun a780=>
M.load h779 ((Addr.add a780 0).add 0) fun v781=>
M.ptr v781 fun p782=>
M.load h779 ((Addr.add a780 0).add 1) fun v783=>
M.int .i64 v783 fun n784=>
M.load h779 ((Addr.add a780 0).add 2) fun v785=>
M.int .i64 v785 fun n786=>
M.load h779 ((Addr.add a780 0).add 3) fun v787=>
M.str v787 fun s788=>
M.load h779 (Addr.add ⟨b2,0,none⟩ 1) fun v789=>
M.int .i64 v789 fun n790=>
F12 p782 n784 n786 s788 n790 d778 d771.2 h779 fun s791 n792 h793=>
M.nn x0 fun a794=>
M.load h793 ((Addr.add a794 4).add 0) fun v795=>
M.ptr v795 fun p796=>
M.load h793 ((Addr.add a794 4).add 1) fun v797=>
M.int .i64 v797 fun n798=>
M.load h793 ((Addr.add a794 4).add 2) fun v799=>
M.int .i64 v799 fun n800=>
M.load h793 ((Addr.add a794 4).add 3) fun v801=>
M.str v801 fun s802=>
M.load h793 (Addr.add ⟨b2,0,none⟩ 1) fun v803=>
M.int .i64 v803 fun n804=>
F13 p796 n798 n800 s802 n804 d778 d771.2 h793 fun s805 n806 h807=>
M.join (α:=Bool) (fun d809 h810=>
(bif d809 then
M.join (α:=Bool) (fun d812 h813=>
Q d812 h813) fun J811=>
(bif (strEq s791 s805) then
J811 (n792 == n806) h810
else
J811 false h810)
else
M.load h810 (Addr.add ⟨b2,0,none⟩ 1) fun v814=>
M.int .i64 v814 fun n815=>
M.new h810 (.cells #[.int .i64 n815,.string s791] 45) fun b816 h817=>
M.load h817 (Addr.add ⟨b2,0,none⟩ 1) fun v818=>
M.int .i64 v818 fun n819=>
M.new h817 (.cells #[.int .i64 n819,.string s791] 138) fun b820 h821=>
F0 x0 (some ⟨b816,0,none⟩) 1 1 (some ⟨b820,0,none⟩) 1 1 h821 fun b822 h823=>
Q b822 h823)) fun J808=>
(bif (!strEq s791 s805) then
J808 true h807
else
(bif (n792 != n806) then
J808 true h807
else
J808 (n792 != 0) h807))) fun J773=>
M.load h772 (Addr.add ⟨b2,0,none⟩ 2) fun v774=>
M.int .i64 v774 fun n775=>
(bif (n775 == 77) then
M.load h772 (Addr.add ⟨b2,0,none⟩ 5) fun v776=>
M.str v776 fun s777=>
J773 s777 h772
else
J773 d771.1 h772)) fun J240=>
M.load h239 (Addr.add ⟨b2,0,none⟩ 3) fun v241=>
M.int .u8 v241 fun n242=>
M.load h239 (Addr.add ⟨b2,0,none⟩ 3) fun v243=>
M.int .u8 v243 fun n244=>
(M.new h239 (.cells #[.int .u8 n242] 5) fun b245 h246=>
M.still h239 (Addr.add ⟨b2,0,none⟩ 3) 1 h246 (
(M.b2s h246 (some ⟨b245,0,none⟩) 1 fun s247=>
M.still h239 (Addr.add ⟨b2,0,none⟩ 3) 1 h246 (
M.cat s247 (⟨#[49,50,51,52,53,54,55,56,57,48,49]⟩:ByteArray) fun s248=>
(M.new h246 (.cells #[.int .u8 n244] 5) fun b249 h250=>
M.still h239 (Addr.add ⟨b2,0,none⟩ 3) 1 h250 (
(M.b2s h250 (some ⟨b249,0,none⟩) 1 fun s251=>
M.still h239 (Addr.add ⟨b2,0,none⟩ 3) 1 h250 (
M.mk h250 5 [.int .u8 0] 1 31 31 fun a252 l253 c254 h255=>
M.still h239 (Addr.add ⟨b2,0,none⟩ 3) 1 h255 (
M.still h239 (Addr.add ⟨b2,0,none⟩ 3) 1 h255 (
M.b2s h255 a252 l253 fun s256=>
M.still h239 (Addr.add ⟨b2,0,none⟩ 3) 1 h255 (
M.still h239 (Addr.add ⟨b2,0,none⟩ 3) 1 h255 (
M.cat s251 s256 fun s257=>
J240 (s248,s257) h255)))))) ∧
(M.mk h250 5 [.int .u8 0] 1 31 31 fun a258 l259 c260 h261=>
M.still h239 (Addr.add ⟨b2,0,none⟩ 3) 1 h261 (
M.still h239 (Addr.add ⟨b2,0,none⟩ 3) 1 h261 (
(M.b2s h261 (some ⟨b249,0,none⟩) 1 fun s262=>
M.still h239 (Addr.add ⟨b2,0,none⟩ 3) 1 h261 (
M.b2s h261 a258 l259 fun s263=>
M.still h239 (Addr.add ⟨b2,0,none⟩ 3) 1 h261 (
M.still h239 (Addr.add ⟨b2,0,none⟩ 3) 1 h261 (
M.cat s262 s263 fun s264=>
J240 (s248,s264) h261)))) ∧
(M.b2s h261 a258 l259 fun s265=>
M.still h239 (Addr.add ⟨b2,0,none⟩ 3) 1 h261 (
M.still h239 (Addr.add ⟨b2,0,none⟩ 3) 1 h261 (
M.b2s h261 (some ⟨b249,0,none⟩) 1 fun s266=>
M.still h239 (Addr.add ⟨b2,0,none⟩ 3) 1 h261 (
M.cat s266 s265 fun s267=>
J240 (s248,s267) h261))))))))) ∧
(M.mk h246 5 [.int .u8 0] 1 31 31 fun a268 l269 c270 h271=>
M.still h239 (Addr.add ⟨b2,0,none⟩ 3) 1 h271 (
M.still h239 (Addr.add ⟨b2,0,none⟩ 3) 1 h271 (
(M.new h271 (.cells #[.int .u8 n244] 5) fun b272 h273=>
M.still h239 (Addr.add ⟨b2,0,none⟩ 3) 1 h273 (
(M.b2s h273 (some ⟨b272,0,none⟩) 1 fun s274=>
M.still h239 (Addr.add ⟨b2,0,none⟩ 3) 1 h273 (
M.b2s h273 a268 l269 fun s275=>
M.still h239 (Addr.add ⟨b2,0,none⟩ 3) 1 h273 (
M.still h239 (Addr.add ⟨b2,0,none⟩ 3) 1 h273 (
M.cat s274 s275 fun s276=>
J240 (s248,s276) h273)))) ∧
(M.b2s h273 a268 l269 fun s277=>
M.still h239 (Addr.add ⟨b2,0,none⟩ 3) 1 h273 (
M.still h239 (Addr.add ⟨b2,0,none⟩ 3) 1 h273 (
M.b2s h273 (some ⟨b272,0,none⟩) 1 fun s278=>
M.still h239 (Addr.add ⟨b2,0,none⟩ 3) 1 h273 (
M.cat s278 s277 fun s279=>
J240 (s248,s279) h273)))))) ∧
(M.b2s h271 a268 l269 fun s280=>
M.still h239 (Addr.add ⟨b2,0,none⟩ 3) 1 h271 (
M.still h239 (Addr.add ⟨b2,0,none⟩ 3) 1 h271 (
M.new h271 (.cells #[.int .u8 n244] 5) fun b281 h282=>
M.still h239 (Addr.add ⟨b2,0,none⟩ 3) 1 h282 (
M.b2s h282 (some ⟨b281,0,none⟩) 1 fun s283=>
M.still h239 (Addr.add ⟨b2,0,none⟩ 3) 1 h282 (
M.cat s283 s280 fun s284=>
J240 (s248,s284) h282)))))))))) ∧
(M.new h246 (.cells #[.int .u8 n244] 5) fun b285 h286=>
M.still h239 (Addr.add ⟨b2,0,none⟩ 3) 1 h286 (
(M.b2s h286 (some ⟨b245,0,none⟩) 1 fun s287=>
M.still h239 (Addr.add ⟨b2,0,none⟩ 3) 1 h286 (
M.cat s287 (⟨#[49,50,51,52,53,54,55,56,57,48,49]⟩:ByteArray) fun s288=>
(M.b2s h286 (some ⟨b285,0,none⟩) 1 fun s289=>
M.still h239 (Addr.add ⟨b2,0,none⟩ 3) 1 h286 (
M.mk h286 5 [.int .u8 0] 1 31 31 fun a290 l291 c292 h293=>
M.still h239 (Addr.add ⟨b2,0,none⟩ 3) 1 h293 (
M.still h239 (Addr.add ⟨b2,0,none⟩ 3) 1 h293 (
M.b2s h293 a290 l291 fun s294=>
M.still h239 (Addr.add ⟨b2,0,none⟩ 3) 1 h293 (
M.still h239 (Addr.add ⟨b2,0,none⟩ 3) 1 h293 (
M.cat s289 s294 fun s295=>
J240 (s288,s295) h293)))))) ∧
(M.mk h286 5 [.int .u8 0] 1 31 31 fun a296 l297 c298 h299=>
M.still h239 (Addr.add ⟨b2,0,none⟩ 3) 1 h299 (
M.still h239 (Addr.add ⟨b2,0,none⟩ 3) 1 h299 (
(M.b2s h299 (some ⟨b285,0,none⟩) 1 fun s300=>
M.still h239 (Addr.add ⟨b2,0,none⟩ 3) 1 h299 (
M.b2s h299 a296 l297 fun s301=>
M.still h239 (Addr.add ⟨b2,0,none⟩ 3) 1 h299 (
M.still h239 (Addr.add ⟨b2,0,none⟩ 3) 1 h299 (
M.cat s300 s301 fun s302=>
J240 (s288,s302) h299)))) ∧
(M.b2s h299 a296 l297 fun s303=>
M.still h239 (Addr.add ⟨b2,0,none⟩ 3) 1 h299 (
M.still h239 (Addr.add ⟨b2,0,none⟩ 3) 1 h299 (
M.b2s h299 (some ⟨b285,0,none⟩) 1 fun s304=>
M.still h239 (Addr.add ⟨b2,0,none⟩ 3) 1 h299 (
M.cat s304 s303 fun s305=>
J240 (s288,s305) h299))))))))) ∧
(M.b2s h286 (some ⟨b285,0,none⟩) 1 fun s306=>
M.still h239 (Addr.add ⟨b2,0,none⟩ 3) 1 h286 (
(M.b2s h286 (some ⟨b245,0,none⟩) 1 fun s307=>
M.still h239 (Addr.add ⟨b2,0,none⟩ 3) 1 h286 (
M.cat s307 (⟨#[49,50,51,52,53,54,55,56,57,48,49]⟩:ByteArray) fun s308=>
M.mk h286 5 [.int .u8 0] 1 31 31 fun a309 l310 c311 h312=>
M.still h239 (Addr.add ⟨b2,0,none⟩ 3) 1 h312 (
M.still h239 (Addr.add ⟨b2,0,none⟩ 3) 1 h312 (
M.b2s h312 a309 l310 fun s313=>
M.still h239 (Addr.add ⟨b2,0,none⟩ 3) 1 h312 (
M.still h239 (Addr.add ⟨b2,0,none⟩ 3) 1 h312 (
M.cat s306 s313 fun s314=>
J240 (s308,s314) h312)))))) ∧
(M.mk h286 5 [.int .u8 0] 1 31 31 fun a315 l316 c317 h318=>
M.still h239 (Addr.add ⟨b2,0,none⟩ 3) 1 h318 (
M.still h239 (Addr.add ⟨b2,0,none⟩ 3) 1 h318 (
(M.b2s h318 (some ⟨b245,0,none⟩) 1 fun s319=>
M.still h239 (Addr.add ⟨b2,0,none⟩ 3) 1 h318 (
M.cat s319 (⟨#[49,50,51,52,53,54,55,56,57,48,49]⟩:ByteArray) fun s320=>
M.b2s h318 a315 l316 fun s321=>
M.still h239 (Addr.add ⟨b2,0,none⟩ 3) 1 h318 (
M.still h239 (Addr.add ⟨b2,0,none⟩ 3) 1 h318 (
M.cat s306 s321 fun s322=>
J240 (s320,s322) h318)))) ∧
(M.b2s h318 a315 l316 fun s323=>
M.still h239 (Addr.add ⟨b2,0,none⟩ 3) 1 h318 (
M.still h239 (Addr.add ⟨b2,0,none⟩ 3) 1 h318 (
M.cat s306 s323 fun s324=>
M.b2s h318 (some ⟨b245,0,none⟩) 1 fun s325=>
M.still h239 (Addr.add ⟨b2,0,none⟩ 3) 1 h318 (
M.cat s325 (⟨#[49,50,51,52,53,54,55,56,57,48,49]⟩:ByteArray) fun s326=>
J240 (s326,s324) h318))))))))) ∧
(M.mk h286 5 [.int .u8 0] 1 31 31 fun a327 l328 c329 h330=>
M.still h239 (Addr.add ⟨b2,0,none⟩ 3) 1 h330 (
M.still h239 (Addr.add ⟨b2,0,none⟩ 3) 1 h330 (
(M.b2s h330 (some ⟨b245,0,none⟩) 1 fun s331=>
M.still h239 (Addr.add ⟨b2,0,none⟩ 3) 1 h330 (
M.cat s331 (⟨#[49,50,51,52,53,54,55,56,57,48,49]⟩:ByteArray) fun s332=>
(M.b2s h330 (some ⟨b285,0,none⟩) 1 fun s333=>
M.still h239 (Addr.add ⟨b2,0,none⟩ 3) 1 h330 (
M.b2s h330 a327 l328 fun s334=>
M.still h239 (Addr.add ⟨b2,0,none⟩ 3) 1 h330 (
M.still h239 (Addr.add ⟨b2,0,none⟩ 3) 1 h330 (
M.cat s333 s334 fun s335=>
J240 (s332,s335) h330)))) ∧
(M.b2s h330 a327 l328 fun s336=>
M.still h239 (Addr.add ⟨b2,0,none⟩ 3) 1 h330 (
M.still h239 (Addr.add ⟨b2,0,none⟩ 3) 1 h330 (
M.b2s h330 (some ⟨b285,0,none⟩) 1 fun s337=>
M.still h239 (Addr.add ⟨b2,0,none⟩ 3) 1 h330 (
M.cat s337 s336 fun s338=>
J240 (s332,s338) h330)))))) ∧
(M.b2s h330 (some ⟨b285,0,none⟩) 1 fun s339=>
M.still h239 (Addr.add ⟨b2,0,none⟩ 3) 1 h330 (
(M.b2s h330 (some ⟨b245,0,none⟩) 1 fun s340=>
M.still h239 (Addr.add ⟨b2,0,none⟩ 3) 1 h330 (
M.cat s340 (⟨#[49,50,51,52,53,54,55,56,57,48,49]⟩:ByteArray) fun s341=>
M.b2s h330 a327 l328 fun s342=>
M.still h239 (Addr.add ⟨b2,0,none⟩ 3) 1 h330 (
M.still h239 (Addr.add ⟨b2,0,none⟩ 3) 1 h330 (
M.cat s339 s342 fun s343=>
J240 (s341,s343) h330)))) ∧
(M.b2s h330 a327 l328 fun s344=>
M.still h239 (Addr.add ⟨b2,0,none⟩ 3) 1 h330 (
M.still h239 (Addr.add ⟨b2,0,none⟩ 3) 1 h330 (
M.cat s339 s344 fun s345=>
M.b2s h330 (some ⟨b245,0,none⟩) 1 fun s346=>
M.still h239 (Addr.add ⟨b2,0,none⟩ 3) 1 h330 (
M.cat s346 (⟨#[49,50,51,52,53,54,55,56,57,48,49]⟩:ByteArray) fun s347=>
J240 (s347,s345) h330)))))) ∧
(M.b2s h330 a327 l328 fun s348=>
M.still h239 (Addr.add ⟨b2,0,none⟩ 3) 1 h330 (
M.still h239 (Addr.add ⟨b2,0,none⟩ 3) 1 h330 (
(M.b2s h330 (some ⟨b245,0,none⟩) 1 fun s349=>
M.still h239 (Addr.add ⟨b2,0,none⟩ 3) 1 h330 (
M.cat s349 (⟨#[49,50,51,52,53,54,55,56,57,48,49]⟩:ByteArray) fun s350=>
M.b2s h330 (some ⟨b285,0,none⟩) 1 fun s351=>
M.still h239 (Addr.add ⟨b2,0,none⟩ 3) 1 h330 (
M.cat s351 s348 fun s352=>
J240 (s350,s352) h330))) ∧
(M.b2s h330 (some ⟨b285,0,none⟩) 1 fun s353=>
M.still h239 (Addr.add ⟨b2,0,none⟩ 3) 1 h330 (
M.cat s353 s348 fun s354=>
M.b2s h330 (some ⟨b245,0,none⟩) 1 fun s355=>
M.still h239 (Addr.add ⟨b2,0,none⟩ 3) 1 h330 (
M.cat s355 (⟨#[49,50,51,52,53,54,55,56,57,48,49]⟩:ByteArray) fun s356=>
J240 (s356,s354) h330))))))))))) ∧
(M.mk h246 5 [.int .u8 0] 1 31 31 fun a357 l358 c359 h360=>
M.still h239 (Addr.add ⟨b2,0,none⟩ 3) 1 h360 (
M.still h239 (Addr.add ⟨b2,0,none⟩ 3) 1 h360 (
(M.b2s h360 (some ⟨b245,0,none⟩) 1 fun s361=>
M.still h239 (Addr.add ⟨b2,0,none⟩ 3) 1 h360 (
M.cat s361 (⟨#[49,50,51,52,53,54,55,56,57,48,49]⟩:ByteArray) fun s362=>
(M.new h360 (.cells #[.int .u8 n244] 5) fun b363 h364=>
M.still h239 (Addr.add ⟨b2,0,none⟩ 3) 1 h364 (
(M.b2s h364 (some ⟨b363,0,none⟩) 1 fun s365=>
M.still h239 (Addr.add ⟨b2,0,none⟩ 3) 1 h364 (
M.b2s h364 a357 l358 fun s366=>
M.still h239 (Addr.add ⟨b2,0,none⟩ 3) 1 h364 (
M.still h239 (Addr.add ⟨b2,0,none⟩ 3) 1 h364 (
M.cat s365 s366 fun s367=>
J240 (s362,s367) h364)))) ∧
(M.b2s h364 a357 l358 fun s368=>
M.still h239 (Addr.add ⟨b2,0,none⟩ 3) 1 h364 (
M.still h239 (Addr.add ⟨b2,0,none⟩ 3) 1 h364 (
M.b2s h364 (some ⟨b363,0,none⟩) 1 fun s369=>
M.still h239 (Addr.add ⟨b2,0,none⟩ 3) 1 h364 (
M.cat s369 s368 fun s370=>
J240 (s362,s370) h364)))))) ∧
(M.b2s h360 a357 l358 fun s371=>
M.still h239 (Addr.add ⟨b2,0,none⟩ 3) 1 h360 (
M.still h239 (Addr.add ⟨b2,0,none⟩ 3) 1 h360 (
M.new h360 (.cells #[.int .u8 n244] 5) fun b372 h373=>
M.still h239 (Addr.add ⟨b2,0,none⟩ 3) 1 h373 (
M.b2s h373 (some ⟨b372,0,none⟩) 1 fun s374=>
M.still h239 (Addr.add ⟨b2,0,none⟩ 3) 1 h373 (
M.cat s374 s371 fun s375=>
J240 (s362,s375) h373))))))) ∧
(M.new h360 (.cells #[.int .u8 n244] 5) fun b376 h377=>
M.still h239 (Addr.add ⟨b2,0,none⟩ 3) 1 h377 (
(M.b2s h377 (some ⟨b245,0,none⟩) 1 fun s378=>
M.still h239 (Addr.add ⟨b2,0,none⟩ 3) 1 h377 (
M.cat s378 (⟨#[49,50,51,52,53,54,55,56,57,48,49]⟩:ByteArray) fun s379=>
(M.b2s h377 (some ⟨b376,0,none⟩) 1 fun s380=>
M.still h239 (Addr.add ⟨b2,0,none⟩ 3) 1 h377 (
M.b2s h377 a357 l358 fun s381=>
M.still h239 (Addr.add ⟨b2,0,none⟩ 3) 1 h377 (
M.still h239 (Addr.add ⟨b2,0,none⟩ 3) 1 h377 (
M.cat s380 s381 fun s382=>
J240 (s379,s382) h377)))) ∧
(M.b2s h377 a357 l358 fun s383=>
M.still h239 (Addr.add ⟨b2,0,none⟩ 3) 1 h377 (
M.still h239 (Addr.add ⟨b2,0,none⟩ 3) 1 h377 (
M.b2s h377 (some ⟨b376,0,none⟩) 1 fun s384=>
M.still h239 (Addr.add ⟨b2,0,none⟩ 3) 1 h377 (
M.cat s384 s383 fun s385=>
J240 (s379,s385) h377)))))) ∧
(M.b2s h377 (some ⟨b376,0,none⟩) 1 fun s386=>
M.still h239 (Addr.add ⟨b2,0,none⟩ 3) 1 h377 (
(M.b2s h377 (some ⟨b245,0,none⟩) 1 fun s387=>
M.still h239 (Addr.add ⟨b2,0,none⟩ 3) 1 h377 (
M.cat s387 (⟨#[49,50,51,52,53,54,55,56,57,48,49]⟩:ByteArray) fun s388=>
M.b2s h377 a357 l358 fun s389=>
M.still h239 (Addr.add ⟨b2,0,none⟩ 3) 1 h377 (
M.still h239 (Addr.add ⟨b2,0,none⟩ 3) 1 h377 (
M.cat s386 s389 fun s390=>
J240 (s388,s390) h377)))) ∧
(M.b2s h377 a357 l358 fun s391=>
M.still h239 (Addr.add ⟨b2,0,none⟩ 3) 1 h377 (
M.still h239 (Addr.add ⟨b2,0,none⟩ 3) 1 h377 (
M.cat s386 s391 fun s392=>
M.b2s h377 (some ⟨b245,0,none⟩) 1 fun s393=>
M.still h239 (Addr.add ⟨b2,0,none⟩ 3) 1 h377 (
M.cat s393 (⟨#[49,50,51,52,53,54,55,56,57,48,49]⟩:ByteArray) fun s394=>
J240 (s394,s392) h377)))))) ∧
(M.b2s h377 a357 l358 fun s395=>
M.still h239 (Addr.add ⟨b2,0,none⟩ 3) 1 h377 (
M.still h239 (Addr.add ⟨b2,0,none⟩ 3) 1 h377 (
(M.b2s h377 (some ⟨b245,0,none⟩) 1 fun s396=>
M.still h239 (Addr.add ⟨b2,0,none⟩ 3) 1 h377 (
M.cat s396 (⟨#[49,50,51,52,53,54,55,56,57,48,49]⟩:ByteArray) fun s397=>
M.b2s h377 (some ⟨b376,0,none⟩) 1 fun s398=>
M.still h239 (Addr.add ⟨b2,0,none⟩ 3) 1 h377 (
M.cat s398 s395 fun s399=>
J240 (s397,s399) h377))) ∧
(M.b2s h377 (some ⟨b376,0,none⟩) 1 fun s400=>
M.still h239 (Addr.add ⟨b2,0,none⟩ 3) 1 h377 (
M.cat s400 s395 fun s401=>
M.b2s h377 (some ⟨b245,0,none⟩) 1 fun s402=>
M.still h239 (Addr.add ⟨b2,0,none⟩ 3) 1 h377 (
M.cat s402 (⟨#[49,50,51,52,53,54,55,56,57,48,49]⟩:ByteArray) fun s403=>
J240 (s403,s401) h377)))))))) ∧
(M.b2s h360 a357 l358 fun s404=>
M.still h239 (Addr.add ⟨b2,0,none⟩ 3) 1 h360 (
M.still h239 (Addr.add ⟨b2,0,none⟩ 3) 1 h360 (
(M.b2s h360 (some ⟨b245,0,none⟩) 1 fun s405=>
M.still h239 (Addr.add ⟨b2,0,none⟩ 3) 1 h360 (
M.cat s405 (⟨#[49,50,51,52,53,54,55,56,57,48,49]⟩:ByteArray) fun s406=>
M.new h360 (.cells #[.int .u8 n244] 5) fun b407 h408=>
M.still h239 (Addr.add ⟨b2,0,none⟩ 3) 1 h408 (
M.b2s h408 (some ⟨b407,0,none⟩) 1 fun s409=>
M.still h239 (Addr.add ⟨b2,0,none⟩ 3) 1 h408 (
M.cat s409 s404 fun s410=>
J240 (s406,s410) h408)))) ∧
(M.new h360 (.cells #[.int .u8 n244] 5) fun b411 h412=>
M.still h239 (Addr.add ⟨b2,0,none⟩ 3) 1 h412 (
(M.b2s h412 (some ⟨b245,0,none⟩) 1 fun s413=>
M.still h239 (Addr.add ⟨b2,0,none⟩ 3) 1 h412 (
M.cat s413 (⟨#[49,50,51,52,53,54,55,56,57,48,49]⟩:ByteArray) fun s414=>
M.b2s h412 (some ⟨b411,0,none⟩) 1 fun s415=>
M.still h239 (Addr.add ⟨b2,0,none⟩ 3) 1 h412 (
M.cat s415 s404 fun s416=>
J240 (s414,s416) h412))) ∧
(M.b2s h412 (some ⟨b411,0,none⟩) 1 fun s417=>
M.still h239 (Addr.add ⟨b2,0,none⟩ 3) 1 h412 (
M.cat s417 s404 fun s418=>
M.b2s h412 (some ⟨b245,0,none⟩) 1 fun s419=>
M.still h239 (Addr.add ⟨b2,0,none⟩ 3) 1 h412 (
M.cat s419 (⟨#[49,50,51,52,53,54,55,56,57,48,49]⟩:ByteArray) fun s420=>
J240 (s420,s418) h412))))))))))))) ∧
(M.new h239 (.cells #[.int .u8 n244] 5) fun b421 h422=>
M.still h239 (Addr.add ⟨b2,0,none⟩ 3) 1 h422 (
(M.new h422 (.cells #[.int .u8 n242] 5) fun b423 h424=>
M.still h239 (Addr.add ⟨b2,0,none⟩ 3) 1 h424 (
(M.b2s h424 (some ⟨b423,0,none⟩) 1 fun s425=>
M.still h239 (Addr.add ⟨b2,0,none⟩ 3) 1 h424 (
M.cat s425 (⟨#[49,50,51,52,53,54,55,56,57,48,49]⟩:ByteArray) fun s426=>
(M.b2s h424 (some ⟨b421,0,none⟩) 1 fun s427=>
M.still h239 (Addr.add ⟨b2,0,none⟩ 3) 1 h424 (
M.mk h424 5 [.int .u8 0] 1 31 31 fun a428 l429 c430 h431=>
M.still h239 (Addr.add ⟨b2,0,none⟩ 3) 1 h431 (
M.still h239 (Addr.add ⟨b2,0,none⟩ 3) 1 h431 (
M.b2s h431 a428 l429 fun s432=>
M.still h239 (Addr.add ⟨b2,0,none⟩ 3) 1 h431 (
M.still h239 (Addr.add ⟨b2,0,none⟩ 3) 1 h431 (
M.cat s427 s432 fun s433=>
J240 (s426,s433) h431)))))) ∧
(M.mk h424 5 [.int .u8 0] 1 31 31 fun a434 l435 c436 h437=>
M.still h239 (Addr.add ⟨b2,0,none⟩ 3) 1 h437 (
M.still h239 (Addr.add ⟨b2,0,none⟩ 3) 1 h437 (
(M.b2s h437 (some ⟨b421,0,none⟩) 1 fun s438=>
M.still h239 (Addr.add ⟨b2,0,none⟩ 3) 1 h437 (
M.b2s h437 a434 l435 fun s439=>
M.still h239 (Addr.add ⟨b2,0,none⟩ 3) 1 h437 (
M.still h239 (Addr.add ⟨b2,0,none⟩ 3) 1 h437 (
M.cat s438 s439 fun s440=>
J240 (s426,s440) h437)))) ∧
(M.b2s h437 a434 l435 fun s441=>
M.still h239 (Addr.add ⟨b2,0,none⟩ 3) 1 h437 (
M.still h239 (Addr.add ⟨b2,0,none⟩ 3) 1 h437 (
M.b2s h437 (some ⟨b421,0,none⟩) 1 fun s442=>
M.still h239 (Addr.add ⟨b2,0,none⟩ 3) 1 h437 (
M.cat s442 s441 fun s443=>
J240 (s426,s443) h437))))))))) ∧
(M.b2s h424 (some ⟨b421,0,none⟩) 1 fun s444=>
M.still h239 (Addr.add ⟨b2,0,none⟩ 3) 1 h424 (
(M.b2s h424 (some ⟨b423,0,none⟩) 1 fun s445=>
M.still h239 (Addr.add ⟨b2,0,none⟩ 3) 1 h424 (
M.cat s445 (⟨#[49,50,51,52,53,54,55,56,57,48,49]⟩:ByteArray) fun s446=>
M.mk h424 5 [.int .u8 0] 1 31 31 fun a447 l448 c449 h450=>
M.still h239 (Addr.add ⟨b2,0,none⟩ 3) 1 h450 (
M.still h239 (Addr.add ⟨b2,0,none⟩ 3) 1 h450 (
M.b2s h450 a447 l448 fun s451=>
M.still h239 (Addr.add ⟨b2,0,none⟩ 3) 1 h450 (
M.still h239 (Addr.add ⟨b2,0,none⟩ 3) 1 h450 (
M.cat s444 s451 fun s452=>
J240 (s446,s452) h450)))))) ∧
(M.mk h424 5 [.int .u8 0] 1 31 31 fun a453 l454 c455 h456=>
M.still h239 (Addr.add ⟨b2,0,none⟩ 3) 1 h456 (
M.still h239 (Addr.add ⟨b2,0,none⟩ 3) 1 h456 (
(M.b2s h456 (some ⟨b423,0,none⟩) 1 fun s457=>
M.still h239 (Addr.add ⟨b2,0,none⟩ 3) 1 h456 (
M.cat s457 (⟨#[49,50,51,52,53,54,55,56,57,48,49]⟩:ByteArray) fun s458=>
M.b2s h456 a453 l454 fun s459=>
M.still h239 (Addr.add ⟨b2,0,none⟩ 3) 1 h456 (
M.still h239 (Addr.add ⟨b2,0,none⟩ 3) 1 h456 (
M.cat s444 s459 fun s460=>
J240 (s458,s460) h456)))) ∧
(M.b2s h456 a453 l454 fun s461=>
M.still h239 (Addr.add ⟨b2,0,none⟩ 3) 1 h456 (
M.still h239 (Addr.add ⟨b2,0,none⟩ 3) 1 h456 (
M.cat s444 s461 fun s462=>
M.b2s h456 (some ⟨b423,0,none⟩) 1 fun s463=>
M.still h239 (Addr.add ⟨b2,0,none⟩ 3) 1 h456 (
M.cat s463 (⟨#[49,50,51,52,53,54,55,56,57,48,49]⟩:ByteArray) fun s464=>
J240 (s464,s462) h456))))))))) ∧
(M.mk h424 5 [.int .u8 0] 1 31 31 fun a465 l466 c467 h468=>
M.still h239 (Addr.add ⟨b2,0,none⟩ 3) 1 h468 (
M.still h239 (Addr.add ⟨b2,0,none⟩ 3) 1 h468 (
(M.b2s h468 (some ⟨b423,0,none⟩) 1 fun s469=>
M.still h239 (Addr.add ⟨b2,0,none⟩ 3) 1 h468 (
M.cat s469 (⟨#[49,50,51,52,53,54,55,56,57,48,49]⟩:ByteArray) fun s470=>
(M.b2s h468 (some ⟨b421,0,none⟩) 1 fun s471=>
M.still h239 (Addr.add ⟨b2,0,none⟩ 3) 1 h468 (
M.b2s h468 a465 l466 fun s472=>
M.still h239 (Addr.add ⟨b2,0,none⟩ 3) 1 h468 (
M.still h239 (Addr.add ⟨b2,0,none⟩ 3) 1 h468 (
M.cat s471 s472 fun s473=>
J240 (s470,s473) h468)))) ∧
(M.b2s h468 a465 l466 fun s474=>
M.still h239 (Addr.add ⟨b2,0,none⟩ 3) 1 h468 (
M.still h239 (Addr.add ⟨b2,0,none⟩ 3) 1 h468 (
M.b2s h468 (some ⟨b421,0,none⟩) 1 fun s475=>
M.still h239 (Addr.add ⟨b2,0,none⟩ 3) 1 h468 (
M.cat s475 s474 fun s476=>
J240 (s470,s476) h468)))))) ∧
(M.b2s h468 (some ⟨b421,0,none⟩) 1 fun s477=>
M.still h239 (Addr.add ⟨b2,0,none⟩ 3) 1 h468 (
(M.b2s h468 (some ⟨b423,0,none⟩) 1 fun s478=>
M.still h239 (Addr.add ⟨b2,0,none⟩ 3) 1 h468 (
M.cat s478 (⟨#[49,50,51,52,53,54,55,56,57,48,49]⟩:ByteArray) fun s479=>
M.b2s h468 a465 l466 fun s480=>
M.still h239 (Addr.add ⟨b2,0,none⟩ 3) 1 h468 (
M.still h239 (Addr.add ⟨b2,0,none⟩ 3) 1 h468 (
M.cat s477 s480 fun s481=>
J240 (s479,s481) h468)))) ∧
(M.b2s h468 a465 l466 fun s482=>
M.still h239 (Addr.add ⟨b2,0,none⟩ 3) 1 h468 (
M.still h239 (Addr.add ⟨b2,0,none⟩ 3) 1 h468 (
M.cat s477 s482 fun s483=>
M.b2s h468 (some ⟨b423,0,none⟩) 1 fun s484=>
M.still h239 (Addr.add ⟨b2,0,none⟩ 3) 1 h468 (
M.cat s484 (⟨#[49,50,51,52,53,54,55,56,57,48,49]⟩:ByteArray) fun s485=>
J240 (s485,s483) h468)))))) ∧
(M.b2s h468 a465 l466 fun s486=>
M.still h239 (Addr.add ⟨b2,0,none⟩ 3) 1 h468 (
M.still h239 (Addr.add ⟨b2,0,none⟩ 3) 1 h468 (
(M.b2s h468 (some ⟨b423,0,none⟩) 1 fun s487=>
M.still h239 (Addr.add ⟨b2,0,none⟩ 3) 1 h468 (
M.cat s487 (⟨#[49,50,51,52,53,54,55,56,57,48,49]⟩:ByteArray) fun s488=>
M.b2s h468 (some ⟨b421,0,none⟩) 1 fun s489=>
M.still h239 (Addr.add ⟨b2,0,none⟩ 3) 1 h468 (
M.cat s489 s486 fun s490=>
J240 (s488,s490) h468))) ∧
(M.b2s h468 (some ⟨b421,0,none⟩) 1 fun s491=>
M.still h239 (Addr.add ⟨b2,0,none⟩ 3) 1 h468 (
M.cat s491 s486 fun s492=>
M.b2s h468 (some ⟨b423,0,none⟩) 1 fun s493=>
M.still h239 (Addr.add ⟨b2,0,none⟩ 3) 1 h468 (
M.cat s493 (⟨#[49,50,51,52,53,54,55,56,57,48,49]⟩:ByteArray) fun s494=>
J240 (s494,s492) h468))))))))))) ∧
(M.b2s h422 (some ⟨b421,0,none⟩) 1 fun s495=>
M.still h239 (Addr.add ⟨b2,0,none⟩ 3) 1 h422 (
(M.new h422 (.cells #[.int .u8 n242] 5) fun b496 h497=>
M.still h239 (Addr.add ⟨b2,0,none⟩ 3) 1 h497 (
(M.b2s h497 (some ⟨b496,0,none⟩) 1 fun s498=>
M.still h239 (Addr.add ⟨b2,0,none⟩ 3) 1 h497 (
M.cat s498 (⟨#[49,50,51,52,53,54,55,56,57,48,49]⟩:ByteArray) fun s499=>
M.mk h497 5 [.int .u8 0] 1 31 31 fun a500 l501 c502 h503=>
M.still h239 (Addr.add ⟨b2,0,none⟩ 3) 1 h503 (
M.still h239 (Addr.add ⟨b2,0,none⟩ 3) 1 h503 (
M.b2s h503 a500 l501 fun s504=>
M.still h239 (Addr.add ⟨b2,0,none⟩ 3) 1 h503 (
M.still h239 (Addr.add ⟨b2,0,none⟩ 3) 1 h503 (
M.cat s495 s504 fun s505=>
J240 (s499,s505) h503)))))) ∧
(M.mk h497 5 [.int .u8 0] 1 31 31 fun a506 l507 c508 h509=>
M.still h239 (Addr.add ⟨b2,0,none⟩ 3) 1 h509 (
M.still h239 (Addr.add ⟨b2,0,none⟩ 3) 1 h509 (
(M.b2s h509 (some ⟨b496,0,none⟩) 1 fun s510=>
M.still h239 (Addr.add ⟨b2,0,none⟩ 3) 1 h509 (
M.cat s510 (⟨#[49,50,51,52,53,54,55,56,57,48,49]⟩:ByteArray) fun s511=>
M.b2s h509 a506 l507 fun s512=>
M.still h239 (Addr.add ⟨b2,0,none⟩ 3) 1 h509 (
M.still h239 (Addr.add ⟨b2,0,none⟩ 3) 1 h509 (
M.cat s495 s512 fun s513=>
J240 (s511,s513) h509)))) ∧
(M.b2s h509 a506 l507 fun s514=>
M.still h239 (Addr.add ⟨b2,0,none⟩ 3) 1 h509 (
M.still h239 (Addr.add ⟨b2,0,none⟩ 3) 1 h509 (
M.cat s495 s514 fun s515=>
M.b2s h509 (some ⟨b496,0,none⟩) 1 fun s516=>
M.still h239 (Addr.add ⟨b2,0,none⟩ 3) 1 h509 (
M.cat s516 (⟨#[49,50,51,52,53,54,55,56,57,48,49]⟩:ByteArray) fun s517=>
J240 (s517,s515) h509))))))))) ∧
(M.mk h422 5 [.int .u8 0] 1 31 31 fun a518 l519 c520 h521=>
M.still h239 (Addr.add ⟨b2,0,none⟩ 3) 1 h521 (
M.still h239 (Addr.add ⟨b2,0,none⟩ 3) 1 h521 (
(M.new h521 (.cells #[.int .u8 n242] 5) fun b522 h523=>
M.still h239 (Addr.add ⟨b2,0,none⟩ 3) 1 h523 (
(M.b2s h523 (some ⟨b522,0,none⟩) 1 fun s524=>
M.still h239 (Addr.add ⟨b2,0,none⟩ 3) 1 h523 (
M.cat s524 (⟨#[49,50,51,52,53,54,55,56,57,48,49]⟩:ByteArray) fun s525=>
M.b2s h523 a518 l519 fun s526=>
M.still h239 (Addr.add ⟨b2,0,none⟩ 3) 1 h523 (
M.still h239 (Addr.add ⟨b2,0,none⟩ 3) 1 h523 (
M.cat s495 s526 fun s527=>
J240 (s525,s527) h523)))) ∧
(M.b2s h523 a518 l519 fun s528=>
M.still h239 (Addr.add ⟨b2,0,none⟩ 3) 1 h523 (
M.still h239 (Addr.add ⟨b2,0,none⟩ 3) 1 h523 (
M.cat s495 s528 fun s529=>
M.b2s h523 (some ⟨b522,0,none⟩) 1 fun s530=>
M.still h239 (Addr.add ⟨b2,0,none⟩ 3) 1 h523 (
M.cat s530 (⟨#[49,50,51,52,53,54,55,56,57,48,49]⟩:ByteArray) fun s531=>
J240 (s531,s529) h523)))))) ∧
(M.b2s h521 a518 l519 fun s532=>
M.still h239 (Addr.add ⟨b2,0,none⟩ 3) 1 h521 (
M.still h239 (Addr.add ⟨b2,0,none⟩ 3) 1 h521 (
M.cat s495 s532 fun s533=>
M.new h521 (.cells #[.int .u8 n242] 5) fun b534 h535=>
M.still h239 (Addr.add ⟨b2,0,none⟩ 3) 1 h535 (
M.b2s h535 (some ⟨b534,0,none⟩) 1 fun s536=>
M.still h239 (Addr.add ⟨b2,0,none⟩ 3) 1 h535 (
M.cat s536 (⟨#[49,50,51,52,53,54,55,56,57,48,49]⟩:ByteArray) fun s537=>
J240 (s537,s533) h535)))))))))) ∧
(M.mk h422 5 [.int .u8 0] 1 31 31 fun a538 l539 c540 h541=>
M.still h239 (Addr.add ⟨b2,0,none⟩ 3) 1 h541 (
M.still h239 (Addr.add ⟨b2,0,none⟩ 3) 1 h541 (
(M.new h541 (.cells #[.int .u8 n242] 5) fun b542 h543=>
M.still h239 (Addr.add ⟨b2,0,none⟩ 3) 1 h543 (
(M.b2s h543 (some ⟨b542,0,none⟩) 1 fun s544=>
M.still h239 (Addr.add ⟨b2,0,none⟩ 3) 1 h543 (
M.cat s544 (⟨#[49,50,51,52,53,54,55,56,57,48,49]⟩:ByteArray) fun s545=>
(M.b2s h543 (some ⟨b421,0,none⟩) 1 fun s546=>
M.still h239 (Addr.add ⟨b2,0,none⟩ 3) 1 h543 (
M.b2s h543 a538 l539 fun s547=>
M.still h239 (Addr.add ⟨b2,0,none⟩ 3) 1 h543 (
M.still h239 (Addr.add ⟨b2,0,none⟩ 3) 1 h543 (
M.cat s546 s547 fun s548=>
J240 (s545,s548) h543)))) ∧
(M.b2s h543 a538 l539 fun s549=>
M.still h239 (Addr.add ⟨b2,0,none⟩ 3) 1 h543 (
M.still h239 (Addr.add ⟨b2,0,none⟩ 3) 1 h543 (
M.b2s h543 (some ⟨b421,0,none⟩) 1 fun s550=>
M.still h239 (Addr.add ⟨b2,0,none⟩ 3) 1 h543 (
M.cat s550 s549 fun s551=>
J240 (s545,s551) h543)))))) ∧
(M.b2s h543 (some ⟨b421,0,none⟩) 1 fun s552=>
M.still h239 (Addr.add ⟨b2,0,none⟩ 3) 1 h543 (
(M.b2s h543 (some ⟨b542,0,none⟩) 1 fun s553=>
M.still h239 (Addr.add ⟨b2,0,none⟩ 3) 1 h543 (
M.cat s553 (⟨#[49,50,51,52,53,54,55,56,57,48,49]⟩:ByteArray) fun s554=>
M.b2s h543 a538 l539 fun s555=>
M.still h239 (Addr.add ⟨b2,0,none⟩ 3) 1 h543 (
M.still h239 (Addr.add ⟨b2,0,none⟩ 3) 1 h543 (
M.cat s552 s555 fun s556=>
J240 (s554,s556) h543)))) ∧
(M.b2s h543 a538 l539 fun s557=>
M.still h239 (Addr.add ⟨b2,0,none⟩ 3) 1 h543 (
M.still h239 (Addr.add ⟨b2,0,none⟩ 3) 1 h543 (
M.cat s552 s557 fun s558=>
M.b2s h543 (some ⟨b542,0,none⟩) 1 fun s559=>
M.still h239 (Addr.add ⟨b2,0,none⟩ 3) 1 h543 (
M.cat s559 (⟨#[49,50,51,52,53,54,55,56,57,48,49]⟩:ByteArray) fun s560=>
J240 (s560,s558) h543)))))) ∧
(M.b2s h543 a538 l539 fun s561=>
M.still h239 (Addr.add ⟨b2,0,none⟩ 3) 1 h543 (
M.still h239 (Addr.add ⟨b2,0,none⟩ 3) 1 h543 (
(M.b2s h543 (some ⟨b542,0,none⟩) 1 fun s562=>
M.still h239 (Addr.add ⟨b2,0,none⟩ 3) 1 h543 (
M.cat s562 (⟨#[49,50,51,52,53,54,55,56,57,48,49]⟩:ByteArray) fun s563=>
M.b2s h543 (some ⟨b421,0,none⟩) 1 fun s564=>
M.still h239 (Addr.add ⟨b2,0,none⟩ 3) 1 h543 (
M.cat s564 s561 fun s565=>
J240 (s563,s565) h543))) ∧
(M.b2s h543 (some ⟨b421,0,none⟩) 1 fun s566=>
M.still h239 (Addr.add ⟨b2,0,none⟩ 3) 1 h543 (
M.cat s566 s561 fun s567=>
M.b2s h543 (some ⟨b542,0,none⟩) 1 fun s568=>
M.still h239 (Addr.add ⟨b2,0,none⟩ 3) 1 h543 (
M.cat s568 (⟨#[49,50,51,52,53,54,55,56,57,48,49]⟩:ByteArray) fun s569=>
J240 (s569,s567) h543)))))))) ∧
(M.b2s h541 (some ⟨b421,0,none⟩) 1 fun s570=>
M.still h239 (Addr.add ⟨b2,0,none⟩ 3) 1 h541 (
(M.new h541 (.cells #[.int .u8 n242] 5) fun b571 h572=>
M.still h239 (Addr.add ⟨b2,0,none⟩ 3) 1 h572 (
(M.b2s h572 (some ⟨b571,0,none⟩) 1 fun s573=>
M.still h239 (Addr.add ⟨b2,0,none⟩ 3) 1 h572 (
M.cat s573 (⟨#[49,50,51,52,53,54,55,56,57,48,49]⟩:ByteArray) fun s574=>
M.b2s h572 a538 l539 fun s575=>
M.still h239 (Addr.add ⟨b2,0,none⟩ 3) 1 h572 (
M.still h239 (Addr.add ⟨b2,0,none⟩ 3) 1 h572 (
M.cat s570 s575 fun s576=>
J240 (s574,s576) h572)))) ∧
(M.b2s h572 a538 l539 fun s577=>
M.still h239 (Addr.add ⟨b2,0,none⟩ 3) 1 h572 (
M.still h239 (Addr.add ⟨b2,0,none⟩ 3) 1 h572 (
M.cat s570 s577 fun s578=>
M.b2s h572 (some ⟨b571,0,none⟩) 1 fun s579=>
M.still h239 (Addr.add ⟨b2,0,none⟩ 3) 1 h572 (
M.cat s579 (⟨#[49,50,51,52,53,54,55,56,57,48,49]⟩:ByteArray) fun s580=>
J240 (s580,s578) h572)))))) ∧
(M.b2s h541 a538 l539 fun s581=>
M.still h239 (Addr.add ⟨b2,0,none⟩ 3) 1 h541 (
M.still h239 (Addr.add ⟨b2,0,none⟩ 3) 1 h541 (
M.cat s570 s581 fun s582=>
M.new h541 (.cells #[.int .u8 n242] 5) fun b583 h584=>
M.still h239 (Addr.add ⟨b2,0,none⟩ 3) 1 h584 (
M.b2s h584 (some ⟨b583,0,none⟩) 1 fun s585=>
M.still h239 (Addr.add ⟨b2,0,none⟩ 3) 1 h584 (
M.cat s585 (⟨#[49,50,51,52,53,54,55,56,57,48,49]⟩:ByteArray) fun s586=>
J240 (s586,s582) h584))))))) ∧
(M.b2s h541 a538 l539 fun s587=>
M.still h239 (Addr.add ⟨b2,0,none⟩ 3) 1 h541 (
M.still h239 (Addr.add ⟨b2,0,none⟩ 3) 1 h541 (
(M.new h541 (.cells #[.int .u8 n242] 5) fun b588 h589=>
M.still h239 (Addr.add ⟨b2,0,none⟩ 3) 1 h589 (
(M.b2s h589 (some ⟨b588,0,none⟩) 1 fun s590=>
M.still h239 (Addr.add ⟨b2,0,none⟩ 3) 1 h589 (
M.cat s590 (⟨#[49,50,51,52,53,54,55,56,57,48,49]⟩:ByteArray) fun s591=>
M.b2s h589 (some ⟨b421,0,none⟩) 1 fun s592=>
M.still h239 (Addr.add ⟨b2,0,none⟩ 3) 1 h589 (
M.cat s592 s587 fun s593=>
J240 (s591,s593) h589))) ∧
(M.b2s h589 (some ⟨b421,0,none⟩) 1 fun s594=>
M.still h239 (Addr.add ⟨b2,0,none⟩ 3) 1 h589 (
M.cat s594 s587 fun s595=>
M.b2s h589 (some ⟨b588,0,none⟩) 1 fun s596=>
M.still h239 (Addr.add ⟨b2,0,none⟩ 3) 1 h589 (
M.cat s596 (⟨#[49,50,51,52,53,54,55,56,57,48,49]⟩:ByteArray) fun s597=>
J240 (s597,s595) h589))))) ∧
(M.b2s h541 (some ⟨b421,0,none⟩) 1 fun s598=>
M.still h239 (Addr.add ⟨b2,0,none⟩ 3) 1 h541 (
M.cat s598 s587 fun s599=>
M.new h541 (.cells #[.int .u8 n242] 5) fun b600 h601=>
M.still h239 (Addr.add ⟨b2,0,none⟩ 3) 1 h601 (
M.b2s h601 (some ⟨b600,0,none⟩) 1 fun s602=>
M.still h239 (Addr.add ⟨b2,0,none⟩ 3) 1 h601 (
M.cat s602 (⟨#[49,50,51,52,53,54,55,56,57,48,49]⟩:ByteArray) fun s603=>
J240 (s603,s599) h601)))))))))))) ∧
(M.mk h239 5 [.int .u8 0] 1 31 31 fun a604 l605 c606 h607=>
M.still h239 (Addr.add ⟨b2,0,none⟩ 3) 1 h607 (
M.still h239 (Addr.add ⟨b2,0,none⟩ 3) 1 h607 (
(M.new h607 (.cells #[.int .u8 n242] 5) fun b608 h609=>
M.still h239 (Addr.add ⟨b2,0,none⟩ 3) 1 h609 (
(M.b2s h609 (some ⟨b608,0,none⟩) 1 fun s610=>
M.still h239 (Addr.add ⟨b2,0,none⟩ 3) 1 h609 (
M.cat s610 (⟨#[49,50,51,52,53,54,55,56,57,48,49]⟩:ByteArray) fun s611=>
(M.new h609 (.cells #[.int .u8 n244] 5) fun b612 h613=>
M.still h239 (Addr.add ⟨b2,0,none⟩ 3) 1 h613 (
(M.b2s h613 (some ⟨b612,0,none⟩) 1 fun s614=>
M.still h239 (Addr.add ⟨b2,0,none⟩ 3) 1 h613 (
M.b2s h613 a604 l605 fun s615=>
M.still h239 (Addr.add ⟨b2,0,none⟩ 3) 1 h613 (
M.still h239 (Addr.add ⟨b2,0,none⟩ 3) 1 h613 (
M.cat s614 s615 fun s616=>
J240 (s611,s616) h613)))) ∧
(M.b2s h613 a604 l605 fun s617=>
M.still h239 (Addr.add ⟨b2,0,none⟩ 3) 1 h613 (
M.still h239 (Addr.add ⟨b2,0,none⟩ 3) 1 h613 (
M.b2s h613 (some ⟨b612,0,none⟩) 1 fun s618=>
M.still h239 (Addr.add ⟨b2,0,none⟩ 3) 1 h613 (
M.cat s618 s617 fun s619=>
J240 (s611,s619) h613)))))) ∧
(M.b2s h609 a604 l605 fun s620=>
M.still h239 (Addr.add ⟨b2,0,none⟩ 3) 1 h609 (
M.still h239 (Addr.add ⟨b2,0,none⟩ 3) 1 h609 (
M.new h609 (.cells #[.int .u8 n244] 5) fun b621 h622=>
M.still h239 (Addr.add ⟨b2,0,none⟩ 3) 1 h622 (
M.b2s h622 (some ⟨b621,0,none⟩) 1 fun s623=>
M.still h239 (Addr.add ⟨b2,0,none⟩ 3) 1 h622 (
M.cat s623 s620 fun s624=>
J240 (s611,s624) h622))))))) ∧
(M.new h609 (.cells #[.int .u8 n244] 5) fun b625 h626=>
M.still h239 (Addr.add ⟨b2,0,none⟩ 3) 1 h626 (
(M.b2s h626 (some ⟨b608,0,none⟩) 1 fun s627=>
M.still h239 (Addr.add ⟨b2,0,none⟩ 3) 1 h626 (
M.cat s627 (⟨#[49,50,51,52,53,54,55,56,57,48,49]⟩:ByteArray) fun s628=>
(M.b2s h626 (some ⟨b625,0,none⟩) 1 fun s629=>
M.still h239 (Addr.add ⟨b2,0,none⟩ 3) 1 h626 (
M.b2s h626 a604 l605 fun s630=>
M.still h239 (Addr.add ⟨b2,0,none⟩ 3) 1 h626 (
M.still h239 (Addr.add ⟨b2,0,none⟩ 3) 1 h626 (
M.cat s629 s630 fun s631=>
J240 (s628,s631) h626)))) ∧
(M.b2s h626 a604 l605 fun s632=>
M.still h239 (Addr.add ⟨b2,0,none⟩ 3) 1 h626 (
M.still h239 (Addr.add ⟨b2,0,none⟩ 3) 1 h626 (
M.b2s h626 (some ⟨b625,0,none⟩) 1 fun s633=>
M.still h239 (Addr.add ⟨b2,0,none⟩ 3) 1 h626 (
M.cat s633 s632 fun s634=>
J240 (s628,s634) h626)))))) ∧
(M.b2s h626 (some ⟨b625,0,none⟩) 1 fun s635=>
M.still h239 (Addr.add ⟨b2,0,none⟩ 3) 1 h626 (
(M.b2s h626 (some ⟨b608,0,none⟩) 1 fun s636=>
M.still h239 (Addr.add ⟨b2,0,none⟩ 3) 1 h626 (
M.cat s636 (⟨#[49,50,51,52,53,54,55,56,57,48,49]⟩:ByteArray) fun s637=>
M.b2s h626 a604 l605 fun s638=>
M.still h239 (Addr.add ⟨b2,0,none⟩ 3) 1 h626 (
M.still h239 (Addr.add ⟨b2,0,none⟩ 3) 1 h626 (
M.cat s635 s638 fun s639=>
J240 (s637,s639) h626)))) ∧
(M.b2s h626 a604 l605 fun s640=>
M.still h239 (Addr.add ⟨b2,0,none⟩ 3) 1 h626 (
M.still h239 (Addr.add ⟨b2,0,none⟩ 3) 1 h626 (
M.cat s635 s640 fun s641=>
M.b2s h626 (some ⟨b608,0,none⟩) 1 fun s642=>
M.still h239 (Addr.add ⟨b2,0,none⟩ 3) 1 h626 (
M.cat s642 (⟨#[49,50,51,52,53,54,55,56,57,48,49]⟩:ByteArray) fun s643=>
J240 (s643,s641) h626)))))) ∧
(M.b2s h626 a604 l605 fun s644=>
M.still h239 (Addr.add ⟨b2,0,none⟩ 3) 1 h626 (
M.still h239 (Addr.add ⟨b2,0,none⟩ 3) 1 h626 (
(M.b2s h626 (some ⟨b608,0,none⟩) 1 fun s645=>
M.still h239 (Addr.add ⟨b2,0,none⟩ 3) 1 h626 (
M.cat s645 (⟨#[49,50,51,52,53,54,55,56,57,48,49]⟩:ByteArray) fun s646=>
M.b2s h626 (some ⟨b625,0,none⟩) 1 fun s647=>
M.still h239 (Addr.add ⟨b2,0,none⟩ 3) 1 h626 (
M.cat s647 s644 fun s648=>
J240 (s646,s648) h626))) ∧
(M.b2s h626 (some ⟨b625,0,none⟩) 1 fun s649=>
M.still h239 (Addr.add ⟨b2,0,none⟩ 3) 1 h626 (
M.cat s649 s644 fun s650=>
M.b2s h626 (some ⟨b608,0,none⟩) 1 fun s651=>
M.still h239 (Addr.add ⟨b2,0,none⟩ 3) 1 h626 (
M.cat s651 (⟨#[49,50,51,52,53,54,55,56,57,48,49]⟩:ByteArray) fun s652=>
J240 (s652,s650) h626)))))))) ∧
(M.b2s h609 a604 l605 fun s653=>
M.still h239 (Addr.add ⟨b2,0,none⟩ 3) 1 h609 (
M.still h239 (Addr.add ⟨b2,0,none⟩ 3) 1 h609 (
(M.b2s h609 (some ⟨b608,0,none⟩) 1 fun s654=>
M.still h239 (Addr.add ⟨b2,0,none⟩ 3) 1 h609 (
M.cat s654 (⟨#[49,50,51,52,53,54,55,56,57,48,49]⟩:ByteArray) fun s655=>
M.new h609 (.cells #[.int .u8 n244] 5) fun b656 h657=>
M.still h239 (Addr.add ⟨b2,0,none⟩ 3) 1 h657 (
M.b2s h657 (some ⟨b656,0,none⟩) 1 fun s658=>
M.still h239 (Addr.add ⟨b2,0,none⟩ 3) 1 h657 (
M.cat s658 s653 fun s659=>
J240 (s655,s659) h657)))) ∧
(M.new h609 (.cells #[.int .u8 n244] 5) fun b660 h661=>
M.still h239 (Addr.add ⟨b2,0,none⟩ 3) 1 h661 (
(M.b2s h661 (some ⟨b608,0,none⟩) 1 fun s662=>
M.still h239 (Addr.add ⟨b2,0,none⟩ 3) 1 h661 (
M.cat s662 (⟨#[49,50,51,52,53,54,55,56,57,48,49]⟩:ByteArray) fun s663=>
M.b2s h661 (some ⟨b660,0,none⟩) 1 fun s664=>
M.still h239 (Addr.add ⟨b2,0,none⟩ 3) 1 h661 (
M.cat s664 s653 fun s665=>
J240 (s663,s665) h661))) ∧
(M.b2s h661 (some ⟨b660,0,none⟩) 1 fun s666=>
M.still h239 (Addr.add ⟨b2,0,none⟩ 3) 1 h661 (
M.cat s666 s653 fun s667=>
M.b2s h661 (some ⟨b608,0,none⟩) 1 fun s668=>
M.still h239 (Addr.add ⟨b2,0,none⟩ 3) 1 h661 (
M.cat s668 (⟨#[49,50,51,52,53,54,55,56,57,48,49]⟩:ByteArray) fun s669=>
J240 (s669,s667) h661)))))))))) ∧
(M.new h607 (.cells #[.int .u8 n244] 5) fun b670 h671=>
M.still h239 (Addr.add ⟨b2,0,none⟩ 3) 1 h671 (
(M.new h671 (.cells #[.int .u8 n242] 5) fun b672 h673=>
M.still h239 (Addr.add ⟨b2,0,none⟩ 3) 1 h673 (
(M.b2s h673 (some ⟨b672,0,none⟩) 1 fun s674=>
M.still h239 (Addr.add ⟨b2,0,none⟩ 3) 1 h673 (
M.cat s674 (⟨#[49,50,51,52,53,54,55,56,57,48,49]⟩:ByteArray) fun s675=>
(M.b2s h673 (some ⟨b670,0,none⟩) 1 fun s676=>
M.still h239 (Addr.add ⟨b2,0,none⟩ 3) 1 h673 (
M.b2s h673 a604 l605 fun s677=>
M.still h239 (Addr.add ⟨b2,0,none⟩ 3) 1 h673 (
M.still h239 (Addr.add ⟨b2,0,none⟩ 3) 1 h673 (
M.cat s676 s677 fun s678=>
J240 (s675,s678) h673)))) ∧
(M.b2s h673 a604 l605 fun s679=>
M.still h239 (Addr.add ⟨b2,0,none⟩ 3) 1 h673 (
M.still h239 (Addr.add ⟨b2,0,none⟩ 3) 1 h673 (
M.b2s h673 (some ⟨b670,0,none⟩) 1 fun s680=>
M.still h239 (Addr.add ⟨b2,0,none⟩ 3) 1 h673 (
M.cat s680 s679 fun s681=>
J240 (s675,s681) h673)))))) ∧
(M.b2s h673 (some ⟨b670,0,none⟩) 1 fun s682=>
M.still h239 (Addr.add ⟨b2,0,none⟩ 3) 1 h673 (
(M.b2s h673 (some ⟨b672,0,none⟩) 1 fun s683=>
M.still h239 (Addr.add ⟨b2,0,none⟩ 3) 1 h673 (
M.cat s683 (⟨#[49,50,51,52,53,54,55,56,57,48,49]⟩:ByteArray) fun s684=>
M.b2s h673 a604 l605 fun s685=>
M.still h239 (Addr.add ⟨b2,0,none⟩ 3) 1 h673 (
M.still h239 (Addr.add ⟨b2,0,none⟩ 3) 1 h673 (
M.cat s682 s685 fun s686=>
J240 (s684,s686) h673)))) ∧
(M.b2s h673 a604 l605 fun s687=>
M.still h239 (Addr.add ⟨b2,0,none⟩ 3) 1 h673 (
M.still h239 (Addr.add ⟨b2,0,none⟩ 3) 1 h673 (
M.cat s682 s687 fun s688=>
M.b2s h673 (some ⟨b672,0,none⟩) 1 fun s689=>
M.still h239 (Addr.add ⟨b2,0,none⟩ 3) 1 h673 (
M.cat s689 (⟨#[49,50,51,52,53,54,55,56,57,48,49]⟩:ByteArray) fun s690=>
J240 (s690,s688) h673)))))) ∧
(M.b2s h673 a604 l605 fun s691=>
M.still h239 (Addr.add ⟨b2,0,none⟩ 3) 1 h673 (
M.still h239 (Addr.add ⟨b2,0,none⟩ 3) 1 h673 (
(M.b2s h673 (some ⟨b672,0,none⟩) 1 fun s692=>
M.still h239 (Addr.add ⟨b2,0,none⟩ 3) 1 h673 (
M.cat s692 (⟨#[49,50,51,52,53,54,55,56,57,48,49]⟩:ByteArray) fun s693=>
M.b2s h673 (some ⟨b670,0,none⟩) 1 fun s694=>
M.still h239 (Addr.add ⟨b2,0,none⟩ 3) 1 h673 (
M.cat s694 s691 fun s695=>
J240 (s693,s695) h673))) ∧
(M.b2s h673 (some ⟨b670,0,none⟩) 1 fun s696=>
M.still h239 (Addr.add ⟨b2,0,none⟩ 3) 1 h673 (
M.cat s696 s691 fun s697=>
M.b2s h673 (some ⟨b672,0,none⟩) 1 fun s698=>
M.still h239 (Addr.add ⟨b2,0,none⟩ 3) 1 h673 (
M.cat s698 (⟨#[49,50,51,52,53,54,55,56,57,48,49]⟩:ByteArray) fun s699=>
J240 (s699,s697) h673)))))))) ∧
(M.b2s h671 (some ⟨b670,0,none⟩) 1 fun s700=>
M.still h239 (Addr.add ⟨b2,0,none⟩ 3) 1 h671 (
(M.new h671 (.cells #[.int .u8 n242] 5) fun b701 h702=>
M.still h239 (Addr.add ⟨b2,0,none⟩ 3) 1 h702 (
(M.b2s h702 (some ⟨b701,0,none⟩) 1 fun s703=>
M.still h239 (Addr.add ⟨b2,0,none⟩ 3) 1 h702 (
M.cat s703 (⟨#[49,50,51,52,53,54,55,56,57,48,49]⟩:ByteArray) fun s704=>
M.b2s h702 a604 l605 fun s705=>
M.still h239 (Addr.add ⟨b2,0,none⟩ 3) 1 h702 (
M.still h239 (Addr.add ⟨b2,0,none⟩ 3) 1 h702 (
M.cat s700 s705 fun s706=>
J240 (s704,s706) h702)))) ∧
(M.b2s h702 a604 l605 fun s707=>
M.still h239 (Addr.add ⟨b2,0,none⟩ 3) 1 h702 (
M.still h239 (Addr.add ⟨b2,0,none⟩ 3) 1 h702 (
M.cat s700 s707 fun s708=>
M.b2s h702 (some ⟨b701,0,none⟩) 1 fun s709=>
M.still h239 (Addr.add ⟨b2,0,none⟩ 3) 1 h702 (
M.cat s709 (⟨#[49,50,51,52,53,54,55,56,57,48,49]⟩:ByteArray) fun s710=>
J240 (s710,s708) h702)))))) ∧
(M.b2s h671 a604 l605 fun s711=>
M.still h239 (Addr.add ⟨b2,0,none⟩ 3) 1 h671 (
M.still h239 (Addr.add ⟨b2,0,none⟩ 3) 1 h671 (
M.cat s700 s711 fun s712=>
M.new h671 (.cells #[.int .u8 n242] 5) fun b713 h714=>
M.still h239 (Addr.add ⟨b2,0,none⟩ 3) 1 h714 (
M.b2s h714 (some ⟨b713,0,none⟩) 1 fun s715=>
M.still h239 (Addr.add ⟨b2,0,none⟩ 3) 1 h714 (
M.cat s715 (⟨#[49,50,51,52,53,54,55,56,57,48,49]⟩:ByteArray) fun s716=>
J240 (s716,s712) h714))))))) ∧
(M.b2s h671 a604 l605 fun s717=>
M.still h239 (Addr.add ⟨b2,0,none⟩ 3) 1 h671 (
M.still h239 (Addr.add ⟨b2,0,none⟩ 3) 1 h671 (
(M.new h671 (.cells #[.int .u8 n242] 5) fun b718 h719=>
M.still h239 (Addr.add ⟨b2,0,none⟩ 3) 1 h719 (
(M.b2s h719 (some ⟨b718,0,none⟩) 1 fun s720=>
M.still h239 (Addr.add ⟨b2,0,none⟩ 3) 1 h719 (
M.cat s720 (⟨#[49,50,51,52,53,54,55,56,57,48,49]⟩:ByteArray) fun s721=>
M.b2s h719 (some ⟨b670,0,none⟩) 1 fun s722=>
M.still h239 (Addr.add ⟨b2,0,none⟩ 3) 1 h719 (
M.cat s722 s717 fun s723=>
J240 (s721,s723) h719))) ∧
(M.b2s h719 (some ⟨b670,0,none⟩) 1 fun s724=>
M.still h239 (Addr.add ⟨b2,0,none⟩ 3) 1 h719 (
M.cat s724 s717 fun s725=>
M.b2s h719 (some ⟨b718,0,none⟩) 1 fun s726=>
M.still h239 (Addr.add ⟨b2,0,none⟩ 3) 1 h719 (
M.cat s726 (⟨#[49,50,51,52,53,54,55,56,57,48,49]⟩:ByteArray) fun s727=>
J240 (s727,s725) h719))))) ∧
(M.b2s h671 (some ⟨b670,0,none⟩) 1 fun s728=>
M.still h239 (Addr.add ⟨b2,0,none⟩ 3) 1 h671 (
M.cat s728 s717 fun s729=>
M.new h671 (.cells #[.int .u8 n242] 5) fun b730 h731=>
M.still h239 (Addr.add ⟨b2,0,none⟩ 3) 1 h731 (
M.b2s h731 (some ⟨b730,0,none⟩) 1 fun s732=>
M.still h239 (Addr.add ⟨b2,0,none⟩ 3) 1 h731 (
M.cat s732 (⟨#[49,50,51,52,53,54,55,56,57,48,49]⟩:ByteArray) fun s733=>
J240 (s733,s729) h731))))))))) ∧
(M.b2s h607 a604 l605 fun s734=>
M.still h239 (Addr.add ⟨b2,0,none⟩ 3) 1 h607 (
M.still h239 (Addr.add ⟨b2,0,none⟩ 3) 1 h607 (
(M.new h607 (.cells #[.int .u8 n242] 5) fun b735 h736=>
M.still h239 (Addr.add ⟨b2,0,none⟩ 3) 1 h736 (
(M.b2s h736 (some ⟨b735,0,none⟩) 1 fun s737=>
M.still h239 (Addr.add ⟨b2,0,none⟩ 3) 1 h736 (
M.cat s737 (⟨#[49,50,51,52,53,54,55,56,57,48,49]⟩:ByteArray) fun s738=>
M.new h736 (.cells #[.int .u8 n244] 5) fun b739 h740=>
M.still h239 (Addr.add ⟨b2,0,none⟩ 3) 1 h740 (
M.b2s h740 (some ⟨b739,0,none⟩) 1 fun s741=>
M.still h239 (Addr.add ⟨b2,0,none⟩ 3) 1 h740 (
M.cat s741 s734 fun s742=>
J240 (s738,s742) h740)))) ∧
(M.new h736 (.cells #[.int .u8 n244] 5) fun b743 h744=>
M.still h239 (Addr.add ⟨b2,0,none⟩ 3) 1 h744 (
(M.b2s h744 (some ⟨b735,0,none⟩) 1 fun s745=>
M.still h239 (Addr.add ⟨b2,0,none⟩ 3) 1 h744 (
M.cat s745 (⟨#[49,50,51,52,53,54,55,56,57,48,49]⟩:ByteArray) fun s746=>
M.b2s h744 (some ⟨b743,0,none⟩) 1 fun s747=>
M.still h239 (Addr.add ⟨b2,0,none⟩ 3) 1 h744 (
M.cat s747 s734 fun s748=>
J240 (s746,s748) h744))) ∧
(M.b2s h744 (some ⟨b743,0,none⟩) 1 fun s749=>
M.still h239 (Addr.add ⟨b2,0,none⟩ 3) 1 h744 (
M.cat s749 s734 fun s750=>
M.b2s h744 (some ⟨b735,0,none⟩) 1 fun s751=>
M.still h239 (Addr.add ⟨b2,0,none⟩ 3) 1 h744 (
M.cat s751 (⟨#[49,50,51,52,53,54,55,56,57,48,49]⟩:ByteArray) fun s752=>
J240 (s752,s750) h744))))))) ∧
(M.new h607 (.cells #[.int .u8 n244] 5) fun b753 h754=>
M.still h239 (Addr.add ⟨b2,0,none⟩ 3) 1 h754 (
(M.new h754 (.cells #[.int .u8 n242] 5) fun b755 h756=>
M.still h239 (Addr.add ⟨b2,0,none⟩ 3) 1 h756 (
(M.b2s h756 (some ⟨b755,0,none⟩) 1 fun s757=>
M.still h239 (Addr.add ⟨b2,0,none⟩ 3) 1 h756 (
M.cat s757 (⟨#[49,50,51,52,53,54,55,56,57,48,49]⟩:ByteArray) fun s758=>
M.b2s h756 (some ⟨b753,0,none⟩) 1 fun s759=>
M.still h239 (Addr.add ⟨b2,0,none⟩ 3) 1 h756 (
M.cat s759 s734 fun s760=>
J240 (s758,s760) h756))) ∧
(M.b2s h756 (some ⟨b753,0,none⟩) 1 fun s761=>
M.still h239 (Addr.add ⟨b2,0,none⟩ 3) 1 h756 (
M.cat s761 s734 fun s762=>
M.b2s h756 (some ⟨b755,0,none⟩) 1 fun s763=>
M.still h239 (Addr.add ⟨b2,0,none⟩ 3) 1 h756 (
M.cat s763 (⟨#[49,50,51,52,53,54,55,56,57,48,49]⟩:ByteArray) fun s764=>
J240 (s764,s762) h756))))) ∧
(M.b2s h754 (some ⟨b753,0,none⟩) 1 fun s765=>
M.still h239 (Addr.add ⟨b2,0,none⟩ 3) 1 h754 (
M.cat s765 s734 fun s766=>
M.new h754 (.cells #[.int .u8 n242] 5) fun b767 h768=>
M.still h239 (Addr.add ⟨b2,0,none⟩ 3) 1 h768 (
M.b2s h768 (some ⟨b767,0,none⟩) 1 fun s769=>
M.still h239 (Addr.add ⟨b2,0,none⟩ 3) 1 h768 (
M.cat s769 (⟨#[49,50,51,52,53,54,55,56,57,48,49]⟩:ByteArray) fun s770=>
J240 (s770,s766) h768))))))))))))) fun J7=>
M.load h3 (Addr.add ⟨b2,0,none⟩ 0) fun v8=>
M.int .i64 v8 fun n9=>
M.nz 8 (
M.val (Int.tmod n9 8) fun z10=>
M.join (α:=ByteArray) (fun d205 h206=>
M.nn x0 fun a207=>
M.load h206 ((Addr.add a207 0).add 0) fun v208=>
M.ptr v208 fun p209=>
M.load h206 ((Addr.add a207 0).add 1) fun v210=>
M.int .i64 v210 fun n211=>
M.load h206 ((Addr.add a207 0).add 2) fun v212=>
M.int .i64 v212 fun n213=>
M.load h206 ((Addr.add a207 0).add 3) fun v214=>
M.str v214 fun s215=>
M.load h206 (Addr.add ⟨b2,0,none⟩ 1) fun v216=>
M.int .i64 v216 fun n217=>
F10 p209 n211 n213 s215 d205 n217 h206 fun s218 n219 h220=>
M.nn x0 fun a221=>
M.load h220 ((Addr.add a221 4).add 0) fun v222=>
M.ptr v222 fun p223=>
M.load h220 ((Addr.add a221 4).add 1) fun v224=>
M.int .i64 v224 fun n225=>
M.load h220 ((Addr.add a221 4).add 2) fun v226=>
M.int .i64 v226 fun n227=>
M.load h220 ((Addr.add a221 4).add 3) fun v228=>
M.str v228 fun s229=>
M.load h220 (Addr.add ⟨b2,0,none⟩ 1) fun v230=>
M.int .i64 v230 fun n231=>
F11 p223 n225 n227 s229 d205 n231 h220 fun s232 n233 h234=>
M.join (α:=Bool) (fun d236 h237=>
Q d236 h237) fun J235=>
(bif (strEq s218 s232) then
J235 (n219 == n233) h234
else
J235 false h234)) fun J11=>
M.join (α:=Unit) (fun d201 h202=>
M.load h202 (Addr.add ⟨b2,0,none⟩ 5) fun v203=>
M.str v203 fun s204=>
J11 s204 h202) fun J12=>
M.join (α:=Unit) (fun d191 h192=>
M.nn x0 fun a193=>
M.load h192 (Addr.add (Addr.add a193 0) 0) fun v194=>
M.ptr v194 fun p195=>
F8 p195 none 0 0 h192 fun h196=>
M.nn x0 fun a197=>
M.load h196 (Addr.add (Addr.add a197 4) 0) fun v198=>
M.ptr v198 fun p199=>
F9 p199 none 0 0 h196 fun h200=>
Q true h200) fun J13=>
M.join (α:=Unit) (fun d177 h178=>
M.nn x0 fun a179=>
M.load h178 (Addr.add (Addr.add a179 0) 0) fun v180=>
M.ptr v180 fun p181=>
M.load h178 (Addr.add ⟨b2,0,none⟩ 2) fun v182=>
M.int .i64 v182 fun n183=>
F6 p181 n183 h178 fun h184=>
M.nn x0 fun a185=>
M.load h184 (Addr.add (Addr.add a185 4) 0) fun v186=>
M.ptr v186 fun p187=>
M.load h184 (Addr.add ⟨b2,0,none⟩ 2) fun v188=>
M.int .i64 v188 fun n189=>
F7 p187 n189 h184 fun h190=>
Q true h190) fun J14=>
M.join (α:=Unit) (fun d139 h140=>
M.load h140 (Addr.add ⟨b2,0,none⟩ 5) fun v141=>
M.str v141 fun s142=>
M.load h140 (Addr.add ⟨b2,0,none⟩ 5) fun v143=>
M.str v143 fun s144=>
M.ssub s142 0 (mn (ByteArray.size s144:Int) 100) fun s145=>
M.nn x0 fun a146=>
M.load h140 (Addr.add (Addr.add a146 0) 0) fun v147=>
M.ptr v147 fun p148=>
M.nn x0 fun a149=>
M.load h140 (Addr.add (Addr.add a149 0) 1) fun v150=>
M.int .i64 v150 fun n151=>
F3 p148 n151 h140 fun p152 h153=>
(bif (!(Option.isNone p152)) then
M.load h153 (Addr.add ⟨b2,0,none⟩ 2) fun v154=>
M.int .i64 v154 fun n155=>
M.nn x0 fun a156=>
M.load h153 (Addr.add (Addr.add a156 4) 0) fun v157=>
M.ptr v157 fun p158=>
M.nn p158 fun a159=>
M.load h153 (Addr.add a159 0) fun v160=>
M.slc v160 fun a161 l162 c163=>
M.nn x0 fun a164=>
M.load h153 (Addr.add (Addr.add a164 4) 1) fun v165=>
M.int .i64 v165 fun n166=>
M.idx a161 l162 n166 fun a167 j168=>
M.load h153 (Addr.add a167 (j168*1)) fun v169=>
M.ptr v169 fun p170=>
M.load h153 (Addr.add ⟨b2,0,none⟩ 2) fun v171=>
M.int .i64 v171 fun n172=>
F4 p152 n155 s145 h153 fun b173 h174=>
M.still h153 (Addr.add ⟨b2,0,none⟩ 2) 1 h174 (
M.still h153 (Addr.add a167 (j168*1)) 1 h174 (
M.still h153 (Addr.add (Addr.add a164 4) 1) 1 h174 (
M.still h153 (Addr.add a159 0) 1 h174 (
M.still h153 (Addr.add (Addr.add a156 4) 0) 1 h174 (
F5 p170 n172 s145 h174 fun b175 h176=>
Q (b173 == b175) h176)))))
else
Q true h153)) fun J15=>
M.join (α:=Unit) (fun d99 h100=>
M.nn x0 fun a101=>
M.load h100 ((Addr.add a101 0).add 0) fun v102=>
M.ptr v102 fun p103=>
M.load h100 ((Addr.add a101 0).add 1) fun v104=>
M.int .i64 v104 fun n105=>
M.load h100 ((Addr.add a101 0).add 2) fun v106=>
M.int .i64 v106 fun n107=>
M.load h100 ((Addr.add a101 0).add 3) fun v108=>
M.str v108 fun s109=>
M.nn x0 fun a110=>
M.load h100 ((Addr.add a110 4).add 0) fun v111=>
M.ptr v111 fun p112=>
M.load h100 ((Addr.add a110 4).add 1) fun v113=>
M.int .i64 v113 fun n114=>
M.load h100 ((Addr.add a110 4).add 2) fun v115=>
M.int .i64 v115 fun n116=>
M.load h100 ((Addr.add a110 4).add 3) fun v117=>
M.str v117 fun s118=>
F1 p103 n105 n107 s109 s6 h100 fun a119 l120 c121 h122=>
M.still h100 (Addr.add a110 4) 4 h122 (
F2 p112 n114 n116 s118 s6 h122 fun a123 l124 c125 h126=>
(bif ((l120:Int) != (l124:Int)) then
Q false h126
else
M.loop (α:=Int) (fun J127 d128 h129=>
(bif (decide (d128<(l120:Int))) then
M.idx a119 l120 d128 fun a130 j131=>
M.load h129 (Addr.add a130 (j131*1)) fun v132=>
M.int .i64 v132 fun n133=>
M.idx a123 l124 d128 fun a134 j135=>
M.load h129 (Addr.add a134 (j135*1)) fun v136=>
M.int .i64 v136 fun n137=>
(bif (n133 != n137) then
Q false h129
else
M.val (IntKind.wrap .i64 (d128+1)) fun z138=>
J127 z138 h129)
else
Q true h129)) 0 h126))) fun J16=>
(bif (z10 == 1) then
(bif (z10 == 1) then
M.join (α:=(Option Addr × Nat × Nat) × (Option Addr × Nat × Nat)) (fun d54 h55=>
F0 x0 d54.1.1 d54.1.2.1 d54.1.2.2 d54.2.1 d54.2.2.1 d54.2.2.2 h55 fun b56 h57=>
Q b56 h57) fun J17=>
M.load h3 (Addr.add ⟨b2,0,none⟩ 4) fun v18=>
M.slc v18 fun a19 l20 c21=>
M.load h3 (Addr.add ⟨b2,0,none⟩ 4) fun v22=>
M.slc v22 fun a23 l24 c25=>
M.sub a19 c21 1 0 (mn (l24:Int) 6) fun a26 l27 c28=>
M.loop (α:=(Option Addr × Nat × Nat) × (Option Addr × Nat × Nat) × Int) (fun J29 d30 h31=>
(bif (decide (d30.2.2<(l27:Int))) then
M.idx a26 l27 d30.2.2 fun a32 j33=>
M.load h31 (Addr.add a32 (j33*1)) fun v34=>
M.str v34 fun s35=>
M.load h31 (Addr.add ⟨b2,0,none⟩ 1) fun v36=>
M.int .i64 v36 fun n37=>
M.val (bXor .i64 n37 d30.2.2) fun z38=>
M.new h31 (.cells #[.int .i64 z38,.string s35] 45) fun b39 h40=>
M.cellsOf h40 (some ⟨b39,0,none⟩) (1*2) fun cs45=>
M.app h40 45 2 24 [.int .i64 0,.string ByteArray.empty] d30.1.1 d30.1.2.1 d30.1.2.2 1 cs45 fun a41 l42 c43 h44=>
M.new h44 (.cells #[.int .i64 z38,.string s35] 138) fun b46 h47=>
M.cellsOf h47 (some ⟨b46,0,none⟩) (1*2) fun cs52=>
M.app h47 138 2 24 [.int .i64 0,.string ByteArray.empty] d30.2.1.1 d30.2.1.2.1 d30.2.1.2.2 1 cs52 fun a48 l49 c50 h51=>
M.val (IntKind.wrap .i64 (d30.2.2+1)) fun z53=>
J29 ((a41,l42,c43),(a48,l49,c50),z53) h51
else
J17 ((d30.1.1,d30.1.2.1,d30.1.2.2),(d30.2.1.1,d30.2.1.2.1,d30.2.1.2.2)) h31)) ((none,0,0),(none,0,0),0) h3
else
(bif (z10 == 3) then
(bif (z10 == 3) then
J16 () h3
else
(bif (z10 == 4) then
(bif (z10 == 4) then
J15 () h3
else
(bif (z10 == 5) then
(bif (z10 == 5) then
J14 () h3
else
(bif (z10 == 6) then
(bif (z10 == 6) then
J13 () h3
else
(bif (z10 == 7) then
(bif (z10 == 7) then
J12 () h3
else
(bif (z10 == 2) then
(bif (z10 == 2) then
J11 s6 h3
else
J7 () h3)
else
(bif (z10 == (-2)) then
J11 s6 h3
else
J7 () h3)))
else
(bif (z10 == (-7)) then
J12 () h3
else
(bif (z10 == 2) then
(bif (z10 == 2) then
J11 s6 h3
else
J7 () h3)
else
(bif (z10 == (-2)) then
J11 s6 h3
else
J7 () h3)))))
else
(bif (z10 == (-6)) then
J13 () h3
else
(bif (z10 == 7) then
(bif (z10 == 7) then
J12 () h3
else
(bif (z10 == 2) then
(bif (z10 == 2) then
J11 s6 h3
else
J7 () h3)
else
(bif (z10 == (-2)) then
J11 s6 h3
else
J7 () h3)))
else
(bif (z10 == (-7)) then
J12 () h3
else
(bif (z10 == 2) then
(bif (z10 == 2) then
J11 s6 h3
else
J7 () h3)
else
(bif (z10 == (-2)) then
J11 s6 h3
else
J7 () h3)))))))
else
(bif (z10 == (-5)) then
J14 () h3
else
(bif (z10 == 6) then
(bif (z10 == 6) then
J13 () h3
else
(bif (z10 == 7) then
(bif (z10 == 7) then
J12 () h3
else
(bif (z10 == 2) then
(bif (z10 == 2) then
J11 s6 h3
else
J7 () h3)
else
(bif (z10 == (-2)) then
J11 s6 h3
else
J7 () h3)))
else
(bif (z10 == (-7)) then
J12 () h3
else
(bif (z10 == 2) then
(bif (z10 == 2) then
J11 s6 h3
else
J7 () h3)
else
(bif (z10 == (-2)) then
J11 s6 h3
else
J7 () h3)))))
else
(bif (z10 == (-6)) then
J13 () h3
else
(bif (z10 == 7) then
(bif (z10 == 7) then
J12 () h3
else
(bif (z10 == 2) then
(bif (z10 == 2) then
J11 s6 h3
else
J7 () h3)
else
(bif (z10 == (-2)) then
J11 s6 h3
else
J7 () h3)))
else
(bif (z10 == (-7)) then
J12 () h3
else
(bif (z10 == 2) then
(bif (z10 == 2) then
J11 s6 h3
else
J7 () h3)
else
(bif (z10 == (-2)) then
J11 s6 h3
else
J7 () h3)))))))))
else
(bif (z10 == (-4)) then
J15 () h3
else
(bif (z10 == 5) then
(bif (z10 == 5) then
J14 () h3
else
(bif (z10 == 6) then
(bif (z10 == 6) then
J13 () h3
else
(bif (z10 == 7) then
(bif (z10 == 7) then
J12 () h3
else
(bif (z10 == 2) then
(bif (z10 == 2) then
J11 s6 h3
else
J7 () h3)
else
(bif (z10 == (-2)) then
J11 s6 h3
else
J7 () h3)))
else
(bif (z10 == (-7)) then
J12 () h3
else
(bif (z10 == 2) then
(bif (z10 == 2) then
J11 s6 h3
else
J7 () h3)
else
(bif (z10 == (-2)) then
J11 s6 h3
else
J7 () h3)))))
else
(bif (z10 == (-6)) then
J13 () h3
else
(bif (z10 == 7) then
(bif (z10 == 7) then
J12 () h3
else
(bif (z10 == 2) then
(bif (z10 == 2) then
J11 s6 h3
else
J7 () h3)
else
(bif (z10 == (-2)) then
J11 s6 h3
else
J7 () h3)))
else
(bif (z10 == (-7)) then
J12 () h3
else
(bif (z10 == 2) then
(bif (z10 == 2) then
J11 s6 h3
else
J7 () h3)
else
(bif (z10 == (-2)) then
J11 s6 h3
else
J7 () h3)))))))
else
(bif (z10 == (-5)) then
J14 () h3
else
(bif (z10 == 6) then
(bif (z10 == 6) then
J13 () h3
else
(bif (z10 == 7) then
(bif (z10 == 7) then
J12 () h3
else
(bif (z10 == 2) then
(bif (z10 == 2) then
J11 s6 h3
else
J7 () h3)
else
(bif (z10 == (-2)) then
J11 s6 h3
else
J7 () h3)))
else
(bif (z10 == (-7)) then
J12 () h3
else
(bif (z10 == 2) then
(bif (z10 == 2) then
J11 s6 h3
else
J7 () h3)
else
(bif (z10 == (-2)) then
J11 s6 h3
else
J7 () h3)))))
else
(bif (z10 == (-6)) then
J13 () h3
else
(bif (z10 == 7) then
(bif (z10 == 7) then
J12 () h3
else
(bif (z10 == 2) then
(bif (z10 == 2) then
J11 s6 h3
else
J7 () h3)
else
(bif (z10 == (-2)) then
J11 s6 h3
else
J7 () h3)))
else
(bif (z10 == (-7)) then
J12 () h3
else
(bif (z10 == 2) then
(bif (z10 == 2) then
J11 s6 h3
else
J7 () h3)
else
(bif (z10 == (-2)) then
J11 s6 h3
else
J7 () h3)))))))))))
else
(bif (z10 == (-3)) then
J16 () h3
else
(bif (z10 == 4) then
(bif (z10 == 4) then
J15 () h3
else
(bif (z10 == 5) then
(bif (z10 == 5) then
J14 () h3
else
(bif (z10 == 6) then
(bif (z10 == 6) then
J13 () h3
else
(bif (z10 == 7) then
(bif (z10 == 7) then
J12 () h3
else
(bif (z10 == 2) then
(bif (z10 == 2) then
J11 s6 h3
else
J7 () h3)
else
(bif (z10 == (-2)) then
J11 s6 h3
else
J7 () h3)))
else
(bif (z10 == (-7)) then
J12 () h3
else
(bif (z10 == 2) then
(bif (z10 == 2) then
J11 s6 h3
else
J7 () h3)
else
(bif (z10 == (-2)) then
J11 s6 h3
else
J7 () h3)))))
else
(bif (z10 == (-6)) then
J13 () h3
else
(bif (z10 == 7) then
(bif (z10 == 7) then
J12 () h3
else
(bif (z10 == 2) then
(bif (z10 == 2) then
J11 s6 h3
else
J7 () h3)
else
(bif (z10 == (-2)) then
J11 s6 h3
else
J7 () h3)))
else
(bif (z10 == (-7)) then
J12 () h3
else
(bif (z10 == 2) then
(bif (z10 == 2) then
J11 s6 h3
else
J7 () h3)
else
(bif (z10 == (-2)) then
J11 s6 h3
else
J7 () h3)))))))
else
(bif (z10 == (-5)) then
J14 () h3
else
(bif (z10 == 6) then
(bif (z10 == 6) then
J13 () h3
else
(bif (z10 == 7) then
(bif (z10 == 7) then
J12 () h3
else
(bif (z10 == 2) then
(bif (z10 == 2) then
J11 s6 h3
else
J7 () h3)
else
(bif (z10 == (-2)) then
J11 s6 h3
else
J7 () h3)))
else
(bif (z10 == (-7)) then
J12 () h3
else
(bif (z10 == 2) then
(bif (z10 == 2) then
J11 s6 h3
else
J7 () h3)
else
(bif (z10 == (-2)) then
J11 s6 h3
else
J7 () h3)))))
else
(bif (z10 == (-6)) then
J13 () h3
else
(bif (z10 == 7) then
(bif (z10 == 7) then
J12 () h3
else
(bif (z10 == 2) then
(bif (z10 == 2) then
J11 s6 h3
else
J7 () h3)
else
(bif (z10 == (-2)) then
J11 s6 h3
else
J7 () h3)))
else
(bif (z10 == (-7)) then
J12 () h3
else
(bif (z10 == 2) then
(bif (z10 == 2) then
J11 s6 h3
else
J7 () h3)
else
(bif (z10 == (-2)) then
J11 s6 h3
else
J7 () h3)))))))))
else
(bif (z10 == (-4)) then
J15 () h3
else
(bif (z10 == 5) then
(bif (z10 == 5) then
J14 () h3
else
(bif (z10 == 6) then
(bif (z10 == 6) then
J13 () h3
else
(bif (z10 == 7) then
(bif (z10 == 7) then
J12 () h3
else
(bif (z10 == 2) then
(bif (z10 == 2) then
J11 s6 h3
else
J7 () h3)
else
(bif (z10 == (-2)) then
J11 s6 h3
else
J7 () h3)))
else
(bif (z10 == (-7)) then
J12 () h3
else
(bif (z10 == 2) then
(bif (z10 == 2) then
J11 s6 h3
else
J7 () h3)
else
(bif (z10 == (-2)) then
J11 s6 h3
else
J7 () h3)))))
else
(bif (z10 == (-6)) then
J13 () h3
else
(bif (z10 == 7) then
(bif (z10 == 7) then
J12 () h3
else
(bif (z10 == 2) then
(bif (z10 == 2) then
J11 s6 h3
else
J7 () h3)
else
(bif (z10 == (-2)) then
J11 s6 h3
else
J7 () h3)))
else
(bif (z10 == (-7)) then
J12 () h3
else
(bif (z10 == 2) then
(bif (z10 == 2) then
J11 s6 h3
else
J7 () h3)
else
(bif (z10 == (-2)) then
J11 s6 h3
else
J7 () h3)))))))
else
(bif (z10 == (-5)) then
J14 () h3
else
(bif (z10 == 6) then
(bif (z10 == 6) then
J13 () h3
else
(bif (z10 == 7) then
(bif (z10 == 7) then
J12 () h3
else
(bif (z10 == 2) then
(bif (z10 == 2) then
J11 s6 h3
else
J7 () h3)
else
(bif (z10 == (-2)) then
J11 s6 h3
else
J7 () h3)))
else
(bif (z10 == (-7)) then
J12 () h3
else
(bif (z10 == 2) then
(bif (z10 == 2) then
J11 s6 h3
else
J7 () h3)
else
(bif (z10 == (-2)) then
J11 s6 h3
else
J7 () h3)))))
else
(bif (z10 == (-6)) then
J13 () h3
else
(bif (z10 == 7) then
(bif (z10 == 7) then
J12 () h3
else
(bif (z10 == 2) then
(bif (z10 == 2) then
J11 s6 h3
else
J7 () h3)
else
(bif (z10 == (-2)) then
J11 s6 h3
else
J7 () h3)))
else
(bif (z10 == (-7)) then
J12 () h3
else
(bif (z10 == 2) then
(bif (z10 == 2) then
J11 s6 h3
else
J7 () h3)
else
(bif (z10 == (-2)) then
J11 s6 h3
else
J7 () h3)))))))))))))
else
(bif (z10 == (-1)) then
M.join (α:=(Option Addr × Nat × Nat) × (Option Addr × Nat × Nat)) (fun d95 h96=>
F0 x0 d95.1.1 d95.1.2.1 d95.1.2.2 d95.2.1 d95.2.2.1 d95.2.2.2 h96 fun b97 h98=>
Q b97 h98) fun J58=>
M.load h3 (Addr.add ⟨b2,0,none⟩ 4) fun v59=>
M.slc v59 fun a60 l61 c62=>
M.load h3 (Addr.add ⟨b2,0,none⟩ 4) fun v63=>
M.slc v63 fun a64 l65 c66=>
M.sub a60 c62 1 0 (mn (l65:Int) 6) fun a67 l68 c69=>
M.loop (α:=(Option Addr × Nat × Nat) × (Option Addr × Nat × Nat) × Int) (fun J70 d71 h72=>
(bif (decide (d71.2.2<(l68:Int))) then
M.idx a67 l68 d71.2.2 fun a73 j74=>
M.load h72 (Addr.add a73 (j74*1)) fun v75=>
M.str v75 fun s76=>
M.load h72 (Addr.add ⟨b2,0,none⟩ 1) fun v77=>
M.int .i64 v77 fun n78=>
M.val (bXor .i64 n78 d71.2.2) fun z79=>
M.new h72 (.cells #[.int .i64 z79,.string s76] 45) fun b80 h81=>
M.cellsOf h81 (some ⟨b80,0,none⟩) (1*2) fun cs86=>
M.app h81 45 2 24 [.int .i64 0,.string ByteArray.empty] d71.1.1 d71.1.2.1 d71.1.2.2 1 cs86 fun a82 l83 c84 h85=>
M.new h85 (.cells #[.int .i64 z79,.string s76] 138) fun b87 h88=>
M.cellsOf h88 (some ⟨b87,0,none⟩) (1*2) fun cs93=>
M.app h88 138 2 24 [.int .i64 0,.string ByteArray.empty] d71.2.1.1 d71.2.1.2.1 d71.2.1.2.2 1 cs93 fun a89 l90 c91 h92=>
M.val (IntKind.wrap .i64 (d71.2.2+1)) fun z94=>
J70 ((a82,l83,c84),(a89,l90,c91),z94) h92
else
J58 ((d71.1.1,d71.1.2.1,d71.1.2.2),(d71.2.1.1,d71.2.1.2.1,d71.2.1.2.2)) h72)) ((none,0,0),(none,0,0),0) h3
else
(bif (z10 == 3) then
(bif (z10 == 3) then
J16 () h3
else
(bif (z10 == 4) then
(bif (z10 == 4) then
J15 () h3
else
(bif (z10 == 5) then
(bif (z10 == 5) then
J14 () h3
else
(bif (z10 == 6) then
(bif (z10 == 6) then
J13 () h3
else
(bif (z10 == 7) then
(bif (z10 == 7) then
J12 () h3
else
(bif (z10 == 2) then
(bif (z10 == 2) then
J11 s6 h3
else
J7 () h3)
else
(bif (z10 == (-2)) then
J11 s6 h3
else
J7 () h3)))
else
(bif (z10 == (-7)) then
J12 () h3
else
(bif (z10 == 2) then
(bif (z10 == 2) then
J11 s6 h3
else
J7 () h3)
else
(bif (z10 == (-2)) then
J11 s6 h3
else
J7 () h3)))))
else
(bif (z10 == (-6)) then
J13 () h3
else
(bif (z10 == 7) then
(bif (z10 == 7) then
J12 () h3
else
(bif (z10 == 2) then
(bif (z10 == 2) then
J11 s6 h3
else
J7 () h3)
else
(bif (z10 == (-2)) then
J11 s6 h3
else
J7 () h3)))
else
(bif (z10 == (-7)) then
J12 () h3
else
(bif (z10 == 2) then
(bif (z10 == 2) then
J11 s6 h3
else
J7 () h3)
else
(bif (z10 == (-2)) then
J11 s6 h3
else
J7 () h3)))))))
else
(bif (z10 == (-5)) then
J14 () h3
else
(bif (z10 == 6) then
(bif (z10 == 6) then
J13 () h3
else
(bif (z10 == 7) then
(bif (z10 == 7) then
J12 () h3
else
(bif (z10 == 2) then
(bif (z10 == 2) then
J11 s6 h3
else
J7 () h3)
else
(bif (z10 == (-2)) then
J11 s6 h3
else
J7 () h3)))
else
(bif (z10 == (-7)) then
J12 () h3
else
(bif (z10 == 2) then
(bif (z10 == 2) then
J11 s6 h3
else
J7 () h3)
else
(bif (z10 == (-2)) then
J11 s6 h3
else
J7 () h3)))))
else
(bif (z10 == (-6)) then
J13 () h3
else
(bif (z10 == 7) then
(bif (z10 == 7) then
J12 () h3
else
(bif (z10 == 2) then
(bif (z10 == 2) then
J11 s6 h3
else
J7 () h3)
else
(bif (z10 == (-2)) then
J11 s6 h3
else
J7 () h3)))
else
(bif (z10 == (-7)) then
J12 () h3
else
(bif (z10 == 2) then
(bif (z10 == 2) then
J11 s6 h3
else
J7 () h3)
else
(bif (z10 == (-2)) then
J11 s6 h3
else
J7 () h3)))))))))
else
(bif (z10 == (-4)) then
J15 () h3
else
(bif (z10 == 5) then
(bif (z10 == 5) then
J14 () h3
else
(bif (z10 == 6) then
(bif (z10 == 6) then
J13 () h3
else
(bif (z10 == 7) then
(bif (z10 == 7) then
J12 () h3
else
(bif (z10 == 2) then
(bif (z10 == 2) then
J11 s6 h3
else
J7 () h3)
else
(bif (z10 == (-2)) then
J11 s6 h3
else
J7 () h3)))
else
(bif (z10 == (-7)) then
J12 () h3
else
(bif (z10 == 2) then
(bif (z10 == 2) then
J11 s6 h3
else
J7 () h3)
else
(bif (z10 == (-2)) then
J11 s6 h3
else
J7 () h3)))))
else
(bif (z10 == (-6)) then
J13 () h3
else
(bif (z10 == 7) then
(bif (z10 == 7) then
J12 () h3
else
(bif (z10 == 2) then
(bif (z10 == 2) then
J11 s6 h3
else
J7 () h3)
else
(bif (z10 == (-2)) then
J11 s6 h3
else
J7 () h3)))
else
(bif (z10 == (-7)) then
J12 () h3
else
(bif (z10 == 2) then
(bif (z10 == 2) then
J11 s6 h3
else
J7 () h3)
else
(bif (z10 == (-2)) then
J11 s6 h3
else
J7 () h3)))))))
else
(bif (z10 == (-5)) then
J14 () h3
else
(bif (z10 == 6) then
(bif (z10 == 6) then
J13 () h3
else
(bif (z10 == 7) then
(bif (z10 == 7) then
J12 () h3
else
(bif (z10 == 2) then
(bif (z10 == 2) then
J11 s6 h3
else
J7 () h3)
else
(bif (z10 == (-2)) then
J11 s6 h3
else
J7 () h3)))
else
(bif (z10 == (-7)) then
J12 () h3
else
(bif (z10 == 2) then
(bif (z10 == 2) then
J11 s6 h3
else
J7 () h3)
else
(bif (z10 == (-2)) then
J11 s6 h3
else
J7 () h3)))))
else
(bif (z10 == (-6)) then
J13 () h3
else
(bif (z10 == 7) then
(bif (z10 == 7) then
J12 () h3
else
(bif (z10 == 2) then
(bif (z10 == 2) then
J11 s6 h3
else
J7 () h3)
else
(bif (z10 == (-2)) then
J11 s6 h3
else
J7 () h3)))
else
(bif (z10 == (-7)) then
J12 () h3
else
(bif (z10 == 2) then
(bif (z10 == 2) then
J11 s6 h3
else
J7 () h3)
else
(bif (z10 == (-2)) then
J11 s6 h3
else
J7 () h3)))))))))))
else
(bif (z10 == (-3)) then
J16 () h3
else
(bif (z10 == 4) then
(bif (z10 == 4) then
J15 () h3
else
(bif (z10 == 5) then
(bif (z10 == 5) then
J14 () h3
else
(bif (z10 == 6) then
(bif (z10 == 6) then
J13 () h3
else
(bif (z10 == 7) then
(bif (z10 == 7) then
J12 () h3
else
(bif (z10 == 2) then
(bif (z10 == 2) then
J11 s6 h3
else
J7 () h3)
else
(bif (z10 == (-2)) then
J11 s6 h3
else
J7 () h3)))
else
(bif (z10 == (-7)) then
J12 () h3
else
(bif (z10 == 2) then
(bif (z10 == 2) then
J11 s6 h3
else
J7 () h3)
else
(bif (z10 == (-2)) then
J11 s6 h3
else
J7 () h3)))))
else
(bif (z10 == (-6)) then
J13 () h3
else
(bif (z10 == 7) then
(bif (z10 == 7) then
J12 () h3
else
(bif (z10 == 2) then
(bif (z10 == 2) then
J11 s6 h3
else
J7 () h3)
else
(bif (z10 == (-2)) then
J11 s6 h3
else
J7 () h3)))
else
(bif (z10 == (-7)) then
J12 () h3
else
(bif (z10 == 2) then
(bif (z10 == 2) then
J11 s6 h3
else
J7 () h3)
else
(bif (z10 == (-2)) then
J11 s6 h3
else
J7 () h3)))))))
else
(bif (z10 == (-5)) then
J14 () h3
else
(bif (z10 == 6) then
(bif (z10 == 6) then
J13 () h3
else
(bif (z10 == 7) then
(bif (z10 == 7) then
J12 () h3
else
(bif (z10 == 2) then
(bif (z10 == 2) then
J11 s6 h3
else
J7 () h3)
else
(bif (z10 == (-2)) then
J11 s6 h3
else
J7 () h3)))
else
(bif (z10 == (-7)) then
J12 () h3
else
(bif (z10 == 2) then
(bif (z10 == 2) then
J11 s6 h3
else
J7 () h3)
else
(bif (z10 == (-2)) then
J11 s6 h3
else
J7 () h3)))))
else
(bif (z10 == (-6)) then
J13 () h3
else
(bif (z10 == 7) then
(bif (z10 == 7) then
J12 () h3
else
(bif (z10 == 2) then
(bif (z10 == 2) then
J11 s6 h3
else
J7 () h3)
else
(bif (z10 == (-2)) then
J11 s6 h3
else
J7 () h3)))
else
(bif (z10 == (-7)) then
J12 () h3
else
(bif (z10 == 2) then
(bif (z10 == 2) then
J11 s6 h3
else
J7 () h3)
else
(bif (z10 == (-2)) then
J11 s6 h3
else
J7 () h3)))))))))
else
(bif (z10 == (-4)) then
J15 () h3
else
(bif (z10 == 5) then
(bif (z10 == 5) then
J14 () h3
else
(bif (z10 == 6) then
(bif (z10 == 6) then
J13 () h3
else
(bif (z10 == 7) then
(bif (z10 == 7) then
J12 () h3
else
(bif (z10 == 2) then
(bif (z10 == 2) then
J11 s6 h3
else
J7 () h3)
else
(bif (z10 == (-2)) then
J11 s6 h3
else
J7 () h3)))
else
(bif (z10 == (-7)) then
J12 () h3
else
(bif (z10 == 2) then
(bif (z10 == 2) then
J11 s6 h3
else
J7 () h3)
else
(bif (z10 == (-2)) then
J11 s6 h3
else
J7 () h3)))))
else
(bif (z10 == (-6)) then
J13 () h3
else
(bif (z10 == 7) then
(bif (z10 == 7) then
J12 () h3
else
(bif (z10 == 2) then
(bif (z10 == 2) then
J11 s6 h3
else
J7 () h3)
else
(bif (z10 == (-2)) then
J11 s6 h3
else
J7 () h3)))
else
(bif (z10 == (-7)) then
J12 () h3
else
(bif (z10 == 2) then
(bif (z10 == 2) then
J11 s6 h3
else
J7 () h3)
else
(bif (z10 == (-2)) then
J11 s6 h3
else
J7 () h3)))))))
else
(bif (z10 == (-5)) then
J14 () h3
else
(bif (z10 == 6) then
(bif (z10 == 6) then
J13 () h3
else
(bif (z10 == 7) then
(bif (z10 == 7) then
J12 () h3
else
(bif (z10 == 2) then
(bif (z10 == 2) then
J11 s6 h3
else
J7 () h3)
else
(bif (z10 == (-2)) then
J11 s6 h3
else
J7 () h3)))
else
(bif (z10 == (-7)) then
J12 () h3
else
(bif (z10 == 2) then
(bif (z10 == 2) then
J11 s6 h3
else
J7 () h3)
else
(bif (z10 == (-2)) then
J11 s6 h3
else
J7 () h3)))))
else
(bif (z10 == (-6)) then
J13 () h3
else
(bif (z10 == 7) then
(bif (z10 == 7) then
J12 () h3
else
(bif (z10 == 2) then
(bif (z10 == 2) then
J11 s6 h3
else
J7 () h3)
else
(bif (z10 == (-2)) then
J11 s6 h3
else
J7 () h3)))
else
(bif (z10 == (-7)) then
J12 () h3
else
(bif (z10 == 2) then
(bif (z10 == 2) then
J11 s6 h3
else
J7 () h3)
else
(bif (z10 == (-2)) then
J11 s6 h3
else
J7 () h3)))))))))))))))
def law17_both_act:=law17_both_act.g law17_both_change slab_Slab_Bad ref17_Bad bank_Bank_Disk disk_Disk_Tamper ref09_Tamper bank_Bank_Cut ref10_Cut bank_Bank_Crash ref10_Crash slab_Slab_Get ref17_Get slab_Slab_Seal ref17_Seal
def law17_both_act.L (F:type_of% law17_both_act):LT
 | [.pointer x0,.agg ⟨[.int .i64 x1_0,.int .i64 x1_1,.int .i64 x1_2,.int .u8 x1_3,.slice x1_4 x1_4L x1_4C,.string x1_5]⟩]=>fun Q h=>F x0 x1_0 x1_1 x1_2 x1_3 x1_4 x1_4L x1_4C x1_5 h fun b826 h827=>Q (.bool b826) h827
 | _=>fun _ _=>False
def law17_both_act.ann:Ann:=⟨lookN [(50,[(4,.bool)]),(51,[(20,.str),(21,.str)]),(56,[(277,.bool)]),(57,[(4,.bool)])],lookN [(7,[]),(31,[(20,.str)]),(58,[(5,.str)]),(232,[]),(928,[]),(3712,[]),(14848,[]),(59392,[]),(3801099,[(6,.slc),(7,.slc)])],lookN [(7602266,[(107,.int .i64)]),(30408794,[(6,.slc),(7,.slc),(62,.int .i64)])]⟩
theorem law17_both_act.geq (F0) (F1) (F2) (F3) (F4) (F5) (F6) (F7) (F8) (F9) (F10) (F11) (F12) (F13):∀ l,OkL (evF Tryz.prog (envOf [(69,WL (law17_both_change.L F0)),(18,WL (slab_Slab_Bad.L F1)),(70,WL (ref17_Bad.L F2)),(22,WL (bank_Bank_Disk.L F3)),(25,WL (disk_Disk_Tamper.L F4)),(71,WL (ref09_Tamper.L F5)),(72,WL (bank_Bank_Cut.L F6)),(73,WL (ref10_Cut.L F7)),(74,WL (bank_Bank_Crash.L F8)),(75,WL (ref10_Crash.L F9)),(17,WL (slab_Slab_Get.L F10)),(76,WL (ref17_Get.L F11)),(14,WL (slab_Slab_Seal.L F12)),(77,WL (ref17_Seal.L F13))]) Tryz.f28 law17_both_act.ann) l (law17_both_act.L (law17_both_act.g F0 F1 F2 F3 F4 F5 F6 F7 F8 F9 F10 F11 F12 F13) l):=by
 intro l; unfold law17_both_act.L; split; exact .inr (by intros; kernel_rfl); exact .inl rfl
def law17_both_act.W:W:=WL (law17_both_act.L law17_both_act)
theorem law17_both_act.good:FnGood Tryz.prog 28 law17_both_act.W:=.ofL mixed (.cons law17_both_change.good (.cons slab_Slab_Bad.good (.cons ref17_Bad.good (.cons bank_Bank_Disk.good (.cons disk_Disk_Tamper.good (.cons ref09_Tamper.good (.cons bank_Bank_Cut.good (.cons ref10_Cut.good (.cons bank_Bank_Crash.good (.cons ref10_Crash.good (.cons slab_Slab_Get.good (.cons ref17_Get.good (.cons slab_Slab_Seal.good (.cons ref17_Seal.good .nil)))))))))))))) Tryz.func28 Tryz.call28 (law17_both_act.geq law17_both_change slab_Slab_Bad ref17_Bad bank_Bank_Disk disk_Disk_Tamper ref09_Tamper bank_Bank_Cut ref10_Cut bank_Bank_Crash ref10_Crash slab_Slab_Get ref17_Get slab_Slab_Seal ref17_Seal)
end Go.Proofs.YthegnmanjdlmjaaGreatDoor

/- The shallow forms of the functions of this seat, printed by a program of mine, each checked by the kernel against the given code. -/
import Derived.Test.YthegnmanjdlmjaaGreatDoorS05
set_option linter.unusedSimpArgs false
set_option linter.unusedVariables false
namespace Go.Proofs.YthegnmanjdlmjaaGreatDoor
open Go.Sh
def ref17_Bad.g (F0:type_of% ref17_Good) (F1:type_of% ref17_Get) (x0_0:Option Addr) (x0_1 x0_2:Int) (x0_3 x1:ByteArray) (h:H) (Q:Option Addr→Nat→Nat→H→Prop):Prop:=
M.new h (.cells #[.pointer x0_0,.int .i64 x0_1,.int .i64 x0_2,.string x0_3] 40) fun b4 h5=>
M.load h5 (Addr.add ⟨b4,0,none⟩ 0) fun v6=>
M.ptr v6 fun p7=>
M.load h5 (Addr.add ⟨b4,0,none⟩ 1) fun v8=>
M.int .i64 v8 fun n9=>
M.load h5 (Addr.add ⟨b4,0,none⟩ 2) fun v10=>
M.int .i64 v10 fun n11=>
M.load h5 (Addr.add ⟨b4,0,none⟩ 3) fun v12=>
M.str v12 fun s13=>
F0 p7 n9 n11 s13 h5 fun b14 h15=>
(bif (!b14) then
Q none 0 0 h15
else
M.loop (α:=(Option Addr × Nat × Nat) × Int) (fun J16 d17 h18=>
M.load h18 (Addr.add ⟨b4,0,none⟩ 2) fun v19=>
M.int .i64 v19 fun n20=>
(bif (decide (d17.2<n20)) then
M.join (α:=(Option Addr × Nat × Nat)) (fun d40 h41=>
M.val (IntKind.wrap .i64 (d17.2+1)) fun z42=>
J16 ((d40.1,d40.2.1,d40.2.2),z42) h41) fun J21=>
M.load h18 (Addr.add ⟨b4,0,none⟩ 0) fun v22=>
M.ptr v22 fun p23=>
M.load h18 (Addr.add ⟨b4,0,none⟩ 1) fun v24=>
M.int .i64 v24 fun n25=>
M.load h18 (Addr.add ⟨b4,0,none⟩ 2) fun v26=>
M.int .i64 v26 fun n27=>
M.load h18 (Addr.add ⟨b4,0,none⟩ 3) fun v28=>
M.str v28 fun s29=>
F1 p23 n25 n27 s29 x1 d17.2 h18 fun s30 n31 h32=>
(bif (n31 != 0) then
M.new h32 (.cells #[.int .i64 d17.2] 3) fun b33 h34=>
M.cellsOf h34 (some ⟨b33,0,none⟩) (1*1) fun cs39=>
M.app h34 3 1 8 [.int .i64 0] d17.1.1 d17.1.2.1 d17.1.2.2 1 cs39 fun a35 l36 c37 h38=>
J21 (a35,l36,c37) h38
else
J21 (d17.1.1,d17.1.2.1,d17.1.2.2) h32)
else
Q d17.1.1 d17.1.2.1 d17.1.2.2 h18)) ((none,0,0),0) h15)
def ref17_Bad:=ref17_Bad.g ref17_Good ref17_Get
def ref17_Bad.L (F:type_of% ref17_Bad):LT
 | [.agg ⟨[.pointer x0_0,.int .i64 x0_1,.int .i64 x0_2,.string x0_3]⟩,.string x1]=>fun Q h=>F x0_0 x0_1 x0_2 x0_3 x1 h fun a47 l48 c49 h50=>Q (.slice a47 l48 c49) h50
 | _=>fun _ _=>False
def slab_Slab_Prepare.g (F0:type_of% slab_Slab_checked) (F1:type_of% slab_Slab_over) (F2:type_of% sha_Leaf) (F3:type_of% tree_Put) (F4:type_of% tree_Path) (F5:type_of% slab_rising) (x0_0:Option Addr) (x0_1 x0_2:Int) (x0_3 x1:ByteArray) (x2:Option Addr) (x2L x2C:Nat) (h:H) (Q:Option Addr→Nat→Nat→ByteArray→Int→H→Prop):Prop:=
M.new h (.cells #[.pointer x0_0,.int .i64 x0_1,.int .i64 x0_2,.string x0_3] 37) fun b6 h7=>
M.load h7 (Addr.add ⟨b6,0,none⟩ 0) fun v8=>
M.ptr v8 fun p9=>
M.load h7 (Addr.add ⟨b6,0,none⟩ 1) fun v10=>
M.int .i64 v10 fun n11=>
M.load h7 (Addr.add ⟨b6,0,none⟩ 2) fun v12=>
M.int .i64 v12 fun n13=>
M.load h7 (Addr.add ⟨b6,0,none⟩ 3) fun v14=>
M.str v14 fun s15=>
F0 p9 n11 n13 s15 x2 x2L x2C h7 fun n16 h17=>
(bif (n16 != 0) then
Q none 0 0 ByteArray.empty n16 h17
else
M.new h17 (.map #[] 0) fun b18 h19=>
M.new h19 (.map #[] 0) fun b20 h21=>
M.join (α:=ByteArray) (fun d94 h95=>
M.join (α:=(Option Addr × Nat × Nat)) (fun d120 h121=>
M.join (α:=(Option Addr × Nat × Nat)) (fun d146 h147=>
Q d146.1 d146.2.1 d146.2.2 d94 0 h147) fun J122=>
F5 (some b20) h121 fun a123 l124 c125 h126=>
M.loop (α:=(Option Addr × Nat × Nat) × Int) (fun J127 d128 h129=>
(bif (decide (d128.2<(l124:Int))) then
M.idx a123 l124 d128.2 fun a130 j131=>
M.load h129 (Addr.add a130 (j131*1)) fun v132=>
M.int .i64 v132 fun n133=>
M.val (IntKind.wrap .i64 (120+n133)) fun z134=>
M.lk Tryz.prog 107 (.map (some b20)) (.int .i64 n133) h129 fun v135 h136=>
M.str v135 fun s137=>
M.new h136 (.cells #[.int .i64 z134,.string s137] 116) fun b138 h139=>
M.cellsOf h139 (some ⟨b138,0,none⟩) (1*2) fun cs144=>
M.app h139 116 2 24 [.int .i64 0,.string ByteArray.empty] d128.1.1 d128.1.2.1 d128.1.2.2 1 cs144 fun a140 l141 c142 h143=>
M.val (IntKind.wrap .i64 (d128.2+1)) fun z145=>
J127 ((a140,l141,c142),z145) h143
else
J122 (d128.1.1,d128.1.2.1,d128.1.2.2) h129)) ((d120.1,d120.2.1,d120.2.2),0) h126) fun J96=>
F5 (some b18) h95 fun a97 l98 c99 h100=>
M.loop (α:=(Option Addr × Nat × Nat) × Int) (fun J101 d102 h103=>
(bif (decide (d102.2<(l98:Int))) then
M.idx a97 l98 d102.2 fun a104 j105=>
M.load h103 (Addr.add a104 (j105*1)) fun v106=>
M.int .i64 v106 fun n107=>
M.val (IntKind.wrap .i64 (100+n107)) fun z108=>
M.lk Tryz.prog 108 (.map (some b18)) (.int .i64 n107) h103 fun v109 h110=>
M.str v109 fun s111=>
M.new h110 (.cells #[.int .i64 z108,.string s111] 116) fun b112 h113=>
M.cellsOf h113 (some ⟨b112,0,none⟩) (1*2) fun cs118=>
M.app h113 116 2 24 [.int .i64 0,.string ByteArray.empty] d102.1.1 d102.1.2.1 d102.1.2.2 1 cs118 fun a114 l115 c116 h117=>
M.val (IntKind.wrap .i64 (d102.2+1)) fun z119=>
J101 ((a114,l115,c116),z119) h117
else
J96 (d102.1.1,d102.1.2.1,d102.1.2.2) h103)) ((none,0,0),0) h100) fun J22=>
M.loop (α:=ByteArray × Int) (fun J23 d24 h25=>
(bif (decide (d24.2<(x2L:Int))) then
M.idx x2 x2L d24.2 fun a26 j27=>
M.load h25 ((Addr.add a26 (j27*2)).add 0) fun v28=>
M.int .i64 v28 fun n29=>
M.load h25 ((Addr.add a26 (j27*2)).add 1) fun v30=>
M.str v30 fun s31=>
M.new h25 (.cells #[.int .i64 0,.string ByteArray.empty] 45) fun b32 h33=>
M.req (Array.size (#[.int .i64 n29,.string s31]:Array Value)=2) (M.puts h33 ⟨b32,0,none⟩ [.int .i64 n29,.string s31] fun h34=>
M.load h34 (Addr.add ⟨b6,0,none⟩ 0) fun v35=>
M.ptr v35 fun p36=>
M.load h34 (Addr.add ⟨b6,0,none⟩ 1) fun v37=>
M.int .i64 v37 fun n38=>
M.load h34 (Addr.add ⟨b6,0,none⟩ 2) fun v39=>
M.int .i64 v39 fun n40=>
M.load h34 (Addr.add ⟨b6,0,none⟩ 3) fun v41=>
M.str v41 fun s42=>
M.load h34 (Addr.add ⟨b32,0,none⟩ 0) fun v43=>
M.int .i64 v43 fun n44=>
F1 p36 n38 n40 s42 d24.1 n44 (some b18) h34 fun a45 l46 c47 s48 n49 h50=>
(bif (n49 != 0) then
Q none 0 0 ByteArray.empty n49 h50
else
M.load h50 (Addr.add ⟨b32,0,none⟩ 0) fun v51=>
M.int .i64 v51 fun n52=>
M.load h50 (Addr.add ⟨b32,0,none⟩ 1) fun v53=>
M.str v53 fun s54=>
F2 s54 h50 fun s55 h56=>
M.still h50 (Addr.add ⟨b32,0,none⟩ 0) 1 h56 (
F3 n52 a45 l46 c47 s55 h56 fun a57 l58 c59 s60 n61 h62=>
M.load h62 (Addr.add ⟨b6,0,none⟩ 2) fun v63=>
M.int .i64 v63 fun n64=>
M.load h62 (Addr.add ⟨b32,0,none⟩ 0) fun v65=>
M.int .i64 v65 fun n66=>
F4 n64 n66 h62 fun a67 l68 c69 n70 h71=>
M.join (α:=Unit) (fun d86 h87=>
M.load h87 (Addr.add ⟨b32,0,none⟩ 0) fun v88=>
M.int .i64 v88 fun n89=>
M.load h87 (Addr.add ⟨b32,0,none⟩ 1) fun v90=>
M.str v90 fun s91=>
M.mput Tryz.prog 107 (.map (some b20)) (.int .i64 n89) (.string s91) h87 fun h92=>
M.val (IntKind.wrap .i64 (d24.2+1)) fun z93=>
J23 (s60,z93) h92) fun J72=>
M.loop (α:=Int) (fun J73 d74 h75=>
(bif (decide (d74<(l68:Int))) then
M.idx a67 l68 d74 fun a76 j77=>
M.load h75 (Addr.add a76 (j77*1)) fun v78=>
M.int .i64 v78 fun n79=>
M.idx a57 l58 d74 fun a80 j81=>
M.load h75 (Addr.add a80 (j81*1)) fun v82=>
M.str v82 fun s83=>
M.mput Tryz.prog 108 (.map (some b18)) (.int .i64 n79) (.string s83) h75 fun h84=>
M.val (IntKind.wrap .i64 (d74+1)) fun z85=>
J73 z85 h84
else
J72 () h75)) 0 h71)))
else
J22 d24.1 h25)) (x1,0) h21)
def slab_Slab_Prepare:=slab_Slab_Prepare.g slab_Slab_checked slab_Slab_over sha_Leaf tree_Put tree_Path slab_rising
def slab_Slab_Prepare.L (F:type_of% slab_Slab_Prepare):LT
 | [.agg ⟨[.pointer x0_0,.int .i64 x0_1,.int .i64 x0_2,.string x0_3]⟩,.string x1,.slice x2 x2L x2C]=>fun Q h=>F x0_0 x0_1 x0_2 x0_3 x1 x2 x2L x2C h fun a154 l155 c156 s157 n158 h159=>Q (.tuple #[.slice a154 l155 c156,.string s157,.int .i64 n158]) h159
 | _=>fun _ _=>False
def slab_Slab_Prepare.ann:Ann:=⟨lookN [],lookN [(15,[(1,.str)]),(63,[(21,.slc)]),(127,[(21,.slc)]),(125343,[])],lookN [(122,[(1,.str),(36,.int .i64)]),(506,[(21,.slc),(95,.int .i64)]),(1018,[(21,.slc),(112,.int .i64)]),(1002746,[(74,.int .i64)])]⟩
theorem slab_Slab_Prepare.geq (F0) (F1) (F2) (F3) (F4) (F5):∀ l,OkL (evF Tryz.prog (envOf [(47,WL (slab_Slab_checked.L F0)),(48,WL (slab_Slab_over.L F1)),(50,WL (sha_Leaf.L F2)),(49,WL (tree_Put.L F3)),(51,WL (tree_Path.L F4)),(52,WL (slab_rising.L F5))]) Tryz.f15 slab_Slab_Prepare.ann) l (slab_Slab_Prepare.L (slab_Slab_Prepare.g F0 F1 F2 F3 F4 F5) l):=by
 intro l; unfold slab_Slab_Prepare.L; split; exact .inr (by intros; kernel_rfl); exact .inl rfl
theorem slab_Slab_Prepare.good:FnGood Tryz.prog 15 (WL (slab_Slab_Prepare.L slab_Slab_Prepare)):=.ofL mixed (.cons slab_Slab_checked.good (.cons slab_Slab_over.good (.cons sha_Leaf.good (.cons tree_Put.good (.cons tree_Path.good (.cons slab_rising.good .nil)))))) Tryz.func15 Tryz.call15 (slab_Slab_Prepare.geq slab_Slab_checked slab_Slab_over sha_Leaf tree_Put tree_Path slab_rising)
def slab_Slab_Get.g (F0:type_of% slab_Slab_may) (F1:type_of% slab_Slab_over) (F2:type_of% bank_Bank_Read) (F3:type_of% sha_Leaf) (F4:type_of% strings_Repeat) (F5:type_of% slab_Slab_with) (F6:type_of% aead_Open) (x0_0:Option Addr) (x0_1 x0_2:Int) (x0_3 x1:ByteArray) (x2:Int) (h:H) (Q:ByteArray→Int→H→Prop):Prop:=
M.new h (.cells #[.pointer x0_0,.int .i64 x0_1,.int .i64 x0_2,.string x0_3] 37) fun b3 h4=>
M.load h4 (Addr.add ⟨b3,0,none⟩ 0) fun v5=>
M.ptr v5 fun p6=>
M.load h4 (Addr.add ⟨b3,0,none⟩ 1) fun v7=>
M.int .i64 v7 fun n8=>
M.load h4 (Addr.add ⟨b3,0,none⟩ 2) fun v9=>
M.int .i64 v9 fun n10=>
M.load h4 (Addr.add ⟨b3,0,none⟩ 3) fun v11=>
M.str v11 fun s12=>
F0 p6 n8 n10 s12 x2 h4 fun n13 h14=>
(bif (n13 != 0) then
Q ByteArray.empty n13 h14
else
M.load h14 (Addr.add ⟨b3,0,none⟩ 0) fun v15=>
M.ptr v15 fun p16=>
M.load h14 (Addr.add ⟨b3,0,none⟩ 1) fun v17=>
M.int .i64 v17 fun n18=>
M.load h14 (Addr.add ⟨b3,0,none⟩ 2) fun v19=>
M.int .i64 v19 fun n20=>
M.load h14 (Addr.add ⟨b3,0,none⟩ 3) fun v21=>
M.str v21 fun s22=>
F1 p16 n18 n20 s22 x1 x2 none h14 fun a23 l24 c25 s26 n27 h28=>
(bif (n27 != 0) then
Q ByteArray.empty n27 h28
else
M.load h28 (Addr.add ⟨b3,0,none⟩ 0) fun v29=>
M.ptr v29 fun p30=>
M.load h28 (Addr.add ⟨b3,0,none⟩ 1) fun v31=>
M.int .i64 v31 fun n32=>
M.val (IntKind.wrap .i64 (120+x2)) fun z33=>
F2 p30 n32 z33 h28 fun s34 n35 h36=>
(bif (n35 != 0) then
Q ByteArray.empty n35 h36
else
F3 s34 h36 fun s37 h38=>
(bif (!strEq s37 s26) then
Q ByteArray.empty 22 h38
else
(bif (strEq s34 ByteArray.empty) then
F4 (⟨#[0]⟩:ByteArray) 32 h38 fun s39 h40=>
Q s39 0 h40
else
(bif (decide ((ByteArray.size s34:Int)<12)) then
Q ByteArray.empty 3 h38
else
M.load h38 (Addr.add ⟨b3,0,none⟩ 3) fun v41=>
M.str v41 fun s42=>
M.ssub s34 0 12 fun s43=>
M.load h38 (Addr.add ⟨b3,0,none⟩ 0) fun v44=>
M.ptr v44 fun p45=>
M.load h38 (Addr.add ⟨b3,0,none⟩ 1) fun v46=>
M.int .i64 v46 fun n47=>
M.load h38 (Addr.add ⟨b3,0,none⟩ 2) fun v48=>
M.int .i64 v48 fun n49=>
M.load h38 (Addr.add ⟨b3,0,none⟩ 3) fun v50=>
M.str v50 fun s51=>
M.ssub s34 12 (ByteArray.size s34:Int) fun s52=>
F5 p45 n47 n49 s51 x2 h38 fun s53 h54=>
M.still h38 (Addr.add ⟨b3,0,none⟩ 3) 1 h54 (
F6 s42 s43 s53 s52 h54 fun s55 n56 h57=>
Q s55 n56 h57)))))))
def slab_Slab_Get:=slab_Slab_Get.g slab_Slab_may slab_Slab_over bank_Bank_Read sha_Leaf strings_Repeat slab_Slab_with aead_Open
def slab_Slab_Get.L (F:type_of% slab_Slab_Get):LT
 | [.agg ⟨[.pointer x0_0,.int .i64 x0_1,.int .i64 x0_2,.string x0_3]⟩,.string x1,.int .i64 x2]=>fun Q h=>F x0_0 x0_1 x0_2 x0_3 x1 x2 h fun s61 n62 h63=>Q (.tuple #[.string s61,.int .i64 n62]) h63
 | _=>fun _ _=>False
theorem slab_Slab_Get.geq (F0) (F1) (F2) (F3) (F4) (F5) (F6):∀ l,OkL (evF Tryz.prog (envOf [(44,WL (slab_Slab_may.L F0)),(48,WL (slab_Slab_over.L F1)),(56,WL (bank_Bank_Read.L F2)),(50,WL (sha_Leaf.L F3)),(57,WL (strings_Repeat.L F4)),(46,WL (slab_Slab_with.L F5)),(58,WL (aead_Open.L F6))]) Tryz.f17 an0) l (slab_Slab_Get.L (slab_Slab_Get.g F0 F1 F2 F3 F4 F5 F6) l):=by
 intro l; unfold slab_Slab_Get.L; split; exact .inr (by intros; kernel_rfl); exact .inl rfl
theorem slab_Slab_Get.good:FnGood Tryz.prog 17 (WL (slab_Slab_Get.L slab_Slab_Get)):=.ofL mixed (.cons slab_Slab_may.good (.cons slab_Slab_over.good (.cons bank_Bank_Read.good (.cons sha_Leaf.good (.cons strings_Repeat.good (.cons slab_Slab_with.good (.cons aead_Open.good .nil))))))) Tryz.func17 Tryz.call17 (slab_Slab_Get.geq slab_Slab_may slab_Slab_over bank_Bank_Read sha_Leaf strings_Repeat slab_Slab_with aead_Open)
def slab_Slab_Bad.g (F0:type_of% slab_Slab_good) (F1:type_of% slab_Slab_Get) (x0_0:Option Addr) (x0_1 x0_2:Int) (x0_3 x1:ByteArray) (h:H) (Q:Option Addr→Nat→Nat→H→Prop):Prop:=
M.new h (.cells #[.pointer x0_0,.int .i64 x0_1,.int .i64 x0_2,.string x0_3] 37) fun b4 h5=>
M.load h5 (Addr.add ⟨b4,0,none⟩ 0) fun v6=>
M.ptr v6 fun p7=>
M.load h5 (Addr.add ⟨b4,0,none⟩ 1) fun v8=>
M.int .i64 v8 fun n9=>
M.load h5 (Addr.add ⟨b4,0,none⟩ 2) fun v10=>
M.int .i64 v10 fun n11=>
M.load h5 (Addr.add ⟨b4,0,none⟩ 3) fun v12=>
M.str v12 fun s13=>
F0 p7 n9 n11 s13 h5 fun b14 h15=>
(bif (!b14) then
Q none 0 0 h15
else
M.load h15 (Addr.add ⟨b4,0,none⟩ 2) fun v16=>
M.int .i64 v16 fun n17=>
M.loop (α:=(Option Addr × Nat × Nat) × Int) (fun J18 d19 h20=>
(bif (decide (d19.2<n17)) then
M.load h20 (Addr.add ⟨b4,0,none⟩ 0) fun v21=>
M.ptr v21 fun p22=>
M.load h20 (Addr.add ⟨b4,0,none⟩ 1) fun v23=>
M.int .i64 v23 fun n24=>
M.load h20 (Addr.add ⟨b4,0,none⟩ 2) fun v25=>
M.int .i64 v25 fun n26=>
M.load h20 (Addr.add ⟨b4,0,none⟩ 3) fun v27=>
M.str v27 fun s28=>
F1 p22 n24 n26 s28 x1 d19.2 h20 fun s29 n30 h31=>
(bif (n30 != 0) then
M.new h31 (.cells #[.int .i64 d19.2] 3) fun b32 h33=>
M.cellsOf h33 (some ⟨b32,0,none⟩) (1*1) fun cs38=>
M.app h33 3 1 8 [.int .i64 0] d19.1.1 d19.1.2.1 d19.1.2.2 1 cs38 fun a34 l35 c36 h37=>
M.val (IntKind.wrap .i64 (d19.2+1)) fun z39=>
J18 ((a34,l35,c36),z39) h37
else
M.val (IntKind.wrap .i64 (d19.2+1)) fun z40=>
J18 ((d19.1.1,d19.1.2.1,d19.1.2.2),z40) h31)
else
Q d19.1.1 d19.1.2.1 d19.1.2.2 h20)) ((none,0,0),0) h15)
def slab_Slab_Bad:=slab_Slab_Bad.g slab_Slab_good slab_Slab_Get
end Go.Proofs.YthegnmanjdlmjaaGreatDoor

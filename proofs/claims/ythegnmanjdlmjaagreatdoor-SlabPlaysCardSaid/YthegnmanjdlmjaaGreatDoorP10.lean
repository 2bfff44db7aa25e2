/- The shallow forms of the functions of this seat, printed by a program of mine, each checked by the kernel against the given code. -/
import Derived.Test.YthegnmanjdlmjaaGreatDoorP06
set_option linter.unusedSimpArgs false
set_option linter.unusedVariables false
namespace Go.Proofs.YthegnmanjdlmjaaGreatDoor
open Go.Sh
def law17_SlabKeeps.g (F0:type_of% law17_begin) (F1:type_of% law17_wakes) (F2:type_of% slab_Slab_Seal) (F3:type_of% slab_Slab_Prepare) (F4:type_of% slab_Slab_Apply) (F5:type_of% slab_Slab_Get) (F6:type_of% slab_Slab_Bad) (x0:Int) (x1:Array Value) (x2:Option Addr) (x2L x2C:Nat) (h:H) (Q:Bool→H→Prop):Prop:=
M.new h (.cells x1 22) fun b2 h3=>
M.nz 4 (
M.val (Int.tmod (mx 0 x0) 4) fun z4=>
M.shr0 z4 (
M.val (shl .i64 2 z4) fun z5=>
M.row h3 ⟨b2,0,none⟩ 32 fun cs6=>
F0 z5 1 (List.toArray cs6) h3 fun p7 b8 h9=>
M.join (α:=Bool) (fun d13 h14=>
(bif d13 then
Q false h14
else
M.mk h14 9 [.string ByteArray.empty] 16 z5 z5 fun a15 l16 c17 h18=>
M.join (α:=Unit) (fun d32 h33=>
M.join (α:=Unit) (fun d224 h225=>
M.join (α:=Unit) (fun d253 h254=>
M.nn p7 fun a255=>
M.load h254 ((Addr.add a255 0).add 0) fun v256=>
M.ptr v256 fun p257=>
M.load h254 ((Addr.add a255 0).add 1) fun v258=>
M.int .i64 v258 fun n259=>
M.load h254 ((Addr.add a255 0).add 2) fun v260=>
M.int .i64 v260 fun n261=>
M.load h254 ((Addr.add a255 0).add 3) fun v262=>
M.str v262 fun s263=>
M.nn p7 fun a264=>
M.load h254 (Addr.add a264 8) fun v265=>
M.str v265 fun s266=>
F6 p257 n259 n261 s263 s266 h254 fun a267 l268 c269 h270=>
Q ((l268:Int) == 0) h270) fun J226=>
M.loop (α:=Int) (fun J227 d228 h229=>
(bif (decide (d228<(l16:Int))) then
M.idx a15 l16 d228 fun a230 j231=>
M.load h229 (Addr.add a230 (j231*1)) fun v232=>
M.str v232 fun s233=>
M.nn p7 fun a234=>
M.load h229 ((Addr.add a234 0).add 0) fun v235=>
M.ptr v235 fun p236=>
M.load h229 ((Addr.add a234 0).add 1) fun v237=>
M.int .i64 v237 fun n238=>
M.load h229 ((Addr.add a234 0).add 2) fun v239=>
M.int .i64 v239 fun n240=>
M.load h229 ((Addr.add a234 0).add 3) fun v241=>
M.str v241 fun s242=>
M.nn p7 fun a243=>
M.load h229 (Addr.add a243 8) fun v244=>
M.str v244 fun s245=>
F5 p236 n238 n240 s242 s245 d228 h229 fun s246 n247 h248=>
M.join (α:=Bool) (fun d250 h251=>
(bif d250 then
Q false h251
else
M.val (IntKind.wrap .i64 (d228+1)) fun z252=>
J227 z252 h251)) fun J249=>
(bif (n247 != 0) then
J249 true h248
else
J249 (!strEq s246 s233) h248)
else
J226 () h229)) 0 h225) fun J34=>
M.loop (α:=Int) (fun J35 d36 h37=>
M.join (α:=Bool) (fun d39 h40=>
(bif d39 then
M.join (α:=Int × (Option Addr × Nat × Nat)) (fun d188 h189=>
M.nn p7 fun a190=>
M.load h189 ((Addr.add a190 0).add 0) fun v191=>
M.ptr v191 fun p192=>
M.load h189 ((Addr.add a190 0).add 1) fun v193=>
M.int .i64 v193 fun n194=>
M.load h189 ((Addr.add a190 0).add 2) fun v195=>
M.int .i64 v195 fun n196=>
M.load h189 ((Addr.add a190 0).add 3) fun v197=>
M.str v197 fun s198=>
M.nn p7 fun a199=>
M.load h189 (Addr.add a199 8) fun v200=>
M.str v200 fun s201=>
F3 p192 n194 n196 s198 s201 d188.2.1 d188.2.2.1 d188.2.2.2 h189 fun a202 l203 c204 s205 n206 h207=>
M.join (α:=Bool) (fun d220 h221=>
(bif d220 then
Q false h221
else
M.nn p7 fun a222=>
M.put h221 (Addr.add a222 8) (.string s205) fun h223=>
J35 d188.1 h223)) fun J208=>
(bif (n206 != 0) then
J208 true h207
else
M.nn p7 fun a209=>
M.load h207 ((Addr.add a209 0).add 0) fun v210=>
M.ptr v210 fun p211=>
M.load h207 ((Addr.add a209 0).add 1) fun v212=>
M.int .i64 v212 fun n213=>
M.load h207 ((Addr.add a209 0).add 2) fun v214=>
M.int .i64 v214 fun n215=>
M.load h207 ((Addr.add a209 0).add 3) fun v216=>
M.str v216 fun s217=>
F4 p211 n213 n215 s217 a202 l203 c204 h207 fun n218 h219=>
J208 (n218 != 0) h219)) fun J41=>
M.idx x2 x2L d36 fun a42 j43=>
M.load h40 (Addr.add (Addr.add a42 (j43*6)) 2) fun v44=>
M.int .i64 v44 fun n45=>
M.nz 4 (
M.val (Int.tmod (mx 0 n45) 4) fun z46=>
M.val (IntKind.wrap .i64 (1+z46)) fun z47=>
M.loop (α:=Int × (Option Addr × Nat × Nat) × Int) (fun J48 d49 h50=>
(bif (decide (d49.2.2<z47)) then
M.join (α:=Bool) (fun d52 h53=>
(bif d52 then
M.idx x2 x2L d49.1 fun a54 j55=>
M.load h53 (Addr.add (Addr.add a54 (j55*6)) 1) fun v56=>
M.int .i64 v56 fun n57=>
M.nz z5 (
M.val (Int.tmod (mx 0 n57) z5) fun z58=>
M.join (α:=Unit) (fun d155 h156=>
M.nn p7 fun a157=>
M.load h156 ((Addr.add a157 0).add 0) fun v158=>
M.ptr v158 fun p159=>
M.load h156 ((Addr.add a157 0).add 1) fun v160=>
M.int .i64 v160 fun n161=>
M.load h156 ((Addr.add a157 0).add 2) fun v162=>
M.int .i64 v162 fun n163=>
M.load h156 ((Addr.add a157 0).add 3) fun v164=>
M.str v164 fun s165=>
M.idx a15 l16 z58 fun a166 j167=>
M.load h156 (Addr.add a166 (j167*1)) fun v168=>
M.str v168 fun s169=>
M.val (IntKind.wrap .u8 d49.1) fun z170=>
M.still h156 (Addr.add a166 (j167*1)) 1 h156 (
M.still h156 (Addr.add a157 0) 4 h156 (
M.new h156 (.cells #[.int .u8 z170] 5) fun b171 h172=>
M.still h156 (Addr.add a166 (j167*1)) 1 h172 (
M.still h156 (Addr.add a157 0) 4 h172 (
M.b2s h172 (some ⟨b171,0,none⟩) 1 fun s173=>
M.still h156 (Addr.add a166 (j167*1)) 1 h172 (
M.still h156 (Addr.add a157 0) 4 h172 (
M.cat s173 (⟨#[97,98,99,100,101,102,103,104,105,106,107]⟩:ByteArray) fun s174=>
F2 p159 n161 n163 s165 z58 s174 s169 h172 fun s175 n176 h177=>
(bif (n176 != 0) then
Q false h177
else
M.new h177 (.cells #[.int .i64 z58,.string s175] 45) fun b178 h179=>
M.cellsOf h179 (some ⟨b178,0,none⟩) (1*2) fun cs184=>
M.app h179 45 2 24 [.int .i64 0,.string ByteArray.empty] d49.2.1.1 d49.2.1.2.1 d49.2.1.2.2 1 cs184 fun a180 l181 c182 h183=>
M.val (IntKind.wrap .i64 (d49.1+1)) fun z185=>
M.val (IntKind.wrap .i64 (d49.2.2+1)) fun z186=>
J48 (z185,(a180,l181,c182),z186) h183)))))))) fun J59=>
M.idx x2 x2L d49.1 fun a60 j61=>
M.load h53 (Addr.add (Addr.add a60 (j61*6)) 3) fun v62=>
M.int .u8 v62 fun n63=>
(M.val (IntKind.wrap .u8 d49.1) fun z64=>
M.still h53 (Addr.add (Addr.add a60 (j61*6)) 3) 1 h53 (
(M.new h53 (.cells #[.int .u8 n63,.int .u8 z64] 5) fun b65 h66=>
(M.b2s h66 (some ⟨b65,0,none⟩) 2 fun s67=>
M.mk h66 5 [.int .u8 0] 1 30 30 fun a68 l69 c70 h71=>
M.still h53 (Addr.add (Addr.add a60 (j61*6)) 3) 1 h71 (
M.b2s h71 a68 l69 fun s72=>
M.still h53 (Addr.add (Addr.add a60 (j61*6)) 3) 1 h71 (
M.cat s67 s72 fun s73=>
M.idx a15 l16 z58 fun a74 j75=>
M.put h71 (Addr.add a74 (j75*1)) (.string s73) fun h76=>
J59 () h76))) ∧
(M.mk h66 5 [.int .u8 0] 1 30 30 fun a77 l78 c79 h80=>
M.still h53 (Addr.add (Addr.add a60 (j61*6)) 3) 1 h80 (
(M.b2s h80 (some ⟨b65,0,none⟩) 2 fun s81=>
M.b2s h80 a77 l78 fun s82=>
M.still h53 (Addr.add (Addr.add a60 (j61*6)) 3) 1 h80 (
M.cat s81 s82 fun s83=>
M.idx a15 l16 z58 fun a84 j85=>
M.put h80 (Addr.add a84 (j85*1)) (.string s83) fun h86=>
J59 () h86)) ∧
(M.b2s h80 a77 l78 fun s87=>
M.still h53 (Addr.add (Addr.add a60 (j61*6)) 3) 1 h80 (
M.b2s h80 (some ⟨b65,0,none⟩) 2 fun s88=>
M.cat s88 s87 fun s89=>
M.idx a15 l16 z58 fun a90 j91=>
M.put h80 (Addr.add a90 (j91*1)) (.string s89) fun h92=>
J59 () h92))))) ∧
(M.mk h53 5 [.int .u8 0] 1 30 30 fun a93 l94 c95 h96=>
M.still h53 (Addr.add (Addr.add a60 (j61*6)) 3) 1 h96 (
(M.new h96 (.cells #[.int .u8 n63,.int .u8 z64] 5) fun b97 h98=>
(M.b2s h98 (some ⟨b97,0,none⟩) 2 fun s99=>
M.b2s h98 a93 l94 fun s100=>
M.still h53 (Addr.add (Addr.add a60 (j61*6)) 3) 1 h98 (
M.cat s99 s100 fun s101=>
M.idx a15 l16 z58 fun a102 j103=>
M.put h98 (Addr.add a102 (j103*1)) (.string s101) fun h104=>
J59 () h104)) ∧
(M.b2s h98 a93 l94 fun s105=>
M.still h53 (Addr.add (Addr.add a60 (j61*6)) 3) 1 h98 (
M.b2s h98 (some ⟨b97,0,none⟩) 2 fun s106=>
M.cat s106 s105 fun s107=>
M.idx a15 l16 z58 fun a108 j109=>
M.put h98 (Addr.add a108 (j109*1)) (.string s107) fun h110=>
J59 () h110))) ∧
(M.b2s h96 a93 l94 fun s111=>
M.still h53 (Addr.add (Addr.add a60 (j61*6)) 3) 1 h96 (
M.new h96 (.cells #[.int .u8 n63,.int .u8 z64] 5) fun b112 h113=>
M.b2s h113 (some ⟨b112,0,none⟩) 2 fun s114=>
M.cat s114 s111 fun s115=>
M.idx a15 l16 z58 fun a116 j117=>
M.put h113 (Addr.add a116 (j117*1)) (.string s115) fun h118=>
J59 () h118)))))) ∧
(M.mk h53 5 [.int .u8 0] 1 30 30 fun a119 l120 c121 h122=>
M.still h53 (Addr.add (Addr.add a60 (j61*6)) 3) 1 h122 (
(M.val (IntKind.wrap .u8 d49.1) fun z123=>
M.still h53 (Addr.add (Addr.add a60 (j61*6)) 3) 1 h122 (
(M.new h122 (.cells #[.int .u8 n63,.int .u8 z123] 5) fun b124 h125=>
(M.b2s h125 (some ⟨b124,0,none⟩) 2 fun s126=>
M.b2s h125 a119 l120 fun s127=>
M.still h53 (Addr.add (Addr.add a60 (j61*6)) 3) 1 h125 (
M.cat s126 s127 fun s128=>
M.idx a15 l16 z58 fun a129 j130=>
M.put h125 (Addr.add a129 (j130*1)) (.string s128) fun h131=>
J59 () h131)) ∧
(M.b2s h125 a119 l120 fun s132=>
M.still h53 (Addr.add (Addr.add a60 (j61*6)) 3) 1 h125 (
M.b2s h125 (some ⟨b124,0,none⟩) 2 fun s133=>
M.cat s133 s132 fun s134=>
M.idx a15 l16 z58 fun a135 j136=>
M.put h125 (Addr.add a135 (j136*1)) (.string s134) fun h137=>
J59 () h137))) ∧
(M.b2s h122 a119 l120 fun s138=>
M.still h53 (Addr.add (Addr.add a60 (j61*6)) 3) 1 h122 (
M.new h122 (.cells #[.int .u8 n63,.int .u8 z123] 5) fun b139 h140=>
M.b2s h140 (some ⟨b139,0,none⟩) 2 fun s141=>
M.cat s141 s138 fun s142=>
M.idx a15 l16 z58 fun a143 j144=>
M.put h140 (Addr.add a143 (j144*1)) (.string s142) fun h145=>
J59 () h145)))) ∧
(M.b2s h122 a119 l120 fun s146=>
M.still h53 (Addr.add (Addr.add a60 (j61*6)) 3) 1 h122 (
M.val (IntKind.wrap .u8 d49.1) fun z147=>
M.still h53 (Addr.add (Addr.add a60 (j61*6)) 3) 1 h122 (
M.new h122 (.cells #[.int .u8 n63,.int .u8 z147] 5) fun b148 h149=>
M.b2s h149 (some ⟨b148,0,none⟩) 2 fun s150=>
M.cat s150 s146 fun s151=>
M.idx a15 l16 z58 fun a152 j153=>
M.put h149 (Addr.add a152 (j153*1)) (.string s151) fun h154=>
J59 () h154))))))
else
M.val (IntKind.wrap .i64 (d49.2.2+1)) fun z187=>
J48 (d49.1,(d49.2.1.1,d49.2.1.2.1,d49.2.1.2.2),z187) h53)) fun J51=>
(bif (decide (d49.1<(x2L:Int))) then
J51 (decide (d49.1<30)) h50
else
J51 false h50)
else
J41 (d49.1,(d49.2.1.1,d49.2.1.2.1,d49.2.1.2.2)) h50)) (d36,(none,0,0),0) h40)
else
J34 () h40)) fun J38=>
(bif (decide (d36<(x2L:Int))) then
J38 (decide (d36<30)) h37
else
J38 false h37)) 0 h33) fun J19=>
M.loop (α:=Int) (fun J20 d21 h22=>
(bif (decide (d21<(l16:Int))) then
M.mk h22 5 [.int .u8 0] 1 32 32 fun a23 l24 c25 h26=>
M.b2s h26 a23 l24 fun s27=>
M.idx a15 l16 d21 fun a28 j29=>
M.put h26 (Addr.add a28 (j29*1)) (.string s27) fun h30=>
M.val (IntKind.wrap .i64 (d21+1)) fun z31=>
J20 z31 h30
else
J19 () h22)) 0 h18)) fun J10=>
F1  h9 fun b11 h12=>
(bif (!b11) then
J10 true h12
else
J10 (!b8) h12)))
def law17_SlabKeeps:=law17_SlabKeeps.g law17_begin law17_wakes slab_Slab_Seal slab_Slab_Prepare slab_Slab_Apply slab_Slab_Get slab_Slab_Bad
def law17_SlabKeeps.L (F:type_of% law17_SlabKeeps):LT
 | [.int .i64 x0,.agg x1,.slice x2 x2L x2C]=>fun Q h=>F x0 x1 x2 x2L x2C h fun b273 h274=>Q (.bool b273) h274
 | _=>fun _ _=>False
def law17_SlabPlays.g (F0:type_of% law17_sized) (F1:type_of% law17_begin) (F2:type_of% law17_wakes) (F3:type_of% law17_both_act) (x0_0 x0_1:Int) (x1:Array Value) (x2:Option Addr) (x2L x2C:Nat) (h:H) (Q:Bool→H→Prop):Prop:=
M.new h (.cells #[.int .i64 x0_0,.int .i64 x0_1] 66) fun b2 h3=>
M.new h3 (.cells x1 22) fun b4 h5=>
M.aidx 2 0 fun j6=>
M.load h5 (Addr.add ⟨b2,0,none⟩ (j6*1)) fun v7=>
M.int .i64 v7 fun n8=>
M.aidx 2 1 fun j9=>
M.load h5 (Addr.add ⟨b2,0,none⟩ (j9*1)) fun v10=>
M.int .i64 v10 fun n11=>
M.row h5 ⟨b4,0,none⟩ 32 fun cs12=>
F0 n8 h5 fun n13 h14=>
M.still h5 ⟨b4,0,none⟩ 32 h14 (
M.still h5 (Addr.add ⟨b2,0,none⟩ (j9*1)) 1 h14 (
F1 n13 n11 (List.toArray cs12) h14 fun p15 b16 h17=>
M.join (α:=Bool) (fun d21 h22=>
(bif d21 then
Q false h22
else
M.sub x2 x2C 6 0 (mn (x2L:Int) 40) fun a23 l24 c25=>
M.loop (α:=Int) (fun J26 d27 h28=>
(bif (decide (d27<(l24:Int))) then
M.idx a23 l24 d27 fun a29 j30=>
M.load h28 ((Addr.add a29 (j30*6)).add 0) fun v31=>
M.int .i64 v31 fun n32=>
M.load h28 ((Addr.add a29 (j30*6)).add 1) fun v33=>
M.int .i64 v33 fun n34=>
M.load h28 ((Addr.add a29 (j30*6)).add 2) fun v35=>
M.int .i64 v35 fun n36=>
M.load h28 ((Addr.add a29 (j30*6)).add 3) fun v37=>
M.int .u8 v37 fun n38=>
M.load h28 ((Addr.add a29 (j30*6)).add 4) fun v39=>
M.slc v39 fun a40 l41 c42=>
M.load h28 ((Addr.add a29 (j30*6)).add 5) fun v43=>
M.str v43 fun s44=>
M.new h28 (.cells #[.int .i64 0,.int .i64 0,.int .i64 0,.int .u8 0,.slice none 0 0,.string ByteArray.empty] 32) fun b45 h46=>
M.req (Array.size (#[.int .i64 n32,.int .i64 n34,.int .i64 n36,.int .u8 n38,.slice a40 l41 c42,.string s44]:Array Value)=6) (M.puts h46 ⟨b45,0,none⟩ [.int .i64 n32,.int .i64 n34,.int .i64 n36,.int .u8 n38,.slice a40 l41 c42,.string s44] fun h47=>
M.load h47 (Addr.add ⟨b45,0,none⟩ 0) fun v48=>
M.int .i64 v48 fun n49=>
M.load h47 (Addr.add ⟨b45,0,none⟩ 1) fun v50=>
M.int .i64 v50 fun n51=>
M.load h47 (Addr.add ⟨b45,0,none⟩ 2) fun v52=>
M.int .i64 v52 fun n53=>
M.load h47 (Addr.add ⟨b45,0,none⟩ 3) fun v54=>
M.int .u8 v54 fun n55=>
M.load h47 (Addr.add ⟨b45,0,none⟩ 4) fun v56=>
M.slc v56 fun a57 l58 c59=>
M.load h47 (Addr.add ⟨b45,0,none⟩ 5) fun v60=>
M.str v60 fun s61=>
F3 p15 n49 n51 n53 n55 a57 l58 c59 s61 h47 fun b62 h63=>
(bif (!b62) then
Q false h63
else
M.val (IntKind.wrap .i64 (d27+1)) fun z64=>
J26 z64 h63))
else
Q true h28)) 0 h22)) fun J18=>
F2  h17 fun b19 h20=>
(bif (!b19) then
J18 true h20
else
J18 (!b16) h20)))
def law17_SlabPlays:=law17_SlabPlays.g law17_sized law17_begin law17_wakes law17_both_act
def law17_SlabPlays.L (F:type_of% law17_SlabPlays):LT
 | [.agg ⟨[.int .i64 x0_0,.int .i64 x0_1]⟩,.agg x1,.slice x2 x2L x2C]=>fun Q h=>F x0_0 x0_1 x1 x2 x2L x2C h fun b67 h68=>Q (.bool b67) h68
 | _=>fun _ _=>False
def law17_SlabPlays.ann:Ann:=⟨lookN [(2,[(26,.bool)])],lookN [],lookN [(122,[(33,.int .i64)])]⟩
theorem law17_SlabPlays.geq (F0) (F1) (F2) (F3):∀ l,OkL (evF Tryz.prog (envOf [(27,WL (law17_sized.L F0)),(12,WL (law17_begin.L F1)),(13,WL (law17_wakes.L F2)),(28,WL (law17_both_act.L F3))]) Tryz.f7 law17_SlabPlays.ann) l (law17_SlabPlays.L (law17_SlabPlays.g F0 F1 F2 F3) l):=by
 intro l; unfold law17_SlabPlays.L; split; exact .inr (by intros; kernel_rfl); exact .inl rfl
def law17_SlabPlays.W:W:=WL (law17_SlabPlays.L law17_SlabPlays)
theorem law17_SlabPlays.W_eq (x0_0 x0_1:Int) (x1:Array Value) (x2:Option Addr) (x2L x2C:Nat) (Q:Value→H→Prop) (h:H):law17_SlabPlays.W #[(.agg (#[(.int .i64 x0_0),(.int .i64 x0_1)]:Array Value)),(.agg x1),(.slice x2 x2L x2C)] Q h=law17_SlabPlays x0_0 x0_1 x1 x2 x2L x2C h fun b67 h68=>Q (.bool b67) h68:=by kernel_rfl
theorem law17_SlabPlays.good:FnGood Tryz.prog 7 law17_SlabPlays.W:=.ofL mixed (.cons law17_sized.good (.cons law17_begin.good (.cons law17_wakes.good (.cons law17_both_act.good .nil)))) Tryz.func7 Tryz.call7 (law17_SlabPlays.geq law17_sized law17_begin law17_wakes law17_both_act)
end Go.Proofs.YthegnmanjdlmjaaGreatDoor

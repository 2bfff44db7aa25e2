/- The shallow forms of the functions of this seat, printed by a program of mine, each checked by the kernel against the given code. -/
import Derived.Test.YthegnmanjdlmjaaGreatDoorS04
set_option linter.unusedSimpArgs false
set_option linter.unusedVariables false
namespace Go.Proofs.YthegnmanjdlmjaaGreatDoor
open Go.Sh
def sha_Hash_take.g (F0:type_of% sha_schedule) (F1:type_of% words_Right) (x0:Option Addr) (x1:ByteArray) (h:H) (Q:H→Prop):Prop:=
M.join (α:=Addr × Addr) (fun d61 h62=>
M.join (α:=Unit) (fun d149 h150=>
M.load h150 (d61.2.add 0) fun v151=>
M.int .u32 v151 fun n152=>
M.load h150 (d61.2.add 1) fun v153=>
M.int .u32 v153 fun n154=>
M.load h150 (d61.2.add 2) fun v155=>
M.int .u32 v155 fun n156=>
M.load h150 (d61.2.add 3) fun v157=>
M.int .u32 v157 fun n158=>
M.load h150 (d61.2.add 4) fun v159=>
M.int .u32 v159 fun n160=>
M.load h150 (d61.2.add 5) fun v161=>
M.int .u32 v161 fun n162=>
M.load h150 (d61.2.add 6) fun v163=>
M.int .u32 v163 fun n164=>
M.load h150 (d61.2.add 7) fun v165=>
M.int .u32 v165 fun n166=>
M.loop (α:=Int) (fun J167 d168 h169=>
(bif (decide (d168<8)) then
M.aidx 8 d168 fun j170=>
M.at (#[.int .u32 n152,.int .u32 n154,.int .u32 n156,.int .u32 n158,.int .u32 n160,.int .u32 n162,.int .u32 n164,.int .u32 n166]:Array Value) (j170*1) fun v171=>
M.int .u32 v171 fun n172=>
M.nn x0 fun a173=>
M.aidx 8 d168 fun j174=>
M.load h169 (Addr.add (Addr.add a173 0) (j174*1)) fun v175=>
M.int .u32 v175 fun n176=>
M.val (IntKind.wrap .u32 (n176+n172)) fun z177=>
M.nn x0 fun a178=>
M.aidx 8 d168 fun j179=>
M.put h169 (Addr.add (Addr.add a178 0) (j179*1)) (.int .u32 z177) fun h180=>
M.val (IntKind.wrap .i64 (d168+1)) fun z181=>
J167 z181 h180
else
Q h169)) 0 h150) fun J63=>
M.row h62 ⟨1,0,none⟩ 64 fun cs64=>
M.loop (α:=Int) (fun J65 d66 h67=>
(bif (decide (d66<64)) then
M.aidx 64 d66 fun j68=>
M.at (List.toArray cs64) (j68*1) fun v69=>
M.int .u32 v69 fun n70=>
M.aidx 8 0 fun j71=>
M.load h67 (Addr.add d61.2 (j71*1)) fun v72=>
M.int .u32 v72 fun n73=>
M.aidx 8 4 fun j74=>
M.load h67 (Addr.add d61.2 (j74*1)) fun v75=>
M.int .u32 v75 fun n76=>
F1 n76 6 h67 fun n77 h78=>
F1 n76 11 h78 fun n79 h80=>
M.val (bXor .u32 n77 n79) fun z81=>
F1 n76 25 h80 fun n82 h83=>
M.val (bXor .u32 z81 n82) fun z84=>
F1 n73 2 h83 fun n85 h86=>
F1 n73 13 h86 fun n87 h88=>
M.val (bXor .u32 n85 n87) fun z89=>
F1 n73 22 h88 fun n90 h91=>
M.val (bXor .u32 z89 n90) fun z92=>
M.aidx 8 7 fun j93=>
M.load h91 (Addr.add d61.2 (j93*1)) fun v94=>
M.int .u32 v94 fun n95=>
M.val (IntKind.wrap .u32 (n95+z84)) fun z96=>
M.aidx 8 5 fun j97=>
M.load h91 (Addr.add d61.2 (j97*1)) fun v98=>
M.int .u32 v98 fun n99=>
M.val (bAnd .u32 n76 n99) fun z100=>
M.val (bNot .u32 n76) fun z101=>
M.aidx 8 6 fun j102=>
M.load h91 (Addr.add d61.2 (j102*1)) fun v103=>
M.int .u32 v103 fun n104=>
M.val (bAnd .u32 z101 n104) fun z105=>
M.val (bXor .u32 z100 z105) fun z106=>
M.val (IntKind.wrap .u32 (z96+z106)) fun z107=>
M.val (IntKind.wrap .u32 (z107+n70)) fun z108=>
M.aidx 64 d66 fun j109=>
M.load h91 (Addr.add d61.1 (j109*1)) fun v110=>
M.int .u32 v110 fun n111=>
M.val (IntKind.wrap .u32 (z108+n111)) fun z112=>
M.aidx 8 1 fun j113=>
M.load h91 (Addr.add d61.2 (j113*1)) fun v114=>
M.int .u32 v114 fun n115=>
M.val (bAnd .u32 n73 n115) fun z116=>
M.aidx 8 2 fun j117=>
M.load h91 (Addr.add d61.2 (j117*1)) fun v118=>
M.int .u32 v118 fun n119=>
M.val (bAnd .u32 n73 n119) fun z120=>
M.val (bXor .u32 z116 z120) fun z121=>
M.aidx 8 1 fun j122=>
M.load h91 (Addr.add d61.2 (j122*1)) fun v123=>
M.int .u32 v123 fun n124=>
M.aidx 8 2 fun j125=>
M.load h91 (Addr.add d61.2 (j125*1)) fun v126=>
M.int .u32 v126 fun n127=>
M.val (bAnd .u32 n124 n127) fun z128=>
M.val (bXor .u32 z121 z128) fun z129=>
M.val (IntKind.wrap .u32 (z92+z129)) fun z130=>
M.sub (some d61.2) 8 1 1 ((8:Nat):Int) fun a131 l132 c133=>
M.sub (some d61.2) 8 1 0 7 fun a134 l135 c136=>
M.cellsOf h91 a134 ((min l135 l132)*1) fun cs138=>
M.copy h91 a131 cs138 fun h137=>
M.val (IntKind.wrap .u32 (z112+z130)) fun z139=>
M.aidx 8 4 fun j140=>
M.load h137 (Addr.add d61.2 (j140*1)) fun v141=>
M.int .u32 v141 fun n142=>
M.val (IntKind.wrap .u32 (n142+z112)) fun z143=>
M.aidx 8 0 fun j144=>
M.put h137 (Addr.add d61.2 (j144*1)) (.int .u32 z139) fun h145=>
M.aidx 8 4 fun j146=>
M.put h145 (Addr.add d61.2 (j146*1)) (.int .u32 z143) fun h147=>
M.val (IntKind.wrap .i64 (d66+1)) fun z148=>
J65 z148 h147
else
J63 () h67)) 0 h62) fun J1=>
M.nn x0 fun a2=>
M.load h ((Addr.add a2 0).add 0) fun v3=>
M.int .u32 v3 fun n4=>
M.load h ((Addr.add a2 0).add 1) fun v5=>
M.int .u32 v5 fun n6=>
M.load h ((Addr.add a2 0).add 2) fun v7=>
M.int .u32 v7 fun n8=>
M.load h ((Addr.add a2 0).add 3) fun v9=>
M.int .u32 v9 fun n10=>
M.load h ((Addr.add a2 0).add 4) fun v11=>
M.int .u32 v11 fun n12=>
M.load h ((Addr.add a2 0).add 5) fun v13=>
M.int .u32 v13 fun n14=>
M.load h ((Addr.add a2 0).add 6) fun v15=>
M.int .u32 v15 fun n16=>
M.load h ((Addr.add a2 0).add 7) fun v17=>
M.int .u32 v17 fun n18=>
(F0 x1 h fun cs19 h20=>
M.still h (Addr.add a2 0) 8 h20 (
(M.new h20 (.cells (Array.replicate 64 ((.int .u32 0):Value)) 251) fun b21 h22=>
M.still h (Addr.add a2 0) 8 h22 (
M.new h22 (.cells #[.int .u32 0,.int .u32 0,.int .u32 0,.int .u32 0,.int .u32 0,.int .u32 0,.int .u32 0,.int .u32 0] 204) fun b23 h24=>
M.still h (Addr.add a2 0) 8 h24 (
M.req (Array.size cs19=64) (M.puts h24 ⟨b21,0,none⟩ (Array.toList cs19) fun h25=>
M.still h (Addr.add a2 0) 8 h25 (
M.req (Array.size (#[.int .u32 n4,.int .u32 n6,.int .u32 n8,.int .u32 n10,.int .u32 n12,.int .u32 n14,.int .u32 n16,.int .u32 n18]:Array Value)=8) (M.puts h25 ⟨b23,0,none⟩ [.int .u32 n4,.int .u32 n6,.int .u32 n8,.int .u32 n10,.int .u32 n12,.int .u32 n14,.int .u32 n16,.int .u32 n18] fun h26=>
J1 (⟨b21,0,none⟩,⟨b23,0,none⟩) h26)))))) ∧
(M.new h20 (.cells #[.int .u32 0,.int .u32 0,.int .u32 0,.int .u32 0,.int .u32 0,.int .u32 0,.int .u32 0,.int .u32 0] 204) fun b27 h28=>
M.still h (Addr.add a2 0) 8 h28 (
M.new h28 (.cells (Array.replicate 64 ((.int .u32 0):Value)) 251) fun b29 h30=>
M.still h (Addr.add a2 0) 8 h30 (
M.req (Array.size cs19=64) (M.puts h30 ⟨b29,0,none⟩ (Array.toList cs19) fun h31=>
M.still h (Addr.add a2 0) 8 h31 (
M.req (Array.size (#[.int .u32 n4,.int .u32 n6,.int .u32 n8,.int .u32 n10,.int .u32 n12,.int .u32 n14,.int .u32 n16,.int .u32 n18]:Array Value)=8) (M.puts h31 ⟨b27,0,none⟩ [.int .u32 n4,.int .u32 n6,.int .u32 n8,.int .u32 n10,.int .u32 n12,.int .u32 n14,.int .u32 n16,.int .u32 n18] fun h32=>
J1 (⟨b29,0,none⟩,⟨b27,0,none⟩) h32)))))))) ∧
(M.new h (.cells (Array.replicate 64 ((.int .u32 0):Value)) 251) fun b33 h34=>
M.still h (Addr.add a2 0) 8 h34 (
(F0 x1 h34 fun cs35 h36=>
M.still h (Addr.add a2 0) 8 h36 (
M.new h36 (.cells #[.int .u32 0,.int .u32 0,.int .u32 0,.int .u32 0,.int .u32 0,.int .u32 0,.int .u32 0,.int .u32 0] 204) fun b37 h38=>
M.still h (Addr.add a2 0) 8 h38 (
M.req (Array.size cs35=64) (M.puts h38 ⟨b33,0,none⟩ (Array.toList cs35) fun h39=>
M.still h (Addr.add a2 0) 8 h39 (
M.req (Array.size (#[.int .u32 n4,.int .u32 n6,.int .u32 n8,.int .u32 n10,.int .u32 n12,.int .u32 n14,.int .u32 n16,.int .u32 n18]:Array Value)=8) (M.puts h39 ⟨b37,0,none⟩ [.int .u32 n4,.int .u32 n6,.int .u32 n8,.int .u32 n10,.int .u32 n12,.int .u32 n14,.int .u32 n16,.int .u32 n18] fun h40=>
J1 (⟨b33,0,none⟩,⟨b37,0,none⟩) h40)))))) ∧
(M.new h34 (.cells #[.int .u32 0,.int .u32 0,.int .u32 0,.int .u32 0,.int .u32 0,.int .u32 0,.int .u32 0,.int .u32 0] 204) fun b41 h42=>
M.still h (Addr.add a2 0) 8 h42 (
F0 x1 h42 fun cs43 h44=>
M.still h (Addr.add a2 0) 8 h44 (
M.req (Array.size cs43=64) (M.puts h44 ⟨b33,0,none⟩ (Array.toList cs43) fun h45=>
M.still h (Addr.add a2 0) 8 h45 (
M.req (Array.size (#[.int .u32 n4,.int .u32 n6,.int .u32 n8,.int .u32 n10,.int .u32 n12,.int .u32 n14,.int .u32 n16,.int .u32 n18]:Array Value)=8) (M.puts h45 ⟨b41,0,none⟩ [.int .u32 n4,.int .u32 n6,.int .u32 n8,.int .u32 n10,.int .u32 n12,.int .u32 n14,.int .u32 n16,.int .u32 n18] fun h46=>
J1 (⟨b33,0,none⟩,⟨b41,0,none⟩) h46)))))))) ∧
(M.new h (.cells #[.int .u32 0,.int .u32 0,.int .u32 0,.int .u32 0,.int .u32 0,.int .u32 0,.int .u32 0,.int .u32 0] 204) fun b47 h48=>
M.still h (Addr.add a2 0) 8 h48 (
(F0 x1 h48 fun cs49 h50=>
M.still h (Addr.add a2 0) 8 h50 (
M.new h50 (.cells (Array.replicate 64 ((.int .u32 0):Value)) 251) fun b51 h52=>
M.still h (Addr.add a2 0) 8 h52 (
M.req (Array.size cs49=64) (M.puts h52 ⟨b51,0,none⟩ (Array.toList cs49) fun h53=>
M.still h (Addr.add a2 0) 8 h53 (
M.req (Array.size (#[.int .u32 n4,.int .u32 n6,.int .u32 n8,.int .u32 n10,.int .u32 n12,.int .u32 n14,.int .u32 n16,.int .u32 n18]:Array Value)=8) (M.puts h53 ⟨b47,0,none⟩ [.int .u32 n4,.int .u32 n6,.int .u32 n8,.int .u32 n10,.int .u32 n12,.int .u32 n14,.int .u32 n16,.int .u32 n18] fun h54=>
J1 (⟨b51,0,none⟩,⟨b47,0,none⟩) h54)))))) ∧
(M.new h48 (.cells (Array.replicate 64 ((.int .u32 0):Value)) 251) fun b55 h56=>
M.still h (Addr.add a2 0) 8 h56 (
F0 x1 h56 fun cs57 h58=>
M.still h (Addr.add a2 0) 8 h58 (
M.req (Array.size cs57=64) (M.puts h58 ⟨b55,0,none⟩ (Array.toList cs57) fun h59=>
M.still h (Addr.add a2 0) 8 h59 (
M.req (Array.size (#[.int .u32 n4,.int .u32 n6,.int .u32 n8,.int .u32 n10,.int .u32 n12,.int .u32 n14,.int .u32 n16,.int .u32 n18]:Array Value)=8) (M.puts h59 ⟨b47,0,none⟩ [.int .u32 n4,.int .u32 n6,.int .u32 n8,.int .u32 n10,.int .u32 n12,.int .u32 n14,.int .u32 n16,.int .u32 n18] fun h60=>
J1 (⟨b55,0,none⟩,⟨b47,0,none⟩) h60))))))))
def sha_Hash_take:=sha_Hash_take.g sha_schedule words_Right
def sha_Hash_take.L (F:type_of% sha_Hash_take):LT
 | [.pointer x0,.string x1]=>fun Q h=>F x0 x1 h fun h183=>Q (.tuple #[]) h183
 | _=>fun _ _=>False
def sha_Hash_take.ann:Ann:=⟨lookN [(0,[(4,.adr),(5,.adr)])],lookN [(3,[])],lookN [(26,[(23,.int .i64)]),(30,[(99,.int .i64)])]⟩
theorem sha_Hash_take.geq (F0) (F1):∀ l,OkL (evF Tryz.prog (envOf [(164,WL (sha_schedule.L F0)),(165,WL (words_Right.L F1))]) Tryz.f121 sha_Hash_take.ann) l (sha_Hash_take.L (sha_Hash_take.g F0 F1) l):=by
 intro l; unfold sha_Hash_take.L; split; exact .inr (by intros; kernel_rfl); exact .inl rfl
theorem sha_Hash_take.good:FnGood Tryz.prog 121 (WL (sha_Hash_take.L sha_Hash_take)):=.ofL mixed (.cons sha_schedule.good (.cons words_Right.good .nil)) Tryz.func121 Tryz.call121 (sha_Hash_take.geq sha_schedule words_Right)
def ref05_Sum.g (F0:type_of% ref05_padded) (F1:type_of% ref05_block) (F2:type_of% ref01_Text) (x0:ByteArray) (h:H) (Q:ByteArray→H→Prop):Prop:=
F0 x0 h fun s2 h3=>
M.load h3 (Addr.add ⟨2,0,none⟩ 0) fun v4=>
M.int .u32 v4 fun n5=>
M.load h3 (Addr.add ⟨2,0,none⟩ 1) fun v6=>
M.int .u32 v6 fun n7=>
M.load h3 (Addr.add ⟨2,0,none⟩ 2) fun v8=>
M.int .u32 v8 fun n9=>
M.load h3 (Addr.add ⟨2,0,none⟩ 3) fun v10=>
M.int .u32 v10 fun n11=>
M.load h3 (Addr.add ⟨2,0,none⟩ 4) fun v12=>
M.int .u32 v12 fun n13=>
M.load h3 (Addr.add ⟨2,0,none⟩ 5) fun v14=>
M.int .u32 v14 fun n15=>
M.load h3 (Addr.add ⟨2,0,none⟩ 6) fun v16=>
M.int .u32 v16 fun n17=>
M.load h3 (Addr.add ⟨2,0,none⟩ 7) fun v18=>
M.int .u32 v18 fun n19=>
M.new h3 (.cells #[.int .u32 0,.int .u32 0,.int .u32 0,.int .u32 0,.int .u32 0,.int .u32 0,.int .u32 0,.int .u32 0] 204) fun b20 h21=>
M.req (Array.size (#[.int .u32 n5,.int .u32 n7,.int .u32 n9,.int .u32 n11,.int .u32 n13,.int .u32 n15,.int .u32 n17,.int .u32 n19]:Array Value)=8) (M.puts h21 ⟨b20,0,none⟩ [.int .u32 n5,.int .u32 n7,.int .u32 n9,.int .u32 n11,.int .u32 n13,.int .u32 n15,.int .u32 n17,.int .u32 n19] fun h22=>
M.join (α:=Unit) (fun d56 h57=>
M.join (α:=(Option Addr × Nat × Nat)) (fun d73 h74=>
F2 d73.1 d73.2.1 d73.2.2 true h74 fun s75 h76=>
Q s75 h76) fun J58=>
M.loop (α:=(Option Addr × Nat × Nat) × Int) (fun J59 d60 h61=>
(bif (decide (d60.2<8)) then
M.aidx 8 d60.2 fun j62=>
M.load h61 (Addr.add ⟨b20,0,none⟩ (j62*1)) fun v63=>
M.int .u32 v63 fun n64=>
M.new h61 (.cells #[.int .u32 n64] 178) fun b65 h66=>
M.cellsOf h66 (some ⟨b65,0,none⟩) (1*1) fun cs71=>
M.app h66 178 1 4 [.int .u32 0] d60.1.1 d60.1.2.1 d60.1.2.2 1 cs71 fun a67 l68 c69 h70=>
M.val (IntKind.wrap .i64 (d60.2+1)) fun z72=>
J59 ((a67,l68,c69),z72) h70
else
J58 (d60.1.1,d60.1.2.1,d60.1.2.2) h61)) ((none,0,0),0) h57) fun J23=>
M.loop (α:=Int) (fun J24 d25 h26=>
(bif (decide (d25<(ByteArray.size s2:Int))) then
M.load h26 (Addr.add ⟨b20,0,none⟩ 0) fun v27=>
M.int .u32 v27 fun n28=>
M.load h26 (Addr.add ⟨b20,0,none⟩ 1) fun v29=>
M.int .u32 v29 fun n30=>
M.load h26 (Addr.add ⟨b20,0,none⟩ 2) fun v31=>
M.int .u32 v31 fun n32=>
M.load h26 (Addr.add ⟨b20,0,none⟩ 3) fun v33=>
M.int .u32 v33 fun n34=>
M.load h26 (Addr.add ⟨b20,0,none⟩ 4) fun v35=>
M.int .u32 v35 fun n36=>
M.load h26 (Addr.add ⟨b20,0,none⟩ 5) fun v37=>
M.int .u32 v37 fun n38=>
M.load h26 (Addr.add ⟨b20,0,none⟩ 6) fun v39=>
M.int .u32 v39 fun n40=>
M.load h26 (Addr.add ⟨b20,0,none⟩ 7) fun v41=>
M.int .u32 v41 fun n42=>
M.val (IntKind.wrap .i64 (d25+64)) fun z43=>
M.ssub s2 d25 z43 fun s44=>
F1 n28 n30 n32 n34 n36 n38 n40 n42 s44 h26 fun n45 n46 n47 n48 n49 n50 n51 n52 h53=>
M.req (Array.size (#[.int .u32 n45,.int .u32 n46,.int .u32 n47,.int .u32 n48,.int .u32 n49,.int .u32 n50,.int .u32 n51,.int .u32 n52]:Array Value)=8) (M.puts h53 ⟨b20,0,none⟩ [.int .u32 n45,.int .u32 n46,.int .u32 n47,.int .u32 n48,.int .u32 n49,.int .u32 n50,.int .u32 n51,.int .u32 n52] fun h54=>
M.val (IntKind.wrap .i64 (d25+64)) fun z55=>
J24 z55 h54)
else
J23 () h26)) 0 h22)
def ref05_Sum:=ref05_Sum.g ref05_padded ref05_block ref01_Text
def ref05_Sum.L (F:type_of% ref05_Sum):LT
 | [.string x0]=>fun Q h=>F x0 h fun s79 h80=>Q (.string s79) h80
 | _=>fun _ _=>False
def ref06_Block.g (F0:type_of% ref01_Words) (F1:type_of% ref06_quarter) (F2:type_of% ref01_Text) (x0 x1:ByteArray) (x2:Int) (h:H) (Q:ByteArray→Int→H→Prop):Prop:=
M.join (α:=Bool) (fun d4 h5=>
(bif d4 then
Q ByteArray.empty 7 h5
else
F0 x0 false h5 fun a6 l7 c8 n9 h10=>
F0 x1 false h10 fun a11 l12 c13 n14 h15=>
M.idx a6 l7 0 fun a16 j17=>
M.load h15 (Addr.add a16 (j17*1)) fun v18=>
M.int .u32 v18 fun n19=>
M.idx a6 l7 1 fun a20 j21=>
M.load h15 (Addr.add a20 (j21*1)) fun v22=>
M.int .u32 v22 fun n23=>
M.idx a6 l7 2 fun a24 j25=>
M.load h15 (Addr.add a24 (j25*1)) fun v26=>
M.int .u32 v26 fun n27=>
M.idx a6 l7 3 fun a28 j29=>
M.load h15 (Addr.add a28 (j29*1)) fun v30=>
M.int .u32 v30 fun n31=>
M.idx a6 l7 4 fun a32 j33=>
M.load h15 (Addr.add a32 (j33*1)) fun v34=>
M.int .u32 v34 fun n35=>
M.idx a6 l7 5 fun a36 j37=>
M.load h15 (Addr.add a36 (j37*1)) fun v38=>
M.int .u32 v38 fun n39=>
M.idx a6 l7 6 fun a40 j41=>
M.load h15 (Addr.add a40 (j41*1)) fun v42=>
M.int .u32 v42 fun n43=>
M.idx a6 l7 7 fun a44 j45=>
M.load h15 (Addr.add a44 (j45*1)) fun v46=>
M.int .u32 v46 fun n47=>
M.idx a11 l12 0 fun a48 j49=>
M.load h15 (Addr.add a48 (j49*1)) fun v50=>
M.int .u32 v50 fun n51=>
M.idx a11 l12 1 fun a52 j53=>
M.load h15 (Addr.add a52 (j53*1)) fun v54=>
M.int .u32 v54 fun n55=>
M.idx a11 l12 2 fun a56 j57=>
M.load h15 (Addr.add a56 (j57*1)) fun v58=>
M.int .u32 v58 fun n59=>
M.new h15 (.cells #[.int .u32 0,.int .u32 0,.int .u32 0,.int .u32 0,.int .u32 0,.int .u32 0,.int .u32 0,.int .u32 0,.int .u32 0,.int .u32 0,.int .u32 0,.int .u32 0,.int .u32 0,.int .u32 0,.int .u32 0,.int .u32 0] 274) fun b60 h61=>
M.still h15 (Addr.add a56 (j57*1)) 1 h61 (
M.still h15 (Addr.add a52 (j53*1)) 1 h61 (
M.still h15 (Addr.add a48 (j49*1)) 1 h61 (
M.still h15 (Addr.add a44 (j45*1)) 1 h61 (
M.still h15 (Addr.add a40 (j41*1)) 1 h61 (
M.still h15 (Addr.add a36 (j37*1)) 1 h61 (
M.still h15 (Addr.add a32 (j33*1)) 1 h61 (
M.still h15 (Addr.add a28 (j29*1)) 1 h61 (
M.still h15 (Addr.add a24 (j25*1)) 1 h61 (
M.still h15 (Addr.add a20 (j21*1)) 1 h61 (
M.still h15 (Addr.add a16 (j17*1)) 1 h61 (
M.req (Array.size (#[.int .u32 1634760805,.int .u32 857760878,.int .u32 2036477234,.int .u32 1797285236,.int .u32 n19,.int .u32 n23,.int .u32 n27,.int .u32 n31,.int .u32 n35,.int .u32 n39,.int .u32 n43,.int .u32 n47,.int .u32 x2,.int .u32 n51,.int .u32 n55,.int .u32 n59]:Array Value)=16) (M.puts h61 ⟨b60,0,none⟩ [.int .u32 1634760805,.int .u32 857760878,.int .u32 2036477234,.int .u32 1797285236,.int .u32 n19,.int .u32 n23,.int .u32 n27,.int .u32 n31,.int .u32 n35,.int .u32 n39,.int .u32 n43,.int .u32 n47,.int .u32 x2,.int .u32 n51,.int .u32 n55,.int .u32 n59] fun h62=>
M.row h62 ⟨b60,0,none⟩ 16 fun cs63=>
M.new h62 (.cells #[.int .u32 0,.int .u32 0,.int .u32 0,.int .u32 0,.int .u32 0,.int .u32 0,.int .u32 0,.int .u32 0,.int .u32 0,.int .u32 0,.int .u32 0,.int .u32 0,.int .u32 0,.int .u32 0,.int .u32 0,.int .u32 0] 274) fun b64 h65=>
M.req (Array.size (List.toArray cs63)=16) (M.puts h65 ⟨b64,0,none⟩ (Array.toList (List.toArray cs63)) fun h66=>
M.join (α:=Unit) (fun d104 h105=>
M.join (α:=(Option Addr × Nat × Nat)) (fun d125 h126=>
F2 d125.1 d125.2.1 d125.2.2 false h126 fun s127 h128=>
Q s127 0 h128) fun J106=>
M.loop (α:=(Option Addr × Nat × Nat) × Int) (fun J107 d108 h109=>
(bif (decide (d108.2<16)) then
M.aidx 16 d108.2 fun j110=>
M.load h109 (Addr.add ⟨b64,0,none⟩ (j110*1)) fun v111=>
M.int .u32 v111 fun n112=>
M.aidx 16 d108.2 fun j113=>
M.load h109 (Addr.add ⟨b60,0,none⟩ (j113*1)) fun v114=>
M.int .u32 v114 fun n115=>
M.val (IntKind.wrap .u32 (n112+n115)) fun z116=>
M.new h109 (.cells #[.int .u32 z116] 178) fun b117 h118=>
M.cellsOf h118 (some ⟨b117,0,none⟩) (1*1) fun cs123=>
M.app h118 178 1 4 [.int .u32 0] d108.1.1 d108.1.2.1 d108.1.2.2 1 cs123 fun a119 l120 c121 h122=>
M.val (IntKind.wrap .i64 (d108.2+1)) fun z124=>
J107 ((a119,l120,c121),z124) h122
else
J106 (d108.1.1,d108.1.2.1,d108.1.2.2) h109)) ((none,0,0),0) h105) fun J67=>
M.loop (α:=Int) (fun J68 d69 h70=>
(bif (decide (d69<10)) then
M.row h70 ⟨b64,0,none⟩ 16 fun cs71=>
F1 (List.toArray cs71) 0 4 8 12 h70 fun cs72 h73=>
M.req (Array.size cs72=16) (M.puts h73 ⟨b64,0,none⟩ (Array.toList cs72) fun h74=>
M.row h74 ⟨b64,0,none⟩ 16 fun cs75=>
F1 (List.toArray cs75) 1 5 9 13 h74 fun cs76 h77=>
M.req (Array.size cs76=16) (M.puts h77 ⟨b64,0,none⟩ (Array.toList cs76) fun h78=>
M.row h78 ⟨b64,0,none⟩ 16 fun cs79=>
F1 (List.toArray cs79) 2 6 10 14 h78 fun cs80 h81=>
M.req (Array.size cs80=16) (M.puts h81 ⟨b64,0,none⟩ (Array.toList cs80) fun h82=>
M.row h82 ⟨b64,0,none⟩ 16 fun cs83=>
F1 (List.toArray cs83) 3 7 11 15 h82 fun cs84 h85=>
M.req (Array.size cs84=16) (M.puts h85 ⟨b64,0,none⟩ (Array.toList cs84) fun h86=>
M.row h86 ⟨b64,0,none⟩ 16 fun cs87=>
F1 (List.toArray cs87) 0 5 10 15 h86 fun cs88 h89=>
M.req (Array.size cs88=16) (M.puts h89 ⟨b64,0,none⟩ (Array.toList cs88) fun h90=>
M.row h90 ⟨b64,0,none⟩ 16 fun cs91=>
F1 (List.toArray cs91) 1 6 11 12 h90 fun cs92 h93=>
M.req (Array.size cs92=16) (M.puts h93 ⟨b64,0,none⟩ (Array.toList cs92) fun h94=>
M.row h94 ⟨b64,0,none⟩ 16 fun cs95=>
F1 (List.toArray cs95) 2 7 8 13 h94 fun cs96 h97=>
M.req (Array.size cs96=16) (M.puts h97 ⟨b64,0,none⟩ (Array.toList cs96) fun h98=>
M.row h98 ⟨b64,0,none⟩ 16 fun cs99=>
F1 (List.toArray cs99) 3 4 9 14 h98 fun cs100 h101=>
M.req (Array.size cs100=16) (M.puts h101 ⟨b64,0,none⟩ (Array.toList cs100) fun h102=>
M.val (IntKind.wrap .i64 (d69+1)) fun z103=>
J68 z103 h102))))))))
else
J67 () h70)) 0 h66))))))))))))))) fun J3=>
(bif ((ByteArray.size x0:Int) != 32) then
J3 true h
else
J3 ((ByteArray.size x1:Int) != 12) h)
def ref06_Block:=ref06_Block.g ref01_Words ref06_quarter ref01_Text
def ref06_Block.L (F:type_of% ref06_Block):LT
 | [.string x0,.string x1,.int .u32 x2]=>fun Q h=>F x0 x1 x2 h fun s132 n133 h134=>Q (.tuple #[.string s132,.int .i64 n133]) h134
 | _=>fun _ _=>False
def ref07_Sum.g (F0:type_of% ref07_Clamp) (F1:type_of% ref07_sum) (F2:type_of% ref07_product) (x0 x1:ByteArray) (h:H) (Q:ByteArray→Int→H→Prop):Prop:=
(bif ((ByteArray.size x0:Int) != 32) then
Q ByteArray.empty 7 h
else
(bif (decide ((ByteArray.size x1:Int) > 65536)) then
Q ByteArray.empty 5 h
else
M.ssub x0 0 16 fun s3=>
F0 s3 h fun s4 n5 h6=>
M.new h6 (.cells (Array.replicate 17 ((.int .i64 0):Value)) 323) fun b7 h8=>
M.new h8 (.cells (Array.replicate 17 ((.int .i64 0):Value)) 323) fun b9 h10=>
M.join (α:=Unit) (fun d20 h21=>
M.join (α:=Unit) (fun d60 h61=>
M.join (α:=(Option Addr × Nat × Nat)) (fun d85 h86=>
M.b2s h86 d85.1 d85.2.1 fun s87=>
Q s87 0 h86) fun J62=>
M.loop (α:=(Option Addr × Nat × Nat) × Int × Int) (fun J63 d64 h65=>
(bif (decide (d64.2.2<16)) then
M.aidx 17 d64.2.2 fun j66=>
M.load h65 (Addr.add ⟨b9,0,none⟩ (j66*1)) fun v67=>
M.int .i64 v67 fun n68=>
M.val (IntKind.wrap .i64 (d64.2.1+n68)) fun z69=>
M.val (IntKind.wrap .i64 (16+d64.2.2)) fun z70=>
M.byte x0 z70 fun n71=>
M.val (IntKind.wrap .i64 n71) fun z72=>
M.still h65 (Addr.add ⟨b9,0,none⟩ (j66*1)) 1 h65 (
M.val (IntKind.wrap .i64 (z69+z72)) fun z73=>
M.nz 256 (
M.val (Int.tmod z73 256) fun z74=>
M.val (IntKind.wrap .u8 z74) fun z75=>
M.new h65 (.cells #[.int .u8 z75] 5) fun b76 h77=>
M.cellsOf h77 (some ⟨b76,0,none⟩) (1*1) fun cs82=>
M.app h77 5 1 1 [.int .u8 0] d64.1.1 d64.1.2.1 d64.1.2.2 1 cs82 fun a78 l79 c80 h81=>
M.nz 256 (
M.val (IntKind.wrap .i64 (Int.tdiv z73 256)) fun z83=>
M.val (IntKind.wrap .i64 (d64.2.2+1)) fun z84=>
J63 ((a78,l79,c80),z83,z84) h81)))
else
J62 (d64.1.1,d64.1.2.1,d64.1.2.2) h65)) ((none,0,0),0,0) h61) fun J22=>
M.loop (α:=Int) (fun J23 d24 h25=>
(bif (decide (d24<(ByteArray.size x1:Int))) then
M.join (α:=Unit) (fun d57 h58=>
M.val (IntKind.wrap .i64 (d24+16)) fun z59=>
J23 z59 h58) fun J26=>
M.new h25 (.cells (Array.replicate 17 ((.int .i64 0):Value)) 323) fun b27 h28=>
M.join (α:=Int) (fun d43 h44=>
M.aidx 17 d43 fun j45=>
M.put h44 (Addr.add ⟨b27,0,none⟩ (j45*1)) (.int .i64 1) fun h46=>
M.row h46 ⟨b9,0,none⟩ 17 fun cs47=>
M.row h46 ⟨b27,0,none⟩ 17 fun cs48=>
F1 (List.toArray cs47) (List.toArray cs48) h46 fun cs49 h50=>
M.req (Array.size cs49=17) (M.puts h50 ⟨b9,0,none⟩ (Array.toList cs49) fun h51=>
M.row h51 ⟨b9,0,none⟩ 17 fun cs52=>
M.row h51 ⟨b7,0,none⟩ 17 fun cs53=>
F2 (List.toArray cs52) (List.toArray cs53) h51 fun cs54 h55=>
M.req (Array.size cs54=17) (M.puts h55 ⟨b9,0,none⟩ (Array.toList cs54) fun h56=>
J26 () h56))) fun J29=>
M.loop (α:=Int) (fun J30 d31 h32=>
M.join (α:=Bool) (fun d35 h36=>
(bif d35 then
M.val (IntKind.wrap .i64 (d24+d31)) fun z37=>
M.byte x1 z37 fun n38=>
M.val (IntKind.wrap .i64 n38) fun z39=>
M.aidx 17 d31 fun j40=>
M.put h36 (Addr.add ⟨b27,0,none⟩ (j40*1)) (.int .i64 z39) fun h41=>
M.val (IntKind.wrap .i64 (d31+1)) fun z42=>
J30 z42 h41
else
J29 d31 h36)) fun J33=>
(bif (decide (d31<16)) then
M.val (IntKind.wrap .i64 (d24+d31)) fun z34=>
J33 (decide (z34<(ByteArray.size x1:Int))) h32
else
J33 false h32)) 0 h28
else
J22 () h25)) 0 h21) fun J11=>
M.loop (α:=Int) (fun J12 d13 h14=>
(bif (decide (d13<16)) then
M.byte s4 d13 fun n15=>
M.val (IntKind.wrap .i64 n15) fun z16=>
M.aidx 17 d13 fun j17=>
M.put h14 (Addr.add ⟨b7,0,none⟩ (j17*1)) (.int .i64 z16) fun h18=>
M.val (IntKind.wrap .i64 (d13+1)) fun z19=>
J12 z19 h18
else
J11 () h14)) 0 h10))
def ref07_Sum:=ref07_Sum.g ref07_Clamp ref07_sum ref07_product
def slices_DeleteFuncdisk_write_disk_write_disk_Disk_Tamper_1.g (F0:type_of% slices_IndexFuncdisk_write_disk_write_disk_Disk_Tamper_1) (F1:type_of% disk_Disk_Tamper_1) (x0:Option Addr) (x0L x0C:Nat) (x1_0:Addr) (h:H) (Q:Option Addr→Nat→Nat→H→Prop):Prop:=
F0 x0 x0L x0C x1_0 h fun n4 h5=>
(bif (n4 == (-1)) then
Q x0 x0L x0C h5
else
M.join (α:=Int) (fun d38 h39=>
M.sub x0 x0C 2 d38 (x0L:Int) fun a40 l41 c42=>
M.copy h39 a40 (zerosOf [.int .i64 0,.string ByteArray.empty] l41) fun h43=>
M.sub x0 x0C 2 0 d38 fun a44 l45 c46=>
Q a44 l45 c46 h43) fun J6=>
M.val (IntKind.wrap .i64 (n4+1)) fun z7=>
M.loop (α:=Int × Int) (fun J8 d9 h10=>
(bif (decide (d9.2<(x0L:Int))) then
M.join (α:=Int) (fun d35 h36=>
M.val (IntKind.wrap .i64 (d9.2+1)) fun z37=>
J8 (d35,z37) h36) fun J11=>
M.idx x0 x0L d9.2 fun a12 j13=>
M.load h10 ((Addr.add a12 (j13*2)).add 0) fun v14=>
M.int .i64 v14 fun n15=>
M.load h10 ((Addr.add a12 (j13*2)).add 1) fun v16=>
M.str v16 fun s17=>
M.new h10 (.cells #[.int .i64 0,.string ByteArray.empty] 131) fun b18 h19=>
M.req (Array.size (#[.int .i64 n15,.string s17]:Array Value)=2) (M.puts h19 ⟨b18,0,none⟩ [.int .i64 n15,.string s17] fun h20=>
M.load h20 (Addr.add ⟨b18,0,none⟩ 0) fun v21=>
M.int .i64 v21 fun n22=>
M.load h20 (Addr.add ⟨b18,0,none⟩ 1) fun v23=>
M.str v23 fun s24=>
F1 n22 s24 x1_0 h20 fun b25 h26=>
(bif (!b25) then
M.load h26 (Addr.add ⟨b18,0,none⟩ 0) fun v27=>
M.int .i64 v27 fun n28=>
M.load h26 (Addr.add ⟨b18,0,none⟩ 1) fun v29=>
M.str v29 fun s30=>
M.idx x0 x0L d9.1 fun a31 j32=>
M.req (Array.size (#[.int .i64 n28,.string s30]:Array Value)=2) (M.puts h26 (Addr.add a31 (j32*2)) [.int .i64 n28,.string s30] fun h33=>
M.val (IntKind.wrap .i64 (d9.1+1)) fun z34=>
J11 z34 h33)
else
J11 d9.1 h26))
else
J6 d9.1 h10)) (n4,z7) h5)
def slices_DeleteFuncdisk_write_disk_write_disk_Disk_Tamper_1:=slices_DeleteFuncdisk_write_disk_write_disk_Disk_Tamper_1.g slices_IndexFuncdisk_write_disk_write_disk_Disk_Tamper_1 disk_Disk_Tamper_1
def slices_DeleteFuncdisk_write_disk_write_disk_Disk_Tamper_1.L (F:type_of% slices_DeleteFuncdisk_write_disk_write_disk_Disk_Tamper_1):LT
 | [.slice x0 x0L x0C,.func (.func 65) ⟨[]⟩ ⟨[.pointer (some x1_0)]⟩]=>fun Q h=>F x0 x0L x0C x1_0 h fun a51 l52 c53 h54=>Q (.slice a51 l52 c53) h54
 | _=>fun _ _=>False
def slices_DeleteFuncdisk_write_disk_write_disk_Disk_Tamper_1.ann:Ann:=⟨lookN [],lookN [(15,[(5,.int .i64)]),(489,[(5,.int .i64)])],lookN [(122,[(5,.int .i64),(6,.int .i64)])]⟩
theorem slices_DeleteFuncdisk_write_disk_write_disk_Disk_Tamper_1.geq (F0) (F1):∀ l,OkL (evF Tryz.prog (envOf [(120,WL (slices_IndexFuncdisk_write_disk_write_disk_Disk_Tamper_1.L F0)),(65,WL (disk_Disk_Tamper_1.L F1))]) Tryz.f64 slices_DeleteFuncdisk_write_disk_write_disk_Disk_Tamper_1.ann) l (slices_DeleteFuncdisk_write_disk_write_disk_Disk_Tamper_1.L (slices_DeleteFuncdisk_write_disk_write_disk_Disk_Tamper_1.g F0 F1) l):=by
 intro l; unfold slices_DeleteFuncdisk_write_disk_write_disk_Disk_Tamper_1.L; split; exact .inr (by intros; kernel_rfl); exact .inl rfl
theorem slices_DeleteFuncdisk_write_disk_write_disk_Disk_Tamper_1.good:FnGood Tryz.prog 64 (WL (slices_DeleteFuncdisk_write_disk_write_disk_Disk_Tamper_1.L slices_DeleteFuncdisk_write_disk_write_disk_Disk_Tamper_1)):=.ofL mixed (.cons slices_IndexFuncdisk_write_disk_write_disk_Disk_Tamper_1.good (.cons disk_Disk_Tamper_1.good .nil)) Tryz.func64 Tryz.call64 (slices_DeleteFuncdisk_write_disk_write_disk_Disk_Tamper_1.geq slices_IndexFuncdisk_write_disk_write_disk_Disk_Tamper_1 disk_Disk_Tamper_1)
def disk_Disk_Tamper.g (F0:type_of% disk_Disk_usable) (F1:type_of% slices_DeleteFuncdisk_write_disk_write_disk_Disk_Tamper_1) (x0:Option Addr) (x1:Int) (x2:ByteArray) (h:H) (Q:Bool→H→Prop):Prop:=
M.new h (.cells #[.int .i64 x1] 3) fun b2 h3=>
M.join (α:=Bool) (fun d9 h10=>
(bif d9 then
Q false h10
else
M.nn x0 fun a11=>
M.load h10 (Addr.add a11 2) fun v12=>
M.slc v12 fun a13 l14 c15=>
F1 a13 l14 c15 ⟨b2,0,none⟩ h10 fun a16 l17 c18 h19=>
M.nn x0 fun a20=>
M.put h19 (Addr.add a20 2) (.slice a16 l17 c18) fun h21=>
M.nn x0 fun a22=>
M.load h21 (Addr.add a22 0) fun v23=>
M.slc v23 fun a24 l25 c26=>
M.load h21 ⟨b2,0,none⟩ fun v27=>
M.int .i64 v27 fun n28=>
M.nn x0 fun a29=>
M.load h21 (Addr.add a29 1) fun v30=>
M.slc v30 fun a31 l32 c33=>
M.load h21 ⟨b2,0,none⟩ fun v34=>
M.int .i64 v34 fun n35=>
M.idx a24 l25 n28 fun a36 j37=>
M.put h21 (Addr.add a36 (j37*1)) (.string x2) fun h38=>
M.still h21 ⟨b2,0,none⟩ 1 h38 (
M.idx a31 l32 n35 fun a39 j40=>
M.put h38 (Addr.add a39 (j40*1)) (.string x2) fun h41=>
Q true h41))) fun J4=>
M.load h3 ⟨b2,0,none⟩ fun v5=>
M.int .i64 v5 fun n6=>
F0 x0 n6 h3 fun n7 h8=>
(bif (n7 != 0) then
J4 true h8
else
J4 (decide ((ByteArray.size x2:Int) > 2048)) h8)
def disk_Disk_Tamper:=disk_Disk_Tamper.g disk_Disk_usable slices_DeleteFuncdisk_write_disk_write_disk_Disk_Tamper_1
def disk_Disk_Tamper.L (F:type_of% disk_Disk_Tamper):LT
 | [.pointer x0,.int .i64 x1,.string x2]=>fun Q h=>F x0 x1 x2 h fun b44 h45=>Q (.bool b44) h45
 | _=>fun _ _=>False
def disk_Disk_Tamper.ann:Ann:=⟨lookN [(1,[(15,.bool)])],lookN [],lookN []⟩
theorem disk_Disk_Tamper.geq (F0) (F1):∀ l,OkL (evF Tryz.prog (envOf [(62,WL (disk_Disk_usable.L F0)),(64,WL (slices_DeleteFuncdisk_write_disk_write_disk_Disk_Tamper_1.L F1))]) Tryz.f25 disk_Disk_Tamper.ann) l (disk_Disk_Tamper.L (disk_Disk_Tamper.g F0 F1) l):=by
 intro l; unfold disk_Disk_Tamper.L; split; exact .inr (by intros; kernel_rfl); exact .inl rfl
theorem disk_Disk_Tamper.good:FnGood Tryz.prog 25 (WL (disk_Disk_Tamper.L disk_Disk_Tamper)):=.ofL mixed (.cons disk_Disk_usable.good (.cons slices_DeleteFuncdisk_write_disk_write_disk_Disk_Tamper_1.good .nil)) Tryz.func25 Tryz.call25 (disk_Disk_Tamper.geq disk_Disk_usable slices_DeleteFuncdisk_write_disk_write_disk_Disk_Tamper_1)
def aead_Seal.g (F0:type_of% aead_shape) (F1:type_of% chacha_Crypt) (F2:type_of% aead_tag) (x0 x1 x2 x3:ByteArray) (h:H) (Q:ByteArray→Int→H→Prop):Prop:=
F0 x0 x1 h fun b3 h4=>
(bif (!b3) then
Q ByteArray.empty 7 h4
else
M.join (α:=Bool) (fun d6 h7=>
(bif d6 then
Q ByteArray.empty 5 h7
else
F1 x0 x1 1 x3 h7 fun s8 n9 h10=>
F2 x0 x1 x2 s8 h10 fun s11 h12=>
M.cat s8 s11 fun s13=>
Q s13 0 h12)) fun J5=>
(bif (decide ((ByteArray.size x2:Int) > 16384)) then
J5 true h4
else
J5 (decide ((ByteArray.size x3:Int) > 16384)) h4))
def aead_Seal:=aead_Seal.g aead_shape chacha_Crypt aead_tag
def aead_Seal.L (F:type_of% aead_Seal):LT
 | [.string x0,.string x1,.string x2,.string x3]=>fun Q h=>F x0 x1 x2 x3 h fun s17 n18 h19=>Q (.tuple #[.string s17,.int .i64 n18]) h19
 | _=>fun _ _=>False
def aead_Seal.ann:Ann:=⟨lookN [(3,[(17,.bool)])],lookN [],lookN []⟩
theorem aead_Seal.geq (F0) (F1) (F2):∀ l,OkL (evF Tryz.prog (envOf [(94,WL (aead_shape.L F0)),(95,WL (chacha_Crypt.L F1)),(96,WL (aead_tag.L F2))]) Tryz.f45 aead_Seal.ann) l (aead_Seal.L (aead_Seal.g F0 F1 F2) l):=by
 intro l; unfold aead_Seal.L; split; exact .inr (by intros; kernel_rfl); exact .inl rfl
theorem aead_Seal.good:FnGood Tryz.prog 45 (WL (aead_Seal.L aead_Seal)):=.ofL mixed (.cons aead_shape.good (.cons chacha_Crypt.good (.cons aead_tag.good .nil))) Tryz.func45 Tryz.call45 (aead_Seal.geq aead_shape chacha_Crypt aead_tag)
def aead_Open.g (F0:type_of% aead_shape) (F1:type_of% aead_tag) (F2:type_of% poly_Equal) (F3:type_of% chacha_Crypt) (x0 x1 x2 x3:ByteArray) (h:H) (Q:ByteArray→Int→H→Prop):Prop:=
M.val (IntKind.wrap .i64 ((ByteArray.size x3:Int)-16)) fun z3=>
F0 x0 x1 h fun b4 h5=>
(bif (!b4) then
Q ByteArray.empty 7 h5
else
(bif (decide (z3<0)) then
Q ByteArray.empty 3 h5
else
M.join (α:=Bool) (fun d7 h8=>
(bif d7 then
Q ByteArray.empty 5 h8
else
M.ssub x3 z3 (ByteArray.size x3:Int) fun s9=>
M.ssub x3 0 z3 fun s10=>
F1 x0 x1 x2 s10 h8 fun s11 h12=>
F2 s9 s11 h12 fun b13 h14=>
(bif (!b13) then
Q ByteArray.empty 23 h14
else
M.ssub x3 0 z3 fun s15=>
F3 x0 x1 1 s15 h14 fun s16 n17 h18=>
Q s16 n17 h18))) fun J6=>
(bif (decide ((ByteArray.size x2:Int) > 16384)) then
J6 true h5
else
J6 (decide (z3 > 16384)) h5)))
def aead_Open:=aead_Open.g aead_shape aead_tag poly_Equal chacha_Crypt
def aead_Open.L (F:type_of% aead_Open):LT
 | [.string x0,.string x1,.string x2,.string x3]=>fun Q h=>F x0 x1 x2 x3 h fun s22 n23 h24=>Q (.tuple #[.string s22,.int .i64 n23]) h24
 | _=>fun _ _=>False
def aead_Open.ann:Ann:=⟨lookN [(6,[(22,.bool)])],lookN [],lookN []⟩
theorem aead_Open.geq (F0) (F1) (F2) (F3):∀ l,OkL (evF Tryz.prog (envOf [(94,WL (aead_shape.L F0)),(96,WL (aead_tag.L F1)),(119,WL (poly_Equal.L F2)),(95,WL (chacha_Crypt.L F3))]) Tryz.f58 aead_Open.ann) l (aead_Open.L (aead_Open.g F0 F1 F2 F3) l):=by
 intro l; unfold aead_Open.L; split; exact .inr (by intros; kernel_rfl); exact .inl rfl
theorem aead_Open.good:FnGood Tryz.prog 58 (WL (aead_Open.L aead_Open)):=.ofL mixed (.cons aead_shape.good (.cons aead_tag.good (.cons poly_Equal.good (.cons chacha_Crypt.good .nil)))) Tryz.func58 Tryz.call58 (aead_Open.geq aead_shape aead_tag poly_Equal chacha_Crypt)
def sha_Hash_Write.g (F0:type_of% sha_Hash_take) (x0:Option Addr) (x1:ByteArray) (h:H) (Q:H→Prop):Prop:=
(bif (Option.isNone x0) then
Q h
else
M.nn x0 fun a1=>
M.load h (Addr.add a1 9) fun v2=>
M.int .i64 v2 fun n3=>
M.val (IntKind.wrap .i64 (n3+(ByteArray.size x1:Int))) fun z4=>
M.nn x0 fun a5=>
M.put h (Addr.add a5 9) (.int .i64 z4) fun h6=>
M.nn x0 fun a7=>
M.load h6 (Addr.add a7 8) fun v8=>
M.str v8 fun s9=>
M.cat s9 x1 fun s10=>
M.join (α:=ByteArray) (fun d18 h19=>
M.nn x0 fun a20=>
M.put h19 (Addr.add a20 8) (.string d18) fun h21=>
Q h21) fun J11=>
M.loop (α:=ByteArray) (fun J12 d13 h14=>
(bif (decide ((ByteArray.size d13:Int) ≥ 64)) then
M.ssub d13 0 64 fun s15=>
F0 x0 s15 h14 fun h16=>
M.ssub d13 64 (ByteArray.size d13:Int) fun s17=>
J12 s17 h16
else
J11 d13 h14)) s10 h6)
def sha_Hash_Write:=sha_Hash_Write.g sha_Hash_take
def sha_Hash_Write.L (F:type_of% sha_Hash_Write):LT
 | [.pointer x0,.string x1]=>fun Q h=>F x0 x1 h fun h23=>Q (.tuple #[]) h23
 | _=>fun _ _=>False
def sha_Hash_Write.ann:Ann:=⟨lookN [],lookN [(15,[(1,.str)])],lookN [(60,[(1,.str)])]⟩
theorem sha_Hash_Write.geq (F0):∀ l,OkL (evF Tryz.prog (envOf [(121,WL (sha_Hash_take.L F0))]) Tryz.f67 sha_Hash_Write.ann) l (sha_Hash_Write.L (sha_Hash_Write.g F0) l):=by
 intro l; unfold sha_Hash_Write.L; split; exact .inr (by intros; kernel_rfl); exact .inl rfl
theorem sha_Hash_Write.good:FnGood Tryz.prog 67 (WL (sha_Hash_Write.L sha_Hash_Write)):=.ofL mixed (.cons sha_Hash_take.good .nil) Tryz.func67 Tryz.call67 (sha_Hash_Write.geq sha_Hash_take)
def sha_Hash_Sum.g (F0:type_of% strings_Repeat) (F1:type_of% words_FromBig) (F2:type_of% sha_Hash_Write) (x0:Option Addr) (h:H) (Q:ByteArray→H→Prop):Prop:=
(bif (Option.isNone x0) then
Q ByteArray.empty h
else
M.nn x0 fun a2=>
M.load h (a2.add 0) fun v3=>
M.int .u32 v3 fun n4=>
M.load h (a2.add 1) fun v5=>
M.int .u32 v5 fun n6=>
M.load h (a2.add 2) fun v7=>
M.int .u32 v7 fun n8=>
M.load h (a2.add 3) fun v9=>
M.int .u32 v9 fun n10=>
M.load h (a2.add 4) fun v11=>
M.int .u32 v11 fun n12=>
M.load h (a2.add 5) fun v13=>
M.int .u32 v13 fun n14=>
M.load h (a2.add 6) fun v15=>
M.int .u32 v15 fun n16=>
M.load h (a2.add 7) fun v17=>
M.int .u32 v17 fun n18=>
M.load h (a2.add 8) fun v19=>
M.str v19 fun s20=>
M.load h (a2.add 9) fun v21=>
M.int .i64 v21 fun n22=>
M.new h (.cells #[.int .u32 0,.int .u32 0,.int .u32 0,.int .u32 0,.int .u32 0,.int .u32 0,.int .u32 0,.int .u32 0,.string ByteArray.empty,.int .i64 0] 206) fun b23 h24=>
M.req (Array.size (#[.int .u32 n4,.int .u32 n6,.int .u32 n8,.int .u32 n10,.int .u32 n12,.int .u32 n14,.int .u32 n16,.int .u32 n18,.string s20,.int .i64 n22]:Array Value)=10) (M.puts h24 ⟨b23,0,none⟩ [.int .u32 n4,.int .u32 n6,.int .u32 n8,.int .u32 n10,.int .u32 n12,.int .u32 n14,.int .u32 n16,.int .u32 n18,.string s20,.int .i64 n22] fun h25=>
M.nn x0 fun a26=>
M.load h25 (Addr.add a26 9) fun v27=>
M.int .i64 v27 fun n28=>
M.val (IntKind.wrap .u64 n28) fun z29=>
M.val (IntKind.wrap .u64 (z29*8)) fun z30=>
M.nn x0 fun a31=>
M.load h25 (Addr.add a31 8) fun v32=>
M.str v32 fun s33=>
M.val (IntKind.wrap .i64 (119-(ByteArray.size s33:Int))) fun z34=>
M.nz 64 (
M.val (Int.tmod z34 64) fun z35=>
F0 (⟨#[0]⟩:ByteArray) z35 h25 fun s36 h37=>
M.cat (⟨#[128]⟩:ByteArray) s36 fun s38=>
M.shr0 32 (
M.val (shr .u64 z30 32) fun z39=>
M.val (IntKind.wrap .u32 z39) fun z40=>
M.val (IntKind.wrap .u32 z30) fun z41=>
M.new h37 (.cells #[.int .u32 z40,.int .u32 z41] 178) fun b42 h43=>
F1 (some ⟨b42,0,none⟩) 2 2 h43 fun s44 h45=>
M.cat s38 s44 fun s46=>
F2 (some ⟨b23,0,none⟩) s46 h45 fun h47=>
M.sub (some (Addr.add ⟨b23,0,none⟩ 0)) 8 1 0 ((8:Nat):Int) fun a48 l49 c50=>
F1 a48 l49 c50 h47 fun s51 h52=>
Q s51 h52))))
def sha_Hash_Sum:=sha_Hash_Sum.g strings_Repeat words_FromBig sha_Hash_Write
def sha_Hash_Sum.L (F:type_of% sha_Hash_Sum):LT
 | [.pointer x0]=>fun Q h=>F x0 h fun s55 h56=>Q (.string s55) h56
 | _=>fun _ _=>False
theorem sha_Hash_Sum.geq (F0) (F1) (F2):∀ l,OkL (evF Tryz.prog (envOf [(57,WL (strings_Repeat.L F0)),(122,WL (words_FromBig.L F1)),(67,WL (sha_Hash_Write.L F2))]) Tryz.f68 an0) l (sha_Hash_Sum.L (sha_Hash_Sum.g F0 F1 F2) l):=by
 intro l; unfold sha_Hash_Sum.L; split; exact .inr (by intros; kernel_rfl); exact .inl rfl
theorem sha_Hash_Sum.good:FnGood Tryz.prog 68 (WL (sha_Hash_Sum.L sha_Hash_Sum)):=.ofL mixed (.cons strings_Repeat.good (.cons words_FromBig.good (.cons sha_Hash_Write.good .nil))) Tryz.func68 Tryz.call68 (sha_Hash_Sum.geq strings_Repeat words_FromBig sha_Hash_Write)
def ref05_Kind.g (F0:type_of% ref05_Sum) (x0:Int) (x1:ByteArray) (h:H) (Q:ByteArray→H→Prop):Prop:=
M.new h (.cells #[.int .u8 x0] 5) fun b2 h3=>
M.b2s h3 (some ⟨b2,0,none⟩) 1 fun s4=>
M.cat s4 x1 fun s5=>
F0 s5 h3 fun s6 h7=>
Q s6 h7
def ref05_Kind:=ref05_Kind.g ref05_Sum
def ref12_digest.g (F0:Option Addr→Nat→Nat→Int→H→(ByteArray→H→Prop)→Prop) (F1:type_of% ref05_Kind) (x0:Option Addr) (x0L x0C:Nat) (x1:Int) (h:H) (Q:ByteArray→H→Prop):Prop:=
(bif (decide (x1 ≥ (x0L:Int))) then
M.val (IntKind.wrap .i64 (x1-(x0L:Int))) fun z2=>
M.idx x0 x0L z2 fun a3 j4=>
M.load h (Addr.add a3 (j4*1)) fun v5=>
M.str v5 fun s6=>
Q s6 h
else
M.val (IntKind.wrap .i64 (2*x1)) fun z7=>
F0 x0 x0L x0C z7 h fun s8 h9=>
M.val (IntKind.wrap .i64 (2*x1)) fun z10=>
M.val (IntKind.wrap .i64 (z10+1)) fun z11=>
F0 x0 x0L x0C z11 h9 fun s12 h13=>
M.cat s8 s12 fun s14=>
F1 1 s14 h13 fun s15 h16=>
Q s15 h16)
def ref12_digest.n:Nat→Option Addr→Nat→Nat→Int→H→(ByteArray→H→Prop)→Prop
 | 0=>fun _ _ _ _ _ _=>False
 | k+1=>fun x0 x0L x0C x1 h Q=>ref12_digest.g (ref12_digest.n k) ref05_Kind x0 x0L x0C x1 h Q
def ref12_digest (x0:Option Addr) (x0L x0C:Nat) (x1:Int) (h:H) (Q:ByteArray→H→Prop):Prop:=∃ k,ref12_digest.n k x0 x0L x0C x1 h Q
def ref12_Put.g (F0:type_of% ref12_size) (F1:type_of% ref05_Kind) (x0:Int) (x1:Option Addr) (x1L x1C:Nat) (x2:ByteArray) (h:H) (Q:Option Addr→Nat→Nat→ByteArray→Int→H→Prop):Prop:=
F0 (x1L:Int) h fun n6 h7=>
M.join (α:=Bool) (fun d9 h10=>
(bif d9 then
Q none 0 0 ByteArray.empty 2 h10
else
(bif ((ByteArray.size x2:Int) != 32) then
Q none 0 0 ByteArray.empty 7 h10
else
M.join (α:=Unit) (fun d20 h21=>
M.mk h21 9 [.string ByteArray.empty] 16 (x1L:Int) (x1L:Int) fun a22 l23 c24 h25=>
M.val (IntKind.wrap .i64 (n6+x0)) fun z26=>
M.join (α:=ByteArray) (fun d62 h63=>
Q a22 l23 c24 d62 0 h63) fun J27=>
M.val (IntKind.wrap .i64 ((x1L:Int)-1)) fun z28=>
M.loop (α:=ByteArray × Int × Int) (fun J29 d30 h31=>
(bif (decide (d30.2.2 ≥ 0)) then
M.join (α:=Unit) (fun d52 h53=>
M.idx a22 l23 d30.2.2 fun a54 j55=>
M.load h53 (Addr.add a54 (j55*1)) fun v56=>
M.str v56 fun s57=>
F1 1 s57 h53 fun s58 h59=>
M.nz 2 (
M.val (IntKind.wrap .i64 (Int.tdiv d30.2.1 2)) fun z60=>
M.val (IntKind.wrap .i64 (d30.2.2-1)) fun z61=>
J29 (s58,z60,z61) h59)) fun J32=>
M.nz 2 (
M.val (Int.tmod d30.2.1 2) fun z33=>
(bif (z33 == 1) then
M.idx x1 x1L d30.2.2 fun a34 j35=>
M.load h31 (Addr.add a34 (j35*1)) fun v36=>
M.str v36 fun s37=>
M.ssub s37 0 32 fun s38=>
M.cat s38 d30.1 fun s39=>
M.idx a22 l23 d30.2.2 fun a40 j41=>
M.put h31 (Addr.add a40 (j41*1)) (.string s39) fun h42=>
J32 () h42
else
M.idx x1 x1L d30.2.2 fun a43 j44=>
M.load h31 (Addr.add a43 (j44*1)) fun v45=>
M.str v45 fun s46=>
M.ssub s46 32 (ByteArray.size s46:Int) fun s47=>
M.cat d30.1 s47 fun s48=>
M.idx a22 l23 d30.2.2 fun a49 j50=>
M.put h31 (Addr.add a49 (j50*1)) (.string s48) fun h51=>
J32 () h51))
else
J27 d30.1 h31)) (x2,z26,z28) h25) fun J11=>
M.loop (α:=Int) (fun J12 d13 h14=>
(bif (decide (d13<(x1L:Int))) then
M.idx x1 x1L d13 fun a15 j16=>
M.load h14 (Addr.add a15 (j16*1)) fun v17=>
M.str v17 fun s18=>
(bif ((ByteArray.size s18:Int) != 64) then
Q none 0 0 ByteArray.empty 7 h14
else
M.val (IntKind.wrap .i64 (d13+1)) fun z19=>
J12 z19 h14)
else
J11 () h14)) 0 h10))) fun J8=>
(bif (decide (x0<0)) then
J8 true h7
else
J8 (decide (x0 ≥ n6)) h7)
def ref12_Put:=ref12_Put.g ref12_size ref05_Kind
def ref12_Put.L (F:type_of% ref12_Put):LT
 | [.int .i64 x0,.slice x1 x1L x1C,.string x2]=>fun Q h=>F x0 x1 x1L x1C x2 h fun a70 l71 c72 s73 n74 h75=>Q (.tuple #[.slice a70 l71 c72,.string s73,.int .i64 n74]) h75
 | _=>fun _ _=>False
def ref12_Follow.g (F0:type_of% ref12_size) (F1:type_of% ref12_Path) (F2:type_of% ref05_Kind) (x0:ByteArray) (x1:Int) (x2:Option Addr) (x2L x2C:Nat) (h:H) (Q:ByteArray→Int→H→Prop):Prop:=
F0 (x2L:Int) h fun n3 h4=>
M.join (α:=Bool) (fun d6 h7=>
(bif d6 then
Q ByteArray.empty 2 h7
else
F1 n3 x1 h7 fun a8 l9 c10 n11 h12=>
M.join (α:=ByteArray) (fun d57 h58=>
Q d57 0 h58) fun J13=>
M.loop (α:=ByteArray × Int) (fun J14 d15 h16=>
(bif (decide (d15.2<(x2L:Int))) then
M.join (α:=ByteArray) (fun d54 h55=>
M.val (IntKind.wrap .i64 (d15.2+1)) fun z56=>
J14 (d54,z56) h55) fun J17=>
M.idx x2 x2L d15.2 fun a18 j19=>
M.load h16 (Addr.add a18 (j19*1)) fun v20=>
M.str v20 fun s21=>
(bif ((ByteArray.size s21:Int) != 64) then
Q ByteArray.empty 22 h16
else
M.idx x2 x2L d15.2 fun a22 j23=>
M.load h16 (Addr.add a22 (j23*1)) fun v24=>
M.str v24 fun s25=>
F2 1 s25 h16 fun s26 h27=>
(bif (!strEq s26 d15.1) then
Q ByteArray.empty 22 h27
else
M.val (IntKind.wrap .i64 (n3+x1)) fun z28=>
M.join (α:=Int) (fun d36 h37=>
M.idx x2 x2L d15.2 fun a38 j39=>
M.load h37 (Addr.add a38 (j39*1)) fun v40=>
M.str v40 fun s41=>
M.ssub s41 0 32 fun s42=>
M.idx a8 l9 d15.2 fun a43 j44=>
M.load h37 (Addr.add a43 (j44*1)) fun v45=>
M.int .i64 v45 fun n46=>
M.val (IntKind.wrap .i64 (2*n46)) fun z47=>
M.val (IntKind.wrap .i64 (z47+1)) fun z48=>
(bif (d36 == z48) then
M.idx x2 x2L d15.2 fun a49 j50=>
M.load h37 (Addr.add a49 (j50*1)) fun v51=>
M.str v51 fun s52=>
M.ssub s52 32 (ByteArray.size s52:Int) fun s53=>
J17 s53 h37
else
J17 s42 h37)) fun J29=>
M.val (IntKind.wrap .i64 (d15.2+1)) fun z30=>
(bif (decide (z30<(l9:Int))) then
M.val (IntKind.wrap .i64 (d15.2+1)) fun z31=>
M.idx a8 l9 z31 fun a32 j33=>
M.load h27 (Addr.add a32 (j33*1)) fun v34=>
M.int .i64 v34 fun n35=>
J29 n35 h27
else
J29 z28 h27)))
else
J13 d15.1 h16)) (x0,0) h12)) fun J5=>
(bif (decide (x1<0)) then
J5 true h4
else
J5 (decide (x1 ≥ n3)) h4)
def ref12_Follow:=ref12_Follow.g ref12_size ref12_Path ref05_Kind
def ref12_Follow.L (F:type_of% ref12_Follow):LT
 | [.string x0,.int .i64 x1,.slice x2 x2L x2C]=>fun Q h=>F x0 x1 x2 x2L x2C h fun s62 n63 h64=>Q (.tuple #[.string s62,.int .i64 n63]) h64
 | _=>fun _ _=>False
def ref08_Tag.g (F0:type_of% ref06_Block) (F1:type_of% ref08_fill) (F2:type_of% ref08_size) (F3:type_of% ref07_Sum) (x0 x1 x2 x3:ByteArray) (h:H) (Q:ByteArray→H→Prop):Prop:=
F0 x0 x1 0 h fun s2 n3 h4=>
M.s2b h4 5 x2 fun a5 l6 c7 h8=>
F1 a5 l6 c7 h8 fun a9 l10 c11 h12=>
M.join (α:=(Option Addr × Nat × Nat)) (fun d26 h27=>
F1 d26.1 d26.2.1 d26.2.2 h27 fun a28 l29 c30 h31=>
F2 a28 l29 c30 (ByteArray.size x2:Int) h31 fun a32 l33 c34 h35=>
F2 a32 l33 c34 (ByteArray.size x3:Int) h35 fun a36 l37 c38 h39=>
M.ssub s2 0 32 fun s40=>
M.b2s h39 a36 l37 fun s41=>
F3 s40 s41 h39 fun s42 n43 h44=>
Q s42 h44) fun J13=>
M.loop (α:=(Option Addr × Nat × Nat) × Int) (fun J14 d15 h16=>
(bif (decide (d15.2<(ByteArray.size x3:Int))) then
M.byte x3 d15.2 fun n17=>
M.new h16 (.cells #[.int .u8 n17] 5) fun b18 h19=>
M.cellsOf h19 (some ⟨b18,0,none⟩) (1*1) fun cs24=>
M.app h19 5 1 1 [.int .u8 0] d15.1.1 d15.1.2.1 d15.1.2.2 1 cs24 fun a20 l21 c22 h23=>
M.val (IntKind.wrap .i64 (d15.2+1)) fun z25=>
J14 ((a20,l21,c22),z25) h23
else
J13 (d15.1.1,d15.1.2.1,d15.1.2.2) h16)) ((a9,l10,c11),0) h12
def ref08_Tag:=ref08_Tag.g ref06_Block ref08_fill ref08_size ref07_Sum
def ref06_Crypt.g (F0:type_of% ref06_Block) (F1:type_of% ref01_Xor) (x0 x1:ByteArray) (x2:Int) (x3:ByteArray) (h:H) (Q:ByteArray→Int→H→Prop):Prop:=
M.join (α:=Bool) (fun d4 h5=>
(bif d4 then
Q ByteArray.empty 7 h5
else
(bif (decide ((ByteArray.size x3:Int) > 65536)) then
Q ByteArray.empty 5 h5
else
M.join (α:=ByteArray) (fun d15 h16=>
F1 x3 d15 h16 fun s17 h18=>
Q s17 0 h18) fun J6=>
M.loop (α:=Int × ByteArray) (fun J7 d8 h9=>
(bif (decide ((ByteArray.size d8.2:Int)<(ByteArray.size x3:Int))) then
F0 x0 x1 d8.1 h9 fun s10 n11 h12=>
M.cat d8.2 s10 fun s13=>
M.val (IntKind.wrap .u32 (d8.1+1)) fun z14=>
J7 (z14,s13) h12
else
J6 d8.2 h9)) (x2,ByteArray.empty) h5))) fun J3=>
(bif ((ByteArray.size x0:Int) != 32) then
J3 true h
else
J3 ((ByteArray.size x1:Int) != 12) h)
def ref06_Crypt:=ref06_Crypt.g ref06_Block ref01_Xor
def slab_Slab_Seal.g (F0:type_of% slab_Slab_may) (F1:type_of% slab_Slab_with) (F2:type_of% aead_Seal) (x0_0:Option Addr) (x0_1 x0_2:Int) (x0_3:ByteArray) (x1:Int) (x2 x3:ByteArray) (h:H) (Q:ByteArray→Int→H→Prop):Prop:=
M.new h (.cells #[.pointer x0_0,.int .i64 x0_1,.int .i64 x0_2,.string x0_3] 37) fun b3 h4=>
M.load h4 (Addr.add ⟨b3,0,none⟩ 0) fun v5=>
M.ptr v5 fun p6=>
M.load h4 (Addr.add ⟨b3,0,none⟩ 1) fun v7=>
M.int .i64 v7 fun n8=>
M.load h4 (Addr.add ⟨b3,0,none⟩ 2) fun v9=>
M.int .i64 v9 fun n10=>
M.load h4 (Addr.add ⟨b3,0,none⟩ 3) fun v11=>
M.str v11 fun s12=>
F0 p6 n8 n10 s12 x1 h4 fun n13 h14=>
(bif (n13 != 0) then
Q ByteArray.empty n13 h14
else
M.join (α:=Bool) (fun d16 h17=>
(bif d16 then
Q ByteArray.empty 7 h17
else
M.load h17 (Addr.add ⟨b3,0,none⟩ 3) fun v18=>
M.str v18 fun s19=>
M.load h17 (Addr.add ⟨b3,0,none⟩ 0) fun v20=>
M.ptr v20 fun p21=>
M.load h17 (Addr.add ⟨b3,0,none⟩ 1) fun v22=>
M.int .i64 v22 fun n23=>
M.load h17 (Addr.add ⟨b3,0,none⟩ 2) fun v24=>
M.int .i64 v24 fun n25=>
M.load h17 (Addr.add ⟨b3,0,none⟩ 3) fun v26=>
M.str v26 fun s27=>
F1 p21 n23 n25 s27 x1 h17 fun s28 h29=>
M.still h17 (Addr.add ⟨b3,0,none⟩ 3) 1 h29 (
F2 s19 x2 s28 x3 h29 fun s30 n31 h32=>
M.cat x2 s30 fun s33=>
Q s33 0 h32))) fun J15=>
(bif ((ByteArray.size x2:Int) != 12) then
J15 true h14
else
J15 ((ByteArray.size x3:Int) != 32) h14))
def slab_Slab_Seal:=slab_Slab_Seal.g slab_Slab_may slab_Slab_with aead_Seal
def slab_Slab_Seal.L (F:type_of% slab_Slab_Seal):LT
 | [.agg ⟨[.pointer x0_0,.int .i64 x0_1,.int .i64 x0_2,.string x0_3]⟩,.int .i64 x1,.string x2,.string x3]=>fun Q h=>F x0_0 x0_1 x0_2 x0_3 x1 x2 x3 h fun s37 n38 h39=>Q (.tuple #[.string s37,.int .i64 n38]) h39
 | _=>fun _ _=>False
def slab_Slab_Seal.ann:Ann:=⟨lookN [(4,[(26,.bool)])],lookN [],lookN []⟩
theorem slab_Slab_Seal.geq (F0) (F1) (F2):∀ l,OkL (evF Tryz.prog (envOf [(44,WL (slab_Slab_may.L F0)),(46,WL (slab_Slab_with.L F1)),(45,WL (aead_Seal.L F2))]) Tryz.f14 slab_Slab_Seal.ann) l (slab_Slab_Seal.L (slab_Slab_Seal.g F0 F1 F2) l):=by
 intro l; unfold slab_Slab_Seal.L; split; exact .inr (by intros; kernel_rfl); exact .inl rfl
theorem slab_Slab_Seal.good:FnGood Tryz.prog 14 (WL (slab_Slab_Seal.L slab_Slab_Seal)):=.ofL mixed (.cons slab_Slab_may.good (.cons slab_Slab_with.good (.cons aead_Seal.good .nil))) Tryz.func14 Tryz.call14 (slab_Slab_Seal.geq slab_Slab_may slab_Slab_with aead_Seal)
def sha_Sum.g (F0:type_of% sha_New) (F1:type_of% sha_Hash_Write) (F2:type_of% sha_Hash_Sum) (x0:ByteArray) (h:H) (Q:ByteArray→H→Prop):Prop:=
F0  h fun p2 h3=>
F1 p2 x0 h3 fun h4=>
F2 p2 h4 fun s5 h6=>
Q s5 h6
def sha_Sum:=sha_Sum.g sha_New sha_Hash_Write sha_Hash_Sum
def sha_Sum.L (F:type_of% sha_Sum):LT
 | [.string x0]=>fun Q h=>F x0 h fun s9 h10=>Q (.string s9) h10
 | _=>fun _ _=>False
theorem sha_Sum.geq (F0) (F1) (F2):∀ l,OkL (evF Tryz.prog (envOf [(66,WL (sha_New.L F0)),(67,WL (sha_Hash_Write.L F1)),(68,WL (sha_Hash_Sum.L F2))]) Tryz.f26 an0) l (sha_Sum.L (sha_Sum.g F0 F1 F2) l):=by
 intro l; unfold sha_Sum.L; split; exact .inr (by intros; kernel_rfl); exact .inl rfl
theorem sha_Sum.good:FnGood Tryz.prog 26 (WL (sha_Sum.L sha_Sum)):=.ofL mixed (.cons sha_New.good (.cons sha_Hash_Write.good (.cons sha_Hash_Sum.good .nil))) Tryz.func26 Tryz.call26 (sha_Sum.geq sha_New sha_Hash_Write sha_Hash_Sum)
def sha_Leaf.g (F0:type_of% sha_Sum) (x0:ByteArray) (h:H) (Q:ByteArray→H→Prop):Prop:=
M.cat (⟨#[0]⟩:ByteArray) x0 fun s2=>
F0 s2 h fun s3 h4=>
Q s3 h4
def sha_Leaf:=sha_Leaf.g sha_Sum
def sha_Leaf.L (F:type_of% sha_Leaf):LT
 | [.string x0]=>fun Q h=>F x0 h fun s7 h8=>Q (.string s7) h8
 | _=>fun _ _=>False
theorem sha_Leaf.geq (F0):∀ l,OkL (evF Tryz.prog (envOf [(26,WL (sha_Sum.L F0))]) Tryz.f50 an0) l (sha_Leaf.L (sha_Leaf.g F0) l):=by
 intro l; unfold sha_Leaf.L; split; exact .inr (by intros; kernel_rfl); exact .inl rfl
theorem sha_Leaf.good:FnGood Tryz.prog 50 (WL (sha_Leaf.L sha_Leaf)):=.ofL mixed (.cons sha_Sum.good .nil) Tryz.func50 Tryz.call50 (sha_Leaf.geq sha_Sum)
def ref12_Build.g (F0:type_of% ref12_Depth) (F1:type_of% ref12_digest) (x0:Option Addr) (x0L x0C:Nat) (h:H) (Q:Option Addr→Nat→Nat→ByteArray→Int→H→Prop):Prop:=
F0 (x0L:Int) h fun n6 h7=>
(bif (n6 == 0) then
Q none 0 0 ByteArray.empty 2 h7
else
M.join (α:=Unit) (fun d17 h18=>
M.mk h18 9 [.string ByteArray.empty] 16 (x0L:Int) (x0L:Int) fun a19 l20 c21 h22=>
M.join (α:=Unit) (fun d39 h40=>
F1 x0 x0L x0C 1 h40 fun s41 h42=>
Q a19 l20 c21 s41 0 h42) fun J23=>
M.loop (α:=Int) (fun J24 d25 h26=>
(bif (decide (d25<(x0L:Int))) then
M.val (IntKind.wrap .i64 (2*d25)) fun z27=>
F1 x0 x0L x0C z27 h26 fun s28 h29=>
M.val (IntKind.wrap .i64 (2*d25)) fun z30=>
M.val (IntKind.wrap .i64 (z30+1)) fun z31=>
F1 x0 x0L x0C z31 h29 fun s32 h33=>
M.cat s28 s32 fun s34=>
M.idx a19 l20 d25 fun a35 j36=>
M.put h33 (Addr.add a35 (j36*1)) (.string s34) fun h37=>
M.val (IntKind.wrap .i64 (d25+1)) fun z38=>
J24 z38 h37
else
J23 () h26)) 1 h22) fun J8=>
M.loop (α:=Int) (fun J9 d10 h11=>
(bif (decide (d10<(x0L:Int))) then
M.idx x0 x0L d10 fun a12 j13=>
M.load h11 (Addr.add a12 (j13*1)) fun v14=>
M.str v14 fun s15=>
(bif ((ByteArray.size s15:Int) != 32) then
Q none 0 0 ByteArray.empty 7 h11
else
M.val (IntKind.wrap .i64 (d10+1)) fun z16=>
J9 z16 h11)
else
J8 () h11)) 0 h7)
def ref12_Build:=ref12_Build.g ref12_Depth ref12_digest
def ref12_Build.L (F:type_of% ref12_Build):LT
 | [.slice x0 x0L x0C]=>fun Q h=>F x0 x0L x0C h fun a49 l50 c51 s52 n53 h54=>Q (.tuple #[.slice a49 l50 c51,.string s52,.int .i64 n53]) h54
 | _=>fun _ _=>False
def sha_Node.g (F0:type_of% sha_Sum) (x0:ByteArray) (h:H) (Q:ByteArray→H→Prop):Prop:=
M.cat (⟨#[1]⟩:ByteArray) x0 fun s2=>
F0 s2 h fun s3 h4=>
Q s3 h4
def sha_Node:=sha_Node.g sha_Sum
def sha_Node.L (F:type_of% sha_Node):LT
 | [.string x0]=>fun Q h=>F x0 h fun s7 h8=>Q (.string s7) h8
 | _=>fun _ _=>False
theorem sha_Node.geq (F0):∀ l,OkL (evF Tryz.prog (envOf [(26,WL (sha_Sum.L F0))]) Tryz.f102 an0) l (sha_Node.L (sha_Node.g F0) l):=by
 intro l; unfold sha_Node.L; split; exact .inr (by intros; kernel_rfl); exact .inl rfl
theorem sha_Node.good:FnGood Tryz.prog 102 (WL (sha_Node.L sha_Node)):=.ofL mixed (.cons sha_Sum.good .nil) Tryz.func102 Tryz.call102 (sha_Node.geq sha_Sum)
def ref17_over.g (F0:type_of% ref12_Path) (F1:type_of% ref10_Read) (F2:type_of% ref12_Follow) (x0_0:Option Addr) (x0_1 x0_2:Int) (x0_3 x1:ByteArray) (x2:Int) (x3:Array Value) (h:H) (Q:Option Addr→Nat→Nat→ByteArray→Int→H→Prop):Prop:=
M.new h (.cells #[.pointer x0_0,.int .i64 x0_1,.int .i64 x0_2,.string x0_3] 40) fun b6 h7=>
M.new h7 (.cells x3 218) fun b8 h9=>
M.load h9 (Addr.add ⟨b6,0,none⟩ 2) fun v10=>
M.int .i64 v10 fun n11=>
F0 n11 x2 h9 fun a12 l13 c14 n15 h16=>
M.join (α:=(Option Addr × Nat × Nat)) (fun d51 h52=>
F2 x1 x2 d51.1 d51.2.1 d51.2.2 h52 fun s53 n54 h55=>
Q d51.1 d51.2.1 d51.2.2 s53 n54 h55) fun J17=>
M.loop (α:=(Option Addr × Nat × Nat) × Int) (fun J18 d19 h20=>
(bif (decide (d19.2<(l13:Int))) then
M.idx a12 l13 d19.2 fun a21 j22=>
M.load h20 (Addr.add a21 (j22*1)) fun v23=>
M.int .i64 v23 fun n24=>
M.aidx 16 n24 fun j25=>
M.load h20 (Addr.add ⟨b8,0,none⟩ (j25*1)) fun v26=>
M.str v26 fun s27=>
M.join (α:=ByteArray) (fun d41 h42=>
M.new h42 (.cells #[.string d41] 9) fun b43 h44=>
M.cellsOf h44 (some ⟨b43,0,none⟩) (1*1) fun cs49=>
M.app h44 9 1 16 [.string ByteArray.empty] d19.1.1 d19.1.2.1 d19.1.2.2 1 cs49 fun a45 l46 c47 h48=>
M.val (IntKind.wrap .i64 (d19.2+1)) fun z50=>
J18 ((a45,l46,c47),z50) h48) fun J28=>
(bif (strEq s27 ByteArray.empty) then
M.load h20 (Addr.add ⟨b6,0,none⟩ 0) fun v29=>
M.ptr v29 fun p30=>
M.load h20 (Addr.add ⟨b6,0,none⟩ 1) fun v31=>
M.int .i64 v31 fun n32=>
M.idx a12 l13 d19.2 fun a33 j34=>
M.load h20 (Addr.add a33 (j34*1)) fun v35=>
M.int .i64 v35 fun n36=>
M.val (IntKind.wrap .i64 (100+n36)) fun z37=>
F1 p30 n32 z37 h20 fun s38 n39 h40=>
(bif (n39 != 0) then
Q none 0 0 ByteArray.empty n39 h40
else
J28 s38 h40)
else
J28 s27 h20)
else
J17 (d19.1.1,d19.1.2.1,d19.1.2.2) h20)) ((none,0,0),0) h16
def ref17_over:=ref17_over.g ref12_Path ref10_Read ref12_Follow
def ref08_Open.g (F0:type_of% ref08_Tag) (F1:type_of% ref06_Crypt) (x0 x1 x2 x3:ByteArray) (h:H) (Q:ByteArray→Int→H→Prop):Prop:=
M.join (α:=Bool) (fun d4 h5=>
(bif d4 then
Q ByteArray.empty 7 h5
else
(bif (decide ((ByteArray.size x3:Int)<16)) then
Q ByteArray.empty 3 h5
else
M.val (IntKind.wrap .i64 ((ByteArray.size x3:Int)-16)) fun z6=>
M.join (α:=Bool) (fun d8 h9=>
(bif d8 then
Q ByteArray.empty 5 h9
else
M.ssub x3 0 z6 fun s10=>
F0 x0 x1 x2 s10 h9 fun s11 h12=>
M.ssub x3 z6 (ByteArray.size x3:Int) fun s13=>
(bif (!strEq s11 s13) then
Q ByteArray.empty 23 h12
else
M.ssub x3 0 z6 fun s14=>
F1 x0 x1 1 s14 h12 fun s15 n16 h17=>
Q s15 0 h17))) fun J7=>
(bif (decide ((ByteArray.size x2:Int) > 16384)) then
J7 true h5
else
J7 (decide (z6 > 16384)) h5)))) fun J3=>
(bif ((ByteArray.size x0:Int) != 32) then
J3 true h
else
J3 ((ByteArray.size x1:Int) != 12) h)
def ref08_Open:=ref08_Open.g ref08_Tag ref06_Crypt
def ref17_Blank.g (F0:type_of% ref17_Good) (F1:type_of% ref05_Kind) (F2:type_of% ref12_Build) (x0_0:Option Addr) (x0_1 x0_2:Int) (x0_3:ByteArray) (h:H) (Q:Option Addr→Nat→Nat→ByteArray→Int→H→Prop):Prop:=
M.new h (.cells #[.pointer x0_0,.int .i64 x0_1,.int .i64 x0_2,.string x0_3] 40) fun b6 h7=>
M.load h7 (Addr.add ⟨b6,0,none⟩ 0) fun v8=>
M.ptr v8 fun p9=>
M.load h7 (Addr.add ⟨b6,0,none⟩ 1) fun v10=>
M.int .i64 v10 fun n11=>
M.load h7 (Addr.add ⟨b6,0,none⟩ 2) fun v12=>
M.int .i64 v12 fun n13=>
M.load h7 (Addr.add ⟨b6,0,none⟩ 3) fun v14=>
M.str v14 fun s15=>
F0 p9 n11 n13 s15 h7 fun b16 h17=>
(bif (!b16) then
Q none 0 0 ByteArray.empty 4 h17
else
F1 0 ByteArray.empty h17 fun s18 h19=>
M.join (α:=(Option Addr × Nat × Nat)) (fun d34 h35=>
F2 d34.1 d34.2.1 d34.2.2 h35 fun a36 l37 c38 s39 n40 h41=>
M.join (α:=(Option Addr × Nat × Nat)) (fun d61 h62=>
M.join (α:=(Option Addr × Nat × Nat)) (fun d78 h79=>
Q d78.1 d78.2.1 d78.2.2 s39 0 h79) fun J63=>
M.loop (α:=(Option Addr × Nat × Nat) × Int) (fun J64 d65 h66=>
M.load h66 (Addr.add ⟨b6,0,none⟩ 2) fun v67=>
M.int .i64 v67 fun n68=>
(bif (decide (d65.2<n68)) then
M.val (IntKind.wrap .i64 (120+d65.2)) fun z69=>
M.new h66 (.cells #[.int .i64 z69,.string ByteArray.empty] 173) fun b70 h71=>
M.cellsOf h71 (some ⟨b70,0,none⟩) (1*2) fun cs76=>
M.app h71 173 2 24 [.int .i64 0,.string ByteArray.empty] d65.1.1 d65.1.2.1 d65.1.2.2 1 cs76 fun a72 l73 c74 h75=>
M.val (IntKind.wrap .i64 (d65.2+1)) fun z77=>
J64 ((a72,l73,c74),z77) h75
else
J63 (d65.1.1,d65.1.2.1,d65.1.2.2) h66)) ((d61.1,d61.2.1,d61.2.2),0) h62) fun J42=>
M.loop (α:=(Option Addr × Nat × Nat) × Int) (fun J43 d44 h45=>
M.load h45 (Addr.add ⟨b6,0,none⟩ 2) fun v46=>
M.int .i64 v46 fun n47=>
(bif (decide (d44.2<n47)) then
M.val (IntKind.wrap .i64 (100+d44.2)) fun z48=>
M.idx a36 l37 d44.2 fun a49 j50=>
M.load h45 (Addr.add a49 (j50*1)) fun v51=>
M.str v51 fun s52=>
M.new h45 (.cells #[.int .i64 z48,.string s52] 173) fun b53 h54=>
M.cellsOf h54 (some ⟨b53,0,none⟩) (1*2) fun cs59=>
M.app h54 173 2 24 [.int .i64 0,.string ByteArray.empty] d44.1.1 d44.1.2.1 d44.1.2.2 1 cs59 fun a55 l56 c57 h58=>
M.val (IntKind.wrap .i64 (d44.2+1)) fun z60=>
J43 ((a55,l56,c57),z60) h58
else
J42 (d44.1.1,d44.1.2.1,d44.1.2.2) h45)) ((none,0,0),1) h41) fun J20=>
M.loop (α:=(Option Addr × Nat × Nat) × Int) (fun J21 d22 h23=>
M.load h23 (Addr.add ⟨b6,0,none⟩ 2) fun v24=>
M.int .i64 v24 fun n25=>
(bif (decide (d22.2<n25)) then
M.new h23 (.cells #[.string s18] 9) fun b26 h27=>
M.cellsOf h27 (some ⟨b26,0,none⟩) (1*1) fun cs32=>
M.app h27 9 1 16 [.string ByteArray.empty] d22.1.1 d22.1.2.1 d22.1.2.2 1 cs32 fun a28 l29 c30 h31=>
M.val (IntKind.wrap .i64 (d22.2+1)) fun z33=>
J21 ((a28,l29,c30),z33) h31
else
J20 (d22.1.1,d22.1.2.1,d22.1.2.2) h23)) ((none,0,0),0) h19)
def ref17_Blank:=ref17_Blank.g ref17_Good ref05_Kind ref12_Build
def ref17_Blank.L (F:type_of% ref17_Blank):LT
 | [.agg ⟨[.pointer x0_0,.int .i64 x0_1,.int .i64 x0_2,.string x0_3]⟩]=>fun Q h=>F x0_0 x0_1 x0_2 x0_3 h fun a86 l87 c88 s89 n90 h91=>Q (.tuple #[.slice a86 l87 c88,.string s89,.int .i64 n90]) h91
 | _=>fun _ _=>False
def tree_Put.g (F0:type_of% tree_leaves) (F1:type_of% tree_second) (F2:type_of% tree_half) (F3:type_of% sha_Node) (x0:Int) (x1:Option Addr) (x1L x1C:Nat) (x2:ByteArray) (h:H) (Q:Option Addr→Nat→Nat→ByteArray→Int→H→Prop):Prop:=
M.join (α:=Bool) (fun d9 h10=>
(bif d9 then
Q none 0 0 ByteArray.empty 2 h10
else
(bif ((ByteArray.size x2:Int) != 32) then
Q none 0 0 ByteArray.empty 7 h10
else
M.mk h10 9 [.string ByteArray.empty] 16 (x1L:Int) (x1L:Int) fun a11 l12 c13 h14=>
M.join (α:=ByteArray) (fun d56 h57=>
Q a11 l12 c13 d56 0 h57) fun J15=>
M.val (IntKind.wrap .i64 ((x1L:Int)-1)) fun z16=>
M.loop (α:=ByteArray × Int) (fun J17 d18 h19=>
(bif (decide (d18.2 ≥ 0)) then
M.idx x1 x1L d18.2 fun a20 j21=>
M.load h19 (Addr.add a20 (j21*1)) fun v22=>
M.str v22 fun s23=>
(bif ((ByteArray.size s23:Int) != 64) then
Q none 0 0 ByteArray.empty 7 h19
else
M.join (α:=Unit) (fun d47 h48=>
M.idx a11 l12 d18.2 fun a49 j50=>
M.load h48 (Addr.add a49 (j50*1)) fun v51=>
M.str v51 fun s52=>
F3 s52 h48 fun s53 h54=>
M.val (IntKind.wrap .i64 (d18.2-1)) fun z55=>
J17 (s53,z55) h54) fun J24=>
F1 x0 (x1L:Int) d18.2 h19 fun b25 h26=>
(bif b25 then
M.idx x1 x1L d18.2 fun a27 j28=>
M.load h26 (Addr.add a27 (j28*1)) fun v29=>
M.str v29 fun s30=>
F2 s30 false h26 fun s31 h32=>
M.cat s31 d18.1 fun s33=>
M.idx a11 l12 d18.2 fun a34 j35=>
M.put h32 (Addr.add a34 (j35*1)) (.string s33) fun h36=>
J24 () h36
else
M.idx x1 x1L d18.2 fun a37 j38=>
M.load h26 (Addr.add a37 (j38*1)) fun v39=>
M.str v39 fun s40=>
F2 s40 true h26 fun s41 h42=>
M.cat d18.1 s41 fun s43=>
M.idx a11 l12 d18.2 fun a44 j45=>
M.put h42 (Addr.add a44 (j45*1)) (.string s43) fun h46=>
J24 () h46))
else
J15 d18.1 h19)) (x2,z16) h14))) fun J6=>
(bif (decide (x0<0)) then
J6 true h
else
F0 (x1L:Int) h fun n7 h8=>
J6 (decide (x0 ≥ n7)) h8)
def tree_Put:=tree_Put.g tree_leaves tree_second tree_half sha_Node
def tree_Put.L (F:type_of% tree_Put):LT
 | [.int .i64 x0,.slice x1 x1L x1C,.string x2]=>fun Q h=>F x0 x1 x1L x1C x2 h fun a64 l65 c66 s67 n68 h69=>Q (.tuple #[.slice a64 l65 c66,.string s67,.int .i64 n68]) h69
 | _=>fun _ _=>False
def tree_Put.ann:Ann:=⟨lookN [(1,[(19,.bool)])],lookN [(31,[(2,.str)]),(8009,[])],lookN [(250,[(2,.str),(10,.int .i64)])]⟩
theorem tree_Put.geq (F0) (F1) (F2) (F3):∀ l,OkL (evF Tryz.prog (envOf [(99,WL (tree_leaves.L F0)),(100,WL (tree_second.L F1)),(101,WL (tree_half.L F2)),(102,WL (sha_Node.L F3))]) Tryz.f49 tree_Put.ann) l (tree_Put.L (tree_Put.g F0 F1 F2 F3) l):=by
 intro l; unfold tree_Put.L; split; exact .inr (by intros; kernel_rfl); exact .inl rfl
theorem tree_Put.good:FnGood Tryz.prog 49 (WL (tree_Put.L tree_Put)):=.ofL mixed (.cons tree_leaves.good (.cons tree_second.good (.cons tree_half.good (.cons sha_Node.good .nil)))) Tryz.func49 Tryz.call49 (tree_Put.geq tree_leaves tree_second tree_half sha_Node)
def tree_Build.g (F0:type_of% tree_depth) (F1:type_of% sha_Node) (x0:Option Addr) (x0L x0C:Nat) (h:H) (Q:Option Addr→Nat→Nat→ByteArray→Int→H→Prop):Prop:=
F0 (x0L:Int) h fun n6 h7=>
(bif (n6 == 0) then
Q none 0 0 ByteArray.empty 2 h7
else
M.val (IntKind.wrap .i64 (2*(x0L:Int))) fun z8=>
M.mk h7 9 [.string ByteArray.empty] 16 z8 z8 fun a9 l10 c11 h12=>
M.join (α:=Unit) (fun d30 h31=>
M.mk h31 9 [.string ByteArray.empty] 16 (x0L:Int) (x0L:Int) fun a32 l33 c34 h35=>
M.join (α:=Unit) (fun d66 h67=>
M.idx a9 l10 1 fun a68 j69=>
M.load h67 (Addr.add a68 (j69*1)) fun v70=>
M.str v70 fun s71=>
Q a32 l33 c34 s71 0 h67) fun J36=>
M.val (IntKind.wrap .i64 ((x0L:Int)-1)) fun z37=>
M.loop (α:=Int) (fun J38 d39 h40=>
(bif (decide (d39 > 0)) then
M.val (IntKind.wrap .i64 (2*d39)) fun z41=>
M.idx a9 l10 z41 fun a42 j43=>
M.load h40 (Addr.add a42 (j43*1)) fun v44=>
M.str v44 fun s45=>
M.val (IntKind.wrap .i64 (2*d39)) fun z46=>
M.val (IntKind.wrap .i64 (z46+1)) fun z47=>
M.idx a9 l10 z47 fun a48 j49=>
M.load h40 (Addr.add a48 (j49*1)) fun v50=>
M.str v50 fun s51=>
M.cat s45 s51 fun s52=>
M.idx a32 l33 d39 fun a53 j54=>
M.put h40 (Addr.add a53 (j54*1)) (.string s52) fun h55=>
M.idx a32 l33 d39 fun a56 j57=>
M.load h55 (Addr.add a56 (j57*1)) fun v58=>
M.str v58 fun s59=>
F1 s59 h55 fun s60 h61=>
M.idx a9 l10 d39 fun a62 j63=>
M.put h61 (Addr.add a62 (j63*1)) (.string s60) fun h64=>
M.val (IntKind.wrap .i64 (d39-1)) fun z65=>
J38 z65 h64
else
J36 () h40)) z37 h35) fun J13=>
M.loop (α:=Int) (fun J14 d15 h16=>
(bif (decide (d15<(x0L:Int))) then
M.idx x0 x0L d15 fun a17 j18=>
M.load h16 (Addr.add a17 (j18*1)) fun v19=>
M.str v19 fun s20=>
(bif ((ByteArray.size s20:Int) != 32) then
Q none 0 0 ByteArray.empty 7 h16
else
M.val (IntKind.wrap .i64 ((x0L:Int)+d15)) fun z21=>
M.idx x0 x0L d15 fun a22 j23=>
M.load h16 (Addr.add a22 (j23*1)) fun v24=>
M.str v24 fun s25=>
M.idx a9 l10 z21 fun a26 j27=>
M.put h16 (Addr.add a26 (j27*1)) (.string s25) fun h28=>
M.val (IntKind.wrap .i64 (d15+1)) fun z29=>
J14 z29 h28)
else
J13 () h16)) 0 h12)
def tree_Build:=tree_Build.g tree_depth sha_Node
def tree_Build.L (F:type_of% tree_Build):LT
 | [.slice x0 x0L x0C]=>fun Q h=>F x0 x0L x0C h fun a78 l79 c80 s81 n82 h83=>Q (.tuple #[.slice a78 l79 c80,.string s81,.int .i64 n82]) h83
 | _=>fun _ _=>False
def tree_Build.ann:Ann:=⟨lookN [],lookN [(31,[]),(127,[])],lookN [(250,[(19,.int .i64)]),(1018,[(9,.int .i64)])]⟩
theorem tree_Build.geq (F0) (F1):∀ l,OkL (evF Tryz.prog (envOf [(103,WL (tree_depth.L F0)),(102,WL (sha_Node.L F1))]) Tryz.f60 tree_Build.ann) l (tree_Build.L (tree_Build.g F0 F1) l):=by
 intro l; unfold tree_Build.L; split; exact .inr (by intros; kernel_rfl); exact .inl rfl
theorem tree_Build.good:FnGood Tryz.prog 60 (WL (tree_Build.L tree_Build)):=.ofL mixed (.cons tree_depth.good (.cons sha_Node.good .nil)) Tryz.func60 Tryz.call60 (tree_Build.geq tree_depth sha_Node)
def ref17_Get.g (F0:type_of% ref17_Good) (F1:type_of% ref17_over) (F2:type_of% ref10_Read) (F3:type_of% ref05_Kind) (F4:type_of% ref17_With) (F5:type_of% ref08_Open) (x0_0:Option Addr) (x0_1 x0_2:Int) (x0_3 x1:ByteArray) (x2:Int) (h:H) (Q:ByteArray→Int→H→Prop):Prop:=
M.new h (.cells #[.pointer x0_0,.int .i64 x0_1,.int .i64 x0_2,.string x0_3] 40) fun b3 h4=>
M.load h4 (Addr.add ⟨b3,0,none⟩ 0) fun v5=>
M.ptr v5 fun p6=>
M.load h4 (Addr.add ⟨b3,0,none⟩ 1) fun v7=>
M.int .i64 v7 fun n8=>
M.load h4 (Addr.add ⟨b3,0,none⟩ 2) fun v9=>
M.int .i64 v9 fun n10=>
M.load h4 (Addr.add ⟨b3,0,none⟩ 3) fun v11=>
M.str v11 fun s12=>
F0 p6 n8 n10 s12 h4 fun b13 h14=>
(bif (!b13) then
Q ByteArray.empty 4 h14
else
M.join (α:=Bool) (fun d18 h19=>
(bif d18 then
Q ByteArray.empty 2 h19
else
M.new h19 (.cells #[.string ByteArray.empty,.string ByteArray.empty,.string ByteArray.empty,.string ByteArray.empty,.string ByteArray.empty,.string ByteArray.empty,.string ByteArray.empty,.string ByteArray.empty,.string ByteArray.empty,.string ByteArray.empty,.string ByteArray.empty,.string ByteArray.empty,.string ByteArray.empty,.string ByteArray.empty,.string ByteArray.empty,.string ByteArray.empty] 218) fun b20 h21=>
M.load h21 (Addr.add ⟨b3,0,none⟩ 0) fun v22=>
M.ptr v22 fun p23=>
M.load h21 (Addr.add ⟨b3,0,none⟩ 1) fun v24=>
M.int .i64 v24 fun n25=>
M.load h21 (Addr.add ⟨b3,0,none⟩ 2) fun v26=>
M.int .i64 v26 fun n27=>
M.load h21 (Addr.add ⟨b3,0,none⟩ 3) fun v28=>
M.str v28 fun s29=>
M.row h21 ⟨b20,0,none⟩ 16 fun cs30=>
F1 p23 n25 n27 s29 x1 x2 (List.toArray cs30) h21 fun a31 l32 c33 s34 n35 h36=>
(bif (n35 != 0) then
Q ByteArray.empty n35 h36
else
M.load h36 (Addr.add ⟨b3,0,none⟩ 0) fun v37=>
M.ptr v37 fun p38=>
M.load h36 (Addr.add ⟨b3,0,none⟩ 1) fun v39=>
M.int .i64 v39 fun n40=>
M.val (IntKind.wrap .i64 (120+x2)) fun z41=>
F2 p38 n40 z41 h36 fun s42 n43 h44=>
(bif (n43 != 0) then
Q ByteArray.empty n43 h44
else
F3 0 s42 h44 fun s45 h46=>
(bif (!strEq s45 s34) then
Q ByteArray.empty 22 h46
else
(bif (strEq s42 ByteArray.empty) then
M.mk h46 5 [.int .u8 0] 1 32 32 fun a47 l48 c49 h50=>
M.b2s h50 a47 l48 fun s51=>
Q s51 0 h50
else
(bif (decide ((ByteArray.size s42:Int)<12)) then
Q ByteArray.empty 3 h46
else
M.load h46 (Addr.add ⟨b3,0,none⟩ 0) fun v52=>
M.ptr v52 fun p53=>
M.load h46 (Addr.add ⟨b3,0,none⟩ 1) fun v54=>
M.int .i64 v54 fun n55=>
M.load h46 (Addr.add ⟨b3,0,none⟩ 2) fun v56=>
M.int .i64 v56 fun n57=>
M.load h46 (Addr.add ⟨b3,0,none⟩ 3) fun v58=>
M.str v58 fun s59=>
F4 p53 n55 n57 s59 x2 h46 fun s60 h61=>
M.load h61 (Addr.add ⟨b3,0,none⟩ 3) fun v62=>
M.str v62 fun s63=>
M.ssub s42 0 12 fun s64=>
M.ssub s42 12 (ByteArray.size s42:Int) fun s65=>
F5 s63 s64 s60 s65 h61 fun s66 n67 h68=>
Q s66 n67 h68))))))) fun J15=>
(bif (decide (x2<0)) then
J15 true h14
else
M.load h14 (Addr.add ⟨b3,0,none⟩ 2) fun v16=>
M.int .i64 v16 fun n17=>
J15 (decide (x2 ≥ n17)) h14))
def ref17_Get:=ref17_Get.g ref17_Good ref17_over ref10_Read ref05_Kind ref17_With ref08_Open
def tree_Follow.g (F0:type_of% tree_leaves) (F1:type_of% sha_Node) (F2:type_of% tree_second) (F3:type_of% tree_half) (x0:ByteArray) (x1:Int) (x2:Option Addr) (x2L x2C:Nat) (h:H) (Q:ByteArray→Int→H→Prop):Prop:=
M.join (α:=Bool) (fun d6 h7=>
(bif d6 then
Q ByteArray.empty 2 h7
else
M.join (α:=ByteArray) (fun d26 h27=>
Q d26 0 h27) fun J8=>
M.loop (α:=ByteArray × Int) (fun J9 d10 h11=>
(bif (decide (d10.2<(x2L:Int))) then
M.idx x2 x2L d10.2 fun a12 j13=>
M.load h11 (Addr.add a12 (j13*1)) fun v14=>
M.str v14 fun s15=>
M.join (α:=Bool) (fun d19 h20=>
(bif d19 then
Q ByteArray.empty 22 h20
else
F2 x1 (x2L:Int) d10.2 h20 fun b21 h22=>
F3 s15 b21 h22 fun s23 h24=>
M.val (IntKind.wrap .i64 (d10.2+1)) fun z25=>
J9 (s23,z25) h24)) fun J16=>
(bif ((ByteArray.size s15:Int) != 64) then
J16 true h11
else
F1 s15 h11 fun s17 h18=>
J16 (!strEq s17 d10.1) h18)
else
J8 d10.1 h11)) (x0,0) h7)) fun J3=>
(bif (decide (x1<0)) then
J3 true h
else
F0 (x2L:Int) h fun n4 h5=>
J3 (decide (x1 ≥ n4)) h5)
def tree_Follow:=tree_Follow.g tree_leaves sha_Node tree_second tree_half
def tree_Follow.L (F:type_of% tree_Follow):LT
 | [.string x0,.int .i64 x1,.slice x2 x2L x2C]=>fun Q h=>F x0 x1 x2 x2L x2C h fun s31 n32 h33=>Q (.tuple #[.string s31,.int .i64 n32]) h33
 | _=>fun _ _=>False
def tree_Follow.ann:Ann:=⟨lookN [(1,[(18,.bool)]),(6,[(34,.bool)])],lookN [(7,[(0,.str)])],lookN [(58,[(0,.str),(21,.int .i64)])]⟩
theorem tree_Follow.geq (F0) (F1) (F2) (F3):∀ l,OkL (evF Tryz.prog (envOf [(99,WL (tree_leaves.L F0)),(102,WL (sha_Node.L F1)),(100,WL (tree_second.L F2)),(101,WL (tree_half.L F3))]) Tryz.f98 tree_Follow.ann) l (tree_Follow.L (tree_Follow.g F0 F1 F2 F3) l):=by
 intro l; unfold tree_Follow.L; split; exact .inr (by intros; kernel_rfl); exact .inl rfl
theorem tree_Follow.good:FnGood Tryz.prog 98 (WL (tree_Follow.L tree_Follow)):=.ofL mixed (.cons tree_leaves.good (.cons sha_Node.good (.cons tree_second.good (.cons tree_half.good .nil)))) Tryz.func98 Tryz.call98 (tree_Follow.geq tree_leaves sha_Node tree_second tree_half)
def slab_Slab_Blank.g (F0:type_of% slab_Slab_good) (F1:type_of% sha_Leaf) (F2:type_of% slices_Repeatstring_string) (F3:type_of% tree_Build) (x0_0:Option Addr) (x0_1 x0_2:Int) (x0_3:ByteArray) (h:H) (Q:Option Addr→Nat→Nat→ByteArray→Int→H→Prop):Prop:=
M.new h (.cells #[.pointer x0_0,.int .i64 x0_1,.int .i64 x0_2,.string x0_3] 37) fun b6 h7=>
M.load h7 (Addr.add ⟨b6,0,none⟩ 0) fun v8=>
M.ptr v8 fun p9=>
M.load h7 (Addr.add ⟨b6,0,none⟩ 1) fun v10=>
M.int .i64 v10 fun n11=>
M.load h7 (Addr.add ⟨b6,0,none⟩ 2) fun v12=>
M.int .i64 v12 fun n13=>
M.load h7 (Addr.add ⟨b6,0,none⟩ 3) fun v14=>
M.str v14 fun s15=>
F0 p9 n11 n13 s15 h7 fun b16 h17=>
(bif (!b16) then
Q none 0 0 ByteArray.empty 4 h17
else
M.load h17 (Addr.add ⟨b6,0,none⟩ 2) fun v18=>
M.int .i64 v18 fun n19=>
F1 ByteArray.empty h17 fun s20 h21=>
M.still h17 (Addr.add ⟨b6,0,none⟩ 2) 1 h21 (
M.new h21 (.cells #[.string s20] 9) fun b22 h23=>
M.still h17 (Addr.add ⟨b6,0,none⟩ 2) 1 h23 (
F2 (some ⟨b22,0,none⟩) 1 1 n19 h23 fun a24 l25 c26 h27=>
F3 a24 l25 c26 h27 fun a28 l29 c30 s31 n32 h33=>
M.join (α:=(Option Addr × Nat × Nat)) (fun d53 h54=>
M.join (α:=(Option Addr × Nat × Nat)) (fun d70 h71=>
Q d70.1 d70.2.1 d70.2.2 s31 0 h71) fun J55=>
M.load h54 (Addr.add ⟨b6,0,none⟩ 2) fun v56=>
M.int .i64 v56 fun n57=>
M.loop (α:=(Option Addr × Nat × Nat) × Int) (fun J58 d59 h60=>
(bif (decide (d59.2<n57)) then
M.val (IntKind.wrap .i64 (120+d59.2)) fun z61=>
M.new h60 (.cells #[.int .i64 z61,.string ByteArray.empty] 116) fun b62 h63=>
M.cellsOf h63 (some ⟨b62,0,none⟩) (1*2) fun cs68=>
M.app h63 116 2 24 [.int .i64 0,.string ByteArray.empty] d59.1.1 d59.1.2.1 d59.1.2.2 1 cs68 fun a64 l65 c66 h67=>
M.val (IntKind.wrap .i64 (d59.2+1)) fun z69=>
J58 ((a64,l65,c66),z69) h67
else
J55 (d59.1.1,d59.1.2.1,d59.1.2.2) h60)) ((d53.1,d53.2.1,d53.2.2),0) h54) fun J34=>
M.loop (α:=(Option Addr × Nat × Nat) × Int) (fun J35 d36 h37=>
M.load h37 (Addr.add ⟨b6,0,none⟩ 2) fun v38=>
M.int .i64 v38 fun n39=>
(bif (decide (d36.2<n39)) then
M.val (IntKind.wrap .i64 (100+d36.2)) fun z40=>
M.idx a28 l29 d36.2 fun a41 j42=>
M.load h37 (Addr.add a41 (j42*1)) fun v43=>
M.str v43 fun s44=>
M.new h37 (.cells #[.int .i64 z40,.string s44] 116) fun b45 h46=>
M.cellsOf h46 (some ⟨b45,0,none⟩) (1*2) fun cs51=>
M.app h46 116 2 24 [.int .i64 0,.string ByteArray.empty] d36.1.1 d36.1.2.1 d36.1.2.2 1 cs51 fun a47 l48 c49 h50=>
M.val (IntKind.wrap .i64 (d36.2+1)) fun z52=>
J35 ((a47,l48,c49),z52) h50
else
J34 (d36.1.1,d36.1.2.1,d36.1.2.2) h37)) ((none,0,0),1) h33)))
def slab_Slab_Blank:=slab_Slab_Blank.g slab_Slab_good sha_Leaf slices_Repeatstring_string tree_Build
def slab_Slab_Blank.L (F:type_of% slab_Slab_Blank):LT
 | [.agg ⟨[.pointer x0_0,.int .i64 x0_1,.int .i64 x0_2,.string x0_3]⟩]=>fun Q h=>F x0_0 x0_1 x0_2 x0_3 h fun a78 l79 c80 s81 n82 h83=>Q (.tuple #[.slice a78 l79 c80,.string s81,.int .i64 n82]) h83
 | _=>fun _ _=>False
def slab_Slab_Blank.ann:Ann:=⟨lookN [],lookN [(31,[(8,.slc)]),(63,[(8,.slc)])],lookN [(250,[(8,.slc),(9,.int .i64)]),(506,[(8,.slc),(42,.int .i64)])]⟩
theorem slab_Slab_Blank.geq (F0) (F1) (F2) (F3):∀ l,OkL (evF Tryz.prog (envOf [(53,WL (slab_Slab_good.L F0)),(50,WL (sha_Leaf.L F1)),(61,WL (slices_Repeatstring_string.L F2)),(60,WL (tree_Build.L F3))]) Tryz.f20 slab_Slab_Blank.ann) l (slab_Slab_Blank.L (slab_Slab_Blank.g F0 F1 F2 F3) l):=by
 intro l; unfold slab_Slab_Blank.L; split; exact .inr (by intros; kernel_rfl); exact .inl rfl
theorem slab_Slab_Blank.good:FnGood Tryz.prog 20 (WL (slab_Slab_Blank.L slab_Slab_Blank)):=.ofL mixed (.cons slab_Slab_good.good (.cons sha_Leaf.good (.cons slices_Repeatstring_string.good (.cons tree_Build.good .nil)))) Tryz.func20 Tryz.call20 (slab_Slab_Blank.geq slab_Slab_good sha_Leaf slices_Repeatstring_string tree_Build)
def slab_Slab_over.g (F0:type_of% tree_Path) (F1:type_of% bank_Bank_Read) (F2:type_of% tree_Follow) (x0_0:Option Addr) (x0_1 x0_2:Int) (x0_3 x1:ByteArray) (x2:Int) (x3:Option Nat) (h:H) (Q:Option Addr→Nat→Nat→ByteArray→Int→H→Prop):Prop:=
M.new h (.cells #[.pointer x0_0,.int .i64 x0_1,.int .i64 x0_2,.string x0_3] 37) fun b6 h7=>
M.load h7 (Addr.add ⟨b6,0,none⟩ 2) fun v8=>
M.int .i64 v8 fun n9=>
F0 n9 x2 h7 fun a10 l11 c12 n13 h14=>
M.join (α:=(Option Addr × Nat × Nat)) (fun d46 h47=>
F2 x1 x2 d46.1 d46.2.1 d46.2.2 h47 fun s48 n49 h50=>
Q d46.1 d46.2.1 d46.2.2 s48 n49 h50) fun J15=>
M.loop (α:=(Option Addr × Nat × Nat) × Int) (fun J16 d17 h18=>
(bif (decide (d17.2<(l11:Int))) then
M.idx a10 l11 d17.2 fun a19 j20=>
M.load h18 (Addr.add a19 (j20*1)) fun v21=>
M.int .i64 v21 fun n22=>
M.lk2 Tryz.prog 108 (.map x3) (.int .i64 n22) h18 fun v23 b25 h24=>
M.str v23 fun s26=>
M.join (α:=ByteArray) (fun d36 h37=>
M.new h37 (.cells #[.string d36] 9) fun b38 h39=>
M.cellsOf h39 (some ⟨b38,0,none⟩) (1*1) fun cs44=>
M.app h39 9 1 16 [.string ByteArray.empty] d17.1.1 d17.1.2.1 d17.1.2.2 1 cs44 fun a40 l41 c42 h43=>
M.val (IntKind.wrap .i64 (d17.2+1)) fun z45=>
J16 ((a40,l41,c42),z45) h43) fun J27=>
(bif (!b25) then
M.load h24 (Addr.add ⟨b6,0,none⟩ 0) fun v28=>
M.ptr v28 fun p29=>
M.load h24 (Addr.add ⟨b6,0,none⟩ 1) fun v30=>
M.int .i64 v30 fun n31=>
M.val (IntKind.wrap .i64 (100+n22)) fun z32=>
F1 p29 n31 z32 h24 fun s33 n34 h35=>
(bif (n34 != 0) then
Q none 0 0 ByteArray.empty n34 h35
else
J27 s33 h35)
else
J27 s26 h24)
else
J15 (d17.1.1,d17.1.2.1,d17.1.2.2) h18)) ((none,0,0),0) h14
def slab_Slab_over:=slab_Slab_over.g tree_Path bank_Bank_Read tree_Follow
def slab_Slab_over.L (F:type_of% slab_Slab_over):LT
 | [.agg ⟨[.pointer x0_0,.int .i64 x0_1,.int .i64 x0_2,.string x0_3]⟩,.string x1,.int .i64 x2,.map x3]=>fun Q h=>F x0_0 x0_1 x0_2 x0_3 x1 x2 x3 h fun a57 l58 c59 s60 n61 h62=>Q (.tuple #[.slice a57 l58 c59,.string s60,.int .i64 n61]) h62
 | _=>fun _ _=>False
def slab_Slab_over.ann:Ann:=⟨lookN [],lookN [(15,[(13,.slc)]),(15667,[(16,.str)])],lookN [(122,[(13,.slc),(30,.int .i64)])]⟩
theorem slab_Slab_over.geq (F0) (F1) (F2):∀ l,OkL (evF Tryz.prog (envOf [(51,WL (tree_Path.L F0)),(56,WL (bank_Bank_Read.L F1)),(98,WL (tree_Follow.L F2))]) Tryz.f48 slab_Slab_over.ann) l (slab_Slab_over.L (slab_Slab_over.g F0 F1 F2) l):=by
 intro l; unfold slab_Slab_over.L; split; exact .inr (by intros; kernel_rfl); exact .inl rfl
theorem slab_Slab_over.good:FnGood Tryz.prog 48 (WL (slab_Slab_over.L slab_Slab_over)):=.ofL mixed (.cons tree_Path.good (.cons bank_Bank_Read.good (.cons tree_Follow.good .nil))) Tryz.func48 Tryz.call48 (slab_Slab_over.geq tree_Path bank_Bank_Read tree_Follow)
end Go.Proofs.YthegnmanjdlmjaaGreatDoor

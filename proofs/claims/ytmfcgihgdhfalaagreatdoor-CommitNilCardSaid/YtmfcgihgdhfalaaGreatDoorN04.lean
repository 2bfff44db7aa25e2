/- The shallow forms of the functions of this seat, printed by a program of mine, each checked by the kernel against the given code. -/
import Derived.Test.YtmfcgihgdhfalaaGreatDoorN03
open ByteArray(empty)
open Go.IntKind(wrap)
set_option linter.unusedSimpArgs false
set_option linter.unusedVariables false
namespace Go.Proofs.YtmfcgihgdhfalaaGreatDoor
open Go.Sh
def cG(x0:Option Addr)(h:H)(Q:ByteArray->Int->H->Prop):Prop:=
(bif(Option.isNone x0)then
Q empty 1 h
else
M.nn x0 λa3=>
M.load h (Addr.add a3 1) λv4=>
M.int .u64 v4 λn5=>
(bif(decide (n5>4294967295))then
Q empty 25 h
else
M.join (α:=ByteArray) (λd36 h37=>
M.nn x0 λa38=>
M.load h37 (Addr.add a38 1) λv39=>
M.int .u64 v39 λn40=>
M.val (wrap .u64 (n40+1)) λz41=>
M.nn x0 λa42=>
M.put h37 (Addr.add a42 1) (.int .u64 z41) λh43=>
Q d36 0 h43) λJ6=>
M.nn x0 λa7=>
M.load h (Addr.add a7 0) λv8=>
M.int .u64 v8 λn9=>
M.nn x0 λa10=>
M.load h (Addr.add a10 1) λv11=>
M.int .u64 v11 λn12=>
(dI n9 h λs13 h14=>
M.still h (Addr.add a10 1) 1 h14 (
M.val (wrap .u32 n12) λz15=>
M.still h (Addr.add a7 0) 1 h14 (
M.new h14 (.cells #[.int .u32 z15] 230) λb16 h17=>
M.still h (Addr.add a7 0) 1 h17 (
cI (some ⟨b16,0,none⟩) 1 1 h17 λs18 h19=>
M.cat s13 s18 λs20=>
J6 s20 h19)))) ∧
(M.val (wrap .u32 n12) λz21=>
M.still h (Addr.add a7 0) 1 h (
(dI n9 h λs22 h23=>
M.still h (Addr.add a10 1) 1 h23 (
M.new h23 (.cells #[.int .u32 z21] 230) λb24 h25=>
M.still h (Addr.add a7 0) 1 h25 (
cI (some ⟨b24,0,none⟩) 1 1 h25 λs26 h27=>
M.cat s22 s26 λs28=>
J6 s28 h27))) ∧
(M.new h (.cells #[.int .u32 z21] 230) λb29 h30=>
M.still h (Addr.add a7 0) 1 h30 (
dI n9 h30 λs31 h32=>
M.still h (Addr.add a10 1) 1 h32 (
cI (some ⟨b29,0,none⟩) 1 1 h32 λs33 h34=>
M.cat s31 s33 λs35=>
J6 s35 h34)))))))
def cG.L(F:type_of% cG):LT
 | [.pointer x0]=>λQ h=>F x0 h λs47 n48 h49=>Q (.tuple #[.string s47,.int .i64 n48]) h49
 | _=>λ_ _=>False
def cG.ann:jy:=⟨ah [(5,[(4,.str)])],ah [],ah []⟩
theorem cG.good:ai Tryz.prog 46 (WL (cG.L cG)):=.gu (ann:=cG.ann) mixed (.cons dI.good (.cons cI.good .nil)) Tryz.func46 Tryz.call46 (by intro l;unfold cG.L;split;exact .inr (by intros;kernel_rfl);exact .inl rfl)
def aZ(x0_0 x0_1 x0_2:Int)(x0_3:Bool)(x1:Int)(h:H)(Q:Int->H->Prop):Prop:=
M.new h (.cells #[.int .i64 x0_0,.int .i64 x0_1,.int .i64 x0_2,.bool x0_3] 59) λb2 h3=>
M.join (α:=Bool) (λd17 h18=>
(bif d17 then
Q 0 h18
else
M.load h18 (Addr.add ⟨b2,0,none⟩ 2) λv19=>
M.int .i64 v19 λn20=>
(bif(decide (x1<n20))then
M.load h18 (Addr.add ⟨b2,0,none⟩ 0) λv21=>
M.int .i64 v21 λn22=>
M.val (wrap .i64 (n22+1)) λz23=>
Q z23 h18
else
M.load h18 (Addr.add ⟨b2,0,none⟩ 0) λv24=>
M.int .i64 v24 λn25=>
Q n25 h18))) λJ4=>
M.load h3 (Addr.add ⟨b2,0,none⟩ 0) λv5=>
M.int .i64 v5 λn6=>
M.load h3 (Addr.add ⟨b2,0,none⟩ 1) λv7=>
M.int .i64 v7 λn8=>
M.load h3 (Addr.add ⟨b2,0,none⟩ 2) λv9=>
M.int .i64 v9 λn10=>
M.load h3 (Addr.add ⟨b2,0,none⟩ 3) λv11=>
M.bool v11 λb12=>
aD n6 n8 n10 b12 h3 λb13 h14=>
(bif(!b13)then
J4 true h14
else
(bif(decide (x1<0))then
J4 true h14
else
M.load h14 (Addr.add ⟨b2,0,none⟩ 1) λv15=>
M.int .i64 v15 λn16=>
J4 (decide (x1≥n16)) h14))
def aZ.L(F:type_of% aZ):LT
 | [.agg ⟨[.int .i64 x0_0,.int .i64 x0_1,.int .i64 x0_2,.bool x0_3]⟩,.int .i64 x1]=>λQ h=>F x0_0 x0_1 x0_2 x0_3 x1 h λn28 h29=>Q (.int .i64 n28) h29
 | _=>λ_ _=>False
def aZ.ann:jy:=⟨ah [(1,[(5,.bool)])],ah [],ah []⟩
theorem aZ.good:ai Tryz.prog 66 (WL (aZ.L aZ)):=.gu (ann:=aZ.ann) mixed (.cons aD.good .nil) Tryz.func66 Tryz.call66 (by intro l;unfold aZ.L;split;exact .inr (by intros;kernel_rfl);exact .inl rfl)
def bB(x0_0:Option Addr)(x0_1 x0_2:Int)(x0_3:ByteArray)(x1:Option Addr)(x1L x1C:Nat)(h:H)(Q:Int->H->Prop):Prop:=
M.new h (.cells #[.pointer x0_0,.int .i64 x0_1,.int .i64 x0_2,.string x0_3] 126) λb2 h3=>
M.load h3 (Addr.add ⟨b2,0,none⟩ 0) λv4=>
M.ptr v4 λp5=>
M.load h3 (Addr.add ⟨b2,0,none⟩ 1) λv6=>
M.int .i64 v6 λn7=>
M.load h3 (Addr.add ⟨b2,0,none⟩ 2) λv8=>
M.int .i64 v8 λn9=>
M.load h3 (Addr.add ⟨b2,0,none⟩ 3) λv10=>
M.str v10 λs11=>
aX p5 n7 n9 s11 h3 λb12 h13=>
(bif(!b12)then
Q 4 h13
else
M.join (α:=Unit) (λd38 h39=>
M.load h39 (Addr.add ⟨b2,0,none⟩ 0) λv40=>
M.ptr v40 λp41=>
M.load h39 (Addr.add ⟨b2,0,none⟩ 1) λv42=>
M.int .i64 v42 λn43=>
bT p41 n43 h39 λn44 h45=>
Q n44 h45) λJ14=>
M.loop (α:=Int) (λJ15 d16 h17=>
(bif(decide (d16<(x1L:Int)))then
M.idx x1 x1L d16 λa18 j19=>
M.load h17 ((Addr.add a18 (j19*2)).add 0) λv20=>
M.int .i64 v20 λn21=>
M.load h17 ((Addr.add a18 (j19*2)).add 1) λv22=>
M.str v22 λs23=>
M.new h17 (.cells #[.int .i64 0,.string empty] 261) λb24 h25=>
M.req (Array.size (#[.int .i64 n21,.string s23]:Array Value)=2) (M.ku h25 ⟨b24,0,none⟩ [.int .i64 n21,.string s23] λh26=>
M.load h26 (Addr.add ⟨b2,0,none⟩ 0) λv27=>
M.ptr v27 λp28=>
M.load h26 (Addr.add ⟨b2,0,none⟩ 1) λv29=>
M.int .i64 v29 λn30=>
M.load h26 (Addr.add ⟨b24,0,none⟩ 0) λv31=>
M.int .i64 v31 λn32=>
M.load h26 (Addr.add ⟨b24,0,none⟩ 1) λv33=>
M.str v33 λs34=>
bR p28 n30 n32 s34 h26 λn35 h36=>
(bif(n35 != 0)then
Q n35 h36
else
M.val (wrap .i64 (d16+1)) λz37=>
J15 z37 h36))
else
J14 () h17)) 0 h13)
def bB.L(F:type_of% bB):LT
 | [.agg ⟨[.pointer x0_0,.int .i64 x0_1,.int .i64 x0_2,.string x0_3]⟩,.slice x1 x1L x1C]=>λQ h=>F x0_0 x0_1 x0_2 x0_3 x1 x1L x1C h λn48 h49=>Q (.int .i64 n48) h49
 | _=>λ_ _=>False
def bB.ann:jy:=⟨ah [],ah [(7,[])],ah [(58,[(13,.int .i64)])]⟩
theorem bB.good:ai Tryz.prog 76 (WL (bB.L bB)):=.gu (ann:=bB.ann) mixed (.cons aX.good (.cons bR.good (.cons bT.good .nil))) Tryz.func76 Tryz.call76 (by intro l;unfold bB.L;split;exact .inr (by intros;kernel_rfl);exact .inl rfl)
def ew(x0_0:Option Addr)(x0_1 x0_2:Int)(x0_3:ByteArray)(x1:Option Addr)(x1L x1C:Nat)(h:H)(Q:Int->H->Prop):Prop:=
M.new h (.cells #[.pointer x0_0,.int .i64 x0_1,.int .i64 x0_2,.string x0_3] 173) λb2 h3=>
M.load h3 (Addr.add ⟨b2,0,none⟩ 0) λv4=>
M.ptr v4 λp5=>
M.load h3 (Addr.add ⟨b2,0,none⟩ 1) λv6=>
M.int .i64 v6 λn7=>
M.load h3 (Addr.add ⟨b2,0,none⟩ 2) λv8=>
M.int .i64 v8 λn9=>
M.load h3 (Addr.add ⟨b2,0,none⟩ 3) λv10=>
M.str v10 λs11=>
fL p5 n7 n9 s11 h3 λb12 h13=>
(bif(!b12)then
Q 4 h13
else
M.join (α:=Unit) (λd33 h34=>
M.load h34 (Addr.add ⟨b2,0,none⟩ 0) λv35=>
M.ptr v35 λp36=>
M.load h34 (Addr.add ⟨b2,0,none⟩ 1) λv37=>
M.int .i64 v37 λn38=>
eA p36 n38 h34 λn39 h40=>
Q n39 h40) λJ14=>
M.loop (α:=Int) (λJ15 d16 h17=>
(bif(decide (d16<(x1L:Int)))then
M.load h17 (Addr.add ⟨b2,0,none⟩ 0) λv18=>
M.ptr v18 λp19=>
M.load h17 (Addr.add ⟨b2,0,none⟩ 1) λv20=>
M.int .i64 v20 λn21=>
M.idx x1 x1L d16 λa22 j23=>
M.load h17 (Addr.add (Addr.add a22 (j23*2)) 0) λv24=>
M.int .i64 v24 λn25=>
M.idx x1 x1L d16 λa26 j27=>
M.load h17 (Addr.add (Addr.add a26 (j27*2)) 1) λv28=>
M.str v28 λs29=>
eG p19 n21 n25 s29 h17 λn30 h31=>
(bif(n30 != 0)then
Q n30 h31
else
M.val (wrap .i64 (d16+1)) λz32=>
J15 z32 h31)
else
J14 () h17)) 0 h13)
def ew.L(F:type_of% ew):LT
 | [.agg ⟨[.pointer x0_0,.int .i64 x0_1,.int .i64 x0_2,.string x0_3]⟩,.slice x1 x1L x1C]=>λQ h=>F x0_0 x0_1 x0_2 x0_3 x1 x1L x1C h λn43 h44=>Q (.int .i64 n43) h44
 | _=>λ_ _=>False
def ew.ann:jy:=⟨ah [],ah [(15,[])],ah [(122,[(6,.int .i64)])]⟩
theorem ew.good:ai Tryz.prog 81 (WL (ew.L ew)):=.gu (ann:=ew.ann) mixed (.cons fL.good (.cons eG.good (.cons eA.good .nil))) Tryz.func81 Tryz.call81 (by intro l;unfold ew.L;split;exact .inr (by intros;kernel_rfl);exact .inl rfl)
def gG(x0_0 x0_1 x0_2 x0_3 x0_4 x0_5:Int)(x0_6:Bool)(x0_7:Option Addr)(x0_7L x0_7C:Nat)(x0_8:Option Addr)(x0_8L x0_8C:Nat)(h:H)(Q:ByteArray->Int->H->Prop):Prop:=
M.new h (.cells #[.int .u64 x0_0,.int .u64 x0_1,.int .i64 x0_2,.int .i64 x0_3,.int .i64 x0_4,.int .i64 x0_5,.bool x0_6,.slice x0_7 x0_7L x0_7C,.slice x0_8 x0_8L x0_8C] 80) λb3 h4=>
M.kC h4 ⟨b3,0,none⟩ λn6 n8 n10 n12 n14 n16 b18 a20 l21 c22 a24 l25 c26=>
gP n6 n8 n10 n12 n14 n16 b18 a20 l21 c22 a24 l25 c26 h4 λb27 h28=>
(bif(!b27)then
Q empty 4 h28
else
M.join (α:=Int) (λd32 h33=>
M.load h33 (Addr.add ⟨b3,0,none⟩ 0) λv34=>
M.int .u64 v34 λn35=>
M.load h33 (Addr.add ⟨b3,0,none⟩ 1) λv36=>
M.int .u64 v36 λn37=>
M.load h33 (Addr.add ⟨b3,0,none⟩ 2) λv38=>
M.int .i64 v38 λn39=>
M.val (wrap .u64 n39) λz40=>
M.load h33 (Addr.add ⟨b3,0,none⟩ 3) λv41=>
M.int .i64 v41 λn42=>
M.val (wrap .u64 n42) λz43=>
M.load h33 (Addr.add ⟨b3,0,none⟩ 4) λv44=>
M.int .i64 v44 λn45=>
M.val (wrap .u64 n45) λz46=>
M.load h33 (Addr.add ⟨b3,0,none⟩ 5) λv47=>
M.int .i64 v47 λn48=>
M.val (wrap .u64 n48) λz49=>
M.val (wrap .u64 d32) λz50=>
M.load h33 (Addr.add ⟨b3,0,none⟩ 7) λv51=>
M.slc v51 λa52 l53 c54=>
M.val (wrap .u64 (l53:Int)) λz55=>
M.new h33 (.cells #[.int .u64 n35,.int .u64 n37,.int .u64 z40,.int .u64 z43,.int .u64 z46,.int .u64 z49,.int .u64 z50,.int .u64 z55] 36) λb56 h57=>
M.join (α:=(Option Addr×Nat×Nat)) (λd83 h84=>
M.load h84 (Addr.add ⟨b3,0,none⟩ 8) λv85=>
M.slc v85 λa86 l87 c88=>
M.val (wrap .u64 (l87:Int)) λz89=>
M.new h84 (.cells #[.int .u64 z89] 36) λb90 h91=>
M.cellsOf h91 (some ⟨b90,0,none⟩) (1*1) λcs96=>
M.app h91 36 1 8 [.int .u64 0] d83.1 d83.2.1 d83.2.2 1 cs96 λa92 l93 c94 h95=>
M.join (α:=ByteArray) (λd109 h110=>
M.join (α:=ByteArray) (λd151 h152=>
Q d151 0 h152) λJ111=>
M.loop (α:=ByteArray×Int) (λJ112 d113 h114=>
M.load h114 (Addr.add ⟨b3,0,none⟩ 8) λv115=>
M.slc v115 λa116 l117 c118=>
(bif(decide (d113.2<(l117:Int)))then
M.load h114 (Addr.add ⟨b3,0,none⟩ 8) λv119=>
M.slc v119 λa120 l121 c122=>
M.idx a120 l121 d113.2 λa123 j124=>
M.load h114 ((Addr.add a123 (j124*3)).add 0) λv125=>
M.int .i64 v125 λn126=>
M.load h114 ((Addr.add a123 (j124*3)).add 1) λv127=>
M.str v127 λs128=>
M.load h114 ((Addr.add a123 (j124*3)).add 2) λv129=>
M.str v129 λs130=>
M.new h114 (.cells #[.int .i64 0,.string empty,.string empty] 171) λb131 h132=>
M.nN 3 h132 ⟨b131,0,none⟩ [.int .i64 n126,.string s128,.string s130] (λh133=>
M.load h133 (Addr.add ⟨b131,0,none⟩ 0) λv134=>
M.int .i64 v134 λn135=>
M.val (wrap .u64 n135) λz136=>
eY z136 h133 λs137 h138=>
M.load h138 (Addr.add ⟨b131,0,none⟩ 1) λv139=>
M.str v139 λs140=>
eX s140 h138 λs141 h142=>
M.load h142 (Addr.add ⟨b131,0,none⟩ 2) λv143=>
M.str v143 λs144=>
eX s144 h142 λs145 h146=>
M.cat d113.1 s137 λs147=>
M.cat s147 s141 λs148=>
M.cat s148 s145 λs149=>
M.val (wrap .i64 (d113.2+1)) λz150=>
J112 (s149,z150) h146)
else
J111 d113.1 h114)) (d109,0) h110) λJ97=>
M.loop (α:=ByteArray×Int) (λJ98 d99 h100=>
(bif(decide (d99.2<(l93:Int)))then
M.idx a92 l93 d99.2 λa101 j102=>
M.load h100 (Addr.add a101 (j102*1)) λv103=>
M.int .u64 v103 λn104=>
eY n104 h100 λs105 h106=>
M.cat d99.1 s105 λs107=>
M.val (wrap .i64 (d99.2+1)) λz108=>
J98 (s107,z108) h106
else
J97 d99.1 h100)) (empty,0) h95) λJ58=>
M.loop (α:=(Option Addr×Nat×Nat)×Int) (λJ59 d60 h61=>
M.load h61 (Addr.add ⟨b3,0,none⟩ 7) λv62=>
M.slc v62 λa63 l64 c65=>
(bif(decide (d60.2<(l64:Int)))then
M.load h61 (Addr.add ⟨b3,0,none⟩ 7) λv66=>
M.slc v66 λa67 l68 c69=>
M.idx a67 l68 d60.2 λa70 j71=>
M.load h61 (Addr.add a70 (j71*1)) λv72=>
M.int .i64 v72 λn73=>
M.val (wrap .u64 n73) λz74=>
M.new h61 (.cells #[.int .u64 z74] 36) λb75 h76=>
M.cellsOf h76 (some ⟨b75,0,none⟩) (1*1) λcs81=>
M.app h76 36 1 8 [.int .u64 0] d60.1.1 d60.1.2.1 d60.1.2.2 1 cs81 λa77 l78 c79 h80=>
M.val (wrap .i64 (d60.2+1)) λz82=>
J59 ((a77,l78,c79),z82) h80
else
J58 (d60.1.1,d60.1.2.1,d60.1.2.2) h61)) (((some ⟨b56,0,none⟩),8,8),0) h57) λJ29=>
M.load h28 (Addr.add ⟨b3,0,none⟩ 6) λv30=>
M.bool v30 λb31=>
(bif b31 then
J29 1 h28
else
J29 0 h28))
def gG.L(F:type_of% gG):LT
 | [.agg ⟨[.int .u64 x0_0,.int .u64 x0_1,.int .i64 x0_2,.int .i64 x0_3,.int .i64 x0_4,.int .i64 x0_5,.bool x0_6,.slice x0_7 x0_7L x0_7C,.slice x0_8 x0_8L x0_8C]⟩]=>λQ h=>F x0_0 x0_1 x0_2 x0_3 x0_4 x0_5 x0_6 x0_7 x0_7L x0_7C x0_8 x0_8L x0_8C h λs156 n157 h158=>Q (.tuple #[.string s156,.int .i64 n157]) h158
 | _=>λ_ _=>False
def gG.ann:jy:=⟨ah [],ah [(31,[(5,.int .i64)]),(127,[(6,.slc)]),(1023,[(8,.str)]),(2047,[(8,.str)])],ah [(1018,[(6,.slc),(7,.int .i64)]),(8186,[(8,.str),(9,.int .i64)]),(16378,[(8,.str),(11,.int .i64)])]⟩
theorem gG.good:ai Tryz.prog 86 (WL (gG.L gG)):=.gu (ann:=gG.ann) mixed (.cons gP.good (.cons eY.good (.cons eX.good .nil))) Tryz.func86 Tryz.call86 (by intro l;unfold gG.L;split;exact .inr (by intros;kernel_rfl);exact .inl rfl)
def cZ(x0_0 x0_1:Option Addr)(x0_2:ByteArray)(x1 x2:Int)(x3:ByteArray)(h:H)(Q:Int->H->Prop):Prop:=
M.new h (.cells #[.pointer x0_0,.pointer x0_1,.string x0_2] 120) λb2 h3=>
M.load h3 (Addr.add ⟨b2,0,none⟩ 0) λv4=>
M.ptr v4 λp5=>
bR p5 x1 x2 x3 h3 λn6 h7=>
(bif(n6 != 0)then
Q n6 h7
else
M.load h7 (Addr.add ⟨b2,0,none⟩ 0) λv8=>
M.ptr v8 λp9=>
bT p9 x1 h7 λn10 h11=>
Q n10 h11)
def cZ.L(F:type_of% cZ):LT
 | [.agg ⟨[.pointer x0_0,.pointer x0_1,.string x0_2]⟩,.int .i64 x1,.int .i64 x2,.string x3]=>λQ h=>F x0_0 x0_1 x0_2 x1 x2 x3 h λn14 h15=>Q (.int .i64 n14) h15
 | _=>λ_ _=>False
theorem cZ.good:ai Tryz.prog 122 (WL (cZ.L cZ)):=.gu (ann:=lQ) mixed (.cons bR.good (.cons bT.good .nil)) Tryz.func122 Tryz.call122 (by intro l;unfold cZ.L;split;exact .inr (by intros;kernel_rfl);exact .inl rfl)
def bZ(x0:Option Addr)(x1:Int)(x2:Option Addr)(x2L x2C:Nat)(h:H)(Q:Int->H->Prop):Prop:=
M.join (α:=Unit) (λd17 h18=>
M.nn x0 λa19=>
M.load h18 (Addr.add (Addr.add a19 0) 0) λv20=>
M.ptr v20 λp21=>
bT p21 x1 h18 λn22 h23=>
Q n22 h23) λJ2=>
M.loop (α:=Int) (λJ3 d4 h5=>
(bif(decide (d4<(x2L:Int)))then
M.idx x2 x2L d4 λa6 j7=>
M.load h5 (Addr.add a6 (j7*1)) λv8=>
M.str v8 λs9=>
M.nn x0 λa10=>
M.load h5 (Addr.add (Addr.add a10 0) 0) λv11=>
M.ptr v11 λp12=>
M.val (wrap .i64 (2+d4)) λz13=>
bR p12 x1 z13 s9 h5 λn14 h15=>
(bif(n14 != 0)then
Q n14 h15
else
M.val (wrap .i64 (d4+1)) λz16=>
J3 z16 h15)
else
J2 () h5)) 0 h
def bZ.L(F:type_of% bZ):LT
 | [.pointer x0,.int .i64 x1,.slice x2 x2L x2C]=>λQ h=>F x0 x1 x2 x2L x2C h λn26 h27=>Q (.int .i64 n26) h27
 | _=>λ_ _=>False
def bZ.ann:jy:=⟨ah [],ah [(3,[])],ah [(26,[(12,.int .i64)])]⟩
theorem bZ.good:ai Tryz.prog 138 (WL (bZ.L bZ)):=.gu (ann:=bZ.ann) mixed (.cons bR.good (.cons bT.good .nil)) Tryz.func138 Tryz.call138 (by intro l;unfold bZ.L;split;exact .inr (by intros;kernel_rfl);exact .inl rfl)
def iJ.g(F0:type_of% cv)(F1:type_of% gK)(F2:type_of% fc)(F3:type_of% gG)(x0:ByteArray)(h:H)(Q:Int->Int->Int->Int->Int->Int->Bool->Option Addr->Nat->Nat->Option Addr->Nat->Nat->Int->H->Prop):Prop:=
M.new h (.cells #[.int .u64 0,.int .u64 0,.int .i64 0,.int .i64 0,.int .i64 0,.int .i64 0,.bool false,.slice none 0 0,.slice none 0 0] 80) λb15 h16=>
M.new h16 (.cells #[.string x0,.int .i64 0,.int .i64 0] 335) λb17 h18=>
M.new h18 (.cells #[.int .u64 0,.int .u64 0,.int .i64 0,.int .i64 0,.int .i64 0,.int .i64 0,.bool false,.slice none 0 0,.slice none 0 0] 80) λb19 h20=>
F0 (some ⟨b17,0,none⟩) h20 λn21 h22=>
M.put h22 (Addr.add ⟨b19,0,none⟩ 0) (.int .u64 n21) λh23=>
F0 (some ⟨b17,0,none⟩) h23 λn24 h25=>
M.put h25 (Addr.add ⟨b19,0,none⟩ 1) (.int .u64 n24) λh26=>
F1 (some ⟨b17,0,none⟩) h26 λn27 h28=>
M.put h28 (Addr.add ⟨b19,0,none⟩ 2) (.int .i64 n27) λh29=>
F1 (some ⟨b17,0,none⟩) h29 λn30 h31=>
M.put h31 (Addr.add ⟨b19,0,none⟩ 3) (.int .i64 n30) λh32=>
F1 (some ⟨b17,0,none⟩) h32 λn33 h34=>
M.put h34 (Addr.add ⟨b19,0,none⟩ 4) (.int .i64 n33) λh35=>
F1 (some ⟨b17,0,none⟩) h35 λn36 h37=>
M.put h37 (Addr.add ⟨b19,0,none⟩ 5) (.int .i64 n36) λh38=>
F1 (some ⟨b17,0,none⟩) h38 λn39 h40=>
M.put h40 (Addr.add ⟨b19,0,none⟩ 6) (.bool (n39 == 1)) λh41=>
F1 (some ⟨b17,0,none⟩) h41 λn42 h43=>
M.join (α:=Unit) (λd63 h64=>
F1 (some ⟨b17,0,none⟩) h64 λn65 h66=>
M.join (α:=Unit) (λd101 h102=>
M.kC h102 ⟨b19,0,none⟩ λn104 n106 n108 n110 n112 n114 b116 a118 l119 c120 a122 l123 c124=>
F3 n104 n106 n108 n110 n112 n114 b116 a118 l119 c120 a122 l123 c124 h102 λs125 n126 h127=>
M.join (α:=Bool) (λd129 h130=>
(bif d129 then
M.nN 9 h130 ⟨b15,0,none⟩ [.int .u64 0,.int .u64 0,.int .i64 0,.int .i64 0,.int .i64 0,.int .i64 0,.bool false,.slice none 0 0,.slice none 0 0] (λh131=>
M.kC h131 ⟨b15,0,none⟩ λn133 n135 n137 n139 n141 n143 b145 a147 l148 c149 a151 l152 c153=>
Q n133 n135 n137 n139 n141 n143 b145 a147 l148 c149 a151 l152 c153 4 h131)
else
M.kC h130 ⟨b19,0,none⟩ λn155 n157 n159 n161 n163 n165 b167 a169 l170 c171 a173 l174 c175=>
M.nN 9 h130 ⟨b15,0,none⟩ [.int .u64 n155,.int .u64 n157,.int .i64 n159,.int .i64 n161,.int .i64 n163,.int .i64 n165,.bool b167,.slice a169 l170 c171,.slice a173 l174 c175] (λh176=>
M.kC h176 ⟨b15,0,none⟩ λn178 n180 n182 n184 n186 n188 b190 a192 l193 c194 a196 l197 c198=>
Q n178 n180 n182 n184 n186 n188 b190 a192 l193 c194 a196 l197 c198 0 h176))) λJ128=>
(bif(n126 != 0)then
J128 true h127
else
J128 (!mX s125 x0) h127)) λJ67=>
M.loop (α:=Int) (λJ68 d69 h70=>
(bif(decide (d69<n65))then
M.new h70 (.cells #[.int .i64 0,.string empty,.string empty] 171) λb71 h72=>
F1 (some ⟨b17,0,none⟩) h72 λn73 h74=>
M.put h74 (Addr.add ⟨b71,0,none⟩ 0) (.int .i64 n73) λh75=>
F2 (some ⟨b17,0,none⟩) h75 λs76 h77=>
M.put h77 (Addr.add ⟨b71,0,none⟩ 1) (.string s76) λh78=>
F2 (some ⟨b17,0,none⟩) h78 λs79 h80=>
M.put h80 (Addr.add ⟨b71,0,none⟩ 2) (.string s79) λh81=>
M.load h81 (Addr.add ⟨b19,0,none⟩ 8) λv82=>
M.slc v82 λa83 l84 c85=>
M.load h81 (Addr.add ⟨b71,0,none⟩ 0) λv86=>
M.int .i64 v86 λn87=>
M.load h81 (Addr.add ⟨b71,0,none⟩ 1) λv88=>
M.str v88 λs89=>
M.load h81 (Addr.add ⟨b71,0,none⟩ 2) λv90=>
M.str v90 λs91=>
M.new h81 (.cells #[.int .i64 n87,.string s89,.string s91] 171) λb92 h93=>
M.cellsOf h93 (some ⟨b92,0,none⟩) (1*3) λcs98=>
M.app h93 171 3 40 [.int .i64 0,.string empty,.string empty] a83 l84 c85 1 cs98 λa94 l95 c96 h97=>
M.put h97 (Addr.add ⟨b19,0,none⟩ 8) (.slice a94 l95 c96) λh99=>
M.val (wrap .i64 (d69+1)) λz100=>
J68 z100 h99
else
J67 () h70)) 0 h66) λJ44=>
M.loop (α:=Int) (λJ45 d46 h47=>
(bif(decide (d46<n42))then
F1 (some ⟨b17,0,none⟩) h47 λn48 h49=>
M.load h49 (Addr.add ⟨b19,0,none⟩ 7) λv50=>
M.slc v50 λa51 l52 c53=>
M.new h49 (.cells #[.int .i64 n48] 3) λb54 h55=>
M.cellsOf h55 (some ⟨b54,0,none⟩) (1*1) λcs60=>
M.app h55 3 1 8 [.int .i64 0] a51 l52 c53 1 cs60 λa56 l57 c58 h59=>
M.put h59 (Addr.add ⟨b19,0,none⟩ 7) (.slice a56 l57 c58) λh61=>
M.val (wrap .i64 (d46+1)) λz62=>
J45 z62 h61
else
J44 () h47)) 0 h43
def iJ:=iJ.g cv gK fc gG
def iJ.L(F:type_of% iJ):LT
 | [.string x0]=>λQ h=>F x0 h λn214 n215 n216 n217 n218 n219 b220 a221 l222 c223 a224 l225 c226 n227 h228=>Q (.tuple #[(.agg (#[.int .u64 n214,.int .u64 n215,.int .i64 n216,.int .i64 n217,.int .i64 n218,.int .i64 n219,.bool b220,.slice a221 l222 c223,.slice a224 l225 c226]:Array Value)),.int .i64 n227]) h228
 | _=>λ_ _=>False
def iJ.ann:jy:=⟨ah [(27,[(89,.bool)])],ah [(8191,[]),(32767,[])],ah [(65530,[(8,.int .i64)]),(262138,[(11,.int .i64)])]⟩
theorem iJ.geq(F0)(F1)(F2)(F3):∀l,gj (fT Tryz.prog (ay [(219,WL (cv.L F0)),(220,WL (gK.L F1)),(221,WL (fc.L F2)),(86,WL (gG.L F3))]) Tryz.f159 iJ.ann) l (iJ.L (iJ.g F0 F1 F2 F3) l):=by
 intro l;unfold iJ.L;split;exact .inr (by intros;kernel_rfl);exact .inl rfl
theorem iJ.good:ai Tryz.prog 159 (WL (iJ.L iJ)):=.gu mixed (.cons cv.good (.cons gK.good (.cons fc.good (.cons gG.good .nil)))) Tryz.func159 Tryz.call159 (iJ.geq cv gK fc gG)
def bf(x0:Option Addr)(h:H)(Q:Int->H->Prop):Prop:=
cj x0 8 h λs2 h3=>
gW s2 h3 λa4 l5 c6 n7 h8=>
(bif(decide ((l5:Int)<2))then
Q 0 h8
else
M.req (2≤l5) (M.nn a4 λa9=>
M.load h8 (a9.add 0) λv10=>
M.int .u32 v10 λn11=>
M.load h8 (a9.add 1) λv12=>
M.int .u32 v12 λn13=>
M.new h8 (.cells #[.int .u32 0,.int .u32 0] 384) λb14 h15=>
M.req (Array.size (#[.int .u32 n11,.int .u32 n13]:Array Value)=2) (M.ku h15 ⟨b14,0,none⟩ [.int .u32 n11,.int .u32 n13] λh16=>
M.fk 2 0 λj17=>
M.load h16 (Addr.add ⟨b14,0,none⟩ (j17*1)) λv18=>
M.int .u32 v18 λn19=>
M.val (wrap .u64 n19) λz20=>
M.jZ 32 (
M.val (shl .u64 z20 32) λz21=>
M.fk 2 1 λj22=>
M.load h16 (Addr.add ⟨b14,0,none⟩ (j22*1)) λv23=>
M.int .u32 v23 λn24=>
M.val (wrap .u64 n24) λz25=>
M.val (ye .u64 z21 z25) λz26=>
Q z26 h16))))
def bf.L(F:type_of% bf):LT
 | [.pointer x0]=>λQ h=>F x0 h λn29 h30=>Q (.int .u64 n29) h30
 | _=>λ_ _=>False
theorem bf.good:ai Tryz.prog 194 (WL (bf.L bf)):=.gu (ann:=lQ) mixed (.cons cj.good (.cons gW.good .nil)) Tryz.func194 Tryz.call194 (by intro l;unfold bf.L;split;exact .inr (by intros;kernel_rfl);exact .inl rfl)
def aB(x0:Option Addr)(x1:Int)(h:H)(Q:Int->H->Prop):Prop:=
bf x0 h λn2 h3=>
M.join (α:=Bool) (λd8 h9=>
(bif d8 then
Q 0 h9
else
M.join (α:=Bool) (λd12 h13=>
(bif d12 then
M.nn x0 λa14=>
M.put h13 (Addr.add a14 1) (.int .i64 4) λh15=>
Q 0 h15
else
M.val (wrap .i64 n2) λz16=>
Q z16 h13)) λJ10=>
(bif(decide (x1<1))then
J10 true h9
else
M.val (wrap .u64 x1) λz11=>
J10 (decide (n2≥z11)) h9))) λJ4=>
(bif(Option.isNone x0)then
J4 true h3
else
M.nn x0 λa5=>
M.load h3 (Addr.add a5 1) λv6=>
M.int .i64 v6 λn7=>
J4 (n7 != 0) h3)
def aB.L(F:type_of% aB):LT
 | [.pointer x0,.int .i64 x1]=>λQ h=>F x0 x1 h λn19 h20=>Q (.int .i64 n19) h20
 | _=>λ_ _=>False
def aB.ann:jy:=⟨ah [(2,[(16,.bool)]),(4,[(24,.bool)])],ah [],ah []⟩
theorem aB.good:ai Tryz.prog 195 (WL (aB.L aB)):=.gu (ann:=aB.ann) mixed (.cons bf.good .nil) Tryz.func195 Tryz.call195 (by intro l;unfold aB.L;split;exact .inr (by intros;kernel_rfl);exact .inl rfl)
def dw(x0 x1:ByteArray)(x2:Int)(h:H)(Q:ByteArray->H->Prop):Prop:=
M.cat (⟨#[101,120,112,97,110,100,32,51,50,45,98,121,116,101,32,107]⟩:ByteArray) x0 λs2=>
di s2 h λa3 l4 c5 n6 h7=>
di x1 h7 λa8 l9 c10 n11 h12=>
M.new h12 (.cells #[.int .u32 0,.int .u32 0,.int .u32 0,.int .u32 0,.int .u32 0,.int .u32 0,.int .u32 0,.int .u32 0,.int .u32 0,.int .u32 0,.int .u32 0,.int .u32 0,.int .u32 0,.int .u32 0,.int .u32 0,.int .u32 0] 405) λb13 h14=>
M.sub (some ⟨b13,0,none⟩) 16 1 0 ((16:Nat):Int) λa15 l16 c17=>
M.new h14 (.cells #[.int .u32 x2] 230) λb18 h19=>
M.cellsOf h19 (some ⟨b18,0,none⟩) (1*1) λcs24=>
M.app h19 230 1 4 [.int .u32 0] a3 l4 c5 1 cs24 λa20 l21 c22 h23=>
M.cellsOf h23 a8 (l9*1) λcs29=>
M.app h23 230 1 4 [.int .u32 0] a20 l21 c22 l9 cs29 λa25 l26 c27 h28=>
M.cellsOf h28 a25 ((min l26 l16)*1) λcs31=>
M.copy h28 a15 cs31 λh30=>
M.row h30 ⟨b13,0,none⟩ 16 λcs32=>
M.new h30 (.cells #[.int .u32 0,.int .u32 0,.int .u32 0,.int .u32 0,.int .u32 0,.int .u32 0,.int .u32 0,.int .u32 0,.int .u32 0,.int .u32 0,.int .u32 0,.int .u32 0,.int .u32 0,.int .u32 0,.int .u32 0,.int .u32 0] 405) λb33 h34=>
M.req (Array.size (List.toArray cs32)=16) (M.ku h34 ⟨b33,0,none⟩ (Array.toList (List.toArray cs32)) λh35=>
M.join (α:=Unit) (λd66 h67=>
M.join (α:=Unit) (λd82 h83=>
M.sub (some ⟨b33,0,none⟩) 16 1 0 ((16:Nat):Int) λa84 l85 c86=>
bE a84 l85 c86 h83 λs87 h88=>
Q s87 h88) λJ68=>
M.loop (α:=Int) (λJ69 d70 h71=>
(bif(decide (d70<16))then
M.fk 16 d70 λj72=>
M.load h71 (Addr.add ⟨b33,0,none⟩ (j72*1)) λv73=>
M.int .u32 v73 λn74=>
M.fk 16 d70 λj75=>
M.load h71 (Addr.add ⟨b13,0,none⟩ (j75*1)) λv76=>
M.int .u32 v76 λn77=>
M.val (wrap .u32 (n74+n77)) λz78=>
M.fk 16 d70 λj79=>
M.put h71 (Addr.add ⟨b33,0,none⟩ (j79*1)) (.int .u32 z78) λh80=>
M.val (wrap .i64 (d70+1)) λz81=>
J69 z81 h80
else
J68 () h71)) 0 h67) λJ36=>
M.loop (α:=Int) (λJ37 d38 h39=>
(bif(decide (d38<10))then
M.join (α:=Unit) (λd49 h50=>
M.loop (α:=Int) (λJ51 d52 h53=>
(bif(decide (d52<4))then
M.val (wrap .i64 (d52+1)) λz54=>
M.nz 4 (
M.val (Int.tmod z54 4) λz55=>
M.val (wrap .i64 (4+z55)) λz56=>
M.val (wrap .i64 (d52+2)) λz57=>
M.nz 4 (
M.val (Int.tmod z57 4) λz58=>
M.val (wrap .i64 (8+z58)) λz59=>
M.val (wrap .i64 (d52+3)) λz60=>
M.nz 4 (
M.val (Int.tmod z60 4) λz61=>
M.val (wrap .i64 (12+z61)) λz62=>
eL (some ⟨b33,0,none⟩) d52 z56 z59 z62 h53 λh63=>
M.val (wrap .i64 (d52+1)) λz64=>
J51 z64 h63)))
else
M.val (wrap .i64 (d38+1)) λz65=>
J37 z65 h53)) 0 h50) λJ40=>
M.loop (α:=Int) (λJ41 d42 h43=>
(bif(decide (d42<4))then
M.val (wrap .i64 (d42+4)) λz44=>
M.val (wrap .i64 (d42+8)) λz45=>
M.val (wrap .i64 (d42+12)) λz46=>
eL (some ⟨b33,0,none⟩) d42 z44 z45 z46 h43 λh47=>
M.val (wrap .i64 (d42+1)) λz48=>
J41 z48 h47
else
J40 () h43)) 0 h39
else
J36 () h39)) 0 h35)
def dw.L(F:type_of% dw):LT
 | [.string x0,.string x1,.int .u32 x2]=>λQ h=>F x0 x1 x2 h λs91 h92=>Q (.string s91) h92
 | _=>λ_ _=>False
def dw.ann:jy:=⟨ah [],ah [(127,[]),(255,[]),(32588,[])],ah [(1018,[(36,.int .i64)]),(2042,[(69,.int .i64)]),(260706,[(38,.int .i64)]),(260710,[(50,.int .i64)])]⟩
theorem dw.good:ai Tryz.prog 252 (WL (dw.L dw)):=.gu (ann:=dw.ann) mixed (.cons di.good (.cons eL.good (.cons bE.good .nil))) Tryz.func252 Tryz.call252 (by intro l;unfold dw.L;split;exact .inr (by intros;kernel_rfl);exact .inl rfl)
def fW(x0 x1:ByteArray)(x2:Int)(h:H)(Q:ByteArray->Int->H->Prop):Prop:=
eR x0 x1 h λb3 h4=>
(bif(!b3)then
Q empty 7 h4
else
dw x0 x1 x2 h4 λs5 h6=>
Q s5 0 h6)
def fW.L(F:type_of% fW):LT
 | [.string x0,.string x1,.int .u32 x2]=>λQ h=>F x0 x1 x2 h λs10 n11 h12=>Q (.tuple #[.string s10,.int .i64 n11]) h12
 | _=>λ_ _=>False
theorem fW.good:ai Tryz.prog 253 (WL (fW.L fW)):=.gu (ann:=lQ) mixed (.cons eR.good (.cons dw.good .nil)) Tryz.func253 Tryz.call253 (by intro l;unfold fW.L;split;exact .inr (by intros;kernel_rfl);exact .inl rfl)
def jo(x0 x1:ByteArray)(h:H)(Q:ByteArray->Int->H->Prop):Prop:=
(bif((ByteArray.size x0:Int) != 32)then
Q empty 7 h
else
(bif(decide ((ByteArray.size x1:Int)>65536))then
Q empty 5 h
else
M.qI x0 0 16 λs3=>
iP s3 h λs4 n5 h6=>
jU s4 0 h6 λn7 n8 n9 n10 n11 h12=>
M.new h12 (.cells #[.int .u64 0,.int .u64 0,.int .u64 0,.int .u64 0,.int .u64 0] 410) λb13 h14=>
M.req (Array.size (#[.int .u64 n7,.int .u64 n8,.int .u64 n9,.int .u64 n10,.int .u64 n11]:Array Value)=5) (M.ku h14 ⟨b13,0,none⟩ [.int .u64 n7,.int .u64 n8,.int .u64 n9,.int .u64 n10,.int .u64 n11] λh15=>
M.new h15 (.cells #[.int .u64 0,.int .u64 0,.int .u64 0,.int .u64 0,.int .u64 0] 410) λb16 h17=>
M.join (α:=Unit) (λd81 h82=>
cX (some ⟨b16,0,none⟩) h82 λh83=>
M.load h83 (Addr.add ⟨b16,0,none⟩ 0) λv84=>
M.int .u64 v84 λn85=>
M.load h83 (Addr.add ⟨b16,0,none⟩ 1) λv86=>
M.int .u64 v86 λn87=>
M.load h83 (Addr.add ⟨b16,0,none⟩ 2) λv88=>
M.int .u64 v88 λn89=>
M.load h83 (Addr.add ⟨b16,0,none⟩ 3) λv90=>
M.int .u64 v90 λn91=>
M.load h83 (Addr.add ⟨b16,0,none⟩ 4) λv92=>
M.int .u64 v92 λn93=>
M.qI x0 16 (ByteArray.size x0:Int) λs94=>
dG n85 n87 n89 n91 n93 s94 h83 λs95 h96=>
Q s95 0 h96) λJ18=>
M.loop (α:=ByteArray) (λJ19 d20 h21=>
(bif(decide ((ByteArray.size d20:Int)>0))then
M.new h21 (.cells (Array.replicate 17 ((.int .u8 0):Value)) 412) λb22 h23=>
M.sub (some ⟨b22,0,none⟩) 17 1 0 ((17:Nat):Int) λa24 l25 c26=>
M.qI d20 0 (mn (ByteArray.size d20:Int) 16) λs27=>
M.copy h23 a24 (bytesOf (ByteArray.extract s27 0 (min (ByteArray.size s27) l25))) λh28=>
M.fk 17 (mn (ByteArray.size d20:Int) 16) λj29=>
M.put h28 (Addr.add ⟨b22,0,none⟩ (j29*1)) (.int .u8 1) λh30=>
M.qI d20 (mn (ByteArray.size d20:Int) 16) (ByteArray.size d20:Int) λs31=>
M.join (α:=(Int×Int×Int×Int×Int)×Int) (λd55 h56=>
M.loop (α:=Int) (λJ57 d58 h59=>
(bif(decide (d58<5))then
M.fk 5 d58 λj60=>
M.at (#[.int .u64 d55.1.1,.int .u64 d55.1.2.1,.int .u64 d55.1.2.2.1,.int .u64 d55.1.2.2.2.1,.int .u64 d55.1.2.2.2.2]:Array Value) (j60*1) λv61=>
M.int .u64 v61 λn62=>
M.fk 5 d58 λj63=>
M.load h59 (Addr.add ⟨b16,0,none⟩ (j63*1)) λv64=>
M.int .u64 v64 λn65=>
M.val (wrap .u64 (n65+n62)) λz66=>
M.fk 5 d58 λj67=>
M.put h59 (Addr.add ⟨b16,0,none⟩ (j67*1)) (.int .u64 z66) λh68=>
M.val (wrap .i64 (d58+1)) λz69=>
J57 z69 h68
else
M.load h59 (Addr.add ⟨b13,0,none⟩ 0) λv70=>
M.int .u64 v70 λn71=>
M.load h59 (Addr.add ⟨b13,0,none⟩ 1) λv72=>
M.int .u64 v72 λn73=>
M.load h59 (Addr.add ⟨b13,0,none⟩ 2) λv74=>
M.int .u64 v74 λn75=>
M.load h59 (Addr.add ⟨b13,0,none⟩ 3) λv76=>
M.int .u64 v76 λn77=>
M.load h59 (Addr.add ⟨b13,0,none⟩ 4) λv78=>
M.int .u64 v78 λn79=>
cW (some ⟨b16,0,none⟩) n71 n73 n75 n77 n79 h59 λh80=>
J19 s31 h80)) d55.2 h56) λJ32=>
M.sub (some ⟨b22,0,none⟩) 17 1 0 16 λa33 l34 c35=>
M.fk 17 16 λj36=>
M.load h30 (Addr.add ⟨b22,0,none⟩ (j36*1)) λv37=>
M.int .u8 v37 λn38=>
(M.xX h30 a33 l34 λs39=>
M.still h30 (Addr.add ⟨b22,0,none⟩ (j36*1)) 1 h30 (
M.val (wrap .u64 n38) λz40=>
jU s39 z40 h30 λn41 n42 n43 n44 n45 h46=>
J32 ((n41,n42,n43,n44,n45),0) h46)) ∧
(M.val (wrap .u64 n38) λz47=>
M.xX h30 a33 l34 λs48=>
M.still h30 (Addr.add ⟨b22,0,none⟩ (j36*1)) 1 h30 (
jU s48 z47 h30 λn49 n50 n51 n52 n53 h54=>
J32 ((n49,n50,n51,n52,n53),0) h54))
else
J18 () h21)) x1 h17)))
def jo.L(F:type_of% jo):LT
 | [.string x0,.string x1]=>λQ h=>F x0 x1 h λs100 n101 h102=>Q (.tuple #[.string s100,.int .i64 n101]) h102
 | _=>λ_ _=>False
def jo.ann:jy:=⟨ah [(14,[(51,.agt [.int .u64,.int .u64,.int .u64,.int .u64,.int .u64]),(52,.int .i64)])],ah [(63,[])],ah [(252,[(1,.str)]),(516858,[(52,.int .i64)])]⟩
theorem jo.good:ai Tryz.prog 254 (WL (jo.L jo)):=.gu (ann:=jo.ann) mixed (.cons iP.good (.cons jU.good (.cons cW.good (.cons cX.good (.cons dG.good .nil))))) Tryz.func254 Tryz.call254 (by intro l;unfold jo.L;split;exact .inr (by intros;kernel_rfl);exact .inl rfl)
def bQ(x0:Option Addr)(h:H)(Q:ByteArray->H->Prop):Prop:=
bf x0 h λn2 h3=>
cj x0 n2 h3 λs4 h5=>
Q s4 h5
def bQ.L(F:type_of% bQ):LT
 | [.pointer x0]=>λQ h=>F x0 h λs8 h9=>Q (.string s8) h9
 | _=>λ_ _=>False
theorem bQ.good:ai Tryz.prog 259 (WL (bQ.L bQ)):=.gu (ann:=lQ) mixed (.cons bf.good (.cons cj.good .nil)) Tryz.func259 Tryz.call259 (by intro l;unfold bQ.L;split;exact .inr (by intros;kernel_rfl);exact .inl rfl)
def gp(x0_0 x0_1 x0_2 x0_3 x0_4 x0_5 x0_6 x0_7:Int)(x1:ByteArray)(h:H)(Q:Int->Int->Int->Int->Int->Int->Int->Int->H->Prop):Prop:=
M.new h (.cells #[.int .u32 x0_0,.int .u32 x0_1,.int .u32 x0_2,.int .u32 x0_3,.int .u32 x0_4,.int .u32 x0_5,.int .u32 x0_6,.int .u32 x0_7] 365) λb9 h10=>
M.new h10 (.cells #[.int .u32 0,.int .u32 0,.int .u32 0,.int .u32 0,.int .u32 0,.int .u32 0,.int .u32 0,.int .u32 0] 365) λb11 h12=>
gZ x1 true h12 λa13 l14 c15 n16 h17=>
M.join (α:=(Option Addr×Nat×Nat)) (λd57 h58=>
M.fk 8 0 λj59=>
M.load h58 (Addr.add ⟨b9,0,none⟩ (j59*1)) λv60=>
M.int .u32 v60 λn61=>
M.fk 8 1 λj62=>
M.load h58 (Addr.add ⟨b9,0,none⟩ (j62*1)) λv63=>
M.int .u32 v63 λn64=>
M.fk 8 2 λj65=>
M.load h58 (Addr.add ⟨b9,0,none⟩ (j65*1)) λv66=>
M.int .u32 v66 λn67=>
M.fk 8 3 λj68=>
M.load h58 (Addr.add ⟨b9,0,none⟩ (j68*1)) λv69=>
M.int .u32 v69 λn70=>
M.fk 8 4 λj71=>
M.load h58 (Addr.add ⟨b9,0,none⟩ (j71*1)) λv72=>
M.int .u32 v72 λn73=>
M.fk 8 5 λj74=>
M.load h58 (Addr.add ⟨b9,0,none⟩ (j74*1)) λv75=>
M.int .u32 v75 λn76=>
M.fk 8 6 λj77=>
M.load h58 (Addr.add ⟨b9,0,none⟩ (j77*1)) λv78=>
M.int .u32 v78 λn79=>
M.fk 8 7 λj80=>
M.load h58 (Addr.add ⟨b9,0,none⟩ (j80*1)) λv81=>
M.int .u32 v81 λn82=>
M.join (α:=Int×Int×Int×Int×Int×Int×Int×Int) (λd110 h111=>
M.fk 8 0 λj112=>
M.load h111 (Addr.add ⟨b9,0,none⟩ (j112*1)) λv113=>
M.int .u32 v113 λn114=>
M.val (wrap .u32 (n114+d110.1)) λz115=>
M.fk 8 1 λj116=>
M.load h111 (Addr.add ⟨b9,0,none⟩ (j116*1)) λv117=>
M.int .u32 v117 λn118=>
M.val (wrap .u32 (n118+d110.2.1)) λz119=>
M.fk 8 2 λj120=>
M.load h111 (Addr.add ⟨b9,0,none⟩ (j120*1)) λv121=>
M.int .u32 v121 λn122=>
M.val (wrap .u32 (n122+d110.2.2.1)) λz123=>
M.fk 8 3 λj124=>
M.load h111 (Addr.add ⟨b9,0,none⟩ (j124*1)) λv125=>
M.int .u32 v125 λn126=>
M.val (wrap .u32 (n126+d110.2.2.2.1)) λz127=>
M.fk 8 4 λj128=>
M.load h111 (Addr.add ⟨b9,0,none⟩ (j128*1)) λv129=>
M.int .u32 v129 λn130=>
M.val (wrap .u32 (n130+d110.2.2.2.2.1)) λz131=>
M.fk 8 5 λj132=>
M.load h111 (Addr.add ⟨b9,0,none⟩ (j132*1)) λv133=>
M.int .u32 v133 λn134=>
M.val (wrap .u32 (n134+d110.2.2.2.2.2.1)) λz135=>
M.fk 8 6 λj136=>
M.load h111 (Addr.add ⟨b9,0,none⟩ (j136*1)) λv137=>
M.int .u32 v137 λn138=>
M.val (wrap .u32 (n138+d110.2.2.2.2.2.2.1)) λz139=>
M.fk 8 7 λj140=>
M.load h111 (Addr.add ⟨b9,0,none⟩ (j140*1)) λv141=>
M.int .u32 v141 λn142=>
M.val (wrap .u32 (n142+d110.2.2.2.2.2.2.2)) λz143=>
M.req (Array.size (#[.int .u32 z115,.int .u32 z119,.int .u32 z123,.int .u32 z127,.int .u32 z131,.int .u32 z135,.int .u32 z139,.int .u32 z143]:Array Value)=8) (M.ku h111 ⟨b11,0,none⟩ [.int .u32 z115,.int .u32 z119,.int .u32 z123,.int .u32 z127,.int .u32 z131,.int .u32 z135,.int .u32 z139,.int .u32 z143] λh144=>
M.load h144 (Addr.add ⟨b11,0,none⟩ 0) λv145=>
M.int .u32 v145 λn146=>
M.load h144 (Addr.add ⟨b11,0,none⟩ 1) λv147=>
M.int .u32 v147 λn148=>
M.load h144 (Addr.add ⟨b11,0,none⟩ 2) λv149=>
M.int .u32 v149 λn150=>
M.load h144 (Addr.add ⟨b11,0,none⟩ 3) λv151=>
M.int .u32 v151 λn152=>
M.load h144 (Addr.add ⟨b11,0,none⟩ 4) λv153=>
M.int .u32 v153 λn154=>
M.load h144 (Addr.add ⟨b11,0,none⟩ 5) λv155=>
M.int .u32 v155 λn156=>
M.load h144 (Addr.add ⟨b11,0,none⟩ 6) λv157=>
M.int .u32 v157 λn158=>
M.load h144 (Addr.add ⟨b11,0,none⟩ 7) λv159=>
M.int .u32 v159 λn160=>
Q n146 n148 n150 n152 n154 n156 n158 n160 h144)) λJ83=>
M.loop (α:=Int×Int×Int×Int×Int×Int×Int×Int×Int) (λJ84 d85 h86=>
(bif(decide (d85.2.2.2.2.2.2.2.2<64))then
fX d85.2.2.2.2.1 6 11 25 h86 λn87 h88=>
fX d85.1 2 13 22 h88 λn89 h90=>
jg d85.2.2.2.2.1 d85.2.2.2.2.2.1 d85.2.2.2.2.2.2.1 h90 λn91 h92=>
jf d85.1 d85.2.1 d85.2.2.1 h92 λn93 h94=>
M.val (wrap .u32 (d85.2.2.2.2.2.2.2.1+n87)) λz95=>
M.val (wrap .u32 (z95+n91)) λz96=>
M.fk 64 d85.2.2.2.2.2.2.2.2 λj97=>
M.load h94 (Addr.add ⟨5,0,none⟩ (j97*1)) λv98=>
M.int .u32 v98 λn99=>
M.val (wrap .u32 (z96+n99)) λz100=>
M.idx d57.1 d57.2.1 d85.2.2.2.2.2.2.2.2 λa101 j102=>
M.load h94 (Addr.add a101 (j102*1)) λv103=>
M.int .u32 v103 λn104=>
M.val (wrap .u32 (z100+n104)) λz105=>
M.val (wrap .u32 (n89+n93)) λz106=>
M.val (wrap .u32 (d85.2.2.2.1+z105)) λz107=>
M.val (wrap .u32 (z105+z106)) λz108=>
M.val (wrap .i64 (d85.2.2.2.2.2.2.2.2+1)) λz109=>
J84 (z108,d85.1,d85.2.1,d85.2.2.1,z107,d85.2.2.2.2.1,d85.2.2.2.2.2.1,d85.2.2.2.2.2.2.1,z109) h94
else
J83 (d85.1,d85.2.1,d85.2.2.1,d85.2.2.2.1,d85.2.2.2.2.1,d85.2.2.2.2.2.1,d85.2.2.2.2.2.2.1,d85.2.2.2.2.2.2.2.1) h86)) (n61,n64,n67,n70,n73,n76,n79,n82,0) h58) λJ18=>
M.loop (α:=(Option Addr×Nat×Nat)×Int) (λJ19 d20 h21=>
(bif(decide (d20.2<64))then
M.val (wrap .i64 (d20.2-15)) λz22=>
M.idx d20.1.1 d20.1.2.1 z22 λa23 j24=>
M.load h21 (Addr.add a23 (j24*1)) λv25=>
M.int .u32 v25 λn26=>
gL n26 7 18 8 h21 λn27 h28=>
M.val (wrap .i64 (d20.2-2)) λz29=>
M.idx d20.1.1 d20.1.2.1 z29 λa30 j31=>
M.load h28 (Addr.add a30 (j31*1)) λv32=>
M.int .u32 v32 λn33=>
gL n33 17 19 1024 h28 λn34 h35=>
M.val (wrap .i64 (d20.2-7)) λz36=>
M.idx d20.1.1 d20.1.2.1 z36 λa37 j38=>
M.load h35 (Addr.add a37 (j38*1)) λv39=>
M.int .u32 v39 λn40=>
M.val (wrap .u32 (n34+n40)) λz41=>
M.val (wrap .u32 (z41+n27)) λz42=>
M.val (wrap .i64 (d20.2-16)) λz43=>
M.idx d20.1.1 d20.1.2.1 z43 λa44 j45=>
M.load h35 (Addr.add a44 (j45*1)) λv46=>
M.int .u32 v46 λn47=>
M.val (wrap .u32 (z42+n47)) λz48=>
M.new h35 (.cells #[.int .u32 z48] 230) λb49 h50=>
M.cellsOf h50 (some ⟨b49,0,none⟩) (1*1) λcs55=>
M.app h50 230 1 4 [.int .u32 0] d20.1.1 d20.1.2.1 d20.1.2.2 1 cs55 λa51 l52 c53 h54=>
M.val (wrap .i64 (d20.2+1)) λz56=>
J19 ((a51,l52,c53),z56) h54
else
J18 (d20.1.1,d20.1.2.1,d20.1.2.2) h21)) ((a13,l14,c15),16) h17
def gp.L(F:type_of% gp):LT
 | [.agg ⟨[.int .u32 x0_0,.int .u32 x0_1,.int .u32 x0_2,.int .u32 x0_3,.int .u32 x0_4,.int .u32 x0_5,.int .u32 x0_6,.int .u32 x0_7]⟩,.string x1]=>λQ h=>F x0_0 x0_1 x0_2 x0_3 x0_4 x0_5 x0_6 x0_7 x1 h λn170 n171 n172 n173 n174 n175 n176 n177 h178=>Q (.agg (#[.int .u32 n170,.int .u32 n171,.int .u32 n172,.int .u32 n173,.int .u32 n174,.int .u32 n175,.int .u32 n176,.int .u32 n177]:Array Value)) h178
 | _=>λ_ _=>False
def gp.ann:jy:=⟨ah [],ah [(7,[(5,.slc)]),(4095,[(10,.int .u32),(11,.int .u32),(12,.int .u32),(13,.int .u32),(14,.int .u32),(15,.int .u32),(16,.int .u32),(17,.int .u32)])],ah [(58,[(5,.slc),(7,.int .i64)]),(32762,[(10,.int .u32),(11,.int .u32),(12,.int .u32),(13,.int .u32),(14,.int .u32),(15,.int .u32),(16,.int .u32),(17,.int .u32),(18,.int .i64)])]⟩
theorem gp.good:ai Tryz.prog 263 (WL (gp.L gp)):=.gu (ann:=gp.ann) mixed (.cons gZ.good (.cons gL.good (.cons fX.good (.cons jg.good (.cons jf.good .nil))))) Tryz.func263 Tryz.call263 (by intro l;unfold gp.L;split;exact .inr (by intros;kernel_rfl);exact .inl rfl)
def fe(x0:ByteArray)(h:H)(Q:Array Value->H->Prop):Prop:=
M.new h (.cells (Array.replicate 64 ((.int .u32 0):Value)) 402) λb2 h3=>
M.new h3 (.cells (Array.replicate 64 ((.int .u32 0):Value)) 402) λb4 h5=>
gW x0 h5 λa6 l7 c8 n9 h10=>
M.sub (some ⟨b4,0,none⟩) 64 1 0 ((64:Nat):Int) λa11 l12 c13=>
M.cellsOf h10 a6 ((min l7 l12)*1) λcs15=>
M.copy h10 a11 cs15 λh14=>
M.loop (α:=Int) (λJ16 d17 h18=>
(bif(decide (d17<64))then
M.val (wrap .i64 (d17-15)) λz19=>
M.fk 64 z19 λj20=>
M.load h18 (Addr.add ⟨b4,0,none⟩ (j20*1)) λv21=>
M.int .u32 v21 λn22=>
M.val (wrap .i64 (d17-2)) λz23=>
M.fk 64 z23 λj24=>
M.load h18 (Addr.add ⟨b4,0,none⟩ (j24*1)) λv25=>
M.int .u32 v25 λn26=>
fl n22 7 h18 λn27 h28=>
fl n22 18 h28 λn29 h30=>
M.val (mZ .u32 n27 n29) λz31=>
M.jZ 3 (
M.val (shr .u32 n22 3) λz32=>
M.val (mZ .u32 z31 z32) λz33=>
fl n26 17 h30 λn34 h35=>
fl n26 19 h35 λn36 h37=>
M.val (mZ .u32 n34 n36) λz38=>
M.jZ 10 (
M.val (shr .u32 n26 10) λz39=>
M.val (mZ .u32 z38 z39) λz40=>
M.val (wrap .i64 (d17-16)) λz41=>
M.fk 64 z41 λj42=>
M.load h37 (Addr.add ⟨b4,0,none⟩ (j42*1)) λv43=>
M.int .u32 v43 λn44=>
M.val (wrap .u32 (n44+z33)) λz45=>
M.val (wrap .i64 (d17-7)) λz46=>
M.fk 64 z46 λj47=>
M.load h37 (Addr.add ⟨b4,0,none⟩ (j47*1)) λv48=>
M.int .u32 v48 λn49=>
M.val (wrap .u32 (z45+n49)) λz50=>
M.val (wrap .u32 (z50+z40)) λz51=>
M.fk 64 d17 λj52=>
M.put h37 (Addr.add ⟨b4,0,none⟩ (j52*1)) (.int .u32 z51) λh53=>
M.val (wrap .i64 (d17+1)) λz54=>
J16 z54 h53))
else
M.row h18 ⟨b4,0,none⟩ 64 λcs55=>
M.req (Array.size (List.toArray cs55)=64) (M.ku h18 ⟨b2,0,none⟩ (Array.toList (List.toArray cs55)) λh56=>
M.row h56 ⟨b2,0,none⟩ 64 λcs57=>
Q (List.toArray cs57) h56))) 16 h14
def fe.L(F:type_of% fe):LT
 | [.string x0]=>λQ h=>F x0 h λcs60 h61=>Q (.agg cs60) h61
 | _=>λ_ _=>False
def fe.ann:jy:=⟨ah [],ah [],ah [(250,[(6,.int .i64)])]⟩
theorem fe.good:ai Tryz.prog 278 (WL (fe.L fe)):=.gu (ann:=fe.ann) mixed (.cons gW.good (.cons fl.good .nil)) Tryz.func278 Tryz.call278 (by intro l;unfold fe.L;split;exact .inr (by intros;kernel_rfl);exact .inl rfl)
def cm(x0_0 x0_1 x0_2:Int)(x0_3:Bool)(x1 x2:Int)(h:H)(Q:Int->Int->H->Prop):Prop:=
M.new h (.cells #[.int .i64 x0_0,.int .i64 x0_1,.int .i64 x0_2,.bool x0_3] 59) λb3 h4=>
M.load h4 (Addr.add ⟨b3,0,none⟩ 0) λv5=>
M.int .i64 v5 λn6=>
M.load h4 (Addr.add ⟨b3,0,none⟩ 1) λv7=>
M.int .i64 v7 λn8=>
M.load h4 (Addr.add ⟨b3,0,none⟩ 2) λv9=>
M.int .i64 v9 λn10=>
M.load h4 (Addr.add ⟨b3,0,none⟩ 3) λv11=>
M.bool v11 λb12=>
aD n6 n8 n10 b12 h4 λb13 h14=>
(bif(!b13)then
Q 0 4 h14
else
M.load h14 (Addr.add ⟨b3,0,none⟩ 0) λv15=>
M.int .i64 v15 λn16=>
M.load h14 (Addr.add ⟨b3,0,none⟩ 1) λv17=>
M.int .i64 v17 λn18=>
M.load h14 (Addr.add ⟨b3,0,none⟩ 2) λv19=>
M.int .i64 v19 λn20=>
M.load h14 (Addr.add ⟨b3,0,none⟩ 3) λv21=>
M.bool v21 λb22=>
aZ n16 n18 n20 b22 x1 h14 λn23 h24=>
M.join (α:=Bool) (λd27 h28=>
(bif d27 then
Q 0 2 h28
else
M.val (wrap .i64 (x2+x1)) λz29=>
M.val (wrap .i64 (n23+2)) λz30=>
M.nz z30 (
M.val (Int.tmod z29 z30) λz31=>
Q z31 0 h28))) λJ25=>
(bif(n23 == 0)then
J25 true h24
else
(bif(decide (x2<0))then
J25 true h24
else
M.val (wrap .i64 (n23+2)) λz26=>
J25 (decide (x2≥z26)) h24)))
def cm.L(F:type_of% cm):LT
 | [.agg ⟨[.int .i64 x0_0,.int .i64 x0_1,.int .i64 x0_2,.bool x0_3]⟩,.int .i64 x1,.int .i64 x2]=>λQ h=>F x0_0 x0_1 x0_2 x0_3 x1 x2 h λn35 n36 h37=>Q (.tuple #[.int .i64 n35,.int .i64 n36]) h37
 | _=>λ_ _=>False
def cm.ann:jy:=⟨ah [(4,[(26,.bool)])],ah [],ah []⟩
theorem cm.good:ai Tryz.prog 40 (WL (cm.L cm)):=.gu (ann:=cm.ann) mixed (.cons aD.good (.cons aZ.good .nil)) Tryz.func40 Tryz.call40 (by intro l;unfold cm.L;split;exact .inr (by intros;kernel_rfl);exact .inl rfl)
def cn(x0 x1:Option Addr)(h:H)(Q:Int->H->Prop):Prop:=
M.nn x1 λa2=>
M.load h (Addr.add (Addr.add a2 0) 8) λv3=>
M.slc v3 λa4 l5 c6=>
M.loop (α:=Int) (λJ7 d8 h9=>
(bif(decide (d8<(l5:Int)))then
M.nn x1 λa10=>
M.load h9 (Addr.add a10 9) λv11=>
M.map v11 λm12=>
M.Nz Tryz.prog 143 (.map m12) (.int .i64 d8) h9 λv13 b15 h14=>
M.slc v13 λa16 l17 c18=>
(bif b15 then
M.nn x0 λa19=>
M.D6 h14 (Addr.add a19 0) λp21 p23 s25=>
M.nn x1 λa26=>
M.load h14 (Addr.add (Addr.add a26 0) 3) λv27=>
M.int .i64 v27 λn28=>
az p21 p23 s25 d8 n28 h14 λp29 n30 n31 s32 h33=>
bB p29 n30 n31 s32 a16 l17 c18 h33 λn34 h35=>
(bif(n34 == 21)then
Q n34 h35
else
M.val (wrap .i64 (d8+1)) λz36=>
J7 z36 h35)
else
M.val (wrap .i64 (d8+1)) λz37=>
J7 z37 h14)
else
Q 0 h9)) 0 h
def cn.L(F:type_of% cn):LT
 | [.pointer x0,.pointer x1]=>λQ h=>F x0 x1 h λn40 h41=>Q (.int .i64 n40) h41
 | _=>λ_ _=>False
def cn.ann:jy:=⟨ah [],ah [],ah [(26,[(15,.int .i64)])]⟩
theorem cn.good:ai Tryz.prog 65 (WL (cn.L cn)):=.gu (ann:=cn.ann) mixed (.cons az.good (.cons bB.good .nil)) Tryz.func65 Tryz.call65 (by intro l;unfold cn.L;split;exact .inr (by intros;kernel_rfl);exact .inl rfl)
def fm(x0:ByteArray)(h:H)(Q:Int->Int->H->Prop):Prop:=
gE x0 h λp3 h4=>
aB p3 96 h4 λn5 h6=>
bu p3 h6 λn7 h8=>
(bif(n7 != 0)then
Q 0 4 h8
else
M.val (wrap .i64 (n5+1)) λz9=>
Q z9 0 h8)
def fm.L(F:type_of% fm):LT
 | [.string x0]=>λQ h=>F x0 h λn13 n14 h15=>Q (.tuple #[.int .i64 n13,.int .i64 n14]) h15
 | _=>λ_ _=>False
theorem fm.good:ai Tryz.prog 182 (WL (fm.L fm)):=.gu (ann:=lQ) mixed (.cons gE.good (.cons aB.good (.cons bu.good .nil))) Tryz.func182 Tryz.call182 (by intro l;unfold fm.L;split;exact .inr (by intros;kernel_rfl);exact .inl rfl)
def dL(x0 x1:ByteArray)(x2:Int)(x3:ByteArray)(h:H)(Q:ByteArray->Int->H->Prop):Prop:=
eR x0 x1 h λb3 h4=>
(bif(!b3)then
Q empty 7 h4
else
(bif(decide ((ByteArray.size x3:Int)>65536))then
Q empty 5 h4
else
M.mk h4 5 [.int .u8 0] 1 0 (ByteArray.size x3:Int) λa5 l6 c7 h8=>
M.join (α:=(Option Addr×Nat×Nat)) (λd24 h25=>
M.xX h25 d24.1 d24.2.1 λs26=>
Q s26 0 h25) λJ9=>
M.loop (α:=Int×ByteArray×(Option Addr×Nat×Nat)) (λJ10 d11 h12=>
(bif(decide ((ByteArray.size d11.2.1:Int)>0))then
M.qI d11.2.1 0 (mn (ByteArray.size d11.2.1:Int) 64) λs13=>
dw x0 x1 d11.1 h12 λs14 h15=>
jj s13 s14 h15 λs16 h17=>
M.app h17 5 1 1 [.int .u8 0] d11.2.2.1 d11.2.2.2.1 d11.2.2.2.2 (ByteArray.size s16) (bytesOf s16) λa18 l19 c20 h21=>
M.qI d11.2.1 (mn (ByteArray.size d11.2.1:Int) 64) (ByteArray.size d11.2.1:Int) λs22=>
M.val (wrap .u32 (d11.1+1)) λz23=>
J10 (z23,s22,(a18,l19,c20)) h21
else
J9 (d11.2.2.1,d11.2.2.2.1,d11.2.2.2.2) h12)) (x2,x3,(a5,l6,c7)) h8))
def dL.L(F:type_of% dL):LT
 | [.string x0,.string x1,.int .u32 x2,.string x3]=>λQ h=>F x0 x1 x2 x3 h λs30 n31 h32=>Q (.tuple #[.string s30,.int .i64 n31]) h32
 | _=>λ_ _=>False
def dL.ann:jy:=⟨ah [],ah [(15,[(10,.slc)])],ah [(60,[(2,.int .u32),(3,.str),(10,.slc)])]⟩
theorem dL.good:ai Tryz.prog 188 (WL (dL.L dL)):=.gu (ann:=dL.ann) mixed (.cons eR.good (.cons dw.good (.cons jj.good .nil))) Tryz.func188 Tryz.call188 (by intro l;unfold dL.L;split;exact .inr (by intros;kernel_rfl);exact .inl rfl)
def iu(x0 x1 x2 x3:ByteArray)(h:H)(Q:ByteArray->H->Prop):Prop:=
fW x0 x1 0 h λs2 n3 h4=>
M.join (α:=ByteArray) (λd44 h45=>
Q d44 h45) λJ5=>
M.qI s2 0 32 λs6=>
(jG x2 h4 λs7 h8=>
(jG x3 h8 λs9 h10=>
M.cat s7 s9 λs11=>
M.new h10 (.cells #[.string x2,.string x3] 9) λb12 h13=>
fh (some ⟨b12,0,none⟩) 2 2 h13 λs14 h15=>
M.cat s11 s14 λs16=>
jo s6 s16 h15 λs17 n18 h19=>
J5 s17 h19) ∧
(M.new h8 (.cells #[.string x2,.string x3] 9) λb20 h21=>
jG x3 h21 λs22 h23=>
M.cat s7 s22 λs24=>
fh (some ⟨b20,0,none⟩) 2 2 h23 λs25 h26=>
M.cat s24 s25 λs27=>
jo s6 s27 h26 λs28 n29 h30=>
J5 s28 h30)) ∧
(M.new h4 (.cells #[.string x2,.string x3] 9) λb31 h32=>
jG x2 h32 λs33 h34=>
jG x3 h34 λs35 h36=>
M.cat s33 s35 λs37=>
fh (some ⟨b31,0,none⟩) 2 2 h36 λs38 h39=>
M.cat s37 s38 λs40=>
jo s6 s40 h39 λs41 n42 h43=>
J5 s41 h43)
def iu.L(F:type_of% iu):LT
 | [.string x0,.string x1,.string x2,.string x3]=>λQ h=>F x0 x1 x2 x3 h λs48 h49=>Q (.string s48) h49
 | _=>λ_ _=>False
def iu.ann:jy:=⟨ah [(2,[(11,.str)])],ah [],ah []⟩
theorem iu.good:ai Tryz.prog 189 (WL (iu.L iu)):=.gu (ann:=iu.ann) mixed (.cons fW.good (.cons jG.good (.cons fh.good (.cons jo.good .nil)))) Tryz.func189 Tryz.call189 (by intro l;unfold iu.L;split;exact .inr (by intros;kernel_rfl);exact .inl rfl)
def fO(x0:Option Addr)(h:H)(Q:Int->ByteArray->ByteArray->H->Prop):Prop:=
M.new h (.cells #[.int .i64 0,.string empty,.string empty] 51) λb4 h5=>
aB x0 4 h5 λn6 h7=>
bQ x0 h7 λs8 h9=>
bQ x0 h9 λs10 h11=>
M.nN 3 h11 ⟨b4,0,none⟩ [.int .i64 n6,.string s8,.string s10] (λh12=>
M.load h12 (Addr.add ⟨b4,0,none⟩ 0) λv13=>
M.int .i64 v13 λn14=>
M.load h12 (Addr.add ⟨b4,0,none⟩ 1) λv15=>
M.str v15 λs16=>
M.load h12 (Addr.add ⟨b4,0,none⟩ 2) λv17=>
M.str v17 λs18=>
Q n14 s16 s18 h12)
def fO.L(F:type_of% fO):LT
 | [.pointer x0]=>λQ h=>F x0 h λn23 s24 s25 h26=>Q (.agg (#[.int .i64 n23,.string s24,.string s25]:Array Value)) h26
 | _=>λ_ _=>False
theorem fO.good:ai Tryz.prog 196 (WL (fO.L fO)):=.gu (ann:=lQ) mixed (.cons aB.good (.cons bQ.good .nil)) Tryz.func196 Tryz.call196 (by intro l;unfold fO.L;split;exact .inr (by intros;kernel_rfl);exact .inl rfl)
def iE(x0:ByteArray)(h:H)(Q:ByteArray->H->Prop):Prop:=
fD x0 h λs2 h3=>
M.load h3 (Addr.add ⟨2,0,none⟩ 0) λv4=>
M.int .u32 v4 λn5=>
M.load h3 (Addr.add ⟨2,0,none⟩ 1) λv6=>
M.int .u32 v6 λn7=>
M.load h3 (Addr.add ⟨2,0,none⟩ 2) λv8=>
M.int .u32 v8 λn9=>
M.load h3 (Addr.add ⟨2,0,none⟩ 3) λv10=>
M.int .u32 v10 λn11=>
M.load h3 (Addr.add ⟨2,0,none⟩ 4) λv12=>
M.int .u32 v12 λn13=>
M.load h3 (Addr.add ⟨2,0,none⟩ 5) λv14=>
M.int .u32 v14 λn15=>
M.load h3 (Addr.add ⟨2,0,none⟩ 6) λv16=>
M.int .u32 v16 λn17=>
M.load h3 (Addr.add ⟨2,0,none⟩ 7) λv18=>
M.int .u32 v18 λn19=>
M.new h3 (.cells #[.int .u32 0,.int .u32 0,.int .u32 0,.int .u32 0,.int .u32 0,.int .u32 0,.int .u32 0,.int .u32 0] 365) λb20 h21=>
M.req (Array.size (#[.int .u32 n5,.int .u32 n7,.int .u32 n9,.int .u32 n11,.int .u32 n13,.int .u32 n15,.int .u32 n17,.int .u32 n19]:Array Value)=8) (M.ku h21 ⟨b20,0,none⟩ [.int .u32 n5,.int .u32 n7,.int .u32 n9,.int .u32 n11,.int .u32 n13,.int .u32 n15,.int .u32 n17,.int .u32 n19] λh22=>
M.join (α:=Unit) (λd56 h57=>
M.join (α:=(Option Addr×Nat×Nat)) (λd73 h74=>
gw d73.1 d73.2.1 d73.2.2 true h74 λs75 h76=>
Q s75 h76) λJ58=>
M.loop (α:=(Option Addr×Nat×Nat)×Int) (λJ59 d60 h61=>
(bif(decide (d60.2<8))then
M.fk 8 d60.2 λj62=>
M.load h61 (Addr.add ⟨b20,0,none⟩ (j62*1)) λv63=>
M.int .u32 v63 λn64=>
M.new h61 (.cells #[.int .u32 n64] 230) λb65 h66=>
M.cellsOf h66 (some ⟨b65,0,none⟩) (1*1) λcs71=>
M.app h66 230 1 4 [.int .u32 0] d60.1.1 d60.1.2.1 d60.1.2.2 1 cs71 λa67 l68 c69 h70=>
M.val (wrap .i64 (d60.2+1)) λz72=>
J59 ((a67,l68,c69),z72) h70
else
J58 (d60.1.1,d60.1.2.1,d60.1.2.2) h61)) ((none,0,0),0) h57) λJ23=>
M.loop (α:=Int) (λJ24 d25 h26=>
(bif(decide (d25<(ByteArray.size s2:Int)))then
M.load h26 (Addr.add ⟨b20,0,none⟩ 0) λv27=>
M.int .u32 v27 λn28=>
M.load h26 (Addr.add ⟨b20,0,none⟩ 1) λv29=>
M.int .u32 v29 λn30=>
M.load h26 (Addr.add ⟨b20,0,none⟩ 2) λv31=>
M.int .u32 v31 λn32=>
M.load h26 (Addr.add ⟨b20,0,none⟩ 3) λv33=>
M.int .u32 v33 λn34=>
M.load h26 (Addr.add ⟨b20,0,none⟩ 4) λv35=>
M.int .u32 v35 λn36=>
M.load h26 (Addr.add ⟨b20,0,none⟩ 5) λv37=>
M.int .u32 v37 λn38=>
M.load h26 (Addr.add ⟨b20,0,none⟩ 6) λv39=>
M.int .u32 v39 λn40=>
M.load h26 (Addr.add ⟨b20,0,none⟩ 7) λv41=>
M.int .u32 v41 λn42=>
M.val (wrap .i64 (d25+64)) λz43=>
M.qI s2 d25 z43 λs44=>
gp n28 n30 n32 n34 n36 n38 n40 n42 s44 h26 λn45 n46 n47 n48 n49 n50 n51 n52 h53=>
M.req (Array.size (#[.int .u32 n45,.int .u32 n46,.int .u32 n47,.int .u32 n48,.int .u32 n49,.int .u32 n50,.int .u32 n51,.int .u32 n52]:Array Value)=8) (M.ku h53 ⟨b20,0,none⟩ [.int .u32 n45,.int .u32 n46,.int .u32 n47,.int .u32 n48,.int .u32 n49,.int .u32 n50,.int .u32 n51,.int .u32 n52] λh54=>
M.val (wrap .i64 (d25+64)) λz55=>
J24 z55 h54)
else
J23 () h26)) 0 h22)
def iE.L(F:type_of% iE):LT
 | [.string x0]=>λQ h=>F x0 h λs79 h80=>Q (.string s79) h80
 | _=>λ_ _=>False
def iE.ann:jy:=⟨ah [],ah [(15,[]),(63,[(6,.slc)])],ah [(122,[(5,.int .i64)]),(506,[(6,.slc),(7,.int .i64)])]⟩
theorem iE.good:ai Tryz.prog 215 (WL (iE.L iE)):=.gu (ann:=iE.ann) mixed (.cons fD.good (.cons gp.good (.cons gw.good .nil))) Tryz.func215 Tryz.call215 (by intro l;unfold iE.L;split;exact .inr (by intros;kernel_rfl);exact .inl rfl)
def eu(x0:Option Addr)(x1:ByteArray)(h:H)(Q:H->Prop):Prop:=
M.join (α:=Addr×Addr) (λd61 h62=>
M.join (α:=Unit) (λd149 h150=>
M.load h150 (d61.2.add 0) λv151=>
M.int .u32 v151 λn152=>
M.load h150 (d61.2.add 1) λv153=>
M.int .u32 v153 λn154=>
M.load h150 (d61.2.add 2) λv155=>
M.int .u32 v155 λn156=>
M.load h150 (d61.2.add 3) λv157=>
M.int .u32 v157 λn158=>
M.load h150 (d61.2.add 4) λv159=>
M.int .u32 v159 λn160=>
M.load h150 (d61.2.add 5) λv161=>
M.int .u32 v161 λn162=>
M.load h150 (d61.2.add 6) λv163=>
M.int .u32 v163 λn164=>
M.load h150 (d61.2.add 7) λv165=>
M.int .u32 v165 λn166=>
M.loop (α:=Int) (λJ167 d168 h169=>
(bif(decide (d168<8))then
M.fk 8 d168 λj170=>
M.at (#[.int .u32 n152,.int .u32 n154,.int .u32 n156,.int .u32 n158,.int .u32 n160,.int .u32 n162,.int .u32 n164,.int .u32 n166]:Array Value) (j170*1) λv171=>
M.int .u32 v171 λn172=>
M.nn x0 λa173=>
M.fk 8 d168 λj174=>
M.load h169 (Addr.add (Addr.add a173 0) (j174*1)) λv175=>
M.int .u32 v175 λn176=>
M.val (wrap .u32 (n176+n172)) λz177=>
M.nn x0 λa178=>
M.fk 8 d168 λj179=>
M.put h169 (Addr.add (Addr.add a178 0) (j179*1)) (.int .u32 z177) λh180=>
M.val (wrap .i64 (d168+1)) λz181=>
J167 z181 h180
else
Q h169)) 0 h150) λJ63=>
M.row h62 ⟨3,0,none⟩ 64 λcs64=>
M.loop (α:=Int) (λJ65 d66 h67=>
(bif(decide (d66<64))then
M.fk 64 d66 λj68=>
M.at (List.toArray cs64) (j68*1) λv69=>
M.int .u32 v69 λn70=>
M.fk 8 0 λj71=>
M.load h67 (Addr.add d61.2 (j71*1)) λv72=>
M.int .u32 v72 λn73=>
M.fk 8 4 λj74=>
M.load h67 (Addr.add d61.2 (j74*1)) λv75=>
M.int .u32 v75 λn76=>
fl n76 6 h67 λn77 h78=>
fl n76 11 h78 λn79 h80=>
M.val (mZ .u32 n77 n79) λz81=>
fl n76 25 h80 λn82 h83=>
M.val (mZ .u32 z81 n82) λz84=>
fl n73 2 h83 λn85 h86=>
fl n73 13 h86 λn87 h88=>
M.val (mZ .u32 n85 n87) λz89=>
fl n73 22 h88 λn90 h91=>
M.val (mZ .u32 z89 n90) λz92=>
M.fk 8 7 λj93=>
M.load h91 (Addr.add d61.2 (j93*1)) λv94=>
M.int .u32 v94 λn95=>
M.val (wrap .u32 (n95+z84)) λz96=>
M.fk 8 5 λj97=>
M.load h91 (Addr.add d61.2 (j97*1)) λv98=>
M.int .u32 v98 λn99=>
M.val (lS .u32 n76 n99) λz100=>
M.val (NA .u32 n76) λz101=>
M.fk 8 6 λj102=>
M.load h91 (Addr.add d61.2 (j102*1)) λv103=>
M.int .u32 v103 λn104=>
M.val (lS .u32 z101 n104) λz105=>
M.val (mZ .u32 z100 z105) λz106=>
M.val (wrap .u32 (z96+z106)) λz107=>
M.val (wrap .u32 (z107+n70)) λz108=>
M.fk 64 d66 λj109=>
M.load h91 (Addr.add d61.1 (j109*1)) λv110=>
M.int .u32 v110 λn111=>
M.val (wrap .u32 (z108+n111)) λz112=>
M.fk 8 1 λj113=>
M.load h91 (Addr.add d61.2 (j113*1)) λv114=>
M.int .u32 v114 λn115=>
M.val (lS .u32 n73 n115) λz116=>
M.fk 8 2 λj117=>
M.load h91 (Addr.add d61.2 (j117*1)) λv118=>
M.int .u32 v118 λn119=>
M.val (lS .u32 n73 n119) λz120=>
M.val (mZ .u32 z116 z120) λz121=>
M.fk 8 1 λj122=>
M.load h91 (Addr.add d61.2 (j122*1)) λv123=>
M.int .u32 v123 λn124=>
M.fk 8 2 λj125=>
M.load h91 (Addr.add d61.2 (j125*1)) λv126=>
M.int .u32 v126 λn127=>
M.val (lS .u32 n124 n127) λz128=>
M.val (mZ .u32 z121 z128) λz129=>
M.val (wrap .u32 (z92+z129)) λz130=>
M.sub (some d61.2) 8 1 1 ((8:Nat):Int) λa131 l132 c133=>
M.sub (some d61.2) 8 1 0 7 λa134 l135 c136=>
M.cellsOf h91 a134 ((min l135 l132)*1) λcs138=>
M.copy h91 a131 cs138 λh137=>
M.val (wrap .u32 (z112+z130)) λz139=>
M.fk 8 4 λj140=>
M.load h137 (Addr.add d61.2 (j140*1)) λv141=>
M.int .u32 v141 λn142=>
M.val (wrap .u32 (n142+z112)) λz143=>
M.fk 8 0 λj144=>
M.put h137 (Addr.add d61.2 (j144*1)) (.int .u32 z139) λh145=>
M.fk 8 4 λj146=>
M.put h145 (Addr.add d61.2 (j146*1)) (.int .u32 z143) λh147=>
M.val (wrap .i64 (d66+1)) λz148=>
J65 z148 h147
else
J63 () h67)) 0 h62) λJ1=>
M.nn x0 λa2=>
M.load h ((Addr.add a2 0).add 0) λv3=>
M.int .u32 v3 λn4=>
M.load h ((Addr.add a2 0).add 1) λv5=>
M.int .u32 v5 λn6=>
M.load h ((Addr.add a2 0).add 2) λv7=>
M.int .u32 v7 λn8=>
M.load h ((Addr.add a2 0).add 3) λv9=>
M.int .u32 v9 λn10=>
M.load h ((Addr.add a2 0).add 4) λv11=>
M.int .u32 v11 λn12=>
M.load h ((Addr.add a2 0).add 5) λv13=>
M.int .u32 v13 λn14=>
M.load h ((Addr.add a2 0).add 6) λv15=>
M.int .u32 v15 λn16=>
M.load h ((Addr.add a2 0).add 7) λv17=>
M.int .u32 v17 λn18=>
(fe x1 h λcs19 h20=>
M.still h (Addr.add a2 0) 8 h20 (
(M.new h20 (.cells (Array.replicate 64 ((.int .u32 0):Value)) 402) λb21 h22=>
M.still h (Addr.add a2 0) 8 h22 (
M.new h22 (.cells #[.int .u32 0,.int .u32 0,.int .u32 0,.int .u32 0,.int .u32 0,.int .u32 0,.int .u32 0,.int .u32 0] 365) λb23 h24=>
M.still h (Addr.add a2 0) 8 h24 (
M.req (Array.size cs19=64) (M.ku h24 ⟨b21,0,none⟩ (Array.toList cs19) λh25=>
M.still h (Addr.add a2 0) 8 h25 (
M.req (Array.size (#[.int .u32 n4,.int .u32 n6,.int .u32 n8,.int .u32 n10,.int .u32 n12,.int .u32 n14,.int .u32 n16,.int .u32 n18]:Array Value)=8) (M.ku h25 ⟨b23,0,none⟩ [.int .u32 n4,.int .u32 n6,.int .u32 n8,.int .u32 n10,.int .u32 n12,.int .u32 n14,.int .u32 n16,.int .u32 n18] λh26=>
J1 (⟨b21,0,none⟩,⟨b23,0,none⟩) h26)))))) ∧
(M.new h20 (.cells #[.int .u32 0,.int .u32 0,.int .u32 0,.int .u32 0,.int .u32 0,.int .u32 0,.int .u32 0,.int .u32 0] 365) λb27 h28=>
M.still h (Addr.add a2 0) 8 h28 (
M.new h28 (.cells (Array.replicate 64 ((.int .u32 0):Value)) 402) λb29 h30=>
M.still h (Addr.add a2 0) 8 h30 (
M.req (Array.size cs19=64) (M.ku h30 ⟨b29,0,none⟩ (Array.toList cs19) λh31=>
M.still h (Addr.add a2 0) 8 h31 (
M.req (Array.size (#[.int .u32 n4,.int .u32 n6,.int .u32 n8,.int .u32 n10,.int .u32 n12,.int .u32 n14,.int .u32 n16,.int .u32 n18]:Array Value)=8) (M.ku h31 ⟨b27,0,none⟩ [.int .u32 n4,.int .u32 n6,.int .u32 n8,.int .u32 n10,.int .u32 n12,.int .u32 n14,.int .u32 n16,.int .u32 n18] λh32=>
J1 (⟨b29,0,none⟩,⟨b27,0,none⟩) h32)))))))) ∧
(M.new h (.cells (Array.replicate 64 ((.int .u32 0):Value)) 402) λb33 h34=>
M.still h (Addr.add a2 0) 8 h34 (
(fe x1 h34 λcs35 h36=>
M.still h (Addr.add a2 0) 8 h36 (
M.new h36 (.cells #[.int .u32 0,.int .u32 0,.int .u32 0,.int .u32 0,.int .u32 0,.int .u32 0,.int .u32 0,.int .u32 0] 365) λb37 h38=>
M.still h (Addr.add a2 0) 8 h38 (
M.req (Array.size cs35=64) (M.ku h38 ⟨b33,0,none⟩ (Array.toList cs35) λh39=>
M.still h (Addr.add a2 0) 8 h39 (
M.req (Array.size (#[.int .u32 n4,.int .u32 n6,.int .u32 n8,.int .u32 n10,.int .u32 n12,.int .u32 n14,.int .u32 n16,.int .u32 n18]:Array Value)=8) (M.ku h39 ⟨b37,0,none⟩ [.int .u32 n4,.int .u32 n6,.int .u32 n8,.int .u32 n10,.int .u32 n12,.int .u32 n14,.int .u32 n16,.int .u32 n18] λh40=>
J1 (⟨b33,0,none⟩,⟨b37,0,none⟩) h40)))))) ∧
(M.new h34 (.cells #[.int .u32 0,.int .u32 0,.int .u32 0,.int .u32 0,.int .u32 0,.int .u32 0,.int .u32 0,.int .u32 0] 365) λb41 h42=>
M.still h (Addr.add a2 0) 8 h42 (
fe x1 h42 λcs43 h44=>
M.still h (Addr.add a2 0) 8 h44 (
M.req (Array.size cs43=64) (M.ku h44 ⟨b33,0,none⟩ (Array.toList cs43) λh45=>
M.still h (Addr.add a2 0) 8 h45 (
M.req (Array.size (#[.int .u32 n4,.int .u32 n6,.int .u32 n8,.int .u32 n10,.int .u32 n12,.int .u32 n14,.int .u32 n16,.int .u32 n18]:Array Value)=8) (M.ku h45 ⟨b41,0,none⟩ [.int .u32 n4,.int .u32 n6,.int .u32 n8,.int .u32 n10,.int .u32 n12,.int .u32 n14,.int .u32 n16,.int .u32 n18] λh46=>
J1 (⟨b33,0,none⟩,⟨b41,0,none⟩) h46)))))))) ∧
(M.new h (.cells #[.int .u32 0,.int .u32 0,.int .u32 0,.int .u32 0,.int .u32 0,.int .u32 0,.int .u32 0,.int .u32 0] 365) λb47 h48=>
M.still h (Addr.add a2 0) 8 h48 (
(fe x1 h48 λcs49 h50=>
M.still h (Addr.add a2 0) 8 h50 (
M.new h50 (.cells (Array.replicate 64 ((.int .u32 0):Value)) 402) λb51 h52=>
M.still h (Addr.add a2 0) 8 h52 (
M.req (Array.size cs49=64) (M.ku h52 ⟨b51,0,none⟩ (Array.toList cs49) λh53=>
M.still h (Addr.add a2 0) 8 h53 (
M.req (Array.size (#[.int .u32 n4,.int .u32 n6,.int .u32 n8,.int .u32 n10,.int .u32 n12,.int .u32 n14,.int .u32 n16,.int .u32 n18]:Array Value)=8) (M.ku h53 ⟨b47,0,none⟩ [.int .u32 n4,.int .u32 n6,.int .u32 n8,.int .u32 n10,.int .u32 n12,.int .u32 n14,.int .u32 n16,.int .u32 n18] λh54=>
J1 (⟨b51,0,none⟩,⟨b47,0,none⟩) h54)))))) ∧
(M.new h48 (.cells (Array.replicate 64 ((.int .u32 0):Value)) 402) λb55 h56=>
M.still h (Addr.add a2 0) 8 h56 (
fe x1 h56 λcs57 h58=>
M.still h (Addr.add a2 0) 8 h58 (
M.req (Array.size cs57=64) (M.ku h58 ⟨b55,0,none⟩ (Array.toList cs57) λh59=>
M.still h (Addr.add a2 0) 8 h59 (
M.req (Array.size (#[.int .u32 n4,.int .u32 n6,.int .u32 n8,.int .u32 n10,.int .u32 n12,.int .u32 n14,.int .u32 n16,.int .u32 n18]:Array Value)=8) (M.ku h59 ⟨b47,0,none⟩ [.int .u32 n4,.int .u32 n6,.int .u32 n8,.int .u32 n10,.int .u32 n12,.int .u32 n14,.int .u32 n16,.int .u32 n18] λh60=>
J1 (⟨b55,0,none⟩,⟨b47,0,none⟩) h60))))))))
def eu.L(F:type_of% eu):LT
 | [.pointer x0,.string x1]=>λQ h=>F x0 x1 h λh183=>Q (.tuple #[]) h183
 | _=>λ_ _=>False
def eu.ann:jy:=⟨ah [(0,[(4,.adr),(5,.adr)])],ah [(3,[])],ah [(26,[(23,.int .i64)]),(30,[(99,.int .i64)])]⟩
theorem eu.good:ai Tryz.prog 243 (WL (eu.L eu)):=.gu (ann:=eu.ann) mixed (.cons fe.good (.cons fl.good .nil)) Tryz.func243 Tryz.call243 (by intro l;unfold eu.L;split;exact .inr (by intros;kernel_rfl);exact .inl rfl)
def au(x0:Option Addr)(x0L x0C:Nat)(x1_0:Addr)(h:H)(Q:Int->H->Prop):Prop:=
M.loop (α:=Int) (λJ2 d3 h4=>
(bif(decide (d3<(x0L:Int)))then
M.idx x0 x0L d3 λa5 j6=>
M.load h4 (Addr.add a5 (j6*1)) λv7=>
M.int .i64 v7 λn8=>
aW n8 x1_0 h4 λb9 h10=>
(bif b9 then
Q d3 h10
else
M.val (wrap .i64 (d3+1)) λz11=>
J2 z11 h10)
else
Q (-1) h4)) 0 h
def au.L(F:type_of% au):LT
 | [.slice x0 x0L x0C,.func (.func 133) ⟨[]⟩ ⟨[.pointer (some x1_0)]⟩]=>λQ h=>F x0 x0L x0C x1_0 h λn14 h15=>Q (.int .i64 n14) h15
 | _=>λ_ _=>False
def au.ann:jy:=⟨ah [],ah [],ah [(26,[(8,.int .i64)])]⟩
theorem au.good:ai Tryz.prog 203 (WL (au.L au)):=.gu (ann:=au.ann) mixed (.cons aW.good .nil) Tryz.func203 Tryz.call203 (by intro l;unfold au.L;split;exact .inr (by intros;kernel_rfl);exact .inl rfl)
def aH(x0:Option Addr)(x1:Int)(h:H)(Q:Option Addr->Nat->Nat->H->Prop):Prop:=
bC x0 h λn4 n5 n6 b7 h8=>
M.new h8 (.cells #[.int .i64 0,.int .i64 0,.int .i64 0,.bool false] 59) λb9 h10=>
M.nN 4 h10 ⟨b9,0,none⟩ [.int .i64 n4,.int .i64 n5,.int .i64 n6,.bool b7] (λh11=>
M.load h11 (Addr.add ⟨b9,0,none⟩ 0) λv12=>
M.int .i64 v12 λn13=>
M.load h11 (Addr.add ⟨b9,0,none⟩ 1) λv14=>
M.int .i64 v14 λn15=>
M.load h11 (Addr.add ⟨b9,0,none⟩ 2) λv16=>
M.int .i64 v16 λn17=>
M.load h11 (Addr.add ⟨b9,0,none⟩ 3) λv18=>
M.bool v18 λb19=>
aZ n13 n15 n17 b19 x1 h11 λn20 h21=>
(bif(n20 == 0)then
Q none 0 0 h21
else
M.val (wrap .i64 (n20+2)) λz22=>
M.loop (α:=(Option Addr×Nat×Nat)×Int) (λJ23 d24 h25=>
(bif(decide (d24.2<z22))then
M.load h25 (Addr.add ⟨b9,0,none⟩ 0) λv26=>
M.int .i64 v26 λn27=>
M.load h25 (Addr.add ⟨b9,0,none⟩ 1) λv28=>
M.int .i64 v28 λn29=>
M.load h25 (Addr.add ⟨b9,0,none⟩ 2) λv30=>
M.int .i64 v30 λn31=>
M.load h25 (Addr.add ⟨b9,0,none⟩ 3) λv32=>
M.bool v32 λb33=>
cm n27 n29 n31 b33 x1 d24.2 h25 λn34 n35 h36=>
M.nn x0 λa37=>
M.load h36 (Addr.add (Addr.add a37 3) 7) λv38=>
M.slc v38 λa39 l40 c41=>
M.idx a39 l40 n34 λa42 j43=>
M.load h36 (Addr.add a42 (j43*1)) λv44=>
M.int .i64 v44 λn45=>
M.nn x0 λa46=>
M.load h36 (Addr.add (Addr.add a46 3) 8) λv47=>
M.slc v47 λa48 l49 c50=>
M.idx a48 l49 n45 λa51 j52=>
M.load h36 ((Addr.add a51 (j52*3)).add 0) λv53=>
M.int .i64 v53 λn54=>
M.load h36 ((Addr.add a51 (j52*3)).add 1) λv55=>
M.str v55 λs56=>
M.load h36 ((Addr.add a51 (j52*3)).add 2) λv57=>
M.str v57 λs58=>
M.new h36 (.cells #[.int .i64 0,.string empty,.string empty] 51) λb59 h60=>
M.nN 3 h60 ⟨b59,0,none⟩ [.int .i64 n54,.string s56,.string s58] (λh61=>
M.join (α:=Bool) (λd70 h71=>
M.nn x0 λa72=>
M.D6 h71 (Addr.add a72 0) λp74 p76 s78=>
M.nn x0 λa79=>
M.load h71 (Addr.add (Addr.add a79 3) 3) λv80=>
M.int .i64 v80 λn81=>
M.load h71 (Addr.add ⟨b59,0,none⟩ 1) λv82=>
M.str v82 λs83=>
az p74 p76 s78 n45 n81 h71 λp84 n85 n86 s87 h88=>
M.still h71 (Addr.add ⟨b59,0,none⟩ 1) 1 h88 (
M.new h88 (.cells #[.pointer p84,.int .i64 n85,.int .i64 n86,.string s87,.string s83,.bool d70] 136) λb89 h90=>
M.cellsOf h90 (some ⟨b89,0,none⟩) (1*6) λcs95=>
M.app h90 136 6 64 [.pointer none,.int .i64 0,.int .i64 0,.string empty,.string empty,.bool false] d24.1.1 d24.1.2.1 d24.1.2.2 1 cs95 λa91 l92 c93 h94=>
M.val (wrap .i64 (d24.2+1)) λz96=>
J23 ((a91,l92,c93),z96) h94)) λJ62=>
M.load h61 (Addr.add ⟨b59,0,none⟩ 0) λv63=>
M.int .i64 v63 λn64=>
(bif(n64 == 1)then
J62 true h61
else
M.load h61 (Addr.add ⟨b59,0,none⟩ 0) λv65=>
M.int .i64 v65 λn66=>
(bif(n66 == 3)then
M.nn x0 λa67=>
M.load h61 (Addr.add (Addr.add a67 3) 5) λv68=>
M.int .i64 v68 λn69=>
J62 (decide (x1<n69)) h61
else
J62 false h61)))
else
Q d24.1.1 d24.1.2.1 d24.1.2.2 h25)) ((none,0,0),0) h21))
def aH.L(F:type_of% aH):LT
 | [.pointer x0,.int .i64 x1]=>λQ h=>F x0 x1 h λa101 l102 c103 h104=>Q (.slice a101 l102 c103) h104
 | _=>λ_ _=>False
def aH.ann:jy:=⟨ah [(12,[(13,.bool)])],ah [],ah [(506,[(7,.slc),(23,.int .i64)])]⟩
theorem aH.good:ai Tryz.prog 14 (WL (aH.L aH)):=.gu (ann:=aH.ann) mixed (.cons bC.good (.cons aZ.good (.cons cm.good (.cons az.good .nil)))) Tryz.func14 Tryz.call14 (by intro l;unfold aH.L;split;exact .inr (by intros;kernel_rfl);exact .inl rfl)
def bG(a1 a2:Addr)(h:H)(Q:Int->H->Prop):Prop:=
M.load h a2 λv4=>
M.ptr v4 λp5=>
M.load h a1 λv6=>
M.ptr v6 λp7=>
M.nn p7 λa8=>
M.kC h (Addr.add a8 0) λn10 n12 n14 n16 n18 n20 b22 a24 l25 c26 a28 l29 c30=>
M.nn p5 λa31=>
M.nN 9 h (Addr.add a31 3) [.int .u64 n10,.int .u64 n12,.int .i64 n14,.int .i64 n16,.int .i64 n18,.int .i64 n20,.bool b22,.slice a24 l25 c26,.slice a28 l29 c30] (λh32=>
M.load h32 a2 λv33=>
M.ptr v33 λp34=>
M.load h32 a1 λv35=>
M.ptr v35 λp36=>
cn p34 p36 h32 λn37 h38=>
Q n37 h38)
def bG.L(F:type_of% bG):LT
 | [.pointer (some a1),.pointer (some a2)]=>λQ h=>F a1 a2 h λn41 h42=>Q (.int .i64 n41) h42
 | _=>λ_ _=>False
theorem bG.good:ai Tryz.prog 64 (WL (bG.L bG)):=.gu (ann:=lQ) mixed (.cons cn.good .nil) Tryz.func64 Tryz.call64 (by intro l;unfold bG.L;split;exact .inr (by intros;kernel_rfl);exact .inl rfl)
def iL(x0 x1 x2 x3:ByteArray)(h:H)(Q:ByteArray->Int->H->Prop):Prop:=
gA x0 x1 h λb3 h4=>
(bif(!b3)then
Q empty 7 h4
else
M.join (α:=Bool) (λd6 h7=>
(bif d6 then
Q empty 5 h7
else
dL x0 x1 1 x3 h7 λs8 n9 h10=>
iu x0 x1 x2 s8 h10 λs11 h12=>
M.cat s8 s11 λs13=>
Q s13 0 h12)) λJ5=>
(bif(decide ((ByteArray.size x2:Int)>16384))then
J5 true h4
else
J5 (decide ((ByteArray.size x3:Int)>16384)) h4))
def iL.L(F:type_of% iL):LT
 | [.string x0,.string x1,.string x2,.string x3]=>λQ h=>F x0 x1 x2 x3 h λs17 n18 h19=>Q (.tuple #[.string s17,.int .i64 n18]) h19
 | _=>λ_ _=>False
def iL.ann:jy:=⟨ah [(3,[(17,.bool)])],ah [],ah []⟩
theorem iL.good:ai Tryz.prog 113 (WL (iL.L iL)):=.gu (ann:=iL.ann) mixed (.cons gA.good (.cons dL.good (.cons iu.good .nil))) Tryz.func113 Tryz.call113 (by intro l;unfold iL.L;split;exact .inr (by intros;kernel_rfl);exact .inl rfl)
def iH(x0:ByteArray)(h:H)(Q:Int->Int->Int->Int->Int->Int->Bool->Option Addr->Nat->Nat->Option Addr->Nat->Nat->Int->H->Prop):Prop:=
M.new h (.cells #[.int .u64 0,.int .u64 0,.int .i64 0,.int .i64 0,.int .i64 0,.int .i64 0,.bool false,.slice none 0 0,.slice none 0 0] 40) λb15 h16=>
gE x0 h16 λp17 h18=>
M.new h18 (.cells #[.int .u64 0,.int .u64 0,.int .i64 0,.int .i64 0,.int .i64 0,.int .i64 0,.bool false,.slice none 0 0,.slice none 0 0] 40) λb19 h20=>
bf p17 h20 λn21 h22=>
M.put h22 (Addr.add ⟨b19,0,none⟩ 0) (.int .u64 n21) λh23=>
bf p17 h23 λn24 h25=>
M.put h25 (Addr.add ⟨b19,0,none⟩ 1) (.int .u64 n24) λh26=>
M.join (α:=Unit) (λd39 h40=>
aB p17 2 h40 λn41 h42=>
M.put h42 (Addr.add ⟨b19,0,none⟩ 6) (.bool (n41 == 1)) λh43=>
M.join (α:=Unit) (λd65 h66=>
M.join (α:=Unit) (λd90 h91=>
M.join (α:=Bool) (λd119 h120=>
(bif d119 then
M.nN 9 h120 ⟨b15,0,none⟩ [.int .u64 0,.int .u64 0,.int .i64 0,.int .i64 0,.int .i64 0,.int .i64 0,.bool false,.slice none 0 0,.slice none 0 0] (λh121=>
M.kC h121 ⟨b15,0,none⟩ λn123 n125 n127 n129 n131 n133 b135 a137 l138 c139 a141 l142 c143=>
Q n123 n125 n127 n129 n131 n133 b135 a137 l138 c139 a141 l142 c143 4 h121)
else
M.kC h120 ⟨b19,0,none⟩ λn145 n147 n149 n151 n153 n155 b157 a159 l160 c161 a163 l164 c165=>
M.nN 9 h120 ⟨b15,0,none⟩ [.int .u64 n145,.int .u64 n147,.int .i64 n149,.int .i64 n151,.int .i64 n153,.int .i64 n155,.bool b157,.slice a159 l160 c161,.slice a163 l164 c165] (λh166=>
M.kC h166 ⟨b15,0,none⟩ λn168 n170 n172 n174 n176 n178 b180 a182 l183 c184 a186 l187 c188=>
Q n168 n170 n172 n174 n176 n178 b180 a182 l183 c184 a186 l187 c188 0 h166))) λJ92=>
bu p17 h91 λn93 h94=>
(bif(n93 != 0)then
J92 true h94
else
M.kC h94 ⟨b19,0,none⟩ λn96 n98 n100 n102 n104 n106 b108 a110 l111 c112 a114 l115 c116=>
aL n96 n98 n100 n102 n104 n106 b108 a110 l111 c112 a114 l115 c116 h94 λb117 h118=>
J92 (!b117) h118)) λJ67=>
aB p17 13 h66 λn68 h69=>
M.loop (α:=Int) (λJ70 d71 h72=>
(bif(decide (d71<n68))then
M.load h72 (Addr.add ⟨b19,0,none⟩ 8) λv73=>
M.slc v73 λa74 l75 c76=>
fO p17 h72 λn77 s78 s79 h80=>
M.still h72 (Addr.add ⟨b19,0,none⟩ 8) 1 h80 (
M.new h80 (.cells #[.int .i64 n77,.string s78,.string s79] 51) λb81 h82=>
M.still h72 (Addr.add ⟨b19,0,none⟩ 8) 1 h82 (
M.cellsOf h82 (some ⟨b81,0,none⟩) (1*3) λcs87=>
M.app h82 51 3 40 [.int .i64 0,.string empty,.string empty] a74 l75 c76 1 cs87 λa83 l84 c85 h86=>
M.put h86 (Addr.add ⟨b19,0,none⟩ 8) (.slice a83 l84 c85) λh88=>
M.val (wrap .i64 (d71+1)) λz89=>
J70 z89 h88))
else
J67 () h72)) 0 h69) λJ44=>
aB p17 13 h43 λn45 h46=>
M.loop (α:=Int) (λJ47 d48 h49=>
(bif(decide (d48<n45))then
M.load h49 (Addr.add ⟨b19,0,none⟩ 7) λv50=>
M.slc v50 λa51 l52 c53=>
aB p17 12 h49 λn54 h55=>
M.still h49 (Addr.add ⟨b19,0,none⟩ 7) 1 h55 (
M.new h55 (.cells #[.int .i64 n54] 3) λb56 h57=>
M.still h49 (Addr.add ⟨b19,0,none⟩ 7) 1 h57 (
M.cellsOf h57 (some ⟨b56,0,none⟩) (1*1) λcs62=>
M.app h57 3 1 8 [.int .i64 0] a51 l52 c53 1 cs62 λa58 l59 c60 h61=>
M.put h61 (Addr.add ⟨b19,0,none⟩ 7) (.slice a58 l59 c60) λh63=>
M.val (wrap .i64 (d48+1)) λz64=>
J47 z64 h63))
else
J44 () h49)) 0 h46) λJ27=>
M.loop (α:=Int) (λJ28 d29 h30=>
(bif(decide (d29<4))then
M.fk 4 d29 λj31=>
M.at (#[(.pointer (some (Addr.add ⟨b19,0,none⟩ 2))),(.pointer (some (Addr.add ⟨b19,0,none⟩ 3))),(.pointer (some (Addr.add ⟨b19,0,none⟩ 4))),(.pointer (some (Addr.add ⟨b19,0,none⟩ 5)))]:Array Value) (j31*1) λv32=>
M.ptr v32 λp33=>
aB p17 17 h30 λn34 h35=>
M.nn p33 λa36=>
M.put h35 a36 (.int .i64 n34) λh37=>
M.val (wrap .i64 (d29+1)) λz38=>
J28 z38 h37
else
J27 () h30)) 0 h26
def iH.L(F:type_of% iH):LT
 | [.string x0]=>λQ h=>F x0 h λn204 n205 n206 n207 n208 n209 b210 a211 l212 c213 a214 l215 c216 n217 h218=>Q (.tuple #[(.agg (#[.int .u64 n204,.int .u64 n205,.int .i64 n206,.int .i64 n207,.int .i64 n208,.int .i64 n209,.bool b210,.slice a211 l212 c213,.slice a214 l215 c216]:Array Value)),.int .i64 n217]) h218
 | _=>λ_ _=>False
def iH.ann:jy:=⟨ah [(19,[(64,.bool)])],ah [(63,[]),(255,[]),(511,[])],ah [(506,[(21,.int .i64)]),(2042,[(35,.int .i64)]),(4090,[(47,.int .i64)])]⟩
theorem iH.good:ai Tryz.prog 118 (WL (iH.L iH)):=.gu (ann:=iH.ann) mixed (.cons gE.good (.cons bf.good (.cons aB.good (.cons fO.good (.cons bu.good (.cons aL.good .nil)))))) Tryz.func118 Tryz.call118 (by intro l;unfold iH.L;split;exact .inr (by intros;kernel_rfl);exact .inl rfl)
def iG(x0 x1 x2 x3:ByteArray)(h:H)(Q:ByteArray->Int->H->Prop):Prop:=
M.val (wrap .i64 ((ByteArray.size x3:Int)-16)) λz3=>
gA x0 x1 h λb4 h5=>
(bif(!b4)then
Q empty 7 h5
else
(bif(decide (z3<0))then
Q empty 3 h5
else
M.join (α:=Bool) (λd7 h8=>
(bif d7 then
Q empty 5 h8
else
M.qI x3 z3 (ByteArray.size x3:Int) λs9=>
M.qI x3 0 z3 λs10=>
iu x0 x1 x2 s10 h8 λs11 h12=>
iQ s9 s11 h12 λb13 h14=>
(bif(!b13)then
Q empty 23 h14
else
M.qI x3 0 z3 λs15=>
dL x0 x1 1 s15 h14 λs16 n17 h18=>
Q s16 n17 h18))) λJ6=>
(bif(decide ((ByteArray.size x2:Int)>16384))then
J6 true h5
else
J6 (decide (z3>16384)) h5)))
def iG.L(F:type_of% iG):LT
 | [.string x0,.string x1,.string x2,.string x3]=>λQ h=>F x0 x1 x2 x3 h λs22 n23 h24=>Q (.tuple #[.string s22,.int .i64 n23]) h24
 | _=>λ_ _=>False
def iG.ann:jy:=⟨ah [(6,[(22,.bool)])],ah [],ah []⟩
theorem iG.good:ai Tryz.prog 128 (WL (iG.L iG)):=.gu (ann:=iG.ann) mixed (.cons gA.good (.cons iu.good (.cons iQ.good (.cons dL.good .nil)))) Tryz.func128 Tryz.call128 (by intro l;unfold iG.L;split;exact .inr (by intros;kernel_rfl);exact .inl rfl)
def dJ(x0:Int)(x1:ByteArray)(h:H)(Q:ByteArray->H->Prop):Prop:=
M.new h (.cells #[.int .u8 x0] 5) λb2 h3=>
M.xX h3 (some ⟨b2,0,none⟩) 1 λs4=>
M.cat s4 x1 λs5=>
iE s5 h3 λs6 h7=>
Q s6 h7
def dJ.L(F:type_of% dJ):LT
 | [.int .u8 x0,.string x1]=>λQ h=>F x0 x1 h λs10 h11=>Q (.string s10) h11
 | _=>λ_ _=>False
theorem dJ.good:ai Tryz.prog 151 (WL (dJ.L dJ)):=.gu (ann:=lQ) mixed (.cons iE.good .nil) Tryz.func151 Tryz.call151 (by intro l;unfold dJ.L;split;exact .inr (by intros;kernel_rfl);exact .inl rfl)
def eo(x0:ByteArray)(h:H)(Q:ByteArray->H->Prop):Prop:=
dJ 2 x0 h λs2 h3=>
Q s2 h3
def eo.L(F:type_of% eo):LT
 | [.string x0]=>λQ h=>F x0 h λs6 h7=>Q (.string s6) h7
 | _=>λ_ _=>False
theorem eo.good:ai Tryz.prog 156 (WL (eo.L eo)):=.gu (ann:=lQ) mixed (.cons dJ.good .nil) Tryz.func156 Tryz.call156 (by intro l;unfold eo.L;split;exact .inr (by intros;kernel_rfl);exact .inl rfl)
def cN(x0:Option Addr)(x1:ByteArray)(h:H)(Q:H->Prop):Prop:=
(bif(Option.isNone x0)then
Q h
else
M.nn x0 λa1=>
M.load h (Addr.add a1 9) λv2=>
M.int .i64 v2 λn3=>
M.val (wrap .i64 (n3+(ByteArray.size x1:Int))) λz4=>
M.nn x0 λa5=>
M.put h (Addr.add a5 9) (.int .i64 z4) λh6=>
M.nn x0 λa7=>
M.load h6 (Addr.add a7 8) λv8=>
M.str v8 λs9=>
M.cat s9 x1 λs10=>
M.join (α:=ByteArray) (λd18 h19=>
M.nn x0 λa20=>
M.put h19 (Addr.add a20 8) (.string d18) λh21=>
Q h21) λJ11=>
M.loop (α:=ByteArray) (λJ12 d13 h14=>
(bif(decide ((ByteArray.size d13:Int)≥64))then
M.qI d13 0 64 λs15=>
eu x0 s15 h14 λh16=>
M.qI d13 64 (ByteArray.size d13:Int) λs17=>
J12 s17 h16
else
J11 d13 h14)) s10 h6)
def cN.L(F:type_of% cN):LT
 | [.pointer x0,.string x1]=>λQ h=>F x0 x1 h λh23=>Q (.tuple #[]) h23
 | _=>λ_ _=>False
def cN.ann:jy:=⟨ah [],ah [(15,[(1,.str)])],ah [(60,[(1,.str)])]⟩
theorem cN.good:ai Tryz.prog 180 (WL (cN.L cN)):=.gu (ann:=cN.ann) mixed (.cons eu.good .nil) Tryz.func180 Tryz.call180 (by intro l;unfold cN.L;split;exact .inr (by intros;kernel_rfl);exact .inl rfl)
end Go.Proofs.YtmfcgihgdhfalaaGreatDoor

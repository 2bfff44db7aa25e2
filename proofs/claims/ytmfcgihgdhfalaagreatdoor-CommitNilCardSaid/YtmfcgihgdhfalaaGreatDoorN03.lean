/- The shallow forms of the functions of this seat, printed by a program of mine, each checked by the kernel against the given code. -/
import Derived.Test.YtmfcgihgdhfalaaGreatDoorN02
open ByteArray(empty)
open Go.IntKind(wrap)
set_option linter.unusedSimpArgs false
set_option linter.unusedVariables false
namespace Go.Proofs.YtmfcgihgdhfalaaGreatDoor
open Go.Sh
def cz(x0:Option Addr)(h:H)(Q:H->Prop):Prop:=
M.join (α:=Int) (λd27 h28=>
M.nn x0 λa29=>
M.fk 5 0 λj30=>
M.load h28 (Addr.add a29 (j30*1)) λv31=>
M.int .u64 v31 λn32=>
M.val (wrap .u64 (d27*5)) λz33=>
M.val (wrap .u64 (n32+z33)) λz34=>
M.nn x0 λa35=>
M.fk 5 0 λj36=>
M.put h28 (Addr.add a35 (j36*1)) (.int .u64 z34) λh37=>
M.nn x0 λa38=>
M.fk 5 1 λj39=>
M.load h37 (Addr.add a38 (j39*1)) λv40=>
M.int .u64 v40 λn41=>
M.nn x0 λa42=>
M.fk 5 0 λj43=>
M.load h37 (Addr.add a42 (j43*1)) λv44=>
M.int .u64 v44 λn45=>
M.jZ 26 (
M.val (shr .u64 n45 26) λz46=>
M.val (wrap .u64 (n41+z46)) λz47=>
M.nn x0 λa48=>
M.fk 5 1 λj49=>
M.put h37 (Addr.add a48 (j49*1)) (.int .u64 z47) λh50=>
M.nn x0 λa51=>
M.fk 5 0 λj52=>
M.load h50 (Addr.add a51 (j52*1)) λv53=>
M.int .u64 v53 λn54=>
M.val (lS .u64 n54 67108863) λz55=>
M.nn x0 λa56=>
M.fk 5 0 λj57=>
M.put h50 (Addr.add a56 (j57*1)) (.int .u64 z55) λh58=>
Q h58)) λJ1=>
M.loop (α:=Int×Int) (λJ2 d3 h4=>
(bif(decide (d3.2<5))then
M.nn x0 λa5=>
M.fk 5 d3.2 λj6=>
M.load h4 (Addr.add a5 (j6*1)) λv7=>
M.int .u64 v7 λn8=>
M.val (wrap .u64 (n8+d3.1)) λz9=>
M.nn x0 λa10=>
M.fk 5 d3.2 λj11=>
M.put h4 (Addr.add a10 (j11*1)) (.int .u64 z9) λh12=>
M.nn x0 λa13=>
M.fk 5 d3.2 λj14=>
M.load h12 (Addr.add a13 (j14*1)) λv15=>
M.int .u64 v15 λn16=>
M.jZ 26 (
M.val (shr .u64 n16 26) λz17=>
M.nn x0 λa18=>
M.fk 5 d3.2 λj19=>
M.load h12 (Addr.add a18 (j19*1)) λv20=>
M.int .u64 v20 λn21=>
M.val (lS .u64 n21 67108863) λz22=>
M.nn x0 λa23=>
M.fk 5 d3.2 λj24=>
M.put h12 (Addr.add a23 (j24*1)) (.int .u64 z22) λh25=>
M.val (wrap .i64 (d3.2+1)) λz26=>
J2 (z17,z26) h25)
else
J1 d3.1 h4)) (0,0) h
def cz.L(F:type_of% cz):LT
 | [.pointer x0]=>λQ h=>F x0 h λh60=>Q (.tuple #[]) h60
 | _=>λ_ _=>False
def cz.ann:jy:=⟨ah [],ah [(3,[(2,.int .u64)])],ah [(26,[(2,.int .u64),(4,.int .i64)])]⟩
theorem cz.geq:∀l,gj (fT Tryz.prog (ay []) Tryz.f320 cz.ann) l (cz.L cz l):=by
 intro l;unfold cz.L;split;exact .inr (by intros;kernel_rfl);exact .inl rfl
theorem cz.good:ai Tryz.prog 320 (WL (cz.L cz)):=.gu mixed .nil Tryz.func320 Tryz.call320 (cz.geq)
def fG(x0 x1:Int)(h:H)(Q:Int->H->Prop):Prop:=
M.nz 32 (
M.val (Int.tmod x1 32) λz2=>
M.join (α:=Int) (λd5 h6=>
M.loop (α:=Int×Int) (λJ7 d8 h9=>
(bif(decide (d8.2<d5))then
M.nz 2 (
M.val (Int.tmod d8.1 2) λz10=>
M.nz 2 (
M.val (wrap .u32 (Int.tdiv d8.1 2)) λz11=>
M.val (wrap .u32 (z10*2147483648)) λz12=>
M.val (wrap .u32 (z11+z12)) λz13=>
M.val (wrap .i64 (d8.2+1)) λz14=>
J7 (z13,z14) h9))
else
Q d8.1 h9)) (x0,0) h6) λJ3=>
(bif(decide (z2<0))then
M.val (wrap .i64 (z2+32)) λz4=>
J3 z4 h
else
J3 z2 h))
def fG.L(F:type_of% fG):LT
 | [.int .u32 x0,.int .i64 x1]=>λQ h=>F x0 x1 h λn17 h18=>Q (.int .u32 n17) h18
 | _=>λ_ _=>False
def fG.ann:jy:=⟨ah [],ah [(7,[(5,.int .i64)])],ah [(122,[(0,.int .u32),(6,.int .i64)])]⟩
theorem fG.geq:∀l,gj (fT Tryz.prog (ay []) Tryz.f321 fG.ann) l (fG.L fG l):=by
 intro l;unfold fG.L;split;exact .inr (by intros;kernel_rfl);exact .inl rfl
theorem fG.good:ai Tryz.prog 321 (WL (fG.L fG)):=.gu mixed .nil Tryz.func321 Tryz.call321 (fG.geq)
def aV(x0:ByteArray)(h:H)(Q:Option Addr->Nat->Nat->Int->H->Prop):Prop:=
M.nz 4 (
M.val (Int.tmod (ByteArray.size x0:Int) 4) λz5=>
(bif(z5 != 0)then
Q none 0 0 7 h
else
M.nz 4 (
M.val (wrap .i64 (Int.tdiv (ByteArray.size x0:Int) 4)) λz6=>
M.mk h 230 [.int .u32 0] 4 z6 z6 λa7 l8 c9 h10=>
M.join (α:=Unit) (λd214 h215=>
Q a7 l8 c9 0 h215) λJ11=>
M.loop (α:=Int) (λJ12 d13 h14=>
(bif(decide (d13<(l8:Int)))then
M.join (α:=Unit) (λd211 h212=>
M.val (wrap .i64 (d13+1)) λz213=>
J12 z213 h212) λJ15=>
M.val (wrap .i64 (4*d13)) λz16=>
M.byte x0 z16 λn17=>
M.val (wrap .i64 (4*d13)) λz18=>
M.val (wrap .i64 (z18+1)) λz19=>
M.byte x0 z19 λn20=>
M.val (wrap .i64 (4*d13)) λz21=>
M.val (wrap .i64 (z21+2)) λz22=>
M.byte x0 z22 λn23=>
M.val (wrap .i64 (4*d13)) λz24=>
M.val (wrap .i64 (z24+3)) λz25=>
M.byte x0 z25 λn26=>
(M.val (wrap .u32 n17) λz27=>
(M.val (wrap .u32 n20) λz28=>
(M.val (wrap .u32 n23) λz29=>
M.val (wrap .u32 n26) λz30=>
iB z27 z28 z29 z30 h14 λn31 h32=>
M.idx a7 l8 d13 λa33 j34=>
M.put h32 (Addr.add a33 (j34*1)) (.int .u32 n31) λh35=>
J15 () h35) ∧
(M.val (wrap .u32 n26) λz36=>
M.val (wrap .u32 n23) λz37=>
iB z27 z28 z37 z36 h14 λn38 h39=>
M.idx a7 l8 d13 λa40 j41=>
M.put h39 (Addr.add a40 (j41*1)) (.int .u32 n38) λh42=>
J15 () h42)) ∧
(M.val (wrap .u32 n23) λz43=>
(M.val (wrap .u32 n20) λz44=>
M.val (wrap .u32 n26) λz45=>
iB z27 z44 z43 z45 h14 λn46 h47=>
M.idx a7 l8 d13 λa48 j49=>
M.put h47 (Addr.add a48 (j49*1)) (.int .u32 n46) λh50=>
J15 () h50) ∧
(M.val (wrap .u32 n26) λz51=>
M.val (wrap .u32 n20) λz52=>
iB z27 z52 z43 z51 h14 λn53 h54=>
M.idx a7 l8 d13 λa55 j56=>
M.put h54 (Addr.add a55 (j56*1)) (.int .u32 n53) λh57=>
J15 () h57)) ∧
(M.val (wrap .u32 n26) λz58=>
(M.val (wrap .u32 n20) λz59=>
M.val (wrap .u32 n23) λz60=>
iB z27 z59 z60 z58 h14 λn61 h62=>
M.idx a7 l8 d13 λa63 j64=>
M.put h62 (Addr.add a63 (j64*1)) (.int .u32 n61) λh65=>
J15 () h65) ∧
(M.val (wrap .u32 n23) λz66=>
M.val (wrap .u32 n20) λz67=>
iB z27 z67 z66 z58 h14 λn68 h69=>
M.idx a7 l8 d13 λa70 j71=>
M.put h69 (Addr.add a70 (j71*1)) (.int .u32 n68) λh72=>
J15 () h72))) ∧
(M.val (wrap .u32 n20) λz73=>
(M.val (wrap .u32 n17) λz74=>
(M.val (wrap .u32 n23) λz75=>
M.val (wrap .u32 n26) λz76=>
iB z74 z73 z75 z76 h14 λn77 h78=>
M.idx a7 l8 d13 λa79 j80=>
M.put h78 (Addr.add a79 (j80*1)) (.int .u32 n77) λh81=>
J15 () h81) ∧
(M.val (wrap .u32 n26) λz82=>
M.val (wrap .u32 n23) λz83=>
iB z74 z73 z83 z82 h14 λn84 h85=>
M.idx a7 l8 d13 λa86 j87=>
M.put h85 (Addr.add a86 (j87*1)) (.int .u32 n84) λh88=>
J15 () h88)) ∧
(M.val (wrap .u32 n23) λz89=>
(M.val (wrap .u32 n17) λz90=>
M.val (wrap .u32 n26) λz91=>
iB z90 z73 z89 z91 h14 λn92 h93=>
M.idx a7 l8 d13 λa94 j95=>
M.put h93 (Addr.add a94 (j95*1)) (.int .u32 n92) λh96=>
J15 () h96) ∧
(M.val (wrap .u32 n26) λz97=>
M.val (wrap .u32 n17) λz98=>
iB z98 z73 z89 z97 h14 λn99 h100=>
M.idx a7 l8 d13 λa101 j102=>
M.put h100 (Addr.add a101 (j102*1)) (.int .u32 n99) λh103=>
J15 () h103)) ∧
(M.val (wrap .u32 n26) λz104=>
(M.val (wrap .u32 n17) λz105=>
M.val (wrap .u32 n23) λz106=>
iB z105 z73 z106 z104 h14 λn107 h108=>
M.idx a7 l8 d13 λa109 j110=>
M.put h108 (Addr.add a109 (j110*1)) (.int .u32 n107) λh111=>
J15 () h111) ∧
(M.val (wrap .u32 n23) λz112=>
M.val (wrap .u32 n17) λz113=>
iB z113 z73 z112 z104 h14 λn114 h115=>
M.idx a7 l8 d13 λa116 j117=>
M.put h115 (Addr.add a116 (j117*1)) (.int .u32 n114) λh118=>
J15 () h118))) ∧
(M.val (wrap .u32 n23) λz119=>
(M.val (wrap .u32 n17) λz120=>
(M.val (wrap .u32 n20) λz121=>
M.val (wrap .u32 n26) λz122=>
iB z120 z121 z119 z122 h14 λn123 h124=>
M.idx a7 l8 d13 λa125 j126=>
M.put h124 (Addr.add a125 (j126*1)) (.int .u32 n123) λh127=>
J15 () h127) ∧
(M.val (wrap .u32 n26) λz128=>
M.val (wrap .u32 n20) λz129=>
iB z120 z129 z119 z128 h14 λn130 h131=>
M.idx a7 l8 d13 λa132 j133=>
M.put h131 (Addr.add a132 (j133*1)) (.int .u32 n130) λh134=>
J15 () h134)) ∧
(M.val (wrap .u32 n20) λz135=>
(M.val (wrap .u32 n17) λz136=>
M.val (wrap .u32 n26) λz137=>
iB z136 z135 z119 z137 h14 λn138 h139=>
M.idx a7 l8 d13 λa140 j141=>
M.put h139 (Addr.add a140 (j141*1)) (.int .u32 n138) λh142=>
J15 () h142) ∧
(M.val (wrap .u32 n26) λz143=>
M.val (wrap .u32 n17) λz144=>
iB z144 z135 z119 z143 h14 λn145 h146=>
M.idx a7 l8 d13 λa147 j148=>
M.put h146 (Addr.add a147 (j148*1)) (.int .u32 n145) λh149=>
J15 () h149)) ∧
(M.val (wrap .u32 n26) λz150=>
(M.val (wrap .u32 n17) λz151=>
M.val (wrap .u32 n20) λz152=>
iB z151 z152 z119 z150 h14 λn153 h154=>
M.idx a7 l8 d13 λa155 j156=>
M.put h154 (Addr.add a155 (j156*1)) (.int .u32 n153) λh157=>
J15 () h157) ∧
(M.val (wrap .u32 n20) λz158=>
M.val (wrap .u32 n17) λz159=>
iB z159 z158 z119 z150 h14 λn160 h161=>
M.idx a7 l8 d13 λa162 j163=>
M.put h161 (Addr.add a162 (j163*1)) (.int .u32 n160) λh164=>
J15 () h164))) ∧
(M.val (wrap .u32 n26) λz165=>
(M.val (wrap .u32 n17) λz166=>
(M.val (wrap .u32 n20) λz167=>
M.val (wrap .u32 n23) λz168=>
iB z166 z167 z168 z165 h14 λn169 h170=>
M.idx a7 l8 d13 λa171 j172=>
M.put h170 (Addr.add a171 (j172*1)) (.int .u32 n169) λh173=>
J15 () h173) ∧
(M.val (wrap .u32 n23) λz174=>
M.val (wrap .u32 n20) λz175=>
iB z166 z175 z174 z165 h14 λn176 h177=>
M.idx a7 l8 d13 λa178 j179=>
M.put h177 (Addr.add a178 (j179*1)) (.int .u32 n176) λh180=>
J15 () h180)) ∧
(M.val (wrap .u32 n20) λz181=>
(M.val (wrap .u32 n17) λz182=>
M.val (wrap .u32 n23) λz183=>
iB z182 z181 z183 z165 h14 λn184 h185=>
M.idx a7 l8 d13 λa186 j187=>
M.put h185 (Addr.add a186 (j187*1)) (.int .u32 n184) λh188=>
J15 () h188) ∧
(M.val (wrap .u32 n23) λz189=>
M.val (wrap .u32 n17) λz190=>
iB z190 z181 z189 z165 h14 λn191 h192=>
M.idx a7 l8 d13 λa193 j194=>
M.put h192 (Addr.add a193 (j194*1)) (.int .u32 n191) λh195=>
J15 () h195)) ∧
(M.val (wrap .u32 n23) λz196=>
(M.val (wrap .u32 n17) λz197=>
M.val (wrap .u32 n20) λz198=>
iB z197 z198 z196 z165 h14 λn199 h200=>
M.idx a7 l8 d13 λa201 j202=>
M.put h200 (Addr.add a201 (j202*1)) (.int .u32 n199) λh203=>
J15 () h203) ∧
(M.val (wrap .u32 n20) λz204=>
M.val (wrap .u32 n17) λz205=>
iB z205 z204 z196 z165 h14 λn206 h207=>
M.idx a7 l8 d13 λa208 j209=>
M.put h207 (Addr.add a208 (j209*1)) (.int .u32 n206) λh210=>
J15 () h210)))
else
J11 () h14)) 0 h10)))
def aV.L(F:type_of% aV):LT
 | [.string x0,.func (.func 293) ⟨[]⟩ ⟨[]⟩]=>λQ h=>F x0 h λa221 l222 c223 n224 h225=>Q (.tuple #[.slice a221 l222 c223,.int .i64 n224]) h225
 | _=>λ_ _=>False
def aV.ann:jy:=⟨ah [(7,[])],ah [(15,[])],ah [(122,[(18,.int .i64)])]⟩
theorem aV.good:ai Tryz.prog 292 (WL (aV.L aV)):=.gu (ann:=aV.ann) mixed (.cons iB.good .nil) Tryz.func292 Tryz.call292 (by intro l;unfold aV.L;split;exact .inr (by intros;kernel_rfl);exact .inl rfl)
def aM(x0:ByteArray)(h:H)(Q:Option Addr->Nat->Nat->Int->H->Prop):Prop:=
M.nz 4 (
M.val (Int.tmod (ByteArray.size x0:Int) 4) λz5=>
(bif(z5 != 0)then
Q none 0 0 7 h
else
M.nz 4 (
M.val (wrap .i64 (Int.tdiv (ByteArray.size x0:Int) 4)) λz6=>
M.mk h 230 [.int .u32 0] 4 z6 z6 λa7 l8 c9 h10=>
M.join (α:=Unit) (λd214 h215=>
Q a7 l8 c9 0 h215) λJ11=>
M.loop (α:=Int) (λJ12 d13 h14=>
(bif(decide (d13<(l8:Int)))then
M.join (α:=Unit) (λd211 h212=>
M.val (wrap .i64 (d13+1)) λz213=>
J12 z213 h212) λJ15=>
M.val (wrap .i64 (4*d13)) λz16=>
M.byte x0 z16 λn17=>
M.val (wrap .i64 (4*d13)) λz18=>
M.val (wrap .i64 (z18+1)) λz19=>
M.byte x0 z19 λn20=>
M.val (wrap .i64 (4*d13)) λz21=>
M.val (wrap .i64 (z21+2)) λz22=>
M.byte x0 z22 λn23=>
M.val (wrap .i64 (4*d13)) λz24=>
M.val (wrap .i64 (z24+3)) λz25=>
M.byte x0 z25 λn26=>
(M.val (wrap .u32 n17) λz27=>
(M.val (wrap .u32 n20) λz28=>
(M.val (wrap .u32 n23) λz29=>
M.val (wrap .u32 n26) λz30=>
fR z27 z28 z29 z30 h14 λn31 h32=>
M.idx a7 l8 d13 λa33 j34=>
M.put h32 (Addr.add a33 (j34*1)) (.int .u32 n31) λh35=>
J15 () h35) ∧
(M.val (wrap .u32 n26) λz36=>
M.val (wrap .u32 n23) λz37=>
fR z27 z28 z37 z36 h14 λn38 h39=>
M.idx a7 l8 d13 λa40 j41=>
M.put h39 (Addr.add a40 (j41*1)) (.int .u32 n38) λh42=>
J15 () h42)) ∧
(M.val (wrap .u32 n23) λz43=>
(M.val (wrap .u32 n20) λz44=>
M.val (wrap .u32 n26) λz45=>
fR z27 z44 z43 z45 h14 λn46 h47=>
M.idx a7 l8 d13 λa48 j49=>
M.put h47 (Addr.add a48 (j49*1)) (.int .u32 n46) λh50=>
J15 () h50) ∧
(M.val (wrap .u32 n26) λz51=>
M.val (wrap .u32 n20) λz52=>
fR z27 z52 z43 z51 h14 λn53 h54=>
M.idx a7 l8 d13 λa55 j56=>
M.put h54 (Addr.add a55 (j56*1)) (.int .u32 n53) λh57=>
J15 () h57)) ∧
(M.val (wrap .u32 n26) λz58=>
(M.val (wrap .u32 n20) λz59=>
M.val (wrap .u32 n23) λz60=>
fR z27 z59 z60 z58 h14 λn61 h62=>
M.idx a7 l8 d13 λa63 j64=>
M.put h62 (Addr.add a63 (j64*1)) (.int .u32 n61) λh65=>
J15 () h65) ∧
(M.val (wrap .u32 n23) λz66=>
M.val (wrap .u32 n20) λz67=>
fR z27 z67 z66 z58 h14 λn68 h69=>
M.idx a7 l8 d13 λa70 j71=>
M.put h69 (Addr.add a70 (j71*1)) (.int .u32 n68) λh72=>
J15 () h72))) ∧
(M.val (wrap .u32 n20) λz73=>
(M.val (wrap .u32 n17) λz74=>
(M.val (wrap .u32 n23) λz75=>
M.val (wrap .u32 n26) λz76=>
fR z74 z73 z75 z76 h14 λn77 h78=>
M.idx a7 l8 d13 λa79 j80=>
M.put h78 (Addr.add a79 (j80*1)) (.int .u32 n77) λh81=>
J15 () h81) ∧
(M.val (wrap .u32 n26) λz82=>
M.val (wrap .u32 n23) λz83=>
fR z74 z73 z83 z82 h14 λn84 h85=>
M.idx a7 l8 d13 λa86 j87=>
M.put h85 (Addr.add a86 (j87*1)) (.int .u32 n84) λh88=>
J15 () h88)) ∧
(M.val (wrap .u32 n23) λz89=>
(M.val (wrap .u32 n17) λz90=>
M.val (wrap .u32 n26) λz91=>
fR z90 z73 z89 z91 h14 λn92 h93=>
M.idx a7 l8 d13 λa94 j95=>
M.put h93 (Addr.add a94 (j95*1)) (.int .u32 n92) λh96=>
J15 () h96) ∧
(M.val (wrap .u32 n26) λz97=>
M.val (wrap .u32 n17) λz98=>
fR z98 z73 z89 z97 h14 λn99 h100=>
M.idx a7 l8 d13 λa101 j102=>
M.put h100 (Addr.add a101 (j102*1)) (.int .u32 n99) λh103=>
J15 () h103)) ∧
(M.val (wrap .u32 n26) λz104=>
(M.val (wrap .u32 n17) λz105=>
M.val (wrap .u32 n23) λz106=>
fR z105 z73 z106 z104 h14 λn107 h108=>
M.idx a7 l8 d13 λa109 j110=>
M.put h108 (Addr.add a109 (j110*1)) (.int .u32 n107) λh111=>
J15 () h111) ∧
(M.val (wrap .u32 n23) λz112=>
M.val (wrap .u32 n17) λz113=>
fR z113 z73 z112 z104 h14 λn114 h115=>
M.idx a7 l8 d13 λa116 j117=>
M.put h115 (Addr.add a116 (j117*1)) (.int .u32 n114) λh118=>
J15 () h118))) ∧
(M.val (wrap .u32 n23) λz119=>
(M.val (wrap .u32 n17) λz120=>
(M.val (wrap .u32 n20) λz121=>
M.val (wrap .u32 n26) λz122=>
fR z120 z121 z119 z122 h14 λn123 h124=>
M.idx a7 l8 d13 λa125 j126=>
M.put h124 (Addr.add a125 (j126*1)) (.int .u32 n123) λh127=>
J15 () h127) ∧
(M.val (wrap .u32 n26) λz128=>
M.val (wrap .u32 n20) λz129=>
fR z120 z129 z119 z128 h14 λn130 h131=>
M.idx a7 l8 d13 λa132 j133=>
M.put h131 (Addr.add a132 (j133*1)) (.int .u32 n130) λh134=>
J15 () h134)) ∧
(M.val (wrap .u32 n20) λz135=>
(M.val (wrap .u32 n17) λz136=>
M.val (wrap .u32 n26) λz137=>
fR z136 z135 z119 z137 h14 λn138 h139=>
M.idx a7 l8 d13 λa140 j141=>
M.put h139 (Addr.add a140 (j141*1)) (.int .u32 n138) λh142=>
J15 () h142) ∧
(M.val (wrap .u32 n26) λz143=>
M.val (wrap .u32 n17) λz144=>
fR z144 z135 z119 z143 h14 λn145 h146=>
M.idx a7 l8 d13 λa147 j148=>
M.put h146 (Addr.add a147 (j148*1)) (.int .u32 n145) λh149=>
J15 () h149)) ∧
(M.val (wrap .u32 n26) λz150=>
(M.val (wrap .u32 n17) λz151=>
M.val (wrap .u32 n20) λz152=>
fR z151 z152 z119 z150 h14 λn153 h154=>
M.idx a7 l8 d13 λa155 j156=>
M.put h154 (Addr.add a155 (j156*1)) (.int .u32 n153) λh157=>
J15 () h157) ∧
(M.val (wrap .u32 n20) λz158=>
M.val (wrap .u32 n17) λz159=>
fR z159 z158 z119 z150 h14 λn160 h161=>
M.idx a7 l8 d13 λa162 j163=>
M.put h161 (Addr.add a162 (j163*1)) (.int .u32 n160) λh164=>
J15 () h164))) ∧
(M.val (wrap .u32 n26) λz165=>
(M.val (wrap .u32 n17) λz166=>
(M.val (wrap .u32 n20) λz167=>
M.val (wrap .u32 n23) λz168=>
fR z166 z167 z168 z165 h14 λn169 h170=>
M.idx a7 l8 d13 λa171 j172=>
M.put h170 (Addr.add a171 (j172*1)) (.int .u32 n169) λh173=>
J15 () h173) ∧
(M.val (wrap .u32 n23) λz174=>
M.val (wrap .u32 n20) λz175=>
fR z166 z175 z174 z165 h14 λn176 h177=>
M.idx a7 l8 d13 λa178 j179=>
M.put h177 (Addr.add a178 (j179*1)) (.int .u32 n176) λh180=>
J15 () h180)) ∧
(M.val (wrap .u32 n20) λz181=>
(M.val (wrap .u32 n17) λz182=>
M.val (wrap .u32 n23) λz183=>
fR z182 z181 z183 z165 h14 λn184 h185=>
M.idx a7 l8 d13 λa186 j187=>
M.put h185 (Addr.add a186 (j187*1)) (.int .u32 n184) λh188=>
J15 () h188) ∧
(M.val (wrap .u32 n23) λz189=>
M.val (wrap .u32 n17) λz190=>
fR z190 z181 z189 z165 h14 λn191 h192=>
M.idx a7 l8 d13 λa193 j194=>
M.put h192 (Addr.add a193 (j194*1)) (.int .u32 n191) λh195=>
J15 () h195)) ∧
(M.val (wrap .u32 n23) λz196=>
(M.val (wrap .u32 n17) λz197=>
M.val (wrap .u32 n20) λz198=>
fR z197 z198 z196 z165 h14 λn199 h200=>
M.idx a7 l8 d13 λa201 j202=>
M.put h200 (Addr.add a201 (j202*1)) (.int .u32 n199) λh203=>
J15 () h203) ∧
(M.val (wrap .u32 n20) λz204=>
M.val (wrap .u32 n17) λz205=>
fR z205 z204 z196 z165 h14 λn206 h207=>
M.idx a7 l8 d13 λa208 j209=>
M.put h207 (Addr.add a208 (j209*1)) (.int .u32 n206) λh210=>
J15 () h210)))
else
J11 () h14)) 0 h10)))
def aM.L(F:type_of% aM):LT
 | [.string x0,.func (.func 318) ⟨[]⟩ ⟨[]⟩]=>λQ h=>F x0 h λa221 l222 c223 n224 h225=>Q (.tuple #[.slice a221 l222 c223,.int .i64 n224]) h225
 | _=>λ_ _=>False
def aM.ann:jy:=⟨ah [(7,[])],ah [(15,[])],ah [(122,[(18,.int .i64)])]⟩
theorem aM.good:ai Tryz.prog 292 (WL (aM.L aM)):=.gu (ann:=aM.ann) mixed (.cons fR.good .nil) Tryz.func292 Tryz.call292 (by intro l;unfold aM.L;split;exact .inr (by intros;kernel_rfl);exact .inl rfl)
def ir(x0 x1:Int)(h:H)(Q:Option Addr->H->Prop):Prop:=
M.new h (.cells #[.slice none 0 0,.int .i64 0,.bool false,.int .i64 0] 153) λb2 h3=>
M.loop (α:=Int) (λJ4 d5 h6=>
(bif(decide (d5<(mx 1 (mn x0 12))))then
M.nn (some ⟨b2,0,none⟩) λa7=>
M.load h6 (Addr.add a7 0) λv8=>
M.slc v8 λa9 l10 c11=>
jO x1 h6 λp12 h13=>
M.still h6 (Addr.add a7 0) 1 h13 (
M.new h13 (.cells #[.pointer p12] 90) λb14 h15=>
M.still h6 (Addr.add a7 0) 1 h15 (
M.cellsOf h15 (some ⟨b14,0,none⟩) (1*1) λcs20=>
M.app h15 90 1 8 [.pointer none] a9 l10 c11 1 cs20 λa16 l17 c18 h19=>
M.nn (some ⟨b2,0,none⟩) λa21=>
M.put h19 (Addr.add a21 0) (.slice a16 l17 c18) λh22=>
M.val (wrap .i64 (d5+1)) λz23=>
J4 z23 h22))
else
Q (some ⟨b2,0,none⟩) h6)) 0 h3
def ir.L(F:type_of% ir):LT
 | [.int .i64 x0,.int .i64 x1]=>λQ h=>F x0 x1 h λp26 h27=>Q (.pointer p26) h27
 | _=>λ_ _=>False
def ir.ann:jy:=⟨ah [],ah [],ah [(58,[(11,.int .i64)])]⟩
theorem ir.good:ai Tryz.prog 19 (WL (ir.L ir)):=.gu (ann:=ir.ann) mixed (.cons jO.good .nil) Tryz.func19 Tryz.call19 (by intro l;unfold ir.L;split;exact .inr (by intros;kernel_rfl);exact .inl rfl)
def iI(x0 x1:Int)(h:H)(Q:Option Addr->H->Prop):Prop:=
M.join (α:=Int) (λd3 h4=>
M.join (α:=Int) (λd6 h7=>
M.new h7 (.cells #[.slice none 0 0,.int .i64 0,(.int .i64 (-1))] 74) λb8 h9=>
M.loop (α:=Int) (λJ10 d11 h12=>
(bif(decide (d11<d6))then
jk x1 h12 λp13 h14=>
M.nn (some ⟨b8,0,none⟩) λa15=>
M.load h14 (Addr.add a15 0) λv16=>
M.slc v16 λa17 l18 c19=>
M.new h14 (.cells #[.pointer p13] 89) λb20 h21=>
M.cellsOf h21 (some ⟨b20,0,none⟩) (1*1) λcs26=>
M.app h21 89 1 8 [.pointer none] a17 l18 c19 1 cs26 λa22 l23 c24 h25=>
M.nn (some ⟨b8,0,none⟩) λa27=>
M.put h25 (Addr.add a27 0) (.slice a22 l23 c24) λh28=>
M.val (wrap .i64 (d11+1)) λz29=>
J10 z29 h28
else
Q (some ⟨b8,0,none⟩) h12)) 0 h9) λJ5=>
(bif(decide (d3>12))then
J5 12 h4
else
J5 d3 h4)) λJ2=>
(bif(decide (x0<1))then
J2 1 h
else
J2 x0 h)
def iI.L(F:type_of% iI):LT
 | [.int .i64 x0,.int .i64 x1]=>λQ h=>F x0 x1 h λp32 h33=>Q (.pointer p32) h33
 | _=>λ_ _=>False
def iI.ann:jy:=⟨ah [],ah [(3,[(0,.int .i64)]),(7,[(0,.int .i64)])],ah [(250,[(6,.int .i64)])]⟩
theorem iI.good:ai Tryz.prog 20 (WL (iI.L iI)):=.gu (ann:=iI.ann) mixed (.cons jk.good .nil) Tryz.func20 Tryz.call20 (by intro l;unfold iI.L;split;exact .inr (by intros;kernel_rfl);exact .inl rfl)
def bA(x0_0 x0_1:Option Addr)(x0_2:ByteArray)(h:H)(Q:Int->H->Prop):Prop:=
M.new h (.cells #[.pointer x0_0,.pointer x0_1,.string x0_2] 120) λb2 h3=>
M.join (α:=Bool) (λd9 h10=>
(bif d9 then
Q 1 h10
else
M.join (α:=Bool) (λd20 h21=>
(bif d20 then
Q 2 h21
else
Q 0 h21)) λJ11=>
M.load h10 (Addr.add ⟨b2,0,none⟩ 2) λv12=>
M.str v12 λs13=>
(bif((ByteArray.size s13:Int) != 32)then
J11 true h10
else
M.load h10 (Addr.add ⟨b2,0,none⟩ 0) λv14=>
M.ptr v14 λp15=>
cw p15 0 h10 λp16 h17=>
fS p16 h17 λn18 h19=>
J11 (decide (n18<140)) h19))) λJ4=>
M.load h3 (Addr.add ⟨b2,0,none⟩ 0) λv5=>
M.ptr v5 λp6=>
(bif(Option.isNone p6)then
J4 true h3
else
M.load h3 (Addr.add ⟨b2,0,none⟩ 1) λv7=>
M.ptr v7 λp8=>
J4 (Option.isNone p8) h3)
def bA.L(F:type_of% bA):LT
 | [.agg ⟨[.pointer x0_0,.pointer x0_1,.string x0_2]⟩]=>λQ h=>F x0_0 x0_1 x0_2 h λn24 h25=>Q (.int .i64 n24) h25
 | _=>λ_ _=>False
def bA.ann:jy:=⟨ah [(1,[(3,.bool)]),(3,[(12,.bool)])],ah [],ah []⟩
theorem bA.good:ai Tryz.prog 49 (WL (bA.L bA)):=.gu (ann:=bA.ann) mixed (.cons cw.good (.cons fS.good .nil)) Tryz.func49 Tryz.call49 (by intro l;unfold bA.L;split;exact .inr (by intros;kernel_rfl);exact .inl rfl)
def iN(x0 x1:Int)(h:H)(Q:Option Addr->Int->H->Prop):Prop:=
M.join (α:=Bool) (λd6 h7=>
(bif d6 then
Q none 2 h7
else
M.new h7 (.cells #[.int .u64 x0,.int .u64 x1] 228) λb8 h9=>
Q (some ⟨b8,0,none⟩) 0 h9)) λJ3=>
jw x0 h λb4 h5=>
(bif(!b4)then
J3 true h5
else
J3 (decide (x1>4294967295)) h5)
def iN.L(F:type_of% iN):LT
 | [.int .u64 x0,.int .u64 x1]=>λQ h=>F x0 x1 h λp13 n14 h15=>Q (.tuple #[.pointer p13,.int .i64 n14]) h15
 | _=>λ_ _=>False
def iN.ann:jy:=⟨ah [(1,[(12,.bool)])],ah [],ah []⟩
theorem iN.good:ai Tryz.prog 54 (WL (iN.L iN)):=.gu (ann:=iN.ann) mixed (.cons jw.good .nil) Tryz.func54 Tryz.call54 (by intro l;unfold iN.L;split;exact .inr (by intros;kernel_rfl);exact .inl rfl)
def cq(x0_0 x0_1 x0_2 x0_3 x0_4 x0_5:Int)(x0_6:Bool)(x0_7:Option Addr)(x0_7L x0_7C:Nat)(x0_8:Option Addr)(x0_8L x0_8C:Nat)(h:H)(Q:Int->Int->Int->Int->Int->Int->Bool->Option Addr->Nat->Nat->Option Addr->Nat->Nat->H->Prop):Prop:=
M.new h (.cells #[.int .u64 x0_0,.int .u64 x0_1,.int .i64 x0_2,.int .i64 x0_3,.int .i64 x0_4,.int .i64 x0_5,.bool x0_6,.slice x0_7 x0_7L x0_7C,.slice x0_8 x0_8L x0_8C] 40) λb14 h15=>
M.new h15 (.cells #[.int .u64 0,.int .u64 0,.int .i64 0,.int .i64 0,.int .i64 0,.int .i64 0,.bool false,.slice none 0 0,.slice none 0 0] 40) λb16 h17=>
M.load h17 (Addr.add ⟨b14,0,none⟩ 7) λv18=>
M.slc v18 λa19 l20 c21=>
M.load h17 (Addr.add ⟨b14,0,none⟩ 8) λv22=>
M.slc v22 λa23 l24 c25=>
dy a19 l20 c21 h17 λa26 l27 c28 h29=>
M.still h17 (Addr.add ⟨b14,0,none⟩ 8) 1 h29 (
aA a23 l24 c25 h29 λa30 l31 c32 h33=>
M.put h33 (Addr.add ⟨b14,0,none⟩ 7) (.slice a26 l27 c28) λh34=>
M.put h34 (Addr.add ⟨b14,0,none⟩ 8) (.slice a30 l31 c32) λh35=>
M.kC h35 ⟨b14,0,none⟩ λn37 n39 n41 n43 n45 n47 b49 a51 l52 c53 a55 l56 c57=>
M.nN 9 h35 ⟨b16,0,none⟩ [.int .u64 n37,.int .u64 n39,.int .i64 n41,.int .i64 n43,.int .i64 n45,.int .i64 n47,.bool b49,.slice a51 l52 c53,.slice a55 l56 c57] (λh58=>
M.kC h58 ⟨b16,0,none⟩ λn60 n62 n64 n66 n68 n70 b72 a74 l75 c76 a78 l79 c80=>
Q n60 n62 n64 n66 n68 n70 b72 a74 l75 c76 a78 l79 c80 h58))
def cq.L(F:type_of% cq):LT
 | [.agg ⟨[.int .u64 x0_0,.int .u64 x0_1,.int .i64 x0_2,.int .i64 x0_3,.int .i64 x0_4,.int .i64 x0_5,.bool x0_6,.slice x0_7 x0_7L x0_7C,.slice x0_8 x0_8L x0_8C]⟩]=>λQ h=>F x0_0 x0_1 x0_2 x0_3 x0_4 x0_5 x0_6 x0_7 x0_7L x0_7C x0_8 x0_8L x0_8C h λn95 n96 n97 n98 n99 n100 b101 a102 l103 c104 a105 l106 c107 h108=>Q (.agg (#[.int .u64 n95,.int .u64 n96,.int .i64 n97,.int .i64 n98,.int .i64 n99,.int .i64 n100,.bool b101,.slice a102 l103 c104,.slice a105 l106 c107]:Array Value)) h108
 | _=>λ_ _=>False
theorem cq.good:ai Tryz.prog 57 (WL (cq.L cq)):=.gu (ann:=lQ) mixed (.cons dy.good (.cons aA.good .nil)) Tryz.func57 Tryz.call57 (by intro l;unfold cq.L;split;exact .inr (by intros;kernel_rfl);exact .inl rfl)
def aC(x0:Option Addr)(x0L x0C:Nat)(x1:Int)(h:H)(Q:Bool->H->Prop):Prop:=
cU x0 x0L x0C x1 h λn2 h3=>
Q (decide (n2≥0)) h3
def aC.L(F:type_of% aC):LT
 | [.slice x0 x0L x0C,.int .i64 x1]=>λQ h=>F x0 x0L x0C x1 h λb6 h7=>Q (.bool b6) h7
 | _=>λ_ _=>False
theorem aC.good:ai Tryz.prog 67 (WL (aC.L aC)):=.gu (ann:=lQ) mixed (.cons cU.good .nil) Tryz.func67 Tryz.call67 (by intro l;unfold aC.L;split;exact .inr (by intros;kernel_rfl);exact .inl rfl)
def cE(x0_0 x0_1 x0_2 x0_3 x0_4 x0_5:Int)(x0_6:Bool)(x0_7:Option Addr)(x0_7L x0_7C:Nat)(x0_8:Option Addr)(x0_8L x0_8C:Nat)(h:H)(Q:Bool->H->Prop):Prop:=
M.new h (.cells #[.int .u64 x0_0,.int .u64 x0_1,.int .i64 x0_2,.int .i64 x0_3,.int .i64 x0_4,.int .i64 x0_5,.bool x0_6,.slice x0_7 x0_7L x0_7C,.slice x0_8 x0_8L x0_8C] 40) λb2 h3=>
M.join (α:=Bool) (λd13 h14=>
(bif d13 then
Q false h14
else
M.new h14 (.cells #[.int .i64 2,.int .i64 4,.int .i64 8,.int .i64 16] 3) λb15 h16=>
M.load h16 (Addr.add ⟨b2,0,none⟩ 3) λv17=>
M.int .i64 v17 λn18=>
aC (some ⟨b15,0,none⟩) 4 4 n18 h16 λb19 h20=>
(bif(!b19)then
Q false h20
else
M.join (α:=Bool) (λd32 h33=>
(bif d32 then
Q false h33
else
M.join (α:=Bool) (λd49 h50=>
Q d49 h50) λJ34=>
M.load h33 (Addr.add ⟨b2,0,none⟩ 5) λv35=>
M.int .i64 v35 λn36=>
(bif(decide (n36≥0))then
M.load h33 (Addr.add ⟨b2,0,none⟩ 5) λv37=>
M.int .i64 v37 λn38=>
M.load h33 (Addr.add ⟨b2,0,none⟩ 3) λv39=>
M.int .i64 v39 λn40=>
(bif(decide (n38≤n40))then
M.load h33 (Addr.add ⟨b2,0,none⟩ 8) λv41=>
M.slc v41 λa42 l43 c44=>
(bif(decide ((l43:Int)≥1))then
M.load h33 (Addr.add ⟨b2,0,none⟩ 8) λv45=>
M.slc v45 λa46 l47 c48=>
J34 (decide ((l47:Int)≤12)) h33
else
J34 false h33)
else
J34 false h33)
else
J34 false h33))) λJ21=>
M.load h20 (Addr.add ⟨b2,0,none⟩ 4) λv22=>
M.int .i64 v22 λn23=>
(bif(decide (n23<0))then
J21 true h20
else
M.load h20 (Addr.add ⟨b2,0,none⟩ 4) λv24=>
M.int .i64 v24 λn25=>
M.load h20 (Addr.add ⟨b2,0,none⟩ 3) λv26=>
M.int .i64 v26 λn27=>
(bif(decide (n25>n27))then
J21 true h20
else
M.load h20 (Addr.add ⟨b2,0,none⟩ 4) λv28=>
M.int .i64 v28 λn29=>
(bif(decide (n29>0))then
M.load h20 (Addr.add ⟨b2,0,none⟩ 6) λv30=>
M.bool v30 λb31=>
J21 (!b31) h20
else
J21 false h20)))))) λJ4=>
M.load h3 (Addr.add ⟨b2,0,none⟩ 2) λv5=>
M.int .i64 v5 λn6=>
(bif(decide (n6<2))then
J4 true h3
else
M.load h3 (Addr.add ⟨b2,0,none⟩ 2) λv7=>
M.int .i64 v7 λn8=>
(bif(decide (n8>8))then
J4 true h3
else
M.load h3 (Addr.add ⟨b2,0,none⟩ 6) λv9=>
M.bool v9 λb10=>
(bif b10 then
M.load h3 (Addr.add ⟨b2,0,none⟩ 2) λv11=>
M.int .i64 v11 λn12=>
J4 (n12 == 8) h3
else
J4 false h3)))
def cE.L(F:type_of% cE):LT
 | [.agg ⟨[.int .u64 x0_0,.int .u64 x0_1,.int .i64 x0_2,.int .i64 x0_3,.int .i64 x0_4,.int .i64 x0_5,.bool x0_6,.slice x0_7 x0_7L x0_7C,.slice x0_8 x0_8L x0_8C]⟩]=>λQ h=>F x0_0 x0_1 x0_2 x0_3 x0_4 x0_5 x0_6 x0_7 x0_7L x0_7C x0_8 x0_8L x0_8C h λb53 h54=>Q (.bool b53) h54
 | _=>λ_ _=>False
def cE.ann:jy:=⟨ah [(1,[(3,.bool)]),(5,[(27,.bool)]),(7,[(2,.bool)])],ah [],ah []⟩
theorem cE.good:ai Tryz.prog 68 (WL (cE.L cE)):=.gu (ann:=cE.ann) mixed (.cons aC.good .nil) Tryz.func68 Tryz.call68 (by intro l;unfold cE.L;split;exact .inr (by intros;kernel_rfl);exact .inl rfl)
def dI(x0:Int)(h:H)(Q:ByteArray->H->Prop):Prop:=
M.jZ 32 (
M.val (shr .u64 x0 32) λz2=>
M.val (wrap .u32 z2) λz3=>
M.val (wrap .u32 x0) λz4=>
M.new h (.cells #[.int .u32 z3,.int .u32 z4] 230) λb5 h6=>
cI (some ⟨b5,0,none⟩) 2 2 h6 λs7 h8=>
Q s7 h8)
def dI.L(F:type_of% dI):LT
 | [.int .u64 x0]=>λQ h=>F x0 h λs11 h12=>Q (.string s11) h12
 | _=>λ_ _=>False
theorem dI.good:ai Tryz.prog 103 (WL (dI.L dI)):=.gu (ann:=lQ) mixed (.cons cI.good .nil) Tryz.func103 Tryz.call103 (by intro l;unfold dI.L;split;exact .inr (by intros;kernel_rfl);exact .inl rfl)
def eV(x0:ByteArray)(h:H)(Q:ByteArray->H->Prop):Prop:=
M.val (wrap .u64 (ByteArray.size x0:Int)) λz2=>
dI z2 h λs3 h4=>
M.cat s3 x0 λs5=>
Q s5 h4
def eV.L(F:type_of% eV):LT
 | [.string x0]=>λQ h=>F x0 h λs8 h9=>Q (.string s8) h9
 | _=>λ_ _=>False
theorem eV.good:ai Tryz.prog 105 (WL (eV.L eV)):=.gu (ann:=lQ) mixed (.cons dI.good .nil) Tryz.func105 Tryz.call105 (by intro l;unfold eV.L;split;exact .inr (by intros;kernel_rfl);exact .inl rfl)
def cr(x0_0:Option Addr)(x0_1 x0_2:Int)(x0_3:ByteArray)(x1:Int)(h:H)(Q:Int->H->Prop):Prop:=
M.new h (.cells #[.pointer x0_0,.int .i64 x0_1,.int .i64 x0_2,.string x0_3] 126) λb2 h3=>
M.load h3 (Addr.add ⟨b2,0,none⟩ 0) λv4=>
M.ptr v4 λp5=>
M.load h3 (Addr.add ⟨b2,0,none⟩ 1) λv6=>
M.int .i64 v6 λn7=>
M.load h3 (Addr.add ⟨b2,0,none⟩ 2) λv8=>
M.int .i64 v8 λn9=>
M.load h3 (Addr.add ⟨b2,0,none⟩ 3) λv10=>
M.str v10 λs11=>
aX p5 n7 n9 s11 h3 λb12 h13=>
(bif(!b12)then
Q 4 h13
else
M.join (α:=Bool) (λd17 h18=>
(bif d17 then
Q 2 h18
else
Q 0 h18)) λJ14=>
(bif(decide (x1<0))then
J14 true h13
else
M.load h13 (Addr.add ⟨b2,0,none⟩ 2) λv15=>
M.int .i64 v15 λn16=>
J14 (decide (x1≥n16)) h13))
def cr.L(F:type_of% cr):LT
 | [.agg ⟨[.pointer x0_0,.int .i64 x0_1,.int .i64 x0_2,.string x0_3]⟩,.int .i64 x1]=>λQ h=>F x0_0 x0_1 x0_2 x0_3 x1 h λn21 h22=>Q (.int .i64 n21) h22
 | _=>λ_ _=>False
def cr.ann:jy:=⟨ah [(3,[(9,.bool)])],ah [],ah []⟩
theorem cr.good:ai Tryz.prog 112 (WL (cr.L cr)):=.gu (ann:=cr.ann) mixed (.cons aX.good .nil) Tryz.func112 Tryz.call112 (by intro l;unfold cr.L;split;exact .inr (by intros;kernel_rfl);exact .inl rfl)
def de(x0_0:Option Addr)(x0_1 x0_2:Int)(x0_3:ByteArray)(x1:Int)(h:H)(Q:ByteArray->H->Prop):Prop:=
M.new h (.cells #[.pointer x0_0,.int .i64 x0_1,.int .i64 x0_2,.string x0_3] 126) λb2 h3=>
M.load h3 (Addr.add ⟨b2,0,none⟩ 1) λv4=>
M.int .i64 v4 λn5=>
M.val (wrap .u64 n5) λz6=>
dI z6 h3 λs7 h8=>
M.val (wrap .u64 x1) λz9=>
dI z9 h8 λs10 h11=>
M.cat s7 s10 λs12=>
Q s12 h11
def de.L(F:type_of% de):LT
 | [.agg ⟨[.pointer x0_0,.int .i64 x0_1,.int .i64 x0_2,.string x0_3]⟩,.int .i64 x1]=>λQ h=>F x0_0 x0_1 x0_2 x0_3 x1 h λs15 h16=>Q (.string s15) h16
 | _=>λ_ _=>False
theorem de.good:ai Tryz.prog 114 (WL (de.L de)):=.gu (ann:=lQ) mixed (.cons dI.good .nil) Tryz.func114 Tryz.call114 (by intro l;unfold de.L;split;exact .inr (by intros;kernel_rfl);exact .inl rfl)
def aY(x0:Option Addr)(x1 x2:Int)(h:H)(Q:ByteArray->Int->H->Prop):Prop:=
bV x0 x1 h λn3 h4=>
(bif(n3 != 0)then
Q empty n3 h4
else
M.join (α:=Bool) (λd12 h13=>
(bif d12 then
Q empty 21 h13
else
M.nn x0 λa14=>
M.load h13 (Addr.add a14 0) λv15=>
M.slc v15 λa16 l17 c18=>
M.idx a16 l17 x1 λa19 j20=>
M.load h13 (Addr.add a19 (j20*1)) λv21=>
M.ptr v21 λO8=>
ey O8 x2 h13 λs23 n24 h25=>
Q s23 n24 h25)) λJ5=>
M.nn x0 λa6=>
M.load h4 (Addr.add a6 2) λv7=>
M.bool v7 λb8=>
(bif b8 then
M.nn x0 λa9=>
M.load h4 (Addr.add a9 3) λv10=>
M.int .i64 v10 λn11=>
J5 (n11 == 0) h4
else
J5 false h4))
def aY.L(F:type_of% aY):LT
 | [.pointer x0,.int .i64 x1,.int .i64 x2]=>λQ h=>F x0 x1 x2 h λs29 n30 h31=>Q (.tuple #[.string s29,.int .i64 n30]) h31
 | _=>λ_ _=>False
def aY.ann:jy:=⟨ah [(4,[(25,.bool)])],ah [],ah []⟩
theorem aY.good:ai Tryz.prog 116 (WL (aY.L aY)):=.gu (ann:=aY.ann) mixed (.cons bV.good (.cons ey.good .nil)) Tryz.func116 Tryz.call116 (by intro l;unfold aY.L;split;exact .inr (by intros;kernel_rfl);exact .inl rfl)
def fB(x0 x1:Int)(h:H)(Q:Int->Int->H->Prop):Prop:=
fM x0 x1 h λn3 n4 h5=>
Q n3 n4 h5
def fB.L(F:type_of% fB):LT
 | [.int .u64 x0,.int .u64 x1]=>λQ h=>F x0 x1 h λn9 n10 h11=>Q (.tuple #[.int .u64 n9,.int .u64 n10]) h11
 | _=>λ_ _=>False
theorem fB.good:ai Tryz.prog 140 (WL (fB.L fB)):=.gu (ann:=lQ) mixed (.cons fM.good .nil) Tryz.func140 Tryz.call140 (by intro l;unfold fB.L;split;exact .inr (by intros;kernel_rfl);exact .inl rfl)
def aI(x0:Option Addr)(x0L x0C:Nat)(x1:Int)(h:H)(Q:Option Addr->Nat->Nat->H->Prop):Prop:=
M.join (α:=Unit) (λd5 h6=>
M.val (wrap .u64 (x0L:Int)) λz7=>
M.val (wrap .u64 x1) λz8=>
fB z7 z8 h6 λn9 n10 h11=>
M.join (α:=Unit) (λd16 h17=>
M.val (wrap .i64 n10) λz18=>
M.mk h17 9 [.string empty] 16 z18 z18 λa19 l20 c21 h22=>
M.cellsOf h22 x0 ((min x0L l20)*1) λcs24=>
M.copy h22 a19 cs24 λh23=>
M.loop (α:=Int) (λJ25 d26 h27=>
(bif(decide (d26<(l20:Int)))then
M.sub a19 c21 1 d26 (l20:Int) λa28 l29 c30=>
M.sub a19 c21 1 0 d26 λa31 l32 c33=>
M.cellsOf h27 a31 ((min l32 l29)*1) λcs35=>
M.copy h27 a28 cs35 λh34=>
M.val (wrap .i64 (d26+(((min l32 l29):Nat):Int))) λz36=>
J25 z36 h34
else
Q a19 l20 c21 h27)) (((min x0L l20):Nat):Int) h23) λJ12=>
M.join (α:=Bool) (λd14 h15=>
(bif d14 then
False
else
J12 () h15)) λJ13=>
(bif(decide (n9>0))then
J13 true h11
else
J13 (decide (n10>9223372036854775807)) h11)) λJ4=>
(bif(decide (x1<0))then
False
else
J4 () h)
def aI.L(F:type_of% aI):LT
 | [.slice x0 x0L x0C,.int .i64 x1]=>λQ h=>F x0 x0L x0C x1 h λa41 l42 c43 h44=>Q (.slice a41 l42 c43) h44
 | _=>λ_ _=>False
def aI.ann:jy:=⟨ah [(4,[(26,.bool)])],ah [(3,[]),(15,[])],ah [(508,[(8,.int .i64)])]⟩
theorem aI.good:ai Tryz.prog 146 (WL (aI.L aI)):=.gu (ann:=aI.ann) mixed (.cons fB.good .nil) Tryz.func146 Tryz.call146 (by intro l;unfold aI.L;split;exact .inr (by intros;kernel_rfl);exact .inl rfl)
def bR(x0:Option Addr)(x1 x2:Int)(x3:ByteArray)(h:H)(Q:Int->H->Prop):Prop:=
bV x0 x1 h λn2 h3=>
(bif(n2 != 0)then
Q n2 h3
else
cg x0 h3 λn4 h5=>
(bif(n4 != 0)then
Q n4 h5
else
M.nn x0 λa6=>
M.load h5 (Addr.add a6 0) λv7=>
M.slc v7 λa8 l9 c10=>
M.idx a8 l9 x1 λa11 j12=>
M.load h5 (Addr.add a11 (j12*1)) λv13=>
M.ptr v13 λp14=>
dR p14 x2 x3 h5 λn15 h16=>
Q n15 h16))
def bR.L(F:type_of% bR):LT
 | [.pointer x0,.int .i64 x1,.int .i64 x2,.string x3]=>λQ h=>F x0 x1 x2 x3 h λn19 h20=>Q (.int .i64 n19) h20
 | _=>λ_ _=>False
theorem bR.good:ai Tryz.prog 147 (WL (bR.L bR)):=.gu (ann:=lQ) mixed (.cons bV.good (.cons cg.good (.cons dR.good .nil))) Tryz.func147 Tryz.call147 (by intro l;unfold bR.L;split;exact .inr (by intros;kernel_rfl);exact .inl rfl)
def bT(x0:Option Addr)(x1:Int)(h:H)(Q:Int->H->Prop):Prop:=
bV x0 x1 h λn2 h3=>
(bif(n2 != 0)then
Q n2 h3
else
cg x0 h3 λn4 h5=>
(bif(n4 != 0)then
Q n4 h5
else
M.nn x0 λa6=>
M.load h5 (Addr.add a6 0) λv7=>
M.slc v7 λa8 l9 c10=>
M.idx a8 l9 x1 λa11 j12=>
M.load h5 (Addr.add a11 (j12*1)) λv13=>
M.ptr v13 λp14=>
dU p14 h5 λn15 h16=>
Q n15 h16))
def bT.L(F:type_of% bT):LT
 | [.pointer x0,.int .i64 x1]=>λQ h=>F x0 x1 h λn19 h20=>Q (.int .i64 n19) h20
 | _=>λ_ _=>False
theorem bT.good:ai Tryz.prog 148 (WL (bT.L bT)):=.gu (ann:=lQ) mixed (.cons bV.good (.cons cg.good (.cons dU.good .nil))) Tryz.func148 Tryz.call148 (by intro l;unfold bT.L;split;exact .inr (by intros;kernel_rfl);exact .inl rfl)
def fL(x0_0:Option Addr)(x0_1 x0_2:Int)(x0_3:ByteArray)(h:H)(Q:Bool->H->Prop):Prop:=
M.new h (.cells #[.pointer x0_0,.int .i64 x0_1,.int .i64 x0_2,.string x0_3] 173) λb2 h3=>
M.load h3 (Addr.add ⟨b2,0,none⟩ 2) λv4=>
M.int .i64 v4 λn5=>
gi n5 h3 λn6 h7=>
M.join (α:=Bool) (λd24 h25=>
Q d24 h25) λJ8=>
(bif(decide (n6>0))then
M.load h7 (Addr.add ⟨b2,0,none⟩ 3) λv9=>
M.str v9 λs10=>
(bif((ByteArray.size s10:Int) == 32)then
M.load h7 (Addr.add ⟨b2,0,none⟩ 0) λv11=>
M.ptr v11 λp12=>
(bif(!(Option.isNone p12))then
M.load h7 (Addr.add ⟨b2,0,none⟩ 1) λv13=>
M.int .i64 v13 λn14=>
(bif(decide (n14≥0))then
M.load h7 (Addr.add ⟨b2,0,none⟩ 1) λv15=>
M.int .i64 v15 λn16=>
M.load h7 (Addr.add ⟨b2,0,none⟩ 0) λv17=>
M.ptr v17 λp18=>
M.nn p18 λa19=>
M.load h7 (Addr.add a19 0) λv20=>
M.slc v20 λa21 l22 c23=>
J8 (decide (n16<(l22:Int))) h7
else
J8 false h7)
else
J8 false h7)
else
J8 false h7)
else
J8 false h7)
def fL.L(F:type_of% fL):LT
 | [.agg ⟨[.pointer x0_0,.int .i64 x0_1,.int .i64 x0_2,.string x0_3]⟩]=>λQ h=>F x0_0 x0_1 x0_2 x0_3 h λb28 h29=>Q (.bool b28) h29
 | _=>λ_ _=>False
def fL.ann:jy:=⟨ah [(2,[(2,.bool)])],ah [],ah []⟩
theorem fL.good:ai Tryz.prog 150 (WL (fL.L fL)):=.gu (ann:=fL.ann) mixed (.cons gi.good .nil) Tryz.func150 Tryz.call150 (by intro l;unfold fL.L;split;exact .inr (by intros;kernel_rfl);exact .inl rfl)
def eG(x0:Option Addr)(x1 x2:Int)(x3:ByteArray)(h:H)(Q:Int->H->Prop):Prop:=
M.join (α:=Bool) (λd8 h9=>
(bif d8 then
Q 11 h9
else
dY x0 h9 λn10 h11=>
(bif(n10 != 0)then
Q n10 h11
else
M.nn x0 λa12=>
M.load h11 (Addr.add a12 0) λv13=>
M.slc v13 λa14 l15 c16=>
M.idx a14 l15 x1 λa17 j18=>
M.load h11 (Addr.add a17 (j18*1)) λv19=>
M.ptr v19 λp20=>
jl p20 x2 x3 h11 λn21 h22=>
Q n21 h22))) λJ2=>
(bif(decide (x1<0))then
J2 true h
else
M.nn x0 λa3=>
M.load h (Addr.add a3 0) λv4=>
M.slc v4 λa5 l6 c7=>
J2 (decide (x1≥(l6:Int))) h)
def eG.L(F:type_of% eG):LT
 | [.pointer x0,.int .i64 x1,.int .i64 x2,.string x3]=>λQ h=>F x0 x1 x2 x3 h λn25 h26=>Q (.int .i64 n25) h26
 | _=>λ_ _=>False
def eG.ann:jy:=⟨ah [(1,[(20,.bool)])],ah [],ah []⟩
theorem eG.good:ai Tryz.prog 153 (WL (eG.L eG)):=.gu (ann:=eG.ann) mixed (.cons dY.good (.cons jl.good .nil)) Tryz.func153 Tryz.call153 (by intro l;unfold eG.L;split;exact .inr (by intros;kernel_rfl);exact .inl rfl)
def eA(x0:Option Addr)(x1:Int)(h:H)(Q:Int->H->Prop):Prop:=
M.join (α:=Bool) (λd8 h9=>
(bif d8 then
Q 11 h9
else
dY x0 h9 λn10 h11=>
(bif(n10 != 0)then
Q n10 h11
else
M.nn x0 λa12=>
M.load h11 (Addr.add a12 0) λv13=>
M.slc v13 λa14 l15 c16=>
M.idx a14 l15 x1 λa17 j18=>
M.load h11 (Addr.add a17 (j18*1)) λv19=>
M.ptr v19 λp20=>
gY p20 h11 λn21 h22=>
Q n21 h22))) λJ2=>
(bif(decide (x1<0))then
J2 true h
else
M.nn x0 λa3=>
M.load h (Addr.add a3 0) λv4=>
M.slc v4 λa5 l6 c7=>
J2 (decide (x1≥(l6:Int))) h)
def eA.L(F:type_of% eA):LT
 | [.pointer x0,.int .i64 x1]=>λQ h=>F x0 x1 h λn25 h26=>Q (.int .i64 n25) h26
 | _=>λ_ _=>False
def eA.ann:jy:=⟨ah [(1,[(16,.bool)])],ah [],ah []⟩
theorem eA.good:ai Tryz.prog 154 (WL (eA.L eA)):=.gu (ann:=eA.ann) mixed (.cons dY.good (.cons gY.good .nil)) Tryz.func154 Tryz.call154 (by intro l;unfold eA.L;split;exact .inr (by intros;kernel_rfl);exact .inl rfl)
def fJ(x0:ByteArray)(h:H)(Q:Int->Int->H->Prop):Prop:=
M.loop (α:=Int) (λJ3 d4 h5=>
(bif(decide (d4<96))then
M.val (wrap .u64 d4) λz6=>
eY z6 h5 λs7 h8=>
(bif(mX s7 x0)then
M.val (wrap .i64 (d4+1)) λz9=>
Q z9 0 h8
else
M.val (wrap .i64 (d4+1)) λz10=>
J3 z10 h8)
else
Q 0 4 h5)) 0 h
def fJ.L(F:type_of% fJ):LT
 | [.string x0]=>λQ h=>F x0 h λn14 n15 h16=>Q (.tuple #[.int .i64 n14,.int .i64 n15]) h16
 | _=>λ_ _=>False
def fJ.ann:jy:=⟨ah [],ah [],ah [(26,[(4,.int .i64)])]⟩
theorem fJ.good:ai Tryz.prog 160 (WL (fJ.L fJ)):=.gu (ann:=fJ.ann) mixed (.cons eY.good .nil) Tryz.func160 Tryz.call160 (by intro l;unfold fJ.L;split;exact .inr (by intros;kernel_rfl);exact .inl rfl)
def gP(x0_0 x0_1 x0_2 x0_3 x0_4 x0_5:Int)(x0_6:Bool)(x0_7:Option Addr)(x0_7L x0_7C:Nat)(x0_8:Option Addr)(x0_8L x0_8C:Nat)(h:H)(Q:Bool->H->Prop):Prop:=
M.new h (.cells #[.int .u64 x0_0,.int .u64 x0_1,.int .i64 x0_2,.int .i64 x0_3,.int .i64 x0_4,.int .i64 x0_5,.bool x0_6,.slice x0_7 x0_7L x0_7C,.slice x0_8 x0_8L x0_8C] 80) λb2 h3=>
M.load h3 (Addr.add ⟨b2,0,none⟩ 2) λv4=>
M.int .i64 v4 λn5=>
M.val (wrap .i64 (n5+2)) λz6=>
M.join (α:=Int×Int) (λd13 h14=>
M.join (α:=Bool) (λd24 h25=>
(bif d24 then
Q false h25
else
M.join (α:=Bool) (λd35 h36=>
(bif d35 then
Q false h36
else
M.join (α:=Bool) (λd54 h55=>
(bif d54 then
Q false h55
else
M.join (α:=Bool) (λd65 h66=>
(bif d65 then
Q false h66
else
M.join (α:=Int) (λd144 h145=>
M.join (α:=Unit) (λd178 h179=>
M.join (α:=Bool) (λd183 h184=>
Q d183 h184) λJ180=>
(bif(d144 == 1)then
J180 true h179
else
(bif(d144 == 0)then
M.load h179 (Addr.add ⟨b2,0,none⟩ 5) λv181=>
M.int .i64 v181 λn182=>
J180 (n182 == 0) h179
else
J180 false h179))) λJ146=>
M.loop (α:=Int) (λJ147 d148 h149=>
M.load h149 (Addr.add ⟨b2,0,none⟩ 7) λv150=>
M.slc v150 λa151 l152 c153=>
(bif(decide (d148<(l152:Int)))then
M.join (α:=Bool) (λd175 h176=>
(bif d175 then
Q false h176
else
M.val (wrap .i64 (d148+1)) λz177=>
J147 z177 h176)) λJ154=>
M.load h149 (Addr.add ⟨b2,0,none⟩ 7) λv155=>
M.slc v155 λa156 l157 c158=>
M.idx a156 l157 d148 λa159 j160=>
M.load h149 (Addr.add a159 (j160*1)) λv161=>
M.int .i64 v161 λn162=>
(bif(decide (n162<0))then
J154 true h149
else
M.load h149 (Addr.add ⟨b2,0,none⟩ 7) λv163=>
M.slc v163 λa164 l165 c166=>
M.idx a164 l165 d148 λa167 j168=>
M.load h149 (Addr.add a167 (j168*1)) λv169=>
M.int .i64 v169 λn170=>
M.load h149 (Addr.add ⟨b2,0,none⟩ 8) λv171=>
M.slc v171 λa172 l173 c174=>
J154 (decide (n170≥(l173:Int))) h149)
else
J146 () h149)) 0 h145) λJ67=>
M.loop (α:=Int×Int) (λJ68 d69 h70=>
M.load h70 (Addr.add ⟨b2,0,none⟩ 8) λv71=>
M.slc v71 λa72 l73 c74=>
(bif(decide (d69.2<(l73:Int)))then
M.join (α:=Int) (λd141 h142=>
M.val (wrap .i64 (d69.2+1)) λz143=>
J68 (d141,z143) h142) λJ75=>
M.load h70 (Addr.add ⟨b2,0,none⟩ 8) λv76=>
M.slc v76 λa77 l78 c79=>
M.idx a77 l78 d69.2 λa80 j81=>
M.load h70 ((Addr.add a80 (j81*3)).add 0) λv82=>
M.int .i64 v82 λn83=>
M.load h70 ((Addr.add a80 (j81*3)).add 1) λv84=>
M.str v84 λs85=>
M.load h70 ((Addr.add a80 (j81*3)).add 2) λv86=>
M.str v86 λs87=>
M.new h70 (.cells #[.int .i64 0,.string empty,.string empty] 171) λb88 h89=>
M.nN 3 h89 ⟨b88,0,none⟩ [.int .i64 n83,.string s85,.string s87] (λh90=>
M.kC h90 ⟨b2,0,none⟩ λn92 n94 n96 n98 n100 n102 b104 a106 l107 c108 a110 l111 c112=>
gz n92 n94 n96 n98 n100 n102 b104 a106 l107 c108 a110 l111 c112 d69.2 h90 λn113 h114=>
M.join (α:=Bool) (λd124 h125=>
(bif d124 then
Q false h125
else
M.join (α:=Bool) (λd129 h130=>
(bif d129 then
Q false h130
else
M.join (α:=Bool) (λd136 h137=>
(bif d136 then
Q false h137
else
M.load h137 (Addr.add ⟨b88,0,none⟩ 0) λv138=>
M.int .i64 v138 λn139=>
(bif(n139 == 3)then
M.val (wrap .i64 (d69.1+1)) λz140=>
J75 z140 h137
else
J75 d69.1 h137))) λJ131=>
(bif(n113 == 0)then
M.load h130 (Addr.add ⟨b88,0,none⟩ 0) λv132=>
M.int .i64 v132 λn133=>
(bif(n133 == 1)then
J131 true h130
else
M.load h130 (Addr.add ⟨b88,0,none⟩ 0) λv134=>
M.int .i64 v134 λn135=>
J131 (n135 == 3) h130)
else
J131 false h130))) λJ126=>
(bif(n113 == 1)then
M.load h125 (Addr.add ⟨b88,0,none⟩ 0) λv127=>
M.int .i64 v127 λn128=>
J126 (n128 == 0) h125
else
J126 false h125))) λJ115=>
M.load h114 (Addr.add ⟨b88,0,none⟩ 0) λv116=>
M.int .i64 v116 λn117=>
(bif(decide (n117<0))then
J115 true h114
else
M.load h114 (Addr.add ⟨b88,0,none⟩ 0) λv118=>
M.int .i64 v118 λn119=>
(bif(decide (n119>3))then
J115 true h114
else
M.load h114 (Addr.add ⟨b88,0,none⟩ 1) λv120=>
M.str v120 λs121=>
(bif((ByteArray.size s121:Int) != 32)then
J115 true h114
else
M.load h114 (Addr.add ⟨b88,0,none⟩ 2) λv122=>
M.str v122 λs123=>
(bif((ByteArray.size s123:Int) != 32)then
J115 true h114
else
J115 (decide (n113>1)) h114)))))
else
J67 d69.1 h70)) (0,0) h66)) λJ56=>
M.load h55 (Addr.add ⟨b2,0,none⟩ 8) λv57=>
M.slc v57 λa58 l59 c60=>
(bif(decide ((l59:Int)<1))then
J56 true h55
else
M.load h55 (Addr.add ⟨b2,0,none⟩ 8) λv61=>
M.slc v61 λa62 l63 c64=>
J56 (decide ((l63:Int)>12)) h55))) λJ37=>
M.load h36 (Addr.add ⟨b2,0,none⟩ 4) λv38=>
M.int .i64 v38 λn39=>
(bif(decide (n39<0))then
J37 true h36
else
M.load h36 (Addr.add ⟨b2,0,none⟩ 4) λv40=>
M.int .i64 v40 λn41=>
M.load h36 (Addr.add ⟨b2,0,none⟩ 3) λv42=>
M.int .i64 v42 λn43=>
(bif(decide (n41>n43))then
J37 true h36
else
M.load h36 (Addr.add ⟨b2,0,none⟩ 5) λv44=>
M.int .i64 v44 λn45=>
(bif(decide (n45<0))then
J37 true h36
else
M.load h36 (Addr.add ⟨b2,0,none⟩ 5) λv46=>
M.int .i64 v46 λn47=>
M.load h36 (Addr.add ⟨b2,0,none⟩ 3) λv48=>
M.int .i64 v48 λn49=>
(bif(decide (n47>n49))then
J37 true h36
else
M.load h36 (Addr.add ⟨b2,0,none⟩ 4) λv50=>
M.int .i64 v50 λn51=>
(bif(decide (n51>0))then
M.load h36 (Addr.add ⟨b2,0,none⟩ 6) λv52=>
M.bool v52 λb53=>
J37 (!b53) h36
else
J37 false h36))))))) λJ26=>
M.load h25 (Addr.add ⟨b2,0,none⟩ 3) λv27=>
M.int .i64 v27 λn28=>
(bif(n28 != 2)then
M.load h25 (Addr.add ⟨b2,0,none⟩ 3) λv29=>
M.int .i64 v29 λn30=>
(bif(n30 != 4)then
M.load h25 (Addr.add ⟨b2,0,none⟩ 3) λv31=>
M.int .i64 v31 λn32=>
(bif(n32 != 8)then
M.load h25 (Addr.add ⟨b2,0,none⟩ 3) λv33=>
M.int .i64 v33 λn34=>
J26 (n34 != 16) h25
else
J26 false h25)
else
J26 false h25)
else
J26 false h25))) λJ15=>
M.load h14 (Addr.add ⟨b2,0,none⟩ 2) λv16=>
M.int .i64 v16 λn17=>
(bif(decide (n17<2))then
J15 true h14
else
M.load h14 (Addr.add ⟨b2,0,none⟩ 2) λv18=>
M.int .i64 v18 λn19=>
(bif(decide (n19>d13.1))then
J15 true h14
else
M.load h14 (Addr.add ⟨b2,0,none⟩ 7) λv20=>
M.slc v20 λa21 l22 c23=>
J15 ((l22:Int) != d13.2) h14))) λJ7=>
M.load h3 (Addr.add ⟨b2,0,none⟩ 6) λv8=>
M.bool v8 λb9=>
(bif b9 then
M.load h3 (Addr.add ⟨b2,0,none⟩ 2) λv10=>
M.int .i64 v10 λn11=>
M.val (wrap .i64 (n11+3)) λz12=>
J7 (7,z12) h3
else
J7 (8,z6) h3)
def gP.L(F:type_of% gP):LT
 | [.agg ⟨[.int .u64 x0_0,.int .u64 x0_1,.int .i64 x0_2,.int .i64 x0_3,.int .i64 x0_4,.int .i64 x0_5,.bool x0_6,.slice x0_7 x0_7L x0_7C,.slice x0_8 x0_8L x0_8C]⟩]=>λQ h=>F x0_0 x0_1 x0_2 x0_3 x0_4 x0_5 x0_6 x0_7 x0_7L x0_7C x0_8 x0_8L x0_8C h λb187 h188=>Q (.bool b187) h188
 | _=>λ_ _=>False
def gP.ann:jy:=⟨ah [(6,[(33,.bool)]),(8,[(51,.bool)]),(10,[(83,.bool)]),(12,[(93,.bool)]),(20,[(132,.bool)]),(22,[(139,.bool)]),(24,[(151,.bool)]),(31,[(180,.bool)]),(33,[(2,.bool)])],ah [(15,[(3,.int .i64),(4,.int .i64)]),(1023,[(5,.int .i64)]),(2047,[]),(32745,[(5,.int .i64)])],ah [(8186,[(5,.int .i64),(6,.int .i64)]),(16378,[(9,.int .i64)])]⟩
theorem gP.good:ai Tryz.prog 162 (WL (gP.L gP)):=.gu (ann:=gP.ann) mixed (.cons gz.good .nil) Tryz.func162 Tryz.call162 (by intro l;unfold gP.L;split;exact .inr (by intros;kernel_rfl);exact .inl rfl)
def cB(x0_0:Option Addr)(x0_1 x0_2:Int)(x0_3:ByteArray)(x1:Option Addr)(x1L x1C:Nat)(h:H)(Q:Int->H->Prop):Prop:=
M.new h (.cells #[.pointer x0_0,.int .i64 x0_1,.int .i64 x0_2,.string x0_3] 126) λb2 h3=>
M.load h3 (Addr.add ⟨b2,0,none⟩ 0) λv4=>
M.ptr v4 λp5=>
M.load h3 (Addr.add ⟨b2,0,none⟩ 1) λv6=>
M.int .i64 v6 λn7=>
M.load h3 (Addr.add ⟨b2,0,none⟩ 2) λv8=>
M.int .i64 v8 λn9=>
M.load h3 (Addr.add ⟨b2,0,none⟩ 3) λv10=>
M.str v10 λs11=>
aX p5 n7 n9 s11 h3 λb12 h13=>
(bif(!b12)then
Q 4 h13
else
M.loop (α:=Int) (λJ14 d15 h16=>
(bif(decide (d15<(x1L:Int)))then
M.idx x1 x1L d15 λa17 j18=>
M.load h16 ((Addr.add a17 (j18*2)).add 0) λv19=>
M.int .i64 v19 λn20=>
M.load h16 ((Addr.add a17 (j18*2)).add 1) λv21=>
M.str v21 λs22=>
M.new h16 (.cells #[.int .i64 0,.string empty] 109) λb23 h24=>
M.req (Array.size (#[.int .i64 n20,.string s22]:Array Value)=2) (M.ku h24 ⟨b23,0,none⟩ [.int .i64 n20,.string s22] λh25=>
M.load h25 (Addr.add ⟨b2,0,none⟩ 0) λv26=>
M.ptr v26 λp27=>
M.load h25 (Addr.add ⟨b2,0,none⟩ 1) λv28=>
M.int .i64 v28 λn29=>
M.load h25 (Addr.add ⟨b2,0,none⟩ 2) λv30=>
M.int .i64 v30 λn31=>
M.load h25 (Addr.add ⟨b2,0,none⟩ 3) λv32=>
M.str v32 λs33=>
M.load h25 (Addr.add ⟨b23,0,none⟩ 0) λv34=>
M.int .i64 v34 λn35=>
cr p27 n29 n31 s33 n35 h25 λn36 h37=>
(bif(n36 != 0)then
Q n36 h37
else
M.load h37 (Addr.add ⟨b23,0,none⟩ 1) λv38=>
M.str v38 λs39=>
(bif(decide ((ByteArray.size s39:Int)>2032))then
Q 5 h37
else
M.val (wrap .i64 (d15+1)) λz40=>
J14 z40 h37)))
else
Q 0 h16)) 0 h13)
def cB.L(F:type_of% cB):LT
 | [.agg ⟨[.pointer x0_0,.int .i64 x0_1,.int .i64 x0_2,.string x0_3]⟩,.slice x1 x1L x1C]=>λQ h=>F x0_0 x0_1 x0_2 x0_3 x1 x1L x1C h λn43 h44=>Q (.int .i64 n43) h44
 | _=>λ_ _=>False
def cB.ann:jy:=⟨ah [],ah [],ah [(58,[(13,.int .i64)])]⟩
theorem cB.good:ai Tryz.prog 183 (WL (cB.L cB)):=.gu (ann:=cB.ann) mixed (.cons aX.good (.cons cr.good .nil)) Tryz.func183 Tryz.call183 (by intro l;unfold cB.L;split;exact .inr (by intros;kernel_rfl);exact .inl rfl)
def fh(x0:Option Addr)(x0L x0C:Nat)(h:H)(Q:ByteArray->H->Prop):Prop:=
M.join (α:=(Option Addr×Nat×Nat)) (λd22 h23=>
bE d22.1 d22.2.1 d22.2.2 h23 λs24 h25=>
Q s24 h25) λJ2=>
M.loop (α:=(Option Addr×Nat×Nat)×Int) (λJ3 d4 h5=>
(bif(decide (d4.2<(x0L:Int)))then
M.idx x0 x0L d4.2 λa6 j7=>
M.load h5 (Addr.add a6 (j7*1)) λv8=>
M.str v8 λs9=>
M.val (wrap .u64 (ByteArray.size s9:Int)) λz10=>
M.val (wrap .u32 z10) λz11=>
M.jZ 32 (
M.val (shr .u64 z10 32) λz12=>
M.val (wrap .u32 z12) λz13=>
M.new h5 (.cells #[.int .u32 z11,.int .u32 z13] 230) λb14 h15=>
M.cellsOf h15 (some ⟨b14,0,none⟩) (2*1) λcs20=>
M.app h15 230 1 4 [.int .u32 0] d4.1.1 d4.1.2.1 d4.1.2.2 2 cs20 λa16 l17 c18 h19=>
M.val (wrap .i64 (d4.2+1)) λz21=>
J3 ((a16,l17,c18),z21) h19)
else
J2 (d4.1.1,d4.1.2.1,d4.1.2.2) h5)) ((none,0,0),0) h
def fh.L(F:type_of% fh):LT
 | [.slice x0 x0L x0C]=>λQ h=>F x0 x0L x0C h λs28 h29=>Q (.string s28) h29
 | _=>λ_ _=>False
def fh.ann:jy:=⟨ah [],ah [(7,[(3,.slc)])],ah [(58,[(3,.slc),(9,.int .i64)])]⟩
theorem fh.good:ai Tryz.prog 256 (WL (fh.L fh)):=.gu (ann:=fh.ann) mixed (.cons bE.good .nil) Tryz.func256 Tryz.call256 (by intro l;unfold fh.L;split;exact .inr (by intros;kernel_rfl);exact .inl rfl)
def gW(x0:ByteArray)(h:H)(Q:Option Addr->Nat->Nat->Int->H->Prop):Prop:=
aV x0 h λa5 l6 c7 n8 h9=>
Q a5 l6 c7 n8 h9
def gW.L(F:type_of% gW):LT
 | [.string x0]=>λQ h=>F x0 h λa15 l16 c17 n18 h19=>Q (.tuple #[.slice a15 l16 c17,.int .i64 n18]) h19
 | _=>λ_ _=>False
theorem gW.good:ai Tryz.prog 257 (WL (gW.L gW)):=.gu (ann:=lQ) mixed (.cons aV.good .nil) Tryz.func257 Tryz.call257 (by intro l;unfold gW.L;split;exact .inr (by intros;kernel_rfl);exact .inl rfl)
def fD(x0:ByteArray)(h:H)(Q:ByteArray->H->Prop):Prop:=
M.cat x0 (⟨#[128]⟩:ByteArray) λs2=>
M.QA h 5 s2 λa3 l4 c5 h6=>
M.join (α:=(Option Addr×Nat×Nat)) (λd19 h20=>
M.val (wrap .i64 (8*(ByteArray.size x0:Int))) λz21=>
M.nz 4294967296 (
M.val (wrap .i64 (Int.tdiv z21 4294967296)) λz22=>
M.val (wrap .u32 z22) λz23=>
M.nz 4294967296 (
M.val (Int.tmod z21 4294967296) λz24=>
M.val (wrap .u32 z24) λz25=>
M.new h20 (.cells #[.int .u32 z23,.int .u32 z25] 230) λb26 h27=>
gw (some ⟨b26,0,none⟩) 2 2 true h27 λs28 h29=>
M.xX h29 d19.1 d19.2.1 λs30=>
M.cat s30 s28 λs31=>
Q s31 h29))) λJ7=>
M.loop (α:=(Option Addr×Nat×Nat)) (λJ8 d9 h10=>
M.nz 64 (
M.val (Int.tmod ((d9.2.1:Nat):Int) 64) λz11=>
(bif(z11 != 56)then
M.new h10 (.cells #[.int .u8 0] 5) λb12 h13=>
M.cellsOf h13 (some ⟨b12,0,none⟩) (1*1) λcs18=>
M.app h13 5 1 1 [.int .u8 0] d9.1 d9.2.1 d9.2.2 1 cs18 λa14 l15 c16 h17=>
J8 (a14,l15,c16) h17
else
J7 (d9.1,d9.2.1,d9.2.2) h10))) (a3,l4,c5) h6
def fD.L(F:type_of% fD):LT
 | [.string x0]=>λQ h=>F x0 h λs34 h35=>Q (.string s34) h35
 | _=>λ_ _=>False
def fD.ann:jy:=⟨ah [],ah [(7,[(3,.slc)])],ah [(28,[(3,.slc)])]⟩
theorem fD.good:ai Tryz.prog 262 (WL (fD.L fD)):=.gu (ann:=fD.ann) mixed (.cons gw.good .nil) Tryz.func262 Tryz.call262 (by intro l;unfold fD.L;split;exact .inr (by intros;kernel_rfl);exact .inl rfl)
def fl(x0 x1:Int)(h:H)(Q:Int->H->Prop):Prop:=
M.val (wrap .u64 x1) λz2=>
M.nz 32 (
M.val (Int.tmod z2 32) λz3=>
M.val (wrap .i64 z3) λz4=>
M.val (wrap .i64 (32-z4)) λz5=>
gU x0 z5 h λn6 h7=>
Q n6 h7)
def fl.L(F:type_of% fl):LT
 | [.int .u32 x0,.int .i64 x1]=>λQ h=>F x0 x1 h λn10 h11=>Q (.int .u32 n10) h11
 | _=>λ_ _=>False
theorem fl.good:ai Tryz.prog 279 (WL (fl.L fl)):=.gu (ann:=lQ) mixed (.cons gU.good .nil) Tryz.func279 Tryz.call279 (by intro l;unfold fl.L;split;exact .inr (by intros;kernel_rfl);exact .inl rfl)
def di(x0:ByteArray)(h:H)(Q:Option Addr->Nat->Nat->Int->H->Prop):Prop:=
aM x0 h λa5 l6 c7 n8 h9=>
Q a5 l6 c7 n8 h9
def di.L(F:type_of% di):LT
 | [.string x0]=>λQ h=>F x0 h λa15 l16 c17 n18 h19=>Q (.tuple #[.slice a15 l16 c17,.int .i64 n18]) h19
 | _=>λ_ _=>False
theorem di.good:ai Tryz.prog 284 (WL (di.L di)):=.gu (ann:=lQ) mixed (.cons aM.good .nil) Tryz.func284 Tryz.call284 (by intro l;unfold di.L;split;exact .inr (by intros;kernel_rfl);exact .inl rfl)
def eL(x0:Option Addr)(x1 x2 x3 x4:Int)(h:H)(Q:H->Prop):Prop:=
M.nn x0 λa1=>
M.fk 16 x1 λj2=>
M.load h (Addr.add a1 (j2*1)) λv3=>
M.int .u32 v3 λn4=>
M.nn x0 λa5=>
M.fk 16 x2 λj6=>
M.load h (Addr.add a5 (j6*1)) λv7=>
M.int .u32 v7 λn8=>
M.nn x0 λa9=>
M.fk 16 x3 λj10=>
M.load h (Addr.add a9 (j10*1)) λv11=>
M.int .u32 v11 λn12=>
M.nn x0 λa13=>
M.fk 16 x4 λj14=>
M.load h (Addr.add a13 (j14*1)) λv15=>
M.int .u32 v15 λn16=>
M.nn x0 λa17=>
M.nn x0 λa18=>
M.nn x0 λa19=>
M.nn x0 λa20=>
dP n4 n8 n12 n16 h λn21 n22 n23 n24 h25=>
M.fk 16 x1 λj26=>
M.put h25 (Addr.add a17 (j26*1)) (.int .u32 n21) λh27=>
M.fk 16 x2 λj28=>
M.put h27 (Addr.add a18 (j28*1)) (.int .u32 n22) λh29=>
M.fk 16 x3 λj30=>
M.put h29 (Addr.add a19 (j30*1)) (.int .u32 n23) λh31=>
M.fk 16 x4 λj32=>
M.put h31 (Addr.add a20 (j32*1)) (.int .u32 n24) λh33=>
Q h33
def eL.L(F:type_of% eL):LT
 | [.pointer x0,.int .i64 x1,.int .i64 x2,.int .i64 x3,.int .i64 x4]=>λQ h=>F x0 x1 x2 x3 x4 h λh35=>Q (.tuple #[]) h35
 | _=>λ_ _=>False
theorem eL.good:ai Tryz.prog 285 (WL (eL.L eL)):=.gu (ann:=lQ) mixed (.cons dP.good .nil) Tryz.func285 Tryz.call285 (by intro l;unfold eL.L;split;exact .inr (by intros;kernel_rfl);exact .inl rfl)
def jU(x0:ByteArray)(x1:Int)(h:H)(Q:Int->Int->Int->Int->Int->H->Prop):Prop:=
M.new h (.cells #[.int .u64 0,.int .u64 0,.int .u64 0,.int .u64 0,.int .u64 0] 410) λb6 h7=>
di x0 h7 λa8 l9 c10 n11 h12=>
M.new h12 (.cells #[.int .u64 0,.int .u64 0,.int .u64 0,.int .u64 0] 439) λb13 h14=>
M.join (α:=Unit) (λd27 h28=>
M.fk 4 0 λj29=>
M.load h28 (Addr.add ⟨b13,0,none⟩ (j29*1)) λv30=>
M.int .u64 v30 λn31=>
M.val (lS .u64 n31 67108863) λz32=>
M.fk 4 0 λj33=>
M.load h28 (Addr.add ⟨b13,0,none⟩ (j33*1)) λv34=>
M.int .u64 v34 λn35=>
M.jZ 26 (
M.val (shr .u64 n35 26) λz36=>
M.fk 4 1 λj37=>
M.load h28 (Addr.add ⟨b13,0,none⟩ (j37*1)) λv38=>
M.int .u64 v38 λn39=>
M.jZ 6 (
M.val (shl .u64 n39 6) λz40=>
M.val (ye .u64 z36 z40) λz41=>
M.val (lS .u64 z41 67108863) λz42=>
M.fk 4 1 λj43=>
M.load h28 (Addr.add ⟨b13,0,none⟩ (j43*1)) λv44=>
M.int .u64 v44 λn45=>
M.jZ 20 (
M.val (shr .u64 n45 20) λz46=>
M.fk 4 2 λj47=>
M.load h28 (Addr.add ⟨b13,0,none⟩ (j47*1)) λv48=>
M.int .u64 v48 λn49=>
M.jZ 12 (
M.val (shl .u64 n49 12) λz50=>
M.val (ye .u64 z46 z50) λz51=>
M.val (lS .u64 z51 67108863) λz52=>
M.fk 4 2 λj53=>
M.load h28 (Addr.add ⟨b13,0,none⟩ (j53*1)) λv54=>
M.int .u64 v54 λn55=>
M.jZ 14 (
M.val (shr .u64 n55 14) λz56=>
M.fk 4 3 λj57=>
M.load h28 (Addr.add ⟨b13,0,none⟩ (j57*1)) λv58=>
M.int .u64 v58 λn59=>
M.jZ 18 (
M.val (shl .u64 n59 18) λz60=>
M.val (ye .u64 z56 z60) λz61=>
M.val (lS .u64 z61 67108863) λz62=>
M.fk 4 3 λj63=>
M.load h28 (Addr.add ⟨b13,0,none⟩ (j63*1)) λv64=>
M.int .u64 v64 λn65=>
M.jZ 8 (
M.val (shr .u64 n65 8) λz66=>
M.jZ 24 (
M.val (shl .u64 x1 24) λz67=>
M.val (ye .u64 z66 z67) λz68=>
M.req (Array.size (#[.int .u64 z32,.int .u64 z42,.int .u64 z52,.int .u64 z62,.int .u64 z68]:Array Value)=5) (M.ku h28 ⟨b6,0,none⟩ [.int .u64 z32,.int .u64 z42,.int .u64 z52,.int .u64 z62,.int .u64 z68] λh69=>
M.load h69 (Addr.add ⟨b6,0,none⟩ 0) λv70=>
M.int .u64 v70 λn71=>
M.load h69 (Addr.add ⟨b6,0,none⟩ 1) λv72=>
M.int .u64 v72 λn73=>
M.load h69 (Addr.add ⟨b6,0,none⟩ 2) λv74=>
M.int .u64 v74 λn75=>
M.load h69 (Addr.add ⟨b6,0,none⟩ 3) λv76=>
M.int .u64 v76 λn77=>
M.load h69 (Addr.add ⟨b6,0,none⟩ 4) λv78=>
M.int .u64 v78 λn79=>
Q n71 n73 n75 n77 n79 h69)))))))))) λJ15=>
M.loop (α:=Int) (λJ16 d17 h18=>
(bif(decide (d17<4))then
M.idx a8 l9 d17 λa19 j20=>
M.load h18 (Addr.add a19 (j20*1)) λv21=>
M.int .u32 v21 λn22=>
M.val (wrap .u64 n22) λz23=>
M.fk 4 d17 λj24=>
M.put h18 (Addr.add ⟨b13,0,none⟩ (j24*1)) (.int .u64 z23) λh25=>
M.val (wrap .i64 (d17+1)) λz26=>
J16 z26 h25
else
J15 () h18)) 0 h14
def jU.L(F:type_of% jU):LT
 | [.string x0,.int .u64 x1]=>λQ h=>F x0 x1 h λn86 n87 n88 n89 n90 h91=>Q (.agg (#[.int .u64 n86,.int .u64 n87,.int .u64 n88,.int .u64 n89,.int .u64 n90]:Array Value)) h91
 | _=>λ_ _=>False
def jU.ann:jy:=⟨ah [],ah [(15,[])],ah [(122,[(14,.int .i64)])]⟩
theorem jU.good:ai Tryz.prog 288 (WL (jU.L jU)):=.gu (ann:=jU.ann) mixed (.cons di.good .nil) Tryz.func288 Tryz.call288 (by intro l;unfold jU.L;split;exact .inr (by intros;kernel_rfl);exact .inl rfl)
def cW(x0:Option Addr)(x1_0 x1_1 x1_2 x1_3 x1_4:Int)(h:H)(Q:H->Prop):Prop:=
M.new h (.cells #[.int .u64 x1_0,.int .u64 x1_1,.int .u64 x1_2,.int .u64 x1_3,.int .u64 x1_4] 410) λb1 h2=>
M.new h2 (.cells #[.int .u64 0,.int .u64 0,.int .u64 0,.int .u64 0,.int .u64 0] 410) λb3 h4=>
M.join (α:=Unit) (λd51 h52=>
cz (some ⟨b3,0,none⟩) h52 λh53=>
M.load h53 (Addr.add ⟨b3,0,none⟩ 0) λv54=>
M.int .u64 v54 λn55=>
M.load h53 (Addr.add ⟨b3,0,none⟩ 1) λv56=>
M.int .u64 v56 λn57=>
M.load h53 (Addr.add ⟨b3,0,none⟩ 2) λv58=>
M.int .u64 v58 λn59=>
M.load h53 (Addr.add ⟨b3,0,none⟩ 3) λv60=>
M.int .u64 v60 λn61=>
M.load h53 (Addr.add ⟨b3,0,none⟩ 4) λv62=>
M.int .u64 v62 λn63=>
M.nn x0 λa64=>
M.req (Array.size (#[.int .u64 n55,.int .u64 n57,.int .u64 n59,.int .u64 n61,.int .u64 n63]:Array Value)=5) (M.ku h53 a64 [.int .u64 n55,.int .u64 n57,.int .u64 n59,.int .u64 n61,.int .u64 n63] λh65=>
Q h65)) λJ5=>
M.loop (α:=Int) (λJ6 d7 h8=>
(bif(decide (d7<5))then
M.nn x0 λa9=>
M.fk 5 d7 λj10=>
M.load h8 (Addr.add a9 (j10*1)) λv11=>
M.int .u64 v11 λn12=>
M.load h8 (Addr.add ⟨b1,0,none⟩ 0) λv13=>
M.int .u64 v13 λn14=>
M.load h8 (Addr.add ⟨b1,0,none⟩ 1) λv15=>
M.int .u64 v15 λn16=>
M.load h8 (Addr.add ⟨b1,0,none⟩ 2) λv17=>
M.int .u64 v17 λn18=>
M.load h8 (Addr.add ⟨b1,0,none⟩ 3) λv19=>
M.int .u64 v19 λn20=>
M.load h8 (Addr.add ⟨b1,0,none⟩ 4) λv21=>
M.int .u64 v21 λn22=>
M.loop (α:=Int) (λJ23 d24 h25=>
(bif(decide (d24<5))then
M.fk 5 d24 λj26=>
M.at (#[.int .u64 n14,.int .u64 n16,.int .u64 n18,.int .u64 n20,.int .u64 n22]:Array Value) (j26*1) λv27=>
M.int .u64 v27 λn28=>
M.val (wrap .i64 (d7+d24)) λz29=>
(bif(decide (z29<5))then
M.val (wrap .i64 (d7+d24)) λz30=>
M.fk 5 z30 λj31=>
M.load h25 (Addr.add ⟨b3,0,none⟩ (j31*1)) λv32=>
M.int .u64 v32 λn33=>
M.val (wrap .u64 (n12*n28)) λz34=>
M.val (wrap .u64 (n33+z34)) λz35=>
M.fk 5 z30 λj36=>
M.put h25 (Addr.add ⟨b3,0,none⟩ (j36*1)) (.int .u64 z35) λh37=>
M.val (wrap .i64 (d24+1)) λz38=>
J23 z38 h37
else
M.val (wrap .i64 (d7+d24)) λz39=>
M.val (wrap .i64 (z39-5)) λz40=>
M.fk 5 z40 λj41=>
M.load h25 (Addr.add ⟨b3,0,none⟩ (j41*1)) λv42=>
M.int .u64 v42 λn43=>
M.val (wrap .u64 (n12*n28)) λz44=>
M.val (wrap .u64 (z44*5)) λz45=>
M.val (wrap .u64 (n43+z45)) λz46=>
M.fk 5 z40 λj47=>
M.put h25 (Addr.add ⟨b3,0,none⟩ (j47*1)) (.int .u64 z46) λh48=>
M.val (wrap .i64 (d24+1)) λz49=>
J23 z49 h48)
else
M.val (wrap .i64 (d7+1)) λz50=>
J6 z50 h25)) 0 h8
else
J5 () h8)) 0 h4
def cW.L(F:type_of% cW):LT
 | [.pointer x0,.agg ⟨[.int .u64 x1_0,.int .u64 x1_1,.int .u64 x1_2,.int .u64 x1_3,.int .u64 x1_4]⟩]=>λQ h=>F x0 x1_0 x1_1 x1_2 x1_3 x1_4 h λh67=>Q (.tuple #[]) h67
 | _=>λ_ _=>False
def cW.ann:jy:=⟨ah [],ah [(7,[])],ah [(58,[(10,.int .i64)]),(14950,[(17,.int .i64)])]⟩
theorem cW.good:ai Tryz.prog 289 (WL (cW.L cW)):=.gu (ann:=cW.ann) mixed (.cons cz.good .nil) Tryz.func289 Tryz.call289 (by intro l;unfold cW.L;split;exact .inr (by intros;kernel_rfl);exact .inl rfl)
def cX(x0:Option Addr)(h:H)(Q:H->Prop):Prop:=
cz x0 h λh1=>
cz x0 h1 λh2=>
M.nn x0 λa3=>
M.load h2 (a3.add 0) λv4=>
M.int .u64 v4 λn5=>
M.load h2 (a3.add 1) λv6=>
M.int .u64 v6 λn7=>
M.load h2 (a3.add 2) λv8=>
M.int .u64 v8 λn9=>
M.load h2 (a3.add 3) λv10=>
M.int .u64 v10 λn11=>
M.load h2 (a3.add 4) λv12=>
M.int .u64 v12 λn13=>
M.new h2 (.cells #[.int .u64 0,.int .u64 0,.int .u64 0,.int .u64 0,.int .u64 0] 410) λb14 h15=>
M.req (Array.size (#[.int .u64 n5,.int .u64 n7,.int .u64 n9,.int .u64 n11,.int .u64 n13]:Array Value)=5) (M.ku h15 ⟨b14,0,none⟩ [.int .u64 n5,.int .u64 n7,.int .u64 n9,.int .u64 n11,.int .u64 n13] λh16=>
M.fk 5 0 λj17=>
M.load h16 (Addr.add ⟨b14,0,none⟩ (j17*1)) λv18=>
M.int .u64 v18 λn19=>
M.val (wrap .u64 (n19+5)) λz20=>
M.fk 5 0 λj21=>
M.put h16 (Addr.add ⟨b14,0,none⟩ (j21*1)) (.int .u64 z20) λh22=>
M.join (α:=Unit) (λd45 h46=>
M.fk 5 4 λj47=>
M.load h46 (Addr.add ⟨b14,0,none⟩ (j47*1)) λv48=>
M.int .u64 v48 λn49=>
M.jZ 26 (
M.val (shr .u64 n49 26) λz50=>
(bif(z50 != 0)then
M.fk 5 4 λj51=>
M.load h46 (Addr.add ⟨b14,0,none⟩ (j51*1)) λv52=>
M.int .u64 v52 λn53=>
M.val (lS .u64 n53 67108863) λz54=>
M.fk 5 4 λj55=>
M.put h46 (Addr.add ⟨b14,0,none⟩ (j55*1)) (.int .u64 z54) λh56=>
M.load h56 (Addr.add ⟨b14,0,none⟩ 0) λv57=>
M.int .u64 v57 λn58=>
M.load h56 (Addr.add ⟨b14,0,none⟩ 1) λv59=>
M.int .u64 v59 λn60=>
M.load h56 (Addr.add ⟨b14,0,none⟩ 2) λv61=>
M.int .u64 v61 λn62=>
M.load h56 (Addr.add ⟨b14,0,none⟩ 3) λv63=>
M.int .u64 v63 λn64=>
M.load h56 (Addr.add ⟨b14,0,none⟩ 4) λv65=>
M.int .u64 v65 λn66=>
M.nn x0 λa67=>
M.req (Array.size (#[.int .u64 n58,.int .u64 n60,.int .u64 n62,.int .u64 n64,.int .u64 n66]:Array Value)=5) (M.ku h56 a67 [.int .u64 n58,.int .u64 n60,.int .u64 n62,.int .u64 n64,.int .u64 n66] λh68=>
Q h68)
else
Q h46))) λJ23=>
M.loop (α:=Int) (λJ24 d25 h26=>
(bif(decide (d25<4))then
M.val (wrap .i64 (d25+1)) λz27=>
M.fk 5 z27 λj28=>
M.load h26 (Addr.add ⟨b14,0,none⟩ (j28*1)) λv29=>
M.int .u64 v29 λn30=>
M.fk 5 d25 λj31=>
M.load h26 (Addr.add ⟨b14,0,none⟩ (j31*1)) λv32=>
M.int .u64 v32 λn33=>
M.jZ 26 (
M.val (shr .u64 n33 26) λz34=>
M.val (wrap .u64 (n30+z34)) λz35=>
M.fk 5 z27 λj36=>
M.put h26 (Addr.add ⟨b14,0,none⟩ (j36*1)) (.int .u64 z35) λh37=>
M.fk 5 d25 λj38=>
M.load h37 (Addr.add ⟨b14,0,none⟩ (j38*1)) λv39=>
M.int .u64 v39 λn40=>
M.val (lS .u64 n40 67108863) λz41=>
M.fk 5 d25 λj42=>
M.put h37 (Addr.add ⟨b14,0,none⟩ (j42*1)) (.int .u64 z41) λh43=>
M.val (wrap .i64 (d25+1)) λz44=>
J24 z44 h43)
else
J23 () h26)) 0 h22)
def cX.L(F:type_of% cX):LT
 | [.pointer x0]=>λQ h=>F x0 h λh70=>Q (.tuple #[]) h70
 | _=>λ_ _=>False
def cX.ann:jy:=⟨ah [],ah [(31,[])],ah [(250,[(15,.int .i64)])]⟩
theorem cX.good:ai Tryz.prog 290 (WL (cX.L cX)):=.gu (ann:=cX.ann) mixed (.cons cz.good .nil) Tryz.func290 Tryz.call290 (by intro l;unfold cX.L;split;exact .inr (by intros;kernel_rfl);exact .inl rfl)
def dG(x0_0 x0_1 x0_2 x0_3 x0_4:Int)(x1:ByteArray)(h:H)(Q:ByteArray->H->Prop):Prop:=
M.new h (.cells #[.int .u64 x0_0,.int .u64 x0_1,.int .u64 x0_2,.int .u64 x0_3,.int .u64 x0_4] 410) λb2 h3=>
di x1 h3 λa4 l5 c6 n7 h8=>
M.fk 5 0 λj9=>
M.load h8 (Addr.add ⟨b2,0,none⟩ (j9*1)) λv10=>
M.int .u64 v10 λn11=>
M.fk 5 1 λj12=>
M.load h8 (Addr.add ⟨b2,0,none⟩ (j12*1)) λv13=>
M.int .u64 v13 λn14=>
M.jZ 26 (
M.val (shl .u64 n14 26) λz15=>
M.val (ye .u64 n11 z15) λz16=>
M.fk 5 1 λj17=>
M.load h8 (Addr.add ⟨b2,0,none⟩ (j17*1)) λv18=>
M.int .u64 v18 λn19=>
M.jZ 6 (
M.val (shr .u64 n19 6) λz20=>
M.fk 5 2 λj21=>
M.load h8 (Addr.add ⟨b2,0,none⟩ (j21*1)) λv22=>
M.int .u64 v22 λn23=>
M.jZ 20 (
M.val (shl .u64 n23 20) λz24=>
M.val (ye .u64 z20 z24) λz25=>
M.fk 5 2 λj26=>
M.load h8 (Addr.add ⟨b2,0,none⟩ (j26*1)) λv27=>
M.int .u64 v27 λn28=>
M.jZ 12 (
M.val (shr .u64 n28 12) λz29=>
M.fk 5 3 λj30=>
M.load h8 (Addr.add ⟨b2,0,none⟩ (j30*1)) λv31=>
M.int .u64 v31 λn32=>
M.jZ 14 (
M.val (shl .u64 n32 14) λz33=>
M.val (ye .u64 z29 z33) λz34=>
M.fk 5 3 λj35=>
M.load h8 (Addr.add ⟨b2,0,none⟩ (j35*1)) λv36=>
M.int .u64 v36 λn37=>
M.jZ 18 (
M.val (shr .u64 n37 18) λz38=>
M.fk 5 4 λj39=>
M.load h8 (Addr.add ⟨b2,0,none⟩ (j39*1)) λv40=>
M.int .u64 v40 λn41=>
M.jZ 8 (
M.val (shl .u64 n41 8) λz42=>
M.val (ye .u64 z38 z42) λz43=>
M.new h8 (.cells #[.int .u64 0,.int .u64 0,.int .u64 0,.int .u64 0] 439) λb44 h45=>
M.req (Array.size (#[.int .u64 z16,.int .u64 z25,.int .u64 z34,.int .u64 z43]:Array Value)=4) (M.ku h45 ⟨b44,0,none⟩ [.int .u64 z16,.int .u64 z25,.int .u64 z34,.int .u64 z43] λh46=>
M.mk h46 230 [.int .u32 0] 4 4 4 λa47 l48 c49 h50=>
M.join (α:=Unit) (λd72 h73=>
bE a47 l48 c49 h73 λs74 h75=>
Q s74 h75) λJ51=>
M.loop (α:=Int×Int) (λJ52 d53 h54=>
(bif(decide (d53.2<4))then
M.fk 4 d53.2 λj55=>
M.load h54 (Addr.add ⟨b44,0,none⟩ (j55*1)) λv56=>
M.int .u64 v56 λn57=>
M.val (lS .u64 n57 4294967295) λz58=>
M.idx a4 l5 d53.2 λa59 j60=>
M.load h54 (Addr.add a59 (j60*1)) λv61=>
M.int .u32 v61 λn62=>
M.val (wrap .u64 n62) λz63=>
M.still h54 (Addr.add ⟨b44,0,none⟩ (j55*1)) 1 h54 (
M.val (wrap .u64 (z58+z63)) λz64=>
M.val (wrap .u64 (d53.1+z64)) λz65=>
M.val (wrap .u32 z65) λz66=>
M.idx a47 l48 d53.2 λa67 j68=>
M.put h54 (Addr.add a67 (j68*1)) (.int .u32 z66) λh69=>
M.jZ 32 (
M.val (shr .u64 z65 32) λz70=>
M.val (wrap .i64 (d53.2+1)) λz71=>
J52 (z70,z71) h69))
else
J51 () h54)) (0,0) h50))))))))
def dG.L(F:type_of% dG):LT
 | [.agg ⟨[.int .u64 x0_0,.int .u64 x0_1,.int .u64 x0_2,.int .u64 x0_3,.int .u64 x0_4]⟩,.string x1]=>λQ h=>F x0_0 x0_1 x0_2 x0_3 x0_4 x1 h λs78 h79=>Q (.string s78) h79
 | _=>λ_ _=>False
def dG.ann:jy:=⟨ah [],ah [(31,[])],ah [(250,[(9,.int .u64),(45,.int .i64)])]⟩
theorem dG.good:ai Tryz.prog 291 (WL (dG.L dG)):=.gu (ann:=dG.ann) mixed (.cons di.good (.cons bE.good .nil)) Tryz.func291 Tryz.call291 (by intro l;unfold dG.L;split;exact .inr (by intros;kernel_rfl);exact .inl rfl)
def gL(x0 x1 x2 x3:Int)(h:H)(Q:Int->H->Prop):Prop:=
fG x0 x1 h λn2 h3=>
fG x0 x2 h3 λn4 h5=>
M.val (mZ .u32 n2 n4) λz6=>
M.nz x3 (
M.val (wrap .u32 (Int.tdiv x0 x3)) λz7=>
M.val (mZ .u32 z6 z7) λz8=>
Q z8 h5)
def gL.L(F:type_of% gL):LT
 | [.int .u32 x0,.int .i64 x1,.int .i64 x2,.int .u32 x3]=>λQ h=>F x0 x1 x2 x3 h λn11 h12=>Q (.int .u32 n11) h12
 | _=>λ_ _=>False
theorem gL.good:ai Tryz.prog 297 (WL (gL.L gL)):=.gu (ann:=lQ) mixed (.cons fG.good .nil) Tryz.func297 Tryz.call297 (by intro l;unfold gL.L;split;exact .inr (by intros;kernel_rfl);exact .inl rfl)
def fX(x0 x1 x2 x3:Int)(h:H)(Q:Int->H->Prop):Prop:=
fG x0 x1 h λn2 h3=>
fG x0 x2 h3 λn4 h5=>
fG x0 x3 h5 λn6 h7=>
M.val (mZ .u32 n2 n4) λz8=>
M.val (mZ .u32 z8 n6) λz9=>
Q z9 h7
def fX.L(F:type_of% fX):LT
 | [.int .u32 x0,.int .i64 x1,.int .i64 x2,.int .i64 x3]=>λQ h=>F x0 x1 x2 x3 h λn12 h13=>Q (.int .u32 n12) h13
 | _=>λ_ _=>False
theorem fX.good:ai Tryz.prog 298 (WL (fX.L fX)):=.gu (ann:=lQ) mixed (.cons fG.good .nil) Tryz.func298 Tryz.call298 (by intro l;unfold fX.L;split;exact .inr (by intros;kernel_rfl);exact .inl rfl)
def aT(x0:Option Addr)(h:H)(Q:Int->Int->Int->Int->Int->Int->Bool->Option Addr->Nat->Nat->Option Addr->Nat->Nat->H->Prop):Prop:=
M.new h (.cells #[.int .u64 0,.int .u64 0,.int .i64 0,.int .i64 0,.int .i64 0,.int .i64 0,.bool false,.slice none 0 0,.slice none 0 0] 40) λb14 h15=>
(bif(Option.isNone x0)then
M.nN 9 h15 ⟨b14,0,none⟩ [.int .u64 0,.int .u64 0,.int .i64 0,.int .i64 0,.int .i64 0,.int .i64 0,.bool false,.slice none 0 0,.slice none 0 0] (λh16=>
M.kC h16 ⟨b14,0,none⟩ λn18 n20 n22 n24 n26 n28 b30 a32 l33 c34 a36 l37 c38=>
Q n18 n20 n22 n24 n26 n28 b30 a32 l33 c34 a36 l37 c38 h16)
else
M.nn x0 λa39=>
M.kC h15 (Addr.add a39 3) λn41 n43 n45 n47 n49 n51 b53 a55 l56 c57 a59 l60 c61=>
cq n41 n43 n45 n47 n49 n51 b53 a55 l56 c57 a59 l60 c61 h15 λn62 n63 n64 n65 n66 n67 b68 a69 l70 c71 a72 l73 c74 h75=>
M.nN 9 h75 ⟨b14,0,none⟩ [.int .u64 n62,.int .u64 n63,.int .i64 n64,.int .i64 n65,.int .i64 n66,.int .i64 n67,.bool b68,.slice a69 l70 c71,.slice a72 l73 c74] (λh76=>
M.kC h76 ⟨b14,0,none⟩ λn78 n80 n82 n84 n86 n88 b90 a92 l93 c94 a96 l97 c98=>
Q n78 n80 n82 n84 n86 n88 b90 a92 l93 c94 a96 l97 c98 h76))
def aT.L(F:type_of% aT):LT
 | [.pointer x0]=>λQ h=>F x0 h λn113 n114 n115 n116 n117 n118 b119 a120 l121 c122 a123 l124 c125 h126=>Q (.agg (#[.int .u64 n113,.int .u64 n114,.int .i64 n115,.int .i64 n116,.int .i64 n117,.int .i64 n118,.bool b119,.slice a120 l121 c122,.slice a123 l124 c125]:Array Value)) h126
 | _=>λ_ _=>False
theorem aT.good:ai Tryz.prog 12 (WL (aT.L aT)):=.gu (ann:=lQ) mixed (.cons cq.good .nil) Tryz.func12 Tryz.call12 (by intro l;unfold aT.L;split;exact .inr (by intros;kernel_rfl);exact .inl rfl)
def aD(x0_0 x0_1 x0_2:Int)(x0_3:Bool)(h:H)(Q:Bool->H->Prop):Prop:=
M.new h (.cells #[.int .i64 x0_0,.int .i64 x0_1,.int .i64 x0_2,.bool x0_3] 59) λb2 h3=>
M.join (α:=Int) (λd8 h9=>
M.join (α:=Bool) (λd32 h33=>
Q d32 h33) λJ10=>
M.sub (some ⟨0,0,none⟩) 4 1 0 ((4:Nat):Int) λa11 l12 c13=>
M.load h9 (Addr.add ⟨b2,0,none⟩ 1) λv14=>
M.int .i64 v14 λn15=>
aC a11 l12 c13 n15 h9 λb16 h17=>
(bif b16 then
M.load h17 (Addr.add ⟨b2,0,none⟩ 0) λv18=>
M.int .i64 v18 λn19=>
(bif(decide (n19≥2))then
M.load h17 (Addr.add ⟨b2,0,none⟩ 0) λv20=>
M.int .i64 v20 λn21=>
(bif(decide (n21≤d8))then
M.load h17 (Addr.add ⟨b2,0,none⟩ 2) λv22=>
M.int .i64 v22 λn23=>
(bif(decide (n23≥0))then
M.load h17 (Addr.add ⟨b2,0,none⟩ 2) λv24=>
M.int .i64 v24 λn25=>
M.load h17 (Addr.add ⟨b2,0,none⟩ 1) λv26=>
M.int .i64 v26 λn27=>
(bif(decide (n25<n27))then
M.load h17 (Addr.add ⟨b2,0,none⟩ 3) λv28=>
M.bool v28 λb29=>
(bif b29 then
J10 true h17
else
M.load h17 (Addr.add ⟨b2,0,none⟩ 2) λv30=>
M.int .i64 v30 λn31=>
J10 (n31 == 0) h17)
else
J10 false h17)
else
J10 false h17)
else
J10 false h17)
else
J10 false h17)
else
J10 false h17)) λJ4=>
M.load h3 (Addr.add ⟨b2,0,none⟩ 3) λv5=>
M.bool v5 λb6=>
(bif b6 then
M.val (wrap .i64 (8-1)) λz7=>
J4 z7 h3
else
J4 8 h3)
def aD.L(F:type_of% aD):LT
 | [.agg ⟨[.int .i64 x0_0,.int .i64 x0_1,.int .i64 x0_2,.bool x0_3]⟩]=>λQ h=>F x0_0 x0_1 x0_2 x0_3 h λb36 h37=>Q (.bool b36) h37
 | _=>λ_ _=>False
def aD.ann:jy:=⟨ah [(4,[(2,.bool)])],ah [(7,[(3,.int .i64)])],ah []⟩
theorem aD.good:ai Tryz.prog 17 (WL (aD.L aD)):=.gu (ann:=aD.ann) mixed (.cons aC.good .nil) Tryz.func17 Tryz.call17 (by intro l;unfold aD.L;split;exact .inr (by intros;kernel_rfl);exact .inl rfl)
def aL(x0_0 x0_1 x0_2 x0_3 x0_4 x0_5:Int)(x0_6:Bool)(x0_7:Option Addr)(x0_7L x0_7C:Nat)(x0_8:Option Addr)(x0_8L x0_8C:Nat)(h:H)(Q:Bool->H->Prop):Prop:=
M.new h (.cells #[.int .u64 x0_0,.int .u64 x0_1,.int .i64 x0_2,.int .i64 x0_3,.int .i64 x0_4,.int .i64 x0_5,.bool x0_6,.slice x0_7 x0_7L x0_7C,.slice x0_8 x0_8L x0_8C] 40) λb2 h3=>
M.join (α:=Bool) (λd77 h78=>
Q d77 h78) λJ4=>
M.kC h3 ⟨b2,0,none⟩ λn6 n8 n10 n12 n14 n16 b18 a20 l21 c22 a24 l25 c26=>
cE n6 n8 n10 n12 n14 n16 b18 a20 l21 c22 a24 l25 c26 h3 λb27 h28=>
(bif b27 then
M.kC h28 ⟨b2,0,none⟩ λn30 n32 n34 n36 n38 n40 b42 a44 l45 c46 a48 l49 c50=>
cJ n30 n32 n34 n36 n38 n40 b42 a44 l45 c46 a48 l49 c50 h28 λb51 h52=>
(bif b51 then
M.kC h52 ⟨b2,0,none⟩ λn54 n56 n58 n60 n62 n64 b66 a68 l69 c70 a72 l73 c74=>
dB n54 n56 n58 n60 n62 n64 b66 a68 l69 c70 a72 l73 c74 h52 λb75 h76=>
J4 b75 h76
else
J4 false h52)
else
J4 false h28)
def aL.L(F:type_of% aL):LT
 | [.agg ⟨[.int .u64 x0_0,.int .u64 x0_1,.int .i64 x0_2,.int .i64 x0_3,.int .i64 x0_4,.int .i64 x0_5,.bool x0_6,.slice x0_7 x0_7L x0_7C,.slice x0_8 x0_8L x0_8C]⟩]=>λQ h=>F x0_0 x0_1 x0_2 x0_3 x0_4 x0_5 x0_6 x0_7 x0_7L x0_7C x0_8 x0_8L x0_8C h λb81 h82=>Q (.bool b81) h82
 | _=>λ_ _=>False
def aL.ann:jy:=⟨ah [(1,[(2,.bool)])],ah [],ah []⟩
theorem aL.good:ai Tryz.prog 18 (WL (aL.L aL)):=.gu (ann:=aL.ann) mixed (.cons cE.good (.cons cJ.good (.cons dB.good .nil))) Tryz.func18 Tryz.call18 (by intro l;unfold aL.L;split;exact .inr (by intros;kernel_rfl);exact .inl rfl)
def iD(x0_0 x0_1 x0_2 x0_3 x0_4 x0_5:Int)(x0_6:Bool)(x0_7:Option Addr)(x0_7L x0_7C:Nat)(x0_8:Option Addr)(x0_8L x0_8C:Nat)(h:H)(Q:ByteArray->Int->H->Prop):Prop:=
M.new h (.cells #[.int .u64 x0_0,.int .u64 x0_1,.int .i64 x0_2,.int .i64 x0_3,.int .i64 x0_4,.int .i64 x0_5,.bool x0_6,.slice x0_7 x0_7L x0_7C,.slice x0_8 x0_8L x0_8C] 40) λb3 h4=>
M.kC h4 ⟨b3,0,none⟩ λn6 n8 n10 n12 n14 n16 b18 a20 l21 c22 a24 l25 c26=>
aL n6 n8 n10 n12 n14 n16 b18 a20 l21 c22 a24 l25 c26 h4 λb27 h28=>
(bif(!b27)then
Q empty 4 h28
else
M.new h28 (.cells #[.pointer none,.slice none 0 0] 213) λb29 h30=>
M.load h30 (Addr.add ⟨b3,0,none⟩ 0) λv31=>
M.int .u64 v31 λn32=>
M.load h30 (Addr.add ⟨b3,0,none⟩ 1) λv33=>
M.int .u64 v33 λn34=>
dI n32 h30 λs35 h36=>
M.still h30 (Addr.add ⟨b3,0,none⟩ 1) 1 h36 (
dI n34 h36 λs37 h38=>
M.cat s35 s37 λs39=>
ax (some ⟨b29,0,none⟩) s39 h38 λn40 v41 h42=>
M.load h42 (Addr.add ⟨b3,0,none⟩ 2) λv43=>
M.int .i64 v43 λn44=>
M.load h42 (Addr.add ⟨b3,0,none⟩ 3) λv45=>
M.int .i64 v45 λn46=>
M.load h42 (Addr.add ⟨b3,0,none⟩ 4) λv47=>
M.int .i64 v47 λn48=>
M.load h42 (Addr.add ⟨b3,0,none⟩ 5) λv49=>
M.int .i64 v49 λn50=>
M.load h42 (Addr.add ⟨b3,0,none⟩ 6) λv51=>
M.bool v51 λb52=>
M.load h42 (Addr.add ⟨b3,0,none⟩ 7) λv53=>
M.slc v53 λa54 l55 c56=>
M.load h42 (Addr.add ⟨b3,0,none⟩ 7) λv57=>
M.slc v57 λa58 l59 c60=>
jH b52 h42 λn61 h62=>
M.still h42 (Addr.add ⟨b3,0,none⟩ 7) 1 h62 (
M.still h42 (Addr.add ⟨b3,0,none⟩ 7) 1 h62 (
M.still h42 (Addr.add ⟨b3,0,none⟩ 5) 1 h62 (
M.still h42 (Addr.add ⟨b3,0,none⟩ 4) 1 h62 (
M.still h42 (Addr.add ⟨b3,0,none⟩ 3) 1 h62 (
M.still h42 (Addr.add ⟨b3,0,none⟩ 2) 1 h62 (
M.new h62 (.cells #[.int .i64 n44,.int .i64 n46,.int .i64 n48,.int .i64 n50,.int .i64 n61,(.int .i64 (l55:Int))] 3) λb63 h64=>
M.still h42 (Addr.add ⟨b3,0,none⟩ 7) 1 h64 (
M.cellsOf h64 a58 (l59*1) λcs69=>
M.app h64 3 1 8 [.int .i64 0] (some ⟨b63,0,none⟩) 6 6 l59 cs69 λa65 l66 c67 h68=>
M.join (α:=Unit) (λd96 h97=>
M.join (α:=Unit) (λd136 h137=>
aU (some ⟨b29,0,none⟩) h137 λs138 h139=>
Q s138 0 h139) λJ98=>
M.load h97 (Addr.add ⟨b3,0,none⟩ 8) λv99=>
M.slc v99 λa100 l101 c102=>
M.loop (α:=Int) (λJ103 d104 h105=>
(bif(decide (d104<(l101:Int)))then
M.idx a100 l101 d104 λa106 j107=>
M.load h105 ((Addr.add a106 (j107*3)).add 0) λv108=>
M.int .i64 v108 λn109=>
M.load h105 ((Addr.add a106 (j107*3)).add 1) λv110=>
M.str v110 λs111=>
M.load h105 ((Addr.add a106 (j107*3)).add 2) λv112=>
M.str v112 λs113=>
M.new h105 (.cells #[.int .i64 0,.string empty,.string empty] 51) λb114 h115=>
M.nN 3 h115 ⟨b114,0,none⟩ [.int .i64 n109,.string s111,.string s113] (λh116=>
M.load h116 (Addr.add ⟨b114,0,none⟩ 0) λv117=>
M.int .i64 v117 λn118=>
M.load h116 (Addr.add ⟨b114,0,none⟩ 1) λv119=>
M.str v119 λs120=>
M.load h116 (Addr.add ⟨b114,0,none⟩ 2) λv121=>
M.str v121 λs122=>
M.val (wrap .u64 n118) λz123=>
M.still h116 (Addr.add ⟨b114,0,none⟩ 2) 1 h116 (
M.still h116 (Addr.add ⟨b114,0,none⟩ 1) 1 h116 (
dI z123 h116 λs124 h125=>
M.still h116 (Addr.add ⟨b114,0,none⟩ 2) 1 h125 (
M.still h116 (Addr.add ⟨b114,0,none⟩ 1) 1 h125 (
eV s120 h125 λs126 h127=>
M.still h116 (Addr.add ⟨b114,0,none⟩ 2) 1 h127 (
M.cat s124 s126 λs128=>
eV s122 h127 λs129 h130=>
M.cat s128 s129 λs131=>
ax (some ⟨b29,0,none⟩) s131 h130 λn132 v133 h134=>
M.val (wrap .i64 (d104+1)) λz135=>
J103 z135 h134))))))
else
J98 () h105)) 0 h97) λJ70=>
M.load h68 (Addr.add ⟨b3,0,none⟩ 8) λv71=>
M.slc v71 λa72 l73 c74=>
M.new h68 (.cells #[(.int .i64 (l73:Int))] 3) λb75 h76=>
M.cellsOf h76 (some ⟨b75,0,none⟩) (1*1) λcs81=>
M.app h76 3 1 8 [.int .i64 0] a65 l66 c67 1 cs81 λa77 l78 c79 h80=>
M.loop (α:=Int) (λJ82 d83 h84=>
(bif(decide (d83<(l78:Int)))then
M.idx a77 l78 d83 λa85 j86=>
M.load h84 (Addr.add a85 (j86*1)) λv87=>
M.int .i64 v87 λn88=>
M.val (wrap .u64 n88) λz89=>
dI z89 h84 λs90 h91=>
ax (some ⟨b29,0,none⟩) s90 h91 λn92 v93 h94=>
M.val (wrap .i64 (d83+1)) λz95=>
J82 z95 h94
else
J70 () h84)) 0 h80)))))))))
def iD.L(F:type_of% iD):LT
 | [.agg ⟨[.int .u64 x0_0,.int .u64 x0_1,.int .i64 x0_2,.int .i64 x0_3,.int .i64 x0_4,.int .i64 x0_5,.bool x0_6,.slice x0_7 x0_7L x0_7C,.slice x0_8 x0_8L x0_8C]⟩]=>λQ h=>F x0_0 x0_1 x0_2 x0_3 x0_4 x0_5 x0_6 x0_7 x0_7L x0_7C x0_8 x0_8L x0_8C h λs143 n144 h145=>Q (.tuple #[.string s143,.int .i64 n144]) h145
 | _=>λ_ _=>False
def iD.ann:jy:=⟨ah [],ah [(127,[]),(255,[])],ah [(1018,[(49,.int .i64)]),(2042,[(62,.int .i64)])]⟩
theorem iD.good:ai Tryz.prog 36 (WL (iD.L iD)):=.gu (ann:=iD.ann) mixed (.cons aL.good (.cons dI.good (.cons ax.good (.cons jH.good (.cons eV.good (.cons aU.good .nil)))))) Tryz.func36 Tryz.call36 (by intro l;unfold iD.L;split;exact .inr (by intros;kernel_rfl);exact .inl rfl)
end Go.Proofs.YtmfcgihgdhfalaaGreatDoor

/- The shallow forms of the functions of this seat, printed by a program of mine, each checked by the kernel against the given code. -/
import Derived.Test.YtmfcgihgdhfalaaGreatDoorN04
open ByteArray(empty)
open Go.IntKind(wrap)
set_option linter.unusedSimpArgs false
set_option linter.unusedVariables false
namespace Go.Proofs.YtmfcgihgdhfalaaGreatDoor
open Go.Sh
def fY.g(F0:type_of% strings_Repeat)(F1:type_of% cI)(F2:type_of% cN)(x0:Option Addr)(h:H)(Q:ByteArray->H->Prop):Prop:=
(bif(Option.isNone x0)then
Q empty h
else
M.nn x0 λa2=>
M.load h (a2.add 0) λv3=>
M.int .u32 v3 λn4=>
M.load h (a2.add 1) λv5=>
M.int .u32 v5 λn6=>
M.load h (a2.add 2) λv7=>
M.int .u32 v7 λn8=>
M.load h (a2.add 3) λv9=>
M.int .u32 v9 λn10=>
M.load h (a2.add 4) λv11=>
M.int .u32 v11 λn12=>
M.load h (a2.add 5) λv13=>
M.int .u32 v13 λn14=>
M.load h (a2.add 6) λv15=>
M.int .u32 v15 λn16=>
M.load h (a2.add 7) λv17=>
M.int .u32 v17 λn18=>
M.load h (a2.add 8) λv19=>
M.str v19 λs20=>
M.load h (a2.add 9) λv21=>
M.int .i64 v21 λn22=>
M.new h (.cells #[.int .u32 0,.int .u32 0,.int .u32 0,.int .u32 0,.int .u32 0,.int .u32 0,.int .u32 0,.int .u32 0,.string empty,.int .i64 0] 367) λb23 h24=>
M.req (Array.size (#[.int .u32 n4,.int .u32 n6,.int .u32 n8,.int .u32 n10,.int .u32 n12,.int .u32 n14,.int .u32 n16,.int .u32 n18,.string s20,.int .i64 n22]:Array Value)=10) (M.ku h24 ⟨b23,0,none⟩ [.int .u32 n4,.int .u32 n6,.int .u32 n8,.int .u32 n10,.int .u32 n12,.int .u32 n14,.int .u32 n16,.int .u32 n18,.string s20,.int .i64 n22] λh25=>
M.nn x0 λa26=>
M.load h25 (Addr.add a26 9) λv27=>
M.int .i64 v27 λn28=>
M.val (wrap .u64 n28) λz29=>
M.val (wrap .u64 (z29*8)) λz30=>
M.nn x0 λa31=>
M.load h25 (Addr.add a31 8) λv32=>
M.str v32 λs33=>
M.val (wrap .i64 (119-(ByteArray.size s33:Int))) λz34=>
M.nz 64 (
M.val (Int.tmod z34 64) λz35=>
F0 (⟨#[0]⟩:ByteArray) z35 h25 λs36 h37=>
M.cat (⟨#[128]⟩:ByteArray) s36 λs38=>
M.jZ 32 (
M.val (shr .u64 z30 32) λz39=>
M.val (wrap .u32 z39) λz40=>
M.val (wrap .u32 z30) λz41=>
M.new h37 (.cells #[.int .u32 z40,.int .u32 z41] 230) λb42 h43=>
F1 (some ⟨b42,0,none⟩) 2 2 h43 λs44 h45=>
M.cat s38 s44 λs46=>
F2 (some ⟨b23,0,none⟩) s46 h45 λh47=>
M.sub (some (Addr.add ⟨b23,0,none⟩ 0)) 8 1 0 ((8:Nat):Int) λa48 l49 c50=>
F1 a48 l49 c50 h47 λs51 h52=>
Q s51 h52))))
def fY:=fY.g strings_Repeat cI cN
def fY.L(F:type_of% fY):LT
 | [.pointer x0]=>λQ h=>F x0 h λs55 h56=>Q (.string s55) h56
 | _=>λ_ _=>False
theorem fY.geq(F0)(F1)(F2):∀l,gj (fT Tryz.prog (ay [(74,WL (strings_Repeat.L F0)),(111,WL (cI.L F1)),(180,WL (cN.L F2))]) Tryz.f181 lQ) l (fY.L (fY.g F0 F1 F2) l):=by
 intro l;unfold fY.L;split;exact .inr (by intros;kernel_rfl);exact .inl rfl
theorem fY.good:ai Tryz.prog 181 (WL (fY.L fY)):=.gu mixed (.cons strings_Repeat.good (.cons cI.good (.cons cN.good .nil))) Tryz.func181 Tryz.call181 (fY.geq strings_Repeat cI cN)
def dM(x0:Option Addr)(x0L x0C:Nat)(h:H)(Q:ByteArray->H->Prop):Prop:=
M.join (α:=ByteArray) (λd14 h15=>
dJ 2 d14 h15 λs16 h17=>
Q s16 h17) λJ2=>
M.loop (α:=ByteArray×Int) (λJ3 d4 h5=>
(bif(decide (d4.2<(x0L:Int)))then
M.idx x0 x0L d4.2 λa6 j7=>
M.load h5 (Addr.add a6 (j7*1)) λv8=>
M.str v8 λs9=>
eX s9 h5 λs10 h11=>
M.cat d4.1 s10 λs12=>
M.val (wrap .i64 (d4.2+1)) λz13=>
J3 (s12,z13) h11
else
J2 d4.1 h5)) (empty,0) h
def dM.L(F:type_of% dM):LT
 | [.slice x0 x0L x0C]=>λQ h=>F x0 x0L x0C h λs20 h21=>Q (.string s20) h21
 | _=>λ_ _=>False
def dM.ann:jy:=⟨ah [],ah [(7,[(3,.str)])],ah [(58,[(3,.str),(4,.int .i64)])]⟩
theorem dM.good:ai Tryz.prog 213 (WL (dM.L dM)):=.gu (ann:=dM.ann) mixed (.cons eX.good (.cons dJ.good .nil)) Tryz.func213 Tryz.call213 (by intro l;unfold dM.L;split;exact .inr (by intros;kernel_rfl);exact .inl rfl)
def aR.g(F0:Option Addr->Nat->Nat->Int->H->(ByteArray->H->Prop)->Prop)(F1:type_of% dJ)(x0:Option Addr)(x0L x0C:Nat)(x1:Int)(h:H)(Q:ByteArray->H->Prop):Prop:=
(bif(decide (x1≥(x0L:Int)))then
M.val (wrap .i64 (x1-(x0L:Int))) λz2=>
M.idx x0 x0L z2 λa3 j4=>
M.load h (Addr.add a3 (j4*1)) λv5=>
M.str v5 λs6=>
Q s6 h
else
M.val (wrap .i64 (2*x1)) λz7=>
F0 x0 x0L x0C z7 h λs8 h9=>
M.val (wrap .i64 (2*x1)) λz10=>
M.val (wrap .i64 (z10+1)) λz11=>
F0 x0 x0L x0C z11 h9 λs12 h13=>
M.cat s8 s12 λs14=>
F1 1 s14 h13 λs15 h16=>
Q s15 h16)
def aR.n:Nat->Option Addr->Nat->Nat->Int->H->(ByteArray->H->Prop)->Prop
 | 0=>λ_ _ _ _ _ _=>False
 | k+1=>λx0 x0L x0C x1 h Q=>aR.g (aR.n k) dJ x0 x0L x0C x1 h Q
def aR(x0:Option Addr)(x0L x0C:Nat)(x1:Int)(h:H)(Q:ByteArray->H->Prop):Prop:=∃k,aR.n k x0 x0L x0C x1 h Q
def aR.L(F:type_of% aR):LT
 | [.slice x0 x0L x0C,.int .i64 x1]=>λQ h=>F x0 x0L x0C x1 h λs19 h20=>Q (.string s19) h20
 | _=>λ_ _=>False
theorem aR.geq(F0)(F1):∀l,gj (fT Tryz.prog (ay [(216,WL (aR.L F0)),(151,WL (dJ.L F1))]) Tryz.f216 lQ) l (aR.L (aR.g F0 F1) l):=by
 intro l;unfold aR.L;split;exact .inr (by intros;kernel_rfl);exact .inl rfl
theorem aR.step(k:Nat)(ih:ai Tryz.prog 216 (WL (aR.L (aR.n k)))):ai Tryz.prog 216 (WL (aR.L (aR.n (k+1)))):=.gu mixed (.cons ih (.cons dJ.good .nil)) Tryz.func216 Tryz.call216 (aR.geq (aR.n k) dJ)
theorem aR.O7:∀k,ai Tryz.prog 216 (WL (aR.L (aR.n k)))
 | 0=>ai.RW λargs Q h=>by
  show ¬aR.L (aR.n 0) args.toList Q h;generalize args.toList=l;unfold aR.L;split<;>exact id
 | k+1=>aR.step k (aR.O7 k)
theorem aR.good:ai Tryz.prog 216 (WL (aR.L aR)):=(ai.ex aR.O7).iff λargs Q h=>by
 show aR.L aR args.toList Q h↔∃k,aR.L (aR.n k) args.toList Q h;generalize args.toList=l;unfold aR.L;split
 ·exact Iff.rfl
 ·exact⟨λh=>h.elim,λ⟨_,h⟩=>h⟩
def aq(x0:Option Addr)(x0L x0C:Nat)(x1_0:Addr)(h:H)(Q:Bool->H->Prop):Prop:=
au x0 x0L x0C x1_0 h λn2 h3=>
Q (decide (n2≥0)) h3
def aq.L(F:type_of% aq):LT
 | [.slice x0 x0L x0C,.func (.func 133) ⟨[]⟩ ⟨[.pointer (some x1_0)]⟩]=>λQ h=>F x0 x0L x0C x1_0 h λb6 h7=>Q (.bool b6) h7
 | _=>λ_ _=>False
theorem aq.good:ai Tryz.prog 132 (WL (aq.L aq)):=.gu (ann:=lQ) mixed (.cons au.good .nil) Tryz.func132 Tryz.call132 (by intro l;unfold aq.L;split;exact .inr (by intros;kernel_rfl);exact .inl rfl)
def dQ(x0_0:Option Addr)(x0_1 x0_2:Int)(x0_3:ByteArray)(x1:Int)(x2 x3:ByteArray)(h:H)(Q:ByteArray->Int->H->Prop):Prop:=
M.new h (.cells #[.pointer x0_0,.int .i64 x0_1,.int .i64 x0_2,.string x0_3] 126) λb3 h4=>
M.load h4 (Addr.add ⟨b3,0,none⟩ 0) λv5=>
M.ptr v5 λp6=>
M.load h4 (Addr.add ⟨b3,0,none⟩ 1) λv7=>
M.int .i64 v7 λn8=>
M.load h4 (Addr.add ⟨b3,0,none⟩ 2) λv9=>
M.int .i64 v9 λn10=>
M.load h4 (Addr.add ⟨b3,0,none⟩ 3) λv11=>
M.str v11 λs12=>
cr p6 n8 n10 s12 x1 h4 λn13 h14=>
(bif(n13 != 0)then
Q empty n13 h14
else
M.join (α:=Bool) (λd16 h17=>
(bif d16 then
Q empty 7 h17
else
M.load h17 (Addr.add ⟨b3,0,none⟩ 3) λv18=>
M.str v18 λs19=>
M.load h17 (Addr.add ⟨b3,0,none⟩ 0) λv20=>
M.ptr v20 λp21=>
M.load h17 (Addr.add ⟨b3,0,none⟩ 1) λv22=>
M.int .i64 v22 λn23=>
M.load h17 (Addr.add ⟨b3,0,none⟩ 2) λv24=>
M.int .i64 v24 λn25=>
M.load h17 (Addr.add ⟨b3,0,none⟩ 3) λv26=>
M.str v26 λs27=>
de p21 n23 n25 s27 x1 h17 λs28 h29=>
M.still h17 (Addr.add ⟨b3,0,none⟩ 3) 1 h29 (
iL s19 x2 s28 x3 h29 λs30 n31 h32=>
M.cat x2 s30 λs33=>
Q s33 0 h32))) λJ15=>
(bif((ByteArray.size x2:Int) != 12)then
J15 true h14
else
J15 ((ByteArray.size x3:Int) != 32) h14))
def dQ.L(F:type_of% dQ):LT
 | [.agg ⟨[.pointer x0_0,.int .i64 x0_1,.int .i64 x0_2,.string x0_3]⟩,.int .i64 x1,.string x2,.string x3]=>λQ h=>F x0_0 x0_1 x0_2 x0_3 x1 x2 x3 h λs37 n38 h39=>Q (.tuple #[.string s37,.int .i64 n38]) h39
 | _=>λ_ _=>False
def dQ.ann:jy:=⟨ah [(4,[(26,.bool)])],ah [],ah []⟩
theorem dQ.good:ai Tryz.prog 48 (WL (dQ.L dQ)):=.gu (ann:=dQ.ann) mixed (.cons cr.good (.cons de.good (.cons iL.good .nil))) Tryz.func48 Tryz.call48 (by intro l;unfold dQ.L;split;exact .inr (by intros;kernel_rfl);exact .inl rfl)
def dr.g(F0:type_of% gG)(F1:type_of% eG)(F2:type_of% eA)(F3:type_of% dY)(F4:type_of% eo)(F5:type_of% jF)(x0:Option Addr)(x1_0 x1_1 x1_2 x1_3 x1_4 x1_5:Int)(x1_6:Bool)(x1_7:Option Addr)(x1_7L x1_7C:Nat)(x1_8:Option Addr)(x1_8L x1_8C:Nat)(h:H)(Q:Int->H->Prop):Prop:=
M.new h (.cells #[.int .u64 x1_0,.int .u64 x1_1,.int .i64 x1_2,.int .i64 x1_3,.int .i64 x1_4,.int .i64 x1_5,.bool x1_6,.slice x1_7 x1_7L x1_7C,.slice x1_8 x1_8L x1_8C] 80) λb2 h3=>
M.kC h3 ⟨b2,0,none⟩ λn5 n7 n9 n11 n13 n15 b17 a19 l20 c21 a23 l24 c25=>
F0 n5 n7 n9 n11 n13 n15 b17 a19 l20 c21 a23 l24 c25 h3 λs26 n27 h28=>
M.join (α:=Bool) (λd62 h63=>
(bif(!d62)then
Q 24 h63
else
M.nn x0 λa64=>
M.load h63 (Addr.add a64 0) λv65=>
M.ptr v65 λp66=>
F3 p66 h63 λn67 h68=>
(bif(n67 != 0)then
Q n67 h68
else
F4 s26 h68 λs69 h70=>
M.nn x0 λa71=>
M.load h70 (Addr.add a71 1) λv72=>
M.ptr v72 λp73=>
M.load h70 (Addr.add ⟨b2,0,none⟩ 0) λv74=>
M.int .u64 v74 λn75=>
F5 p73 n75 s69 h70 λn76 h77=>
Q n76 h77))) λJ29=>
M.loop (α:=Bool×Int) (λJ30 d31 h32=>
M.nn x0 λa33=>
M.load h32 (Addr.add a33 0) λv34=>
M.ptr v34 λp35=>
M.nn p35 λa36=>
M.load h32 (Addr.add a36 0) λv37=>
M.slc v37 λa38 l39 c40=>
(bif(decide (d31.2<(l39:Int)))then
M.join (α:=Bool) (λd59 h60=>
M.val (wrap .i64 (d31.2+1)) λz61=>
J30 (d59,z61) h60) λJ41=>
M.nn x0 λa42=>
M.load h32 (Addr.add a42 0) λv43=>
M.ptr v43 λp44=>
M.load h32 (Addr.add ⟨b2,0,none⟩ 0) λv45=>
M.int .u64 v45 λn46=>
M.nz 2 (
M.val (Int.tmod n46 2) λz47=>
M.val (wrap .i64 z47) λz48=>
M.still h32 (Addr.add a42 0) 1 h32 (
F1 p44 d31.2 z48 s26 h32 λn49 h50=>
M.join (α:=Int) (λd57 h58=>
(bif(d57 == 21)then
Q 21 h58
else
(bif(d57 == 0)then
J41 true h58
else
J41 d31.1 h58))) λJ51=>
(bif(n49 == 0)then
M.nn x0 λa52=>
M.load h50 (Addr.add a52 0) λv53=>
M.ptr v53 λp54=>
F2 p54 d31.2 h50 λn55 h56=>
J51 n55 h56
else
J51 n49 h50)))
else
J29 d31.1 h32)) (false,0) h28
def dr:=dr.g gG eG eA dY eo jF
def dr.L(F:type_of% dr):LT
 | [.pointer x0,.agg ⟨[.int .u64 x1_0,.int .u64 x1_1,.int .i64 x1_2,.int .i64 x1_3,.int .i64 x1_4,.int .i64 x1_5,.bool x1_6,.slice x1_7 x1_7L x1_7C,.slice x1_8 x1_8L x1_8C]⟩]=>λQ h=>F x0 x1_0 x1_1 x1_2 x1_3 x1_4 x1_5 x1_6 x1_7 x1_7L x1_7C x1_8 x1_8L x1_8C h λn80 h81=>Q (.int .i64 n80) h81
 | _=>λ_ _=>False
def dr.ann:jy:=⟨ah [],ah [(15,[(7,.bool)]),(489,[(7,.bool)]),(3913,[(9,.int .i64)])],ah [(122,[(7,.bool),(8,.int .i64)])]⟩
theorem dr.geq(F0)(F1)(F2)(F3)(F4)(F5):∀l,gj (fT Tryz.prog (ay [(86,WL (gG.L F0)),(153,WL (eG.L F1)),(154,WL (eA.L F2)),(155,WL (dY.L F3)),(156,WL (eo.L F4)),(157,WL (jF.L F5))]) Tryz.f82 dr.ann) l (dr.L (dr.g F0 F1 F2 F3 F4 F5) l):=by
 intro l;unfold dr.L;split;exact .inr (by intros;kernel_rfl);exact .inl rfl
theorem dr.good:ai Tryz.prog 82 (WL (dr.L dr)):=.gu mixed (.cons gG.good (.cons eG.good (.cons eA.good (.cons dY.good (.cons eo.good (.cons jF.good .nil)))))) Tryz.func82 Tryz.call82 (dr.geq gG eG eA dY eo jF)
def gO.g(F0:type_of% fI)(F1:type_of% eo)(F2:type_of% iJ)(x0:Option Addr)(h:H)(Q:Int->Int->Int->Int->Int->Int->Bool->Option Addr->Nat->Nat->Option Addr->Nat->Nat->Int->H->Prop):Prop:=
M.new h (.cells #[.int .u64 0,.int .u64 0,.int .i64 0,.int .i64 0,.int .i64 0,.int .i64 0,.bool false,.slice none 0 0,.slice none 0 0] 80) λb15 h16=>
M.join (α:=Unit) (λd178 h179=>
M.nN 9 h179 ⟨b15,0,none⟩ [.int .u64 0,.int .u64 0,.int .i64 0,.int .i64 0,.int .i64 0,.int .i64 0,.bool false,.slice none 0 0,.slice none 0 0] (λh180=>
M.kC h180 ⟨b15,0,none⟩ λn182 n184 n186 n188 n190 n192 b194 a196 l197 c198 a200 l201 c202=>
Q n182 n184 n186 n188 n190 n192 b194 a196 l197 c198 a200 l201 c202 24 h180)) λJ17=>
M.loop (α:=Int) (λJ18 d19 h20=>
M.nn x0 λa21=>
M.load h20 (Addr.add a21 0) λv22=>
M.ptr v22 λp23=>
M.nn p23 λa24=>
M.load h20 (Addr.add a24 0) λv25=>
M.slc v25 λa26 l27 c28=>
(bif(decide (d19<(l27:Int)))then
M.join (α:=Unit) (λd175 h176=>
M.val (wrap .i64 (d19+1)) λz177=>
J18 z177 h176) λJ29=>
M.loop (α:=Int) (λJ30 d31 h32=>
(bif(decide (d31<2))then
M.join (α:=Unit) (λd172 h173=>
M.val (wrap .i64 (d31+1)) λz174=>
J30 z174 h173) λJ33=>
M.nn x0 λa34=>
M.load h32 (Addr.add a34 0) λv35=>
M.ptr v35 λp36=>
F0 p36 d19 d31 h32 λs37 n38 h39=>
(bif(n38 == 21)then
M.nN 9 h39 ⟨b15,0,none⟩ [.int .u64 0,.int .u64 0,.int .i64 0,.int .i64 0,.int .i64 0,.int .i64 0,.bool false,.slice none 0 0,.slice none 0 0] (λh40=>
M.kC h40 ⟨b15,0,none⟩ λn42 n44 n46 n48 n50 n52 b54 a56 l57 c58 a60 l61 c62=>
Q n42 n44 n46 n48 n50 n52 b54 a56 l57 c58 a60 l61 c62 21 h40)
else
(bif(n38 != 0)then
J33 () h39
else
F1 s37 h39 λs63 h64=>
F2 s37 h64 λn65 n66 n67 n68 n69 n70 b71 a72 l73 c74 a75 l76 c77 n78 h79=>
M.new h79 (.cells #[.int .u64 0,.int .u64 0,.int .i64 0,.int .i64 0,.int .i64 0,.int .i64 0,.bool false,.slice none 0 0,.slice none 0 0] 80) λb80 h81=>
M.nN 9 h81 ⟨b80,0,none⟩ [.int .u64 n65,.int .u64 n66,.int .i64 n67,.int .i64 n68,.int .i64 n69,.int .i64 n70,.bool b71,.slice a72 l73 c74,.slice a75 l76 c77] (λh82=>
M.join (α:=Bool) (λd90 h91=>
(bif d90 then
J33 () h91
else
M.load h91 (Addr.add ⟨b80,0,none⟩ 8) λv92=>
M.slc v92 λa93 l94 c95=>
M.nn x0 λa96=>
M.load h91 (Addr.add a96 0) λv97=>
M.ptr v97 λp98=>
M.nn p98 λa99=>
M.load h91 (Addr.add a99 0) λv100=>
M.slc v100 λa101 l102 c103=>
(bif((l94:Int) != (l102:Int))then
M.nN 9 h91 ⟨b15,0,none⟩ [.int .u64 0,.int .u64 0,.int .i64 0,.int .i64 0,.int .i64 0,.int .i64 0,.bool false,.slice none 0 0,.slice none 0 0] (λh104=>
M.kC h104 ⟨b15,0,none⟩ λn106 n108 n110 n112 n114 n116 b118 a120 l121 c122 a124 l125 c126=>
Q n106 n108 n110 n112 n114 n116 b118 a120 l121 c122 a124 l125 c126 24 h104)
else
M.kC h91 ⟨b80,0,none⟩ λn128 n130 n132 n134 n136 n138 b140 a142 l143 c144 a146 l147 c148=>
M.nN 9 h91 ⟨b15,0,none⟩ [.int .u64 n128,.int .u64 n130,.int .i64 n132,.int .i64 n134,.int .i64 n136,.int .i64 n138,.bool b140,.slice a142 l143 c144,.slice a146 l147 c148] (λh149=>
M.kC h149 ⟨b15,0,none⟩ λn151 n153 n155 n157 n159 n161 b163 a165 l166 c167 a169 l170 c171=>
Q n151 n153 n155 n157 n159 n161 b163 a165 l166 c167 a169 l170 c171 0 h149)))) λJ83=>
M.nn x0 λa84=>
M.load h82 (Addr.add a84 1) λv85=>
M.ptr v85 λp86=>
M.nn p86 λa87=>
M.load h82 (Addr.add a87 1) λv88=>
M.str v88 λs89=>
(bif(!mX s63 s89)then
J83 true h82
else
J83 (n78 != 0) h82))))
else
J29 () h32)) 0 h20
else
J17 () h20)) 0 h16
def gO:=gO.g fI eo iJ
def gO.L(F:type_of% gO):LT
 | [.pointer x0]=>λQ h=>F x0 h λn218 n219 n220 n221 n222 n223 b224 a225 l226 c227 a228 l229 c230 n231 h232=>Q (.tuple #[(.agg (#[.int .u64 n218,.int .u64 n219,.int .i64 n220,.int .i64 n221,.int .i64 n222,.int .i64 n223,.bool b224,.slice a225 l226 c227,.slice a228 l229 c230]:Array Value)),.int .i64 n231]) h232
 | _=>λ_ _=>False
def gO.ann:jy:=⟨ah [(13,[(61,.bool)])],ah [(3,[]),(105,[]),(6729,[])],ah [(26,[(4,.int .i64)]),(1682,[(5,.int .i64)])]⟩
theorem gO.geq(F0)(F1)(F2):∀l,gj (fT Tryz.prog (ay [(158,WL (fI.L F0)),(156,WL (eo.L F1)),(159,WL (iJ.L F2))]) Tryz.f83 gO.ann) l (gO.L (gO.g F0 F1 F2) l):=by
 intro l;unfold gO.L;split;exact .inr (by intros;kernel_rfl);exact .inl rfl
theorem gO.good:ai Tryz.prog 83 (WL (gO.L gO)):=.gu mixed (.cons fI.good (.cons eo.good (.cons iJ.good .nil))) Tryz.func83 Tryz.call83 (gO.geq fI eo iJ)
def iV(x0:ByteArray)(h:H)(Q:ByteArray->H->Prop):Prop:=
kX  h λp2 h3=>
cN p2 x0 h3 λh4=>
fY p2 h4 λs5 h6=>
Q s5 h6
def iV.L(F:type_of% iV):LT
 | [.string x0]=>λQ h=>F x0 h λs9 h10=>Q (.string s9) h10
 | _=>λ_ _=>False
theorem iV.good:ai Tryz.prog 107 (WL (iV.L iV)):=.gu (ann:=lQ) mixed (.cons kX.good (.cons cN.good (.cons fY.good .nil))) Tryz.func107 Tryz.call107 (by intro l;unfold iV.L;split;exact .inr (by intros;kernel_rfl);exact .inl rfl)
def gM(x0:ByteArray)(h:H)(Q:ByteArray->H->Prop):Prop:=
M.cat (⟨#[0]⟩:ByteArray) x0 λs2=>
iV s2 h λs3 h4=>
Q s3 h4
def gM.L(F:type_of% gM):LT
 | [.string x0]=>λQ h=>F x0 h λs7 h8=>Q (.string s7) h8
 | _=>λ_ _=>False
theorem gM.good:ai Tryz.prog 127 (WL (gM.L gM)):=.gu (ann:=lQ) mixed (.cons iV.good .nil) Tryz.func127 Tryz.call127 (by intro l;unfold gM.L;split;exact .inr (by intros;kernel_rfl);exact .inl rfl)
def iK.g(F0:type_of% eY)(F1:type_of% eX)(F2:type_of% dM)(x0:Option Addr)(x0L x0C:Nat)(h:H)(Q:Option Addr->Nat->Nat->ByteArray->Int->H->Prop):Prop:=
(bif(decide ((x0L:Int)>95))then
Q none 0 0 empty 10 h
else
M.val (wrap .u64 (x0L:Int)) λz6=>
F0 z6 h λs7 h8=>
M.new h8 (.cells #[.string s7] 9) λb9 h10=>
M.cellsOf h10 (some ⟨b9,0,none⟩) (1*1) λcs15=>
M.app h10 9 1 16 [.string empty] none 0 0 1 cs15 λa11 l12 c13 h14=>
M.join (α:=(Option Addr×Nat×Nat)) (λd57 h58=>
F2 d57.1 d57.2.1 d57.2.2 h58 λs59 h60=>
Q d57.1 d57.2.1 d57.2.2 s59 0 h60) λJ16=>
M.loop (α:=(Option Addr×Nat×Nat)×Int) (λJ17 d18 h19=>
(bif(decide (d18.2<(x0L:Int)))then
M.join (α:=Bool) (λd29 h30=>
(bif d29 then
Q none 0 0 empty 2 h30
else
M.idx x0 x0L d18.2 λa31 j32=>
M.load h30 (Addr.add (Addr.add a31 (j32*2)) 1) λv33=>
M.str v33 λs34=>
(bif(decide ((ByteArray.size s34:Int)>2032))then
Q none 0 0 empty 5 h30
else
M.idx x0 x0L d18.2 λa35 j36=>
M.load h30 (Addr.add (Addr.add a35 (j36*2)) 0) λv37=>
M.int .i64 v37 λn38=>
M.val (wrap .u64 n38) λz39=>
F0 z39 h30 λs40 h41=>
M.idx x0 x0L d18.2 λa42 j43=>
M.load h41 (Addr.add (Addr.add a42 (j43*2)) 1) λv44=>
M.str v44 λs45=>
F1 s45 h41 λs46 h47=>
M.cat s40 s46 λs48=>
M.new h47 (.cells #[.string s48] 9) λb49 h50=>
M.cellsOf h50 (some ⟨b49,0,none⟩) (1*1) λcs55=>
M.app h50 9 1 16 [.string empty] d18.1.1 d18.1.2.1 d18.1.2.2 1 cs55 λa51 l52 c53 h54=>
M.val (wrap .i64 (d18.2+1)) λz56=>
J17 ((a51,l52,c53),z56) h54))) λJ20=>
M.idx x0 x0L d18.2 λa21 j22=>
M.load h19 (Addr.add (Addr.add a21 (j22*2)) 0) λv23=>
M.int .i64 v23 λn24=>
(bif(decide (n24<100))then
J20 true h19
else
M.idx x0 x0L d18.2 λa25 j26=>
M.load h19 (Addr.add (Addr.add a25 (j26*2)) 0) λv27=>
M.int .i64 v27 λn28=>
J20 (decide (n28>139)) h19)
else
J16 (d18.1.1,d18.1.2.1,d18.1.2.2) h19)) ((a11,l12,c13),0) h14)
def iK:=iK.g eY eX dM
def iK.L(F:type_of% iK):LT
 | [.slice x0 x0L x0C]=>λQ h=>F x0 x0L x0C h λa67 l68 c69 s70 n71 h72=>Q (.tuple #[.slice a67 l68 c69,.string s70,.int .i64 n71]) h72
 | _=>λ_ _=>False
def iK.ann:jy:=⟨ah [(9,[(41,.bool)])],ah [(63,[(5,.slc)])],ah [(506,[(5,.slc),(7,.int .i64)])]⟩
theorem iK.geq(F0)(F1)(F2):∀l,gj (fT Tryz.prog (ay [(163,WL (eY.L F0)),(164,WL (eX.L F1)),(213,WL (dM.L F2))]) Tryz.f149 iK.ann) l (iK.L (iK.g F0 F1 F2) l):=by
 intro l;unfold iK.L;split;exact .inr (by intros;kernel_rfl);exact .inl rfl
theorem iK.good:ai Tryz.prog 149 (WL (iK.L iK)):=.gu mixed (.cons eY.good (.cons eX.good (.cons dM.good .nil))) Tryz.func149 Tryz.call149 (iK.geq eY eX dM)
def gr(x0:Option Addr)(x0L x0C:Nat)(h:H)(Q:Option Addr->Nat->Nat->ByteArray->Int->H->Prop):Prop:=
gi (x0L:Int) h λn6 h7=>
(bif(n6 == 0)then
Q none 0 0 empty 2 h7
else
M.join (α:=Unit) (λd17 h18=>
M.mk h18 9 [.string empty] 16 (x0L:Int) (x0L:Int) λa19 l20 c21 h22=>
M.join (α:=Unit) (λd39 h40=>
aR x0 x0L x0C 1 h40 λs41 h42=>
Q a19 l20 c21 s41 0 h42) λJ23=>
M.loop (α:=Int) (λJ24 d25 h26=>
(bif(decide (d25<(x0L:Int)))then
M.val (wrap .i64 (2*d25)) λz27=>
aR x0 x0L x0C z27 h26 λs28 h29=>
M.val (wrap .i64 (2*d25)) λz30=>
M.val (wrap .i64 (z30+1)) λz31=>
aR x0 x0L x0C z31 h29 λs32 h33=>
M.cat s28 s32 λs34=>
M.idx a19 l20 d25 λa35 j36=>
M.put h33 (Addr.add a35 (j36*1)) (.string s34) λh37=>
M.val (wrap .i64 (d25+1)) λz38=>
J24 z38 h37
else
J23 () h26)) 1 h22) λJ8=>
M.loop (α:=Int) (λJ9 d10 h11=>
(bif(decide (d10<(x0L:Int)))then
M.idx x0 x0L d10 λa12 j13=>
M.load h11 (Addr.add a12 (j13*1)) λv14=>
M.str v14 λs15=>
(bif((ByteArray.size s15:Int) != 32)then
Q none 0 0 empty 7 h11
else
M.val (wrap .i64 (d10+1)) λz16=>
J9 z16 h11)
else
J8 () h11)) 0 h7)
def gr.L(F:type_of% gr):LT
 | [.slice x0 x0L x0C]=>λQ h=>F x0 x0L x0C h λa49 l50 c51 s52 n53 h54=>Q (.tuple #[.slice a49 l50 c51,.string s52,.int .i64 n53]) h54
 | _=>λ_ _=>False
def gr.ann:jy:=⟨ah [],ah [(15,[]),(63,[])],ah [(122,[(6,.int .i64)]),(506,[(8,.int .i64)])]⟩
theorem gr.good:ai Tryz.prog 152 (WL (gr.L gr)):=.gu (ann:=gr.ann) mixed (.cons gi.good (.cons aR.good .nil)) Tryz.func152 Tryz.call152 (by intro l;unfold gr.L;split;exact .inr (by intros;kernel_rfl);exact .inl rfl)
def iF.g(F0:type_of% fJ)(F1:type_of% dM)(F2:type_of% cv)(F3:type_of% fc)(F4:type_of% iW)(x0:Option Addr)(x0L x0C:Nat)(x1:ByteArray)(h:H)(Q:Option Addr->Nat->Nat->Int->H->Prop):Prop:=
(bif((x0L:Int) == 0)then
Q none 0 0 4 h
else
M.idx x0 x0L 0 λa5 j6=>
M.load h (Addr.add a5 (j6*1)) λv7=>
M.str v7 λs8=>
F0 s8 h λn9 n10 h11=>
(bif(n10 != 0)then
Q none 0 0 n10 h11
else
(bif(decide ((x0L:Int)<n9))then
Q none 0 0 3 h11
else
M.sub x0 x0C 1 0 n9 λa12 l13 c14=>
F1 a12 l13 c14 h11 λs15 h16=>
(bif(!mX s15 x1)then
Q none 0 0 22 h16
else
M.join (α:=(Option Addr×Nat×Nat)) (λd45 h46=>
Q d45.1 d45.2.1 d45.2.2 0 h46) λJ17=>
M.loop (α:=(Option Addr×Nat×Nat)×Int) (λJ18 d19 h20=>
(bif(decide (d19.2<n9))then
M.idx x0 x0L d19.2 λa21 j22=>
M.load h20 (Addr.add a21 (j22*1)) λv23=>
M.str v23 λs24=>
M.new h20 (.cells #[.string s24,.int .i64 0,.int .i64 0] 335) λb25 h26=>
F2 (some ⟨b25,0,none⟩) h26 λn27 h28=>
F3 (some ⟨b25,0,none⟩) h28 λs29 h30=>
F4 (some ⟨b25,0,none⟩) h30 λn31 h32=>
M.join (α:=Bool) (λd34 h35=>
(bif d34 then
Q none 0 0 4 h35
else
M.val (wrap .i64 n27) λz36=>
M.new h35 (.cells #[.int .i64 z36,.string s29] 267) λb37 h38=>
M.cellsOf h38 (some ⟨b37,0,none⟩) (1*2) λcs43=>
M.app h38 267 2 24 [.int .i64 0,.string empty] d19.1.1 d19.1.2.1 d19.1.2.2 1 cs43 λa39 l40 c41 h42=>
M.val (wrap .i64 (d19.2+1)) λz44=>
J18 ((a39,l40,c41),z44) h42)) λJ33=>
(bif(n31 != 0)then
J33 true h32
else
(bif(decide (n27<100))then
J33 true h32
else
(bif(decide (n27>139))then
J33 true h32
else
J33 (decide ((ByteArray.size s29:Int)>2032)) h32)))
else
J17 (d19.1.1,d19.1.2.1,d19.1.2.2) h20)) ((none,0,0),1) h16))))
def iF:=iF.g fJ dM cv fc iW
def iF.L(F:type_of% iF):LT
 | [.slice x0 x0L x0C,.string x1]=>λQ h=>F x0 x0L x0C x1 h λa52 l53 c54 n55 h56=>Q (.tuple #[.slice a52 l53 c54,.int .i64 n55]) h56
 | _=>λ_ _=>False
def iF.ann:jy:=⟨ah [(19,[(70,.bool)])],ah [(511,[(9,.slc)])],ah [(4090,[(9,.slc),(10,.int .i64)])]⟩
theorem iF.geq(F0)(F1)(F2)(F3)(F4):∀l,gj (fT Tryz.prog (ay [(160,WL (fJ.L F0)),(213,WL (dM.L F1)),(219,WL (cv.L F2)),(221,WL (fc.L F3)),(222,WL (iW.L F4))]) Tryz.f161 iF.ann) l (iF.L (iF.g F0 F1 F2 F3 F4) l):=by
 intro l;unfold iF.L;split;exact .inr (by intros;kernel_rfl);exact .inl rfl
theorem iF.good:ai Tryz.prog 161 (WL (iF.L iF)):=.gu mixed (.cons fJ.good (.cons dM.good (.cons cv.good (.cons fc.good (.cons iW.good .nil))))) Tryz.func161 Tryz.call161 (iF.geq fJ dM cv fc iW)
def jz(x0:ByteArray)(h:H)(Q:ByteArray->H->Prop):Prop:=
M.cat (⟨#[2]⟩:ByteArray) x0 λs2=>
iV s2 h λs3 h4=>
Q s3 h4
def jz.L(F:type_of% jz):LT
 | [.string x0]=>λQ h=>F x0 h λs7 h8=>Q (.string s7) h8
 | _=>λ_ _=>False
theorem jz.good:ai Tryz.prog 192 (WL (jz.L jz)):=.gu (ann:=lQ) mixed (.cons iV.good .nil) Tryz.func192 Tryz.call192 (by intro l;unfold jz.L;split;exact .inr (by intros;kernel_rfl);exact .inl rfl)
def dm(x0:Option Addr)(x0L x0C:Nat)(h:H)(Q:ByteArray->H->Prop):Prop:=
M.new h (.cells #[.pointer none,.slice none 0 0] 213) λb2 h3=>
M.join (α:=Unit) (λd18 h19=>
aU (some ⟨b2,0,none⟩) h19 λs20 h21=>
jz s20 h21 λs22 h23=>
Q s22 h23) λJ4=>
M.loop (α:=Int) (λJ5 d6 h7=>
(bif(decide (d6<(x0L:Int)))then
M.idx x0 x0L d6 λa8 j9=>
M.load h7 (Addr.add a8 (j9*1)) λv10=>
M.str v10 λs11=>
eV s11 h7 λs12 h13=>
ax (some ⟨b2,0,none⟩) s12 h13 λn14 v15 h16=>
M.val (wrap .i64 (d6+1)) λz17=>
J5 z17 h16
else
J4 () h7)) 0 h3
def dm.L(F:type_of% dm):LT
 | [.slice x0 x0L x0C]=>λQ h=>F x0 x0L x0C h λs26 h27=>Q (.string s26) h27
 | _=>λ_ _=>False
def dm.ann:jy:=⟨ah [],ah [(7,[])],ah [(58,[(8,.int .i64)])]⟩
theorem dm.good:ai Tryz.prog 200 (WL (dm.L dm)):=.gu (ann:=dm.ann) mixed (.cons eV.good (.cons ax.good (.cons aU.good (.cons jz.good .nil)))) Tryz.func200 Tryz.call200 (by intro l;unfold dm.L;split;exact .inr (by intros;kernel_rfl);exact .inl rfl)
def gN(x0:ByteArray)(h:H)(Q:ByteArray->H->Prop):Prop:=
M.cat (⟨#[1]⟩:ByteArray) x0 λs2=>
iV s2 h λs3 h4=>
Q s3 h4
def gN.L(F:type_of% gN):LT
 | [.string x0]=>λQ h=>F x0 h λs7 h8=>Q (.string s7) h8
 | _=>λ_ _=>False
theorem gN.good:ai Tryz.prog 210 (WL (gN.L gN)):=.gu (ann:=lQ) mixed (.cons iV.good .nil) Tryz.func210 Tryz.call210 (by intro l;unfold gN.L;split;exact .inr (by intros;kernel_rfl);exact .inl rfl)
def br(x0:Option Addr)(x1 x2:Int)(x3:ByteArray)(h:H)(Q:ByteArray->Int->H->Prop):Prop:=
bK x0 h λn3 h4=>
(bif(n3 != 0)then
Q empty n3 h4
else
M.nn x0 λa5=>
M.load h4 (Addr.add a5 12) λv6=>
M.ptr v6 λp7=>
cG p7 h4 λs8 n9 h10=>
(bif(n9 != 0)then
Q empty n9 h10
else
M.nn x0 λa11=>
M.D6 h10 (Addr.add a11 0) λp13 p15 s17=>
M.nn x0 λa18=>
M.load h10 (Addr.add (Addr.add a18 3) 3) λv19=>
M.int .i64 v19 λn20=>
az p13 p15 s17 x1 n20 h10 λp21 n22 n23 s24 h25=>
dQ p21 n22 n23 s24 x2 s8 x3 h25 λs26 n27 h28=>
Q s26 n27 h28))
def br.L(F:type_of% br):LT
 | [.pointer x0,.int .i64 x1,.int .i64 x2,.string x3]=>λQ h=>F x0 x1 x2 x3 h λs32 n33 h34=>Q (.tuple #[.string s32,.int .i64 n33]) h34
 | _=>λ_ _=>False
theorem br.good:ai Tryz.prog 8 (WL (br.L br)):=.gu (ann:=lQ) mixed (.cons bK.good (.cons cG.good (.cons az.good (.cons dQ.good .nil)))) Tryz.func8 Tryz.call8 (by intro l;unfold br.L;split;exact .inr (by intros;kernel_rfl);exact .inl rfl)
def eZ  (h:H) (Q:ByteArray->H->Prop):Prop:=
iK none 0 0 h λa2 l3 c4 s5 n6 h7=>
Q s5 h7
def eZ.L(F:type_of% eZ):LT
 | []=>λQ h=>F  h λs10 h11=>Q (.string s10) h11
 | _=>λ_ _=>False
theorem eZ.good:ai Tryz.prog 78 (WL (eZ.L eZ)):=.gu (ann:=lQ) mixed (.cons iK.good .nil) Tryz.func78 Tryz.call78 (by intro l;unfold eZ.L;split;exact .inr (by intros;kernel_rfl);exact .inl rfl)
def ga.g(F0:type_of% fL)(F1:type_of% dJ)(F2:type_of% gr)(x0_0:Option Addr)(x0_1 x0_2:Int)(x0_3:ByteArray)(h:H)(Q:Option Addr->Nat->Nat->ByteArray->Int->H->Prop):Prop:=
M.new h (.cells #[.pointer x0_0,.int .i64 x0_1,.int .i64 x0_2,.string x0_3] 173) λb6 h7=>
M.load h7 (Addr.add ⟨b6,0,none⟩ 0) λv8=>
M.ptr v8 λp9=>
M.load h7 (Addr.add ⟨b6,0,none⟩ 1) λv10=>
M.int .i64 v10 λn11=>
M.load h7 (Addr.add ⟨b6,0,none⟩ 2) λv12=>
M.int .i64 v12 λn13=>
M.load h7 (Addr.add ⟨b6,0,none⟩ 3) λv14=>
M.str v14 λs15=>
F0 p9 n11 n13 s15 h7 λb16 h17=>
(bif(!b16)then
Q none 0 0 empty 4 h17
else
F1 0 empty h17 λs18 h19=>
M.join (α:=(Option Addr×Nat×Nat)) (λd34 h35=>
F2 d34.1 d34.2.1 d34.2.2 h35 λa36 l37 c38 s39 n40 h41=>
M.join (α:=(Option Addr×Nat×Nat)) (λd61 h62=>
M.join (α:=(Option Addr×Nat×Nat)) (λd78 h79=>
Q d78.1 d78.2.1 d78.2.2 s39 0 h79) λJ63=>
M.loop (α:=(Option Addr×Nat×Nat)×Int) (λJ64 d65 h66=>
M.load h66 (Addr.add ⟨b6,0,none⟩ 2) λv67=>
M.int .i64 v67 λn68=>
(bif(decide (d65.2<n68))then
M.val (wrap .i64 (120+d65.2)) λz69=>
M.new h66 (.cells #[.int .i64 z69,.string empty] 267) λb70 h71=>
M.cellsOf h71 (some ⟨b70,0,none⟩) (1*2) λcs76=>
M.app h71 267 2 24 [.int .i64 0,.string empty] d65.1.1 d65.1.2.1 d65.1.2.2 1 cs76 λa72 l73 c74 h75=>
M.val (wrap .i64 (d65.2+1)) λz77=>
J64 ((a72,l73,c74),z77) h75
else
J63 (d65.1.1,d65.1.2.1,d65.1.2.2) h66)) ((d61.1,d61.2.1,d61.2.2),0) h62) λJ42=>
M.loop (α:=(Option Addr×Nat×Nat)×Int) (λJ43 d44 h45=>
M.load h45 (Addr.add ⟨b6,0,none⟩ 2) λv46=>
M.int .i64 v46 λn47=>
(bif(decide (d44.2<n47))then
M.val (wrap .i64 (100+d44.2)) λz48=>
M.idx a36 l37 d44.2 λa49 j50=>
M.load h45 (Addr.add a49 (j50*1)) λv51=>
M.str v51 λs52=>
M.new h45 (.cells #[.int .i64 z48,.string s52] 267) λb53 h54=>
M.cellsOf h54 (some ⟨b53,0,none⟩) (1*2) λcs59=>
M.app h54 267 2 24 [.int .i64 0,.string empty] d44.1.1 d44.1.2.1 d44.1.2.2 1 cs59 λa55 l56 c57 h58=>
M.val (wrap .i64 (d44.2+1)) λz60=>
J43 ((a55,l56,c57),z60) h58
else
J42 (d44.1.1,d44.1.2.1,d44.1.2.2) h45)) ((none,0,0),1) h41) λJ20=>
M.loop (α:=(Option Addr×Nat×Nat)×Int) (λJ21 d22 h23=>
M.load h23 (Addr.add ⟨b6,0,none⟩ 2) λv24=>
M.int .i64 v24 λn25=>
(bif(decide (d22.2<n25))then
M.new h23 (.cells #[.string s18] 9) λb26 h27=>
M.cellsOf h27 (some ⟨b26,0,none⟩) (1*1) λcs32=>
M.app h27 9 1 16 [.string empty] d22.1.1 d22.1.2.1 d22.1.2.2 1 cs32 λa28 l29 c30 h31=>
M.val (wrap .i64 (d22.2+1)) λz33=>
J21 ((a28,l29,c30),z33) h31
else
J20 (d22.1.1,d22.1.2.1,d22.1.2.2) h23)) ((none,0,0),0) h19)
def ga:=ga.g fL dJ gr
def ga.L(F:type_of% ga):LT
 | [.agg ⟨[.pointer x0_0,.int .i64 x0_1,.int .i64 x0_2,.string x0_3]⟩]=>λQ h=>F x0_0 x0_1 x0_2 x0_3 h λa86 l87 c88 s89 n90 h91=>Q (.tuple #[.slice a86 l87 c88,.string s89,.int .i64 n90]) h91
 | _=>λ_ _=>False
def ga.ann:jy:=⟨ah [],ah [(63,[(6,.slc)]),(511,[(12,.slc)]),(1023,[(12,.slc)])],ah [(506,[(6,.slc),(8,.int .i64)]),(4090,[(12,.slc),(13,.int .i64)]),(8186,[(12,.slc),(14,.int .i64)])]⟩
theorem ga.geq(F0)(F1)(F2):∀l,gj (fT Tryz.prog (ay [(150,WL (fL.L F0)),(151,WL (dJ.L F1)),(152,WL (gr.L F2))]) Tryz.f80 ga.ann) l (ga.L (ga.g F0 F1 F2) l):=by
 intro l;unfold ga.L;split;exact .inr (by intros;kernel_rfl);exact .inl rfl
theorem ga.good:ai Tryz.prog 80 (WL (ga.L ga)):=.gu mixed (.cons fL.good (.cons dJ.good (.cons gr.good .nil))) Tryz.func80 Tryz.call80 (ga.geq fL dJ gr)
def fC(x0:Option Addr)(x1:Int)(x2:ByteArray)(h:H)(Q:Bool->H->Prop):Prop:=
M.nn x0 λa2=>
M.load h (Addr.add a2 0) λv3=>
M.ptr v3 λp4=>
fI p4 x1 2 h λs5 n6 h7=>
(bif(n6 != 0)then
Q (n6 != 21) h7
else
fJ s5 h7 λn8 n9 h10=>
(bif(n9 != 0)then
Q true h10
else
M.new h10 (.cells #[.string s5] 9) λb11 h12=>
M.join (α:=(Option Addr×Nat×Nat)) (λd32 h33=>
iF d32.1 d32.2.1 d32.2.2 x2 h33 λa34 l35 c36 n37 h38=>
M.join (α:=Bool) (λd40 h41=>
(bif d40 then
Q true h41
else
gV x0 x1 h41 λp42 n43 n44 s45 h46=>
ew p42 n43 n44 s45 a34 l35 c36 h46 λn47 h48=>
Q (n47 != 21) h48)) λJ39=>
(bif(n37 != 0)then
J39 true h38
else
J39 ((l35:Int) == 0) h38)) λJ13=>
M.loop (α:=(Option Addr×Nat×Nat)×Int) (λJ14 d15 h16=>
(bif(decide (d15.2<n8))then
M.nn x0 λa17=>
M.load h16 (Addr.add a17 0) λv18=>
M.ptr v18 λp19=>
M.val (wrap .i64 (2+d15.2)) λz20=>
fI p19 x1 z20 h16 λs21 n22 h23=>
(bif(n22 != 0)then
Q (n22 != 21) h23
else
M.new h23 (.cells #[.string s21] 9) λb24 h25=>
M.cellsOf h25 (some ⟨b24,0,none⟩) (1*1) λcs30=>
M.app h25 9 1 16 [.string empty] d15.1.1 d15.1.2.1 d15.1.2.2 1 cs30 λa26 l27 c28 h29=>
M.val (wrap .i64 (d15.2+1)) λz31=>
J14 ((a26,l27,c28),z31) h29)
else
J13 (d15.1.1,d15.1.2.1,d15.1.2.2) h16)) (((some ⟨b11,0,none⟩),1,1),1) h12))
def fC.L(F:type_of% fC):LT
 | [.pointer x0,.int .i64 x1,.string x2]=>λQ h=>F x0 x1 x2 h λb51 h52=>Q (.bool b51) h52
 | _=>λ_ _=>False
def fC.ann:jy:=⟨ah [(16,[(76,.bool)])],ah [(127,[(11,.slc)])],ah [(1018,[(11,.slc),(12,.int .i64)])]⟩
theorem fC.good:ai Tryz.prog 85 (WL (fC.L fC)):=.gu (ann:=fC.ann) mixed (.cons fI.good (.cons fJ.good (.cons iF.good (.cons gV.good (.cons ew.good .nil))))) Tryz.func85 Tryz.call85 (by intro l;unfold fC.L;split;exact .inr (by intros;kernel_rfl);exact .inl rfl)
def ee(x0:ByteArray)(h:H)(Q:ByteArray->H->Prop):Prop:=
jz x0 h λs2 h3=>
Q s2 h3
def ee.L(F:type_of% ee):LT
 | [.string x0]=>λQ h=>F x0 h λs6 h7=>Q (.string s6) h7
 | _=>λ_ _=>False
theorem ee.good:ai Tryz.prog 117 (WL (ee.L ee)):=.gu (ann:=lQ) mixed (.cons jz.good .nil) Tryz.func117 Tryz.call117 (by intro l;unfold ee.L;split;exact .inr (by intros;kernel_rfl);exact .inl rfl)
def fK.g(F0:type_of% dI)(F1:type_of% cy)(F2:type_of% eV)(F3:type_of% dm)(x0:Option Addr)(x0L x0C:Nat)(h:H)(Q:Option Addr->Nat->Nat->ByteArray->Int->H->Prop):Prop:=
(bif(decide ((x0L:Int)≥96))then
Q none 0 0 empty 10 h
else
M.val (wrap .u64 (x0L:Int)) λz6=>
F0 z6 h λs7 h8=>
M.new h8 (.cells #[.string s7] 9) λb9 h10=>
M.join (α:=(Option Addr×Nat×Nat)) (λd48 h49=>
F3 d48.1 d48.2.1 d48.2.2 h49 λs50 h51=>
Q d48.1 d48.2.1 d48.2.2 s50 0 h51) λJ11=>
M.loop (α:=(Option Addr×Nat×Nat)×Int) (λJ12 d13 h14=>
(bif(decide (d13.2<(x0L:Int)))then
M.idx x0 x0L d13.2 λa15 j16=>
M.load h14 ((Addr.add a15 (j16*2)).add 0) λv17=>
M.int .i64 v17 λn18=>
M.load h14 ((Addr.add a15 (j16*2)).add 1) λv19=>
M.str v19 λs20=>
M.new h14 (.cells #[.int .i64 0,.string empty] 261) λb21 h22=>
M.req (Array.size (#[.int .i64 n18,.string s20]:Array Value)=2) (M.ku h22 ⟨b21,0,none⟩ [.int .i64 n18,.string s20] λh23=>
M.load h23 (Addr.add ⟨b21,0,none⟩ 0) λv24=>
M.int .i64 v24 λn25=>
M.load h23 (Addr.add ⟨b21,0,none⟩ 1) λv26=>
M.str v26 λs27=>
F1 n25 s27 h23 λn28 h29=>
(bif(n28 != 0)then
Q none 0 0 empty n28 h29
else
M.load h29 (Addr.add ⟨b21,0,none⟩ 0) λv30=>
M.int .i64 v30 λn31=>
M.load h29 (Addr.add ⟨b21,0,none⟩ 1) λv32=>
M.str v32 λs33=>
M.val (wrap .u64 n31) λz34=>
M.still h29 (Addr.add ⟨b21,0,none⟩ 1) 1 h29 (
F0 z34 h29 λs35 h36=>
M.still h29 (Addr.add ⟨b21,0,none⟩ 1) 1 h36 (
F2 s33 h36 λs37 h38=>
M.cat s35 s37 λs39=>
M.new h38 (.cells #[.string s39] 9) λb40 h41=>
M.cellsOf h41 (some ⟨b40,0,none⟩) (1*1) λcs46=>
M.app h41 9 1 16 [.string empty] d13.1.1 d13.1.2.1 d13.1.2.2 1 cs46 λa42 l43 c44 h45=>
M.val (wrap .i64 (d13.2+1)) λz47=>
J12 ((a42,l43,c44),z47) h45))))
else
J11 (d13.1.1,d13.1.2.1,d13.1.2.2) h14)) (((some ⟨b9,0,none⟩),1,1),0) h10)
def fK:=fK.g dI cy eV dm
def fK.L(F:type_of% fK):LT
 | [.slice x0 x0L x0C]=>λQ h=>F x0 x0L x0C h λa58 l59 c60 s61 n62 h63=>Q (.tuple #[.slice a58 l59 c60,.string s61,.int .i64 n62]) h63
 | _=>λ_ _=>False
def fK.ann:jy:=⟨ah [],ah [(15,[(5,.slc)])],ah [(122,[(5,.slc),(19,.int .i64)])]⟩
theorem fK.geq(F0)(F1)(F2)(F3):∀l,gj (fT Tryz.prog (ay [(103,WL (dI.L F0)),(199,WL (cy.L F1)),(105,WL (eV.L F2)),(200,WL (dm.L F3))]) Tryz.f121 fK.ann) l (fK.L (fK.g F0 F1 F2 F3) l):=by
 intro l;unfold fK.L;split;exact .inr (by intros;kernel_rfl);exact .inl rfl
theorem fK.good:ai Tryz.prog 121 (WL (fK.L fK)):=.gu mixed (.cons dI.good (.cons cy.good (.cons eV.good (.cons dm.good .nil)))) Tryz.func121 Tryz.call121 (fK.geq dI cy eV dm)
def gT.g(F0:type_of% ff)(F1:type_of% gN)(x0:Option Addr)(x0L x0C:Nat)(h:H)(Q:Option Addr->Nat->Nat->ByteArray->Int->H->Prop):Prop:=
F0 (x0L:Int) h λn6 h7=>
(bif(n6 == 0)then
Q none 0 0 empty 2 h7
else
M.val (wrap .i64 (2*(x0L:Int))) λz8=>
M.mk h7 9 [.string empty] 16 z8 z8 λa9 l10 c11 h12=>
M.join (α:=Unit) (λd30 h31=>
M.mk h31 9 [.string empty] 16 (x0L:Int) (x0L:Int) λa32 l33 c34 h35=>
M.join (α:=Unit) (λd66 h67=>
M.idx a9 l10 1 λa68 j69=>
M.load h67 (Addr.add a68 (j69*1)) λv70=>
M.str v70 λs71=>
Q a32 l33 c34 s71 0 h67) λJ36=>
M.val (wrap .i64 ((x0L:Int)-1)) λz37=>
M.loop (α:=Int) (λJ38 d39 h40=>
(bif(decide (d39>0))then
M.val (wrap .i64 (2*d39)) λz41=>
M.idx a9 l10 z41 λa42 j43=>
M.load h40 (Addr.add a42 (j43*1)) λv44=>
M.str v44 λs45=>
M.val (wrap .i64 (2*d39)) λz46=>
M.val (wrap .i64 (z46+1)) λz47=>
M.idx a9 l10 z47 λa48 j49=>
M.load h40 (Addr.add a48 (j49*1)) λv50=>
M.str v50 λs51=>
M.cat s45 s51 λs52=>
M.idx a32 l33 d39 λa53 j54=>
M.put h40 (Addr.add a53 (j54*1)) (.string s52) λh55=>
M.idx a32 l33 d39 λa56 j57=>
M.load h55 (Addr.add a56 (j57*1)) λv58=>
M.str v58 λs59=>
F1 s59 h55 λs60 h61=>
M.idx a9 l10 d39 λa62 j63=>
M.put h61 (Addr.add a62 (j63*1)) (.string s60) λh64=>
M.val (wrap .i64 (d39-1)) λz65=>
J38 z65 h64
else
J36 () h40)) z37 h35) λJ13=>
M.loop (α:=Int) (λJ14 d15 h16=>
(bif(decide (d15<(x0L:Int)))then
M.idx x0 x0L d15 λa17 j18=>
M.load h16 (Addr.add a17 (j18*1)) λv19=>
M.str v19 λs20=>
(bif((ByteArray.size s20:Int) != 32)then
Q none 0 0 empty 7 h16
else
M.val (wrap .i64 ((x0L:Int)+d15)) λz21=>
M.idx x0 x0L d15 λa22 j23=>
M.load h16 (Addr.add a22 (j23*1)) λv24=>
M.str v24 λs25=>
M.idx a9 l10 z21 λa26 j27=>
M.put h16 (Addr.add a26 (j27*1)) (.string s25) λh28=>
M.val (wrap .i64 (d15+1)) λz29=>
J14 z29 h28)
else
J13 () h16)) 0 h12)
def gT:=gT.g ff gN
def gT.L(F:type_of% gT):LT
 | [.slice x0 x0L x0C]=>λQ h=>F x0 x0L x0C h λa78 l79 c80 s81 n82 h83=>Q (.tuple #[.slice a78 l79 c80,.string s81,.int .i64 n82]) h83
 | _=>λ_ _=>False
def gT.ann:jy:=⟨ah [],ah [(31,[]),(127,[])],ah [(250,[(19,.int .i64)]),(1018,[(9,.int .i64)])]⟩
theorem gT.geq(F0)(F1):∀l,gj (fT Tryz.prog (ay [(209,WL (ff.L F0)),(210,WL (gN.L F1))]) Tryz.f145 gT.ann) l (gT.L (gT.g F0 F1) l):=by
 intro l;unfold gT.L;split;exact .inr (by intros;kernel_rfl);exact .inl rfl
theorem gT.good:ai Tryz.prog 145 (WL (gT.L gT)):=.gu mixed (.cons ff.good (.cons gN.good .nil)) Tryz.func145 Tryz.call145 (gT.geq ff gN)
def jm.g(F0:type_of% eE)(F1:type_of% fZ)(F2:type_of% iM)(F3:type_of% gN)(x0:Int)(x1:Option Addr)(x1L x1C:Nat)(x2:ByteArray)(h:H)(Q:Option Addr->Nat->Nat->ByteArray->Int->H->Prop):Prop:=
M.join (α:=Bool) (λd9 h10=>
(bif d9 then
Q none 0 0 empty 2 h10
else
(bif((ByteArray.size x2:Int) != 32)then
Q none 0 0 empty 7 h10
else
M.mk h10 9 [.string empty] 16 (x1L:Int) (x1L:Int) λa11 l12 c13 h14=>
M.join (α:=ByteArray) (λd56 h57=>
Q a11 l12 c13 d56 0 h57) λJ15=>
M.val (wrap .i64 ((x1L:Int)-1)) λz16=>
M.loop (α:=ByteArray×Int) (λJ17 d18 h19=>
(bif(decide (d18.2≥0))then
M.idx x1 x1L d18.2 λa20 j21=>
M.load h19 (Addr.add a20 (j21*1)) λv22=>
M.str v22 λs23=>
(bif((ByteArray.size s23:Int) != 64)then
Q none 0 0 empty 7 h19
else
M.join (α:=Unit) (λd47 h48=>
M.idx a11 l12 d18.2 λa49 j50=>
M.load h48 (Addr.add a49 (j50*1)) λv51=>
M.str v51 λs52=>
F3 s52 h48 λs53 h54=>
M.val (wrap .i64 (d18.2-1)) λz55=>
J17 (s53,z55) h54) λJ24=>
F1 x0 (x1L:Int) d18.2 h19 λb25 h26=>
(bif b25 then
M.idx x1 x1L d18.2 λa27 j28=>
M.load h26 (Addr.add a27 (j28*1)) λv29=>
M.str v29 λs30=>
F2 s30 false h26 λs31 h32=>
M.cat s31 d18.1 λs33=>
M.idx a11 l12 d18.2 λa34 j35=>
M.put h32 (Addr.add a34 (j35*1)) (.string s33) λh36=>
J24 () h36
else
M.idx x1 x1L d18.2 λa37 j38=>
M.load h26 (Addr.add a37 (j38*1)) λv39=>
M.str v39 λs40=>
F2 s40 true h26 λs41 h42=>
M.cat d18.1 s41 λs43=>
M.idx a11 l12 d18.2 λa44 j45=>
M.put h42 (Addr.add a44 (j45*1)) (.string s43) λh46=>
J24 () h46))
else
J15 d18.1 h19)) (x2,z16) h14))) λJ6=>
(bif(decide (x0<0))then
J6 true h
else
F0 (x1L:Int) h λn7 h8=>
J6 (decide (x0≥n7)) h8)
def jm:=jm.g eE fZ iM gN
def jm.L(F:type_of% jm):LT
 | [.int .i64 x0,.slice x1 x1L x1C,.string x2]=>λQ h=>F x0 x1 x1L x1C x2 h λa64 l65 c66 s67 n68 h69=>Q (.tuple #[.slice a64 l65 c66,.string s67,.int .i64 n68]) h69
 | _=>λ_ _=>False
def jm.ann:jy:=⟨ah [(1,[(19,.bool)])],ah [(31,[(2,.str)]),(8009,[])],ah [(250,[(2,.str),(10,.int .i64)])]⟩
theorem jm.geq(F0)(F1)(F2)(F3):∀l,gj (fT Tryz.prog (ay [(244,WL (eE.L F0)),(245,WL (fZ.L F1)),(246,WL (iM.L F2)),(210,WL (gN.L F3))]) Tryz.f184 jm.ann) l (jm.L (jm.g F0 F1 F2 F3) l):=by
 intro l;unfold jm.L;split;exact .inr (by intros;kernel_rfl);exact .inl rfl
theorem jm.good:ai Tryz.prog 184 (WL (jm.L jm)):=.gu mixed (.cons eE.good (.cons fZ.good (.cons iM.good (.cons gN.good .nil)))) Tryz.func184 Tryz.call184 (jm.geq eE fZ iM gN)
def gS.g(F0:type_of% fm)(F1:type_of% dm)(F2:type_of% gE)(F3:type_of% aB)(F4:type_of% bQ)(F5:type_of% bu)(F6:type_of% cy)(x0:Option Addr)(x0L x0C:Nat)(x1:ByteArray)(h:H)(Q:Option Addr->Nat->Nat->Int->H->Prop):Prop:=
(bif((x0L:Int) == 0)then
Q none 0 0 4 h
else
M.idx x0 x0L 0 λa5 j6=>
M.load h (Addr.add a5 (j6*1)) λv7=>
M.str v7 λs8=>
F0 s8 h λn9 n10 h11=>
(bif(n10 != 0)then
Q none 0 0 n10 h11
else
(bif(decide (n9>(x0L:Int)))then
Q none 0 0 3 h11
else
M.sub x0 x0C 1 0 n9 λa12 l13 c14=>
F1 a12 l13 c14 h11 λs15 h16=>
(bif(!mX s15 x1)then
Q none 0 0 22 h16
else
M.join (α:=(Option Addr×Nat×Nat)) (λd59 h60=>
Q d59.1 d59.2.1 d59.2.2 0 h60) λJ17=>
M.val (wrap .i64 (n9-1)) λz18=>
M.loop (α:=(Option Addr×Nat×Nat)×Int) (λJ19 d20 h21=>
(bif(decide (d20.2<z18))then
M.val (wrap .i64 (d20.2+1)) λz22=>
M.idx x0 x0L z22 λa23 j24=>
M.load h21 (Addr.add a23 (j24*1)) λv25=>
M.str v25 λs26=>
F2 s26 h21 λp27 h28=>
F3 p27 140 h28 λn29 h30=>
F4 p27 h30 λs31 h32=>
M.new h32 (.cells #[.int .i64 0,.string empty] 261) λb33 h34=>
M.req (Array.size (#[.int .i64 n29,.string s31]:Array Value)=2) (M.ku h34 ⟨b33,0,none⟩ [.int .i64 n29,.string s31] λh35=>
M.join (α:=Bool) (λd45 h46=>
(bif d45 then
Q none 0 0 4 h46
else
M.load h46 (Addr.add ⟨b33,0,none⟩ 0) λv47=>
M.int .i64 v47 λn48=>
M.load h46 (Addr.add ⟨b33,0,none⟩ 1) λv49=>
M.str v49 λs50=>
M.new h46 (.cells #[.int .i64 n48,.string s50] 261) λb51 h52=>
M.cellsOf h52 (some ⟨b51,0,none⟩) (1*2) λcs57=>
M.app h52 261 2 24 [.int .i64 0,.string empty] d20.1.1 d20.1.2.1 d20.1.2.2 1 cs57 λa53 l54 c55 h56=>
M.val (wrap .i64 (d20.2+1)) λz58=>
J19 ((a53,l54,c55),z58) h56)) λJ36=>
F5 p27 h35 λn37 h38=>
(bif(n37 != 0)then
J36 true h38
else
M.load h38 (Addr.add ⟨b33,0,none⟩ 0) λv39=>
M.int .i64 v39 λn40=>
M.load h38 (Addr.add ⟨b33,0,none⟩ 1) λv41=>
M.str v41 λs42=>
F6 n40 s42 h38 λn43 h44=>
J36 (n43 != 0) h44))
else
J17 (d20.1.1,d20.1.2.1,d20.1.2.2) h21)) ((none,0,0),0) h16))))
def gS:=gS.g fm dm gE aB bQ bu cy
def gS.L(F:type_of% gS):LT
 | [.slice x0 x0L x0C,.string x1]=>λQ h=>F x0 x0L x0C x1 h λa66 l67 c68 n69 h70=>Q (.tuple #[.slice a66 l67 c68,.int .i64 n69]) h70
 | _=>λ_ _=>False
def gS.ann:jy:=⟨ah [(17,[(63,.bool)])],ah [(63,[(8,.slc)])],ah [(506,[(8,.slc),(41,.int .i64)])]⟩
theorem gS.geq(F0)(F1)(F2)(F3)(F4)(F5)(F6):∀l,gj (fT Tryz.prog (ay [(182,WL (fm.L F0)),(200,WL (dm.L F1)),(193,WL (gE.L F2)),(195,WL (aB.L F3)),(259,WL (bQ.L F4)),(197,WL (bu.L F5)),(199,WL (cy.L F6))]) Tryz.f198 gS.ann) l (gS.L (gS.g F0 F1 F2 F3 F4 F5 F6) l):=by
 intro l;unfold gS.L;split;exact .inr (by intros;kernel_rfl);exact .inl rfl
theorem gS.good:ai Tryz.prog 198 (WL (gS.L gS)):=.gu mixed (.cons fm.good (.cons dm.good (.cons gE.good (.cons aB.good (.cons bQ.good (.cons bu.good (.cons cy.good .nil))))))) Tryz.func198 Tryz.call198 (gS.geq fm dm gE aB bQ bu cy)
def gh(x0:ByteArray)(x1:Int)(x2:Option Addr)(x2L x2C:Nat)(h:H)(Q:ByteArray->Int->H->Prop):Prop:=
M.join (α:=Bool) (λd6 h7=>
(bif d6 then
Q empty 2 h7
else
M.join (α:=ByteArray) (λd26 h27=>
Q d26 0 h27) λJ8=>
M.loop (α:=ByteArray×Int) (λJ9 d10 h11=>
(bif(decide (d10.2<(x2L:Int)))then
M.idx x2 x2L d10.2 λa12 j13=>
M.load h11 (Addr.add a12 (j13*1)) λv14=>
M.str v14 λs15=>
M.join (α:=Bool) (λd19 h20=>
(bif d19 then
Q empty 22 h20
else
fZ x1 (x2L:Int) d10.2 h20 λb21 h22=>
iM s15 b21 h22 λs23 h24=>
M.val (wrap .i64 (d10.2+1)) λz25=>
J9 (s23,z25) h24)) λJ16=>
(bif((ByteArray.size s15:Int) != 64)then
J16 true h11
else
gN s15 h11 λs17 h18=>
J16 (!mX s17 d10.1) h18)
else
J8 d10.1 h11)) (x0,0) h7)) λJ3=>
(bif(decide (x1<0))then
J3 true h
else
eE (x2L:Int) h λn4 h5=>
J3 (decide (x1≥n4)) h5)
def gh.L(F:type_of% gh):LT
 | [.string x0,.int .i64 x1,.slice x2 x2L x2C]=>λQ h=>F x0 x1 x2 x2L x2C h λs31 n32 h33=>Q (.tuple #[.string s31,.int .i64 n32]) h33
 | _=>λ_ _=>False
def gh.ann:jy:=⟨ah [(1,[(18,.bool)]),(6,[(34,.bool)])],ah [(7,[(0,.str)])],ah [(58,[(0,.str),(21,.int .i64)])]⟩
theorem gh.good:ai Tryz.prog 201 (WL (gh.L gh)):=.gu (ann:=gh.ann) mixed (.cons eE.good (.cons gN.good (.cons fZ.good (.cons iM.good .nil)))) Tryz.func201 Tryz.call201 (by intro l;unfold gh.L;split;exact .inr (by intros;kernel_rfl);exact .inl rfl)
def af(x0:Option Addr)(x0L x0C:Nat)(x1_0:Addr)(h:H)(Q:Int->H->Prop):Prop:=
M.loop (α:=Int) (λJ2 d3 h4=>
(bif(decide (d3<(x0L:Int)))then
M.idx x0 x0L d3 λa5 j6=>
M.load h4 ((Addr.add a5 (j6*3)).add 0) λv7=>
M.int .i64 v7 λn8=>
M.load h4 ((Addr.add a5 (j6*3)).add 1) λv9=>
M.int .i64 v9 λn10=>
M.load h4 ((Addr.add a5 (j6*3)).add 2) λv11=>
M.str v11 λs12=>
cx n8 n10 s12 x1_0 h4 λb13 h14=>
(bif b13 then
Q d3 h14
else
M.val (wrap .i64 (d3+1)) λz15=>
J2 z15 h14)
else
Q (-1) h4)) 0 h
def af.L(F:type_of% af):LT
 | [.slice x0 x0L x0C,.func (.func 135) ⟨[]⟩ ⟨[.pointer (some x1_0)]⟩]=>λQ h=>F x0 x0L x0C x1_0 h λn18 h19=>Q (.int .i64 n18) h19
 | _=>λ_ _=>False
def af.ann:jy:=⟨ah [],ah [],ah [(26,[(8,.int .i64)])]⟩
theorem af.good:ai Tryz.prog 204 (WL (af.L af)):=.gu (ann:=af.ann) mixed (.cons cx.good .nil) Tryz.func204 Tryz.call204 (by intro l;unfold af.L;split;exact .inr (by intros;kernel_rfl);exact .inl rfl)
def fE.g(F0:type_of% iR)(F1:type_of% eZ)(F2:type_of% gV)(F3:type_of% ga)(F4:type_of% ew)(F5:type_of% dr)(x0 x1:Option Addr)(x2:ByteArray)(x3 x4:Int)(h:H)(Q:Int->H->Prop):Prop:=
F0 x3 x4 0 false h λb2 h3=>
M.join (α:=Bool) (λd25 h26=>
(bif d25 then
Q 2 h26
else
M.nn x1 λa27=>
M.load h26 (Addr.add a27 0) λv28=>
M.int .u64 v28 λn29=>
(bif(n29 != 0)then
Q 13 h26
else
M.new h26 (.cells #[.pointer x0,.pointer x1,.string x2,.int .u64 0,.int .u64 0,.int .i64 0,.int .i64 0,.int .i64 0,.int .i64 0,.bool false,.slice none 0 0,.slice none 0 0,.pointer none,.bool false] 83) λb30 h31=>
M.nn (some ⟨b30,0,none⟩) λa32=>
M.put h31 (Addr.add (Addr.add a32 3) 3) (.int .i64 x4) λh33=>
M.new h33 (.cells #[.int .u64 0,.int .u64 0,.int .i64 0,.int .i64 0,.int .i64 0,.int .i64 0,.bool false,.slice none 0 0,.slice none 0 0] 80) λb34 h35=>
M.nN 9 h35 ⟨b34,0,none⟩ [.int .u64 1,.int .u64 1,.int .i64 x3,.int .i64 x4,.int .i64 0,.int .i64 0,.bool false,.slice none 0 0,.slice none 0 0] (λh36=>
M.join (α:=Unit) (λd197 h198=>
M.kC h198 ⟨b34,0,none⟩ λn200 n202 n204 n206 n208 n210 b212 a214 l215 c216 a218 l219 c220=>
F5 (some ⟨b30,0,none⟩) n200 n202 n204 n206 n208 n210 b212 a214 l215 c216 a218 l219 c220 h198 λn221 h222=>
Q n221 h222) λJ37=>
M.loop (α:=Int) (λJ38 d39 h40=>
M.nn x0 λa41=>
M.load h40 (Addr.add a41 0) λv42=>
M.slc v42 λa43 l44 c45=>
(bif(decide (d39<(l44:Int)))then
M.join (α:=Addr) (λd126 h127=>
M.join (α:=Unit) (λd176 h177=>
M.load h177 (Addr.add ⟨b34,0,none⟩ 8) λv178=>
M.slc v178 λa179 l180 c181=>
M.load h177 (d126.add 0) λv182=>
M.int .i64 v182 λn183=>
M.load h177 (d126.add 1) λv184=>
M.str v184 λs185=>
M.load h177 (d126.add 2) λv186=>
M.str v186 λs187=>
M.new h177 (.cells #[.int .i64 n183,.string s185,.string s187] 171) λb188 h189=>
M.cellsOf h189 (some ⟨b188,0,none⟩) (1*3) λcs194=>
M.app h189 171 3 40 [.int .i64 0,.string empty,.string empty] a179 l180 c181 1 cs194 λa190 l191 c192 h193=>
M.put h193 (Addr.add ⟨b34,0,none⟩ 8) (.slice a190 l191 c192) λh195=>
M.val (wrap .i64 (d39+1)) λz196=>
J38 z196 h195) λJ128=>
M.val (wrap .i64 (x3+2)) λz129=>
(bif(decide (d39<z129))then
F2 (some ⟨b30,0,none⟩) d39 h127 λp130 n131 n132 s133 h134=>
M.new h134 (.cells #[.pointer none,.int .i64 0,.int .i64 0,.string empty] 173) λb135 h136=>
M.nN 4 h136 ⟨b135,0,none⟩ [.pointer p130,.int .i64 n131,.int .i64 n132,.string s133] (λh137=>
M.load h137 (Addr.add ⟨b135,0,none⟩ 0) λv138=>
M.ptr v138 λp139=>
M.load h137 (Addr.add ⟨b135,0,none⟩ 1) λv140=>
M.int .i64 v140 λn141=>
M.load h137 (Addr.add ⟨b135,0,none⟩ 2) λv142=>
M.int .i64 v142 λn143=>
M.load h137 (Addr.add ⟨b135,0,none⟩ 3) λv144=>
M.str v144 λs145=>
F3 p139 n141 n143 s145 h137 λa146 l147 c148 s149 n150 h151=>
M.load h151 (Addr.add ⟨b135,0,none⟩ 0) λv152=>
M.ptr v152 λp153=>
M.load h151 (Addr.add ⟨b135,0,none⟩ 1) λv154=>
M.int .i64 v154 λn155=>
M.load h151 (Addr.add ⟨b135,0,none⟩ 2) λv156=>
M.int .i64 v156 λn157=>
M.load h151 (Addr.add ⟨b135,0,none⟩ 3) λv158=>
M.str v158 λs159=>
F4 p153 n155 n157 s159 a146 l147 c148 h151 λn160 h161=>
(bif(n160 != 0)then
Q n160 h161
else
M.put h161 (Addr.add d126 0) (.int .i64 1) λh162=>
M.put h162 (Addr.add d126 1) (.string s149) λh163=>
M.load h163 (Addr.add ⟨b34,0,none⟩ 7) λv164=>
M.slc v164 λa165 l166 c167=>
M.new h163 (.cells #[.int .i64 d39] 3) λb168 h169=>
M.cellsOf h169 (some ⟨b168,0,none⟩) (1*1) λcs174=>
M.app h169 3 1 8 [.int .i64 0] a165 l166 c167 1 cs174 λa170 l171 c172 h173=>
M.put h173 (Addr.add ⟨b34,0,none⟩ 7) (.slice a170 l171 c172) λh175=>
J128 () h175))
else
J128 () h127)) λJ46=>
(M.mk h40 5 [.int .u8 0] 1 32 32 λa47 l48 c49 h50=>
(M.xX h50 a47 l48 λs51=>
(F1  h50 λs52 h53=>
M.new h53 (.cells #[.int .i64 0,.string empty,.string empty] 171) λb54 h55=>
M.nN 3 h55 ⟨b54,0,none⟩ [.int .i64 0,.string s51,.string s52] (λh56=>
J46 ⟨b54,0,none⟩ h56)) ∧
(M.new h50 (.cells #[.int .i64 0,.string empty,.string empty] 171) λb57 h58=>
F1  h58 λs59 h60=>
M.nN 3 h60 ⟨b57,0,none⟩ [.int .i64 0,.string s51,.string s59] (λh61=>
J46 ⟨b57,0,none⟩ h61))) ∧
(F1  h50 λs62 h63=>
(M.xX h63 a47 l48 λs64=>
M.new h63 (.cells #[.int .i64 0,.string empty,.string empty] 171) λb65 h66=>
M.nN 3 h66 ⟨b65,0,none⟩ [.int .i64 0,.string s64,.string s62] (λh67=>
J46 ⟨b65,0,none⟩ h67)) ∧
(M.new h63 (.cells #[.int .i64 0,.string empty,.string empty] 171) λb68 h69=>
M.xX h69 a47 l48 λs70=>
M.nN 3 h69 ⟨b68,0,none⟩ [.int .i64 0,.string s70,.string s62] (λh71=>
J46 ⟨b68,0,none⟩ h71))) ∧
(M.new h50 (.cells #[.int .i64 0,.string empty,.string empty] 171) λb72 h73=>
(M.xX h73 a47 l48 λs74=>
F1  h73 λs75 h76=>
M.nN 3 h76 ⟨b72,0,none⟩ [.int .i64 0,.string s74,.string s75] (λh77=>
J46 ⟨b72,0,none⟩ h77)) ∧
(F1  h73 λs78 h79=>
M.xX h79 a47 l48 λs80=>
M.nN 3 h79 ⟨b72,0,none⟩ [.int .i64 0,.string s80,.string s78] (λh81=>
J46 ⟨b72,0,none⟩ h81)))) ∧
(F1  h40 λs82 h83=>
(M.mk h83 5 [.int .u8 0] 1 32 32 λa84 l85 c86 h87=>
(M.xX h87 a84 l85 λs88=>
M.new h87 (.cells #[.int .i64 0,.string empty,.string empty] 171) λb89 h90=>
M.nN 3 h90 ⟨b89,0,none⟩ [.int .i64 0,.string s88,.string s82] (λh91=>
J46 ⟨b89,0,none⟩ h91)) ∧
(M.new h87 (.cells #[.int .i64 0,.string empty,.string empty] 171) λb92 h93=>
M.xX h93 a84 l85 λs94=>
M.nN 3 h93 ⟨b92,0,none⟩ [.int .i64 0,.string s94,.string s82] (λh95=>
J46 ⟨b92,0,none⟩ h95))) ∧
(M.new h83 (.cells #[.int .i64 0,.string empty,.string empty] 171) λb96 h97=>
M.mk h97 5 [.int .u8 0] 1 32 32 λa98 l99 c100 h101=>
M.xX h101 a98 l99 λs102=>
M.nN 3 h101 ⟨b96,0,none⟩ [.int .i64 0,.string s102,.string s82] (λh103=>
J46 ⟨b96,0,none⟩ h103))) ∧
(M.new h40 (.cells #[.int .i64 0,.string empty,.string empty] 171) λb104 h105=>
(M.mk h105 5 [.int .u8 0] 1 32 32 λa106 l107 c108 h109=>
(M.xX h109 a106 l107 λs110=>
F1  h109 λs111 h112=>
M.nN 3 h112 ⟨b104,0,none⟩ [.int .i64 0,.string s110,.string s111] (λh113=>
J46 ⟨b104,0,none⟩ h113)) ∧
(F1  h109 λs114 h115=>
M.xX h115 a106 l107 λs116=>
M.nN 3 h115 ⟨b104,0,none⟩ [.int .i64 0,.string s116,.string s114] (λh117=>
J46 ⟨b104,0,none⟩ h117))) ∧
(F1  h105 λs118 h119=>
M.mk h119 5 [.int .u8 0] 1 32 32 λa120 l121 c122 h123=>
M.xX h123 a120 l121 λs124=>
M.nN 3 h123 ⟨b104,0,none⟩ [.int .i64 0,.string s124,.string s118] (λh125=>
J46 ⟨b104,0,none⟩ h125)))
else
J37 () h40)) 0 h36)))) λJ4=>
(bif((ByteArray.size x2:Int) != 32)then
J4 true h3
else
(bif(!b2)then
J4 true h3
else
M.nn x0 λa5=>
M.load h3 (Addr.add a5 0) λv6=>
M.slc v6 λa7 l8 c9=>
M.val (wrap .i64 (x3+2)) λz10=>
(bif(decide ((l8:Int)<z10))then
J4 true h3
else
M.nn x0 λa11=>
M.load h3 (Addr.add a11 0) λv12=>
M.slc v12 λa13 l14 c15=>
M.idx a13 l14 0 λa16 j17=>
M.load h3 (Addr.add a16 (j17*1)) λv18=>
M.ptr v18 λp19=>
M.nn p19 λa20=>
M.load h3 (Addr.add a20 0) λv21=>
M.slc v21 λa22 l23 c24=>
J4 (decide ((l23:Int)<140)) h3)))
def fE:=fE.g iR eZ gV ga ew dr
def fE.L(F:type_of% fE):LT
 | [.pointer x0,.pointer x1,.string x2,.int .i64 x3,.int .i64 x4]=>λQ h=>F x0 x1 x2 x3 x4 h λn225 h226=>Q (.int .i64 n225) h226
 | _=>λ_ _=>False
def fE.ann:jy:=⟨ah [(2,[(54,.bool)]),(12,[(15,.adr)])],ah [(255,[]),(65353,[])],ah [(2042,[(14,.int .i64)])]⟩
theorem fE.geq(F0)(F1)(F2)(F3)(F4)(F5):∀l,gj (fT Tryz.prog (ay [(77,WL (iR.L F0)),(78,WL (eZ.L F1)),(79,WL (gV.L F2)),(80,WL (ga.L F3)),(81,WL (ew.L F4)),(82,WL (dr.L F5))]) Tryz.f23 fE.ann) l (fE.L (fE.g F0 F1 F2 F3 F4 F5) l):=by
 intro l;unfold fE.L;split;exact .inr (by intros;kernel_rfl);exact .inl rfl
theorem fE.good:ai Tryz.prog 23 (WL (fE.L fE)):=.gu mixed (.cons iR.good (.cons eZ.good (.cons gV.good (.cons ga.good (.cons ew.good (.cons dr.good .nil)))))) Tryz.func23 Tryz.call23 (fE.geq iR eZ gV ga ew dr)
def gR.g(F0:type_of% gO)(F1:type_of% hO)(F2:type_of% fC)(F3:type_of% eZ)(F4:type_of% dr)(x0 x1:Option Addr)(x2:ByteArray)(h:H)(Q:Option Addr->Int->H->Prop):Prop:=
M.join (α:=Bool) (λd18 h19=>
(bif d18 then
Q none 2 h19
else
M.nn x1 λa20=>
M.load h19 (Addr.add a20 0) λv21=>
M.int .u64 v21 λn22=>
(bif(n22 == 0)then
Q none 11 h19
else
M.new h19 (.cells #[.pointer x0,.pointer x1,.string x2,.int .u64 0,.int .u64 0,.int .i64 0,.int .i64 0,.int .i64 0,.int .i64 0,.bool false,.slice none 0 0,.slice none 0 0,.pointer none,.bool false] 83) λb23 h24=>
F0 (some ⟨b23,0,none⟩) h24 λn25 n26 n27 n28 n29 n30 b31 a32 l33 c34 a35 l36 c37 n38 h39=>
M.new h39 (.cells #[.int .u64 0,.int .u64 0,.int .i64 0,.int .i64 0,.int .i64 0,.int .i64 0,.bool false,.slice none 0 0,.slice none 0 0] 80) λb40 h41=>
M.nN 9 h41 ⟨b40,0,none⟩ [.int .u64 n25,.int .u64 n26,.int .i64 n27,.int .i64 n28,.int .i64 n29,.int .i64 n30,.bool b31,.slice a32 l33 c34,.slice a35 l36 c37] (λh42=>
(bif(n38 != 0)then
Q none n38 h42
else
M.load h42 (Addr.add ⟨b40,0,none⟩ 1) λv43=>
M.int .u64 v43 λn44=>
(bif(decide (n44≥4294967295))then
Q none 25 h42
else
M.kC h42 ⟨b40,0,none⟩ λn46 n48 n50 n52 n54 n56 b58 a60 l61 c62 a64 l65 c66=>
M.nn (some ⟨b23,0,none⟩) λa67=>
M.nN 9 h42 (Addr.add a67 3) [.int .u64 n46,.int .u64 n48,.int .i64 n50,.int .i64 n52,.int .i64 n54,.int .i64 n56,.bool b58,.slice a60 l61 c62,.slice a64 l65 c66] (λh68=>
M.join (α:=Unit) (λd105 h106=>
M.nn (some ⟨b23,0,none⟩) λa107=>
M.load h106 (Addr.add (Addr.add a107 3) 0) λv108=>
M.int .u64 v108 λn109=>
M.val (wrap .u64 (n109+1)) λz110=>
M.nn (some ⟨b23,0,none⟩) λa111=>
M.put h106 (Addr.add (Addr.add a111 3) 0) (.int .u64 z110) λh112=>
M.nn (some ⟨b23,0,none⟩) λa113=>
M.load h112 (Addr.add (Addr.add a113 3) 1) λv114=>
M.int .u64 v114 λn115=>
M.val (wrap .u64 (n115+1)) λz116=>
M.nn (some ⟨b23,0,none⟩) λa117=>
M.put h112 (Addr.add (Addr.add a117 3) 1) (.int .u64 z116) λh118=>
M.join (α:=Unit) (λd139 h140=>
M.nn (some ⟨b23,0,none⟩) λa141=>
M.kC h140 (Addr.add a141 3) λn143 n145 n147 n149 n151 n153 b155 a157 l158 c159 a161 l162 c163=>
F4 (some ⟨b23,0,none⟩) n143 n145 n147 n149 n151 n153 b155 a157 l158 c159 a161 l162 c163 h140 λn164 h165=>
(bif(n164 != 0)then
Q none n164 h165
else
M.nn (some ⟨b23,0,none⟩) λa166=>
M.load h165 (Addr.add (Addr.add a166 3) 1) λv167=>
M.int .u64 v167 λn168=>
M.new h165 (.cells #[.int .u64 n168,.int .u64 0] 185) λb169 h170=>
M.nn (some ⟨b23,0,none⟩) λa171=>
M.put h170 (Addr.add a171 12) (.pointer (some ⟨b169,0,none⟩)) λh172=>
Q (some ⟨b23,0,none⟩) 0 h172)) λJ119=>
M.loop (α:=Int) (λJ120 d121 h122=>
M.nn (some ⟨b23,0,none⟩) λa123=>
M.load h122 (Addr.add (Addr.add a123 3) 8) λv124=>
M.slc v124 λa125 l126 c127=>
(bif(decide (d121<(l126:Int)))then
M.nn (some ⟨b23,0,none⟩) λa128=>
M.load h122 (Addr.add (Addr.add a128 3) 8) λv129=>
M.slc v129 λa130 l131 c132=>
F3  h122 λs133 h134=>
M.still h122 (Addr.add (Addr.add a128 3) 8) 1 h134 (
M.idx a130 l131 d121 λa135 j136=>
M.put h134 (Addr.add (Addr.add a135 (j136*3)) 2) (.string s133) λh137=>
M.val (wrap .i64 (d121+1)) λz138=>
J120 z138 h137)
else
J119 () h122)) 0 h118) λJ69=>
M.loop (α:=Int) (λJ70 d71 h72=>
M.load h72 (Addr.add ⟨b40,0,none⟩ 8) λv73=>
M.slc v73 λa74 l75 c76=>
(bif(decide (d71<(l75:Int)))then
M.join (α:=Unit) (λd102 h103=>
M.val (wrap .i64 (d71+1)) λz104=>
J70 z104 h103) λJ77=>
M.load h72 (Addr.add ⟨b40,0,none⟩ 8) λv78=>
M.slc v78 λa79 l80 c81=>
M.idx a79 l80 d71 λa82 j83=>
M.load h72 ((Addr.add a82 (j83*3)).add 0) λv84=>
M.int .i64 v84 λn85=>
M.load h72 ((Addr.add a82 (j83*3)).add 1) λv86=>
M.str v86 λs87=>
M.load h72 ((Addr.add a82 (j83*3)).add 2) λv88=>
M.str v88 λs89=>
F1 n85 s87 s89 h72 λb90 h91=>
(bif b90 then
M.load h91 (Addr.add ⟨b40,0,none⟩ 8) λv92=>
M.slc v92 λa93 l94 c95=>
M.idx a93 l94 d71 λa96 j97=>
M.load h91 (Addr.add (Addr.add a96 (j97*3)) 2) λv98=>
M.str v98 λs99=>
F2 (some ⟨b23,0,none⟩) d71 s99 h91 λb100 h101=>
(bif(!b100)then
Q none 21 h101
else
J77 () h101)
else
J77 () h91)
else
J69 () h72)) 0 h68))))))) λJ3=>
(bif((ByteArray.size x2:Int) != 32)then
J3 true h
else
M.nn x0 λa4=>
M.load h (Addr.add a4 0) λv5=>
M.slc v5 λa6 l7 c8=>
M.idx a6 l7 0 λa9 j10=>
M.load h (Addr.add a9 (j10*1)) λv11=>
M.ptr v11 λp12=>
M.nn p12 λa13=>
M.load h (Addr.add a13 0) λv14=>
M.slc v14 λa15 l16 c17=>
J3 (decide ((l16:Int)<140)) h)
def gR:=gR.g gO hO fC eZ dr
def gR.L(F:type_of% gR):LT
 | [.pointer x0,.pointer x1,.string x2]=>λQ h=>F x0 x1 x2 h λp176 n177 h178=>Q (.tuple #[.pointer p176,.int .i64 n177]) h178
 | _=>λ_ _=>False
def gR.ann:jy:=⟨ah [(1,[(31,.bool)])],ah [(511,[]),(4095,[]),(16361,[])],ah [(4090,[(11,.int .i64)]),(32762,[(14,.int .i64)])]⟩
theorem gR.geq(F0)(F1)(F2)(F3)(F4):∀l,gj (fT Tryz.prog (ay [(83,WL (gO.L F0)),(84,WL (hO.L F1)),(85,WL (fC.L F2)),(78,WL (eZ.L F3)),(82,WL (dr.L F4))]) Tryz.f25 gR.ann) l (gR.L (gR.g F0 F1 F2 F3 F4) l):=by
 intro l;unfold gR.L;split;exact .inr (by intros;kernel_rfl);exact .inl rfl
theorem gR.good:ai Tryz.prog 25 (WL (gR.L gR)):=.gu mixed (.cons gO.good (.cons hO.good (.cons fC.good (.cons eZ.good (.cons dr.good .nil))))) Tryz.func25 Tryz.call25 (gR.geq gO hO fC eZ dr)
def cC.g(F0:type_of% bF)(F1:type_of% cM)(F2:type_of% aY)(F3:type_of% ee)(F4:type_of% iH)(x0_0 x0_1:Option Addr)(x0_2:ByteArray)(h:H)(Q:Int->Int->Int->Int->Int->Int->Bool->Option Addr->Nat->Nat->Option Addr->Nat->Nat->Int->H->Prop):Prop:=
M.new h (.cells #[.pointer x0_0,.pointer x0_1,.string x0_2] 120) λb15 h16=>
M.new h16 (.cells #[.int .u64 0,.int .u64 0,.int .i64 0,.int .i64 0,.int .i64 0,.int .i64 0,.bool false,.slice none 0 0,.slice none 0 0] 40) λb17 h18=>
M.load h18 (Addr.add ⟨b15,0,none⟩ 1) λv19=>
M.ptr v19 λp20=>
F0 p20 h18 λn21 s22 h23=>
M.join (α:=Unit) (λd163 h164=>
M.nN 9 h164 ⟨b17,0,none⟩ [.int .u64 0,.int .u64 0,.int .i64 0,.int .i64 0,.int .i64 0,.int .i64 0,.bool false,.slice none 0 0,.slice none 0 0] (λh165=>
M.kC h165 ⟨b17,0,none⟩ λn167 n169 n171 n173 n175 n177 b179 a181 l182 c183 a185 l186 c187=>
Q n167 n169 n171 n173 n175 n177 b179 a181 l182 c183 a185 l186 c187 24 h165)) λJ24=>
M.load h23 (Addr.add ⟨b15,0,none⟩ 0) λv25=>
M.ptr v25 λp26=>
F1 p26 h23 λn27 h28=>
M.loop (α:=Int) (λJ29 d30 h31=>
(bif(decide (d30<n27))then
M.loop (α:=Int) (λJ32 d33 h34=>
(bif(decide (d33<2))then
M.load h34 (Addr.add ⟨b15,0,none⟩ 0) λv35=>
M.ptr v35 λp36=>
F2 p36 d30 d33 h34 λs37 n38 h39=>
(bif(n38 == 21)then
M.nN 9 h39 ⟨b17,0,none⟩ [.int .u64 0,.int .u64 0,.int .i64 0,.int .i64 0,.int .i64 0,.int .i64 0,.bool false,.slice none 0 0,.slice none 0 0] (λh40=>
M.kC h40 ⟨b17,0,none⟩ λn42 n44 n46 n48 n50 n52 b54 a56 l57 c58 a60 l61 c62=>
Q n42 n44 n46 n48 n50 n52 b54 a56 l57 c58 a60 l61 c62 n38 h40)
else
(bif(n38 != 0)then
M.val (wrap .i64 (d30+1)) λz63=>
J29 z63 h39
else
F3 s37 h39 λs64 h65=>
(bif(!mX s64 s22)then
M.val (wrap .i64 (d33+1)) λz66=>
J32 z66 h65
else
F4 s37 h65 λn67 n68 n69 n70 n71 n72 b73 a74 l75 c76 a77 l78 c79 n80 h81=>
M.new h81 (.cells #[.int .u64 0,.int .u64 0,.int .i64 0,.int .i64 0,.int .i64 0,.int .i64 0,.bool false,.slice none 0 0,.slice none 0 0] 40) λb82 h83=>
M.nN 9 h83 ⟨b82,0,none⟩ [.int .u64 n67,.int .u64 n68,.int .i64 n69,.int .i64 n70,.int .i64 n71,.int .i64 n72,.bool b73,.slice a74 l75 c76,.slice a77 l78 c79] (λh84=>
(bif(n80 == 0)then
M.load h84 (Addr.add ⟨b82,0,none⟩ 8) λv85=>
M.slc v85 λa86 l87 c88=>
M.load h84 (Addr.add ⟨b15,0,none⟩ 0) λv89=>
M.ptr v89 λp90=>
F1 p90 h84 λn91 h92=>
M.still h84 (Addr.add ⟨b82,0,none⟩ 8) 1 h92 (
(bif((l87:Int) != n91)then
M.nN 9 h92 ⟨b17,0,none⟩ [.int .u64 0,.int .u64 0,.int .i64 0,.int .i64 0,.int .i64 0,.int .i64 0,.bool false,.slice none 0 0,.slice none 0 0] (λh93=>
M.kC h93 ⟨b17,0,none⟩ λn95 n97 n99 n101 n103 n105 b107 a109 l110 c111 a113 l114 c115=>
Q n95 n97 n99 n101 n103 n105 b107 a109 l110 c111 a113 l114 c115 24 h93)
else
M.kC h92 ⟨b82,0,none⟩ λn117 n119 n121 n123 n125 n127 b129 a131 l132 c133 a135 l136 c137=>
M.nN 9 h92 ⟨b17,0,none⟩ [.int .u64 n117,.int .u64 n119,.int .i64 n121,.int .i64 n123,.int .i64 n125,.int .i64 n127,.bool b129,.slice a131 l132 c133,.slice a135 l136 c137] (λh138=>
M.kC h138 ⟨b17,0,none⟩ λn140 n142 n144 n146 n148 n150 b152 a154 l155 c156 a158 l159 c160=>
Q n140 n142 n144 n146 n148 n150 b152 a154 l155 c156 a158 l159 c160 0 h138)))
else
M.val (wrap .i64 (d33+1)) λz161=>
J32 z161 h84)))))
else
M.val (wrap .i64 (d30+1)) λz162=>
J29 z162 h34)) 0 h31
else
J24 () h31)) 0 h28
def cC:=cC.g bF cM aY ee iH
def cC.L(F:type_of% cC):LT
 | [.agg ⟨[.pointer x0_0,.pointer x0_1,.string x0_2]⟩]=>λQ h=>F x0_0 x0_1 x0_2 h λn203 n204 n205 n206 n207 n208 b209 a210 l211 c212 a213 l214 c215 n216 h217=>Q (.tuple #[(.agg (#[.int .u64 n203,.int .u64 n204,.int .i64 n205,.int .i64 n206,.int .i64 n207,.int .i64 n208,.bool b209,.slice a210 l211 c212,.slice a213 l214 c215]:Array Value)),.int .i64 n216]) h217
 | _=>λ_ _=>False
def cC.ann:jy:=⟨ah [],ah [(27,[])],ah [(218,[(21,.int .i64)]),(55910,[(24,.int .i64)])]⟩
theorem cC.geq(F0)(F1)(F2)(F3)(F4):∀l,gj (fT Tryz.prog (ay [(35,WL (bF.L F0)),(73,WL (cM.L F1)),(116,WL (aY.L F2)),(117,WL (ee.L F3)),(118,WL (iH.L F4))]) Tryz.f50 cC.ann) l (cC.L (cC.g F0 F1 F2 F3 F4) l):=by
 intro l;unfold cC.L;split;exact .inr (by intros;kernel_rfl);exact .inl rfl
theorem cC.good:ai Tryz.prog 50 (WL (cC.L cC)):=.gu mixed (.cons bF.good (.cons cM.good (.cons aY.good (.cons ee.good (.cons iH.good .nil))))) Tryz.func50 Tryz.call50 (cC.geq bF cM aY ee iH)
def dh  (h:H) (Q:ByteArray->H->Prop):Prop:=
fK none 0 0 h λa2 l3 c4 s5 n6 h7=>
Q s5 h7
def dh.L(F:type_of% dh):LT
 | []=>λQ h=>F  h λs10 h11=>Q (.string s10) h11
 | _=>λ_ _=>False
theorem dh.good:ai Tryz.prog 52 (WL (dh.L dh)):=.gu (ann:=lQ) mixed (.cons fK.good .nil) Tryz.func52 Tryz.call52 (by intro l;unfold dh.L;split;exact .inr (by intros;kernel_rfl);exact .inl rfl)
def aE.g(F0:type_of% iD)(F1:type_of% cM)(F2:type_of% cZ)(F3:type_of% cg)(F4:type_of% ee)(F5:type_of% dW)(x0_0 x0_1:Option Addr)(x0_2:ByteArray)(x1_0 x1_1 x1_2 x1_3 x1_4 x1_5:Int)(x1_6:Bool)(x1_7:Option Addr)(x1_7L x1_7C:Nat)(x1_8:Option Addr)(x1_8L x1_8C:Nat)(h:H)(Q:Int->H->Prop):Prop:=
M.new h (.cells #[.pointer x0_0,.pointer x0_1,.string x0_2] 120) λb2 h3=>
M.new h3 (.cells #[.int .u64 x1_0,.int .u64 x1_1,.int .i64 x1_2,.int .i64 x1_3,.int .i64 x1_4,.int .i64 x1_5,.bool x1_6,.slice x1_7 x1_7L x1_7C,.slice x1_8 x1_8L x1_8C] 40) λb4 h5=>
M.kC h5 ⟨b4,0,none⟩ λn7 n9 n11 n13 n15 n17 b19 a21 l22 c23 a25 l26 c27=>
F0 n7 n9 n11 n13 n15 n17 b19 a21 l22 c23 a25 l26 c27 h5 λs28 n29 h30=>
M.join (α:=Bool) (λd53 h54=>
(bif(!d53)then
Q 24 h54
else
M.load h54 (Addr.add ⟨b2,0,none⟩ 0) λv55=>
M.ptr v55 λp56=>
F3 p56 h54 λn57 h58=>
(bif(n57 != 0)then
Q n57 h58
else
M.load h58 (Addr.add ⟨b2,0,none⟩ 1) λv59=>
M.ptr v59 λp60=>
M.load h58 (Addr.add ⟨b4,0,none⟩ 0) λv61=>
M.int .u64 v61 λn62=>
F4 s28 h58 λs63 h64=>
M.still h58 (Addr.add ⟨b4,0,none⟩ 0) 1 h64 (
M.still h58 (Addr.add ⟨b2,0,none⟩ 1) 1 h64 (
F5 p60 n62 s63 h64 λn65 h66=>
Q n65 h66))))) λJ31=>
M.load h30 (Addr.add ⟨b2,0,none⟩ 0) λv32=>
M.ptr v32 λp33=>
F1 p33 h30 λn34 h35=>
M.loop (α:=Bool×Int) (λJ36 d37 h38=>
(bif(decide (d37.2<n34))then
M.D6 h38 ⟨b2,0,none⟩ λp40 p42 s44=>
M.load h38 (Addr.add ⟨b4,0,none⟩ 0) λv45=>
M.int .u64 v45 λn46=>
M.nz 2 (
M.val (Int.tmod n46 2) λz47=>
M.val (wrap .i64 z47) λz48=>
F2 p40 p42 s44 d37.2 z48 s28 h38 λn49 h50=>
(bif(n49 == 21)then
Q 21 h50
else
(bif(n49 == 0)then
M.val (wrap .i64 (d37.2+1)) λz51=>
J36 (true,z51) h50
else
M.val (wrap .i64 (d37.2+1)) λz52=>
J36 (d37.1,z52) h50)))
else
J31 d37.1 h38)) (false,0) h35
def aE:=aE.g iD cM cZ cg ee dW
def aE.L(F:type_of% aE):LT
 | [.agg ⟨[.pointer x0_0,.pointer x0_1,.string x0_2]⟩,.agg ⟨[.int .u64 x1_0,.int .u64 x1_1,.int .i64 x1_2,.int .i64 x1_3,.int .i64 x1_4,.int .i64 x1_5,.bool x1_6,.slice x1_7 x1_7L x1_7C,.slice x1_8 x1_8L x1_8C]⟩]=>λQ h=>F x0_0 x0_1 x0_2 x1_0 x1_1 x1_2 x1_3 x1_4 x1_5 x1_6 x1_7 x1_7L x1_7C x1_8 x1_8L x1_8C h λn69 h70=>Q (.int .i64 n69) h70
 | _=>λ_ _=>False
def aE.ann:jy:=⟨ah [],ah [(15,[(7,.bool)])],ah [(122,[(7,.bool),(18,.int .i64)])]⟩
theorem aE.geq(F0)(F1)(F2)(F3)(F4)(F5):∀l,gj (fT Tryz.prog (ay [(36,WL (iD.L F0)),(73,WL (cM.L F1)),(122,WL (cZ.L F2)),(123,WL (cg.L F3)),(117,WL (ee.L F4)),(124,WL (dW.L F5))]) Tryz.f53 aE.ann) l (aE.L (aE.g F0 F1 F2 F3 F4 F5) l):=by
 intro l;unfold aE.L;split;exact .inr (by intros;kernel_rfl);exact .inl rfl
theorem aE.good:ai Tryz.prog 53 (WL (aE.L aE)):=.gu mixed (.cons iD.good (.cons cM.good (.cons cZ.good (.cons cg.good (.cons ee.good (.cons dW.good .nil)))))) Tryz.func53 Tryz.call53 (aE.geq iD cM cZ cg ee dW)
def cF.g(F0:type_of% dh)(F1:type_of% fK)(F2:type_of% bZ)(F3:type_of% ck)(F4:type_of% bW)(x0 x1:Option Addr)(h:H)(Q:Int->H->Prop):Prop:=
M.join (α:=Unit) (λd67 h68=>
F4 x1 h68 λb69 h70=>
(bif(!b69)then
Q 24 h70
else
Q 0 h70)) λJ2=>
M.nn x1 λa3=>
M.load h (Addr.add (Addr.add a3 0) 8) λv4=>
M.slc v4 λa5 l6 c7=>
M.loop (α:=Int) (λJ8 d9 h10=>
(bif(decide (d9<(l6:Int)))then
M.nn x1 λa11=>
M.load h10 (Addr.add (Addr.add a11 0) 8) λv12=>
M.slc v12 λa13 l14 c15=>
F0  h10 λs16 h17=>
M.still h10 (Addr.add (Addr.add a11 0) 8) 1 h17 (
M.idx a13 l14 d9 λa18 j19=>
M.put h17 (Addr.add (Addr.add a18 (j19*3)) 2) (.string s16) λh20=>
M.nn x1 λa21=>
M.load h20 (Addr.add a21 9) λv22=>
M.map v22 λm23=>
M.Nz Tryz.prog 143 (.map m23) (.int .i64 d9) h20 λv24 b26 h25=>
M.slc v24 λa27 l28 c29=>
(bif(!b26)then
M.val (wrap .i64 (d9+1)) λz30=>
J8 z30 h25
else
F1 a27 l28 c29 h25 λa31 l32 c33 s34 n35 h36=>
M.join (α:=Int) (λd40 h41=>
(bif(d40 == 0)then
M.nn x1 λa42=>
M.load h41 (Addr.add (Addr.add a42 0) 8) λv43=>
M.slc v43 λa44 l45 c46=>
M.nn x1 λa47=>
M.load h41 (Addr.add (Addr.add a47 0) 8) λv48=>
M.slc v48 λa49 l50 c51=>
M.nn x1 λa52=>
M.load h41 (Addr.add a52 10) λv53=>
M.map v53 λm54=>
M.lk Tryz.prog 144 (.map m54) (.int .i64 d9) h41 λv55 h56=>
M.str v55 λs57=>
M.still h41 (Addr.add (Addr.add a47 0) 8) 1 h56 (
M.still h41 (Addr.add (Addr.add a42 0) 8) 1 h56 (
M.idx a44 l45 d9 λa58 j59=>
M.put h56 (Addr.add (Addr.add a58 (j59*3)) 1) (.string s57) λh60=>
M.idx a49 l50 d9 λa61 j62=>
M.put h60 (Addr.add (Addr.add a61 (j62*3)) 2) (.string s34) λh63=>
M.val (wrap .i64 (d9+1)) λz64=>
J8 z64 h63))
else
(bif(d40 == 21)then
Q d40 h41
else
F3 x1 d9 h41 λh65=>
M.val (wrap .i64 (d9+1)) λz66=>
J8 z66 h65))) λJ37=>
(bif(n35 == 0)then
F2 x0 d9 a31 l32 c33 h36 λn38 h39=>
J37 n38 h39
else
J37 n35 h36)))
else
J2 () h10)) 0 h
def cF:=cF.g dh fK bZ ck bW
def cF.L(F:type_of% cF):LT
 | [.pointer x0,.pointer x1]=>λQ h=>F x0 x1 h λn73 h74=>Q (.int .i64 n73) h74
 | _=>λ_ _=>False
def cF.ann:jy:=⟨ah [],ah [(3,[]),(27039,[(10,.int .i64)])],ah [(26,[(17,.int .i64)])]⟩
theorem cF.geq(F0)(F1)(F2)(F3)(F4):∀l,gj (fT Tryz.prog (ay [(52,WL (dh.L F0)),(121,WL (fK.L F1)),(138,WL (bZ.L F2)),(136,WL (ck.L F3)),(137,WL (bW.L F4))]) Tryz.f62 cF.ann) l (cF.L (cF.g F0 F1 F2 F3 F4) l):=by
 intro l;unfold cF.L;split;exact .inr (by intros;kernel_rfl);exact .inl rfl
theorem cF.good:ai Tryz.prog 62 (WL (cF.L cF)):=.gu mixed (.cons dh.good (.cons fK.good (.cons bZ.good (.cons ck.good (.cons bW.good .nil))))) Tryz.func62 Tryz.call62 (cF.geq dh fK bZ ck bW)
def bH(a1 a2:Addr)(h:H)(Q:Int->H->Prop):Prop:=
M.load h a1 λv4=>
M.ptr v4 λp5=>
M.nn p5 λa6=>
M.D6 h (Addr.add a6 0) λp8 p10 s12=>
M.load h a2 λv13=>
M.ptr v13 λp14=>
M.nn p14 λa15=>
M.kC h (Addr.add a15 0) λn17 n19 n21 n23 n25 n27 b29 a31 l32 c33 a35 l36 c37=>
aE p8 p10 s12 n17 n19 n21 n23 n25 n27 b29 a31 l32 c33 a35 l36 c37 h λn38 h39=>
Q n38 h39
def bH.L(F:type_of% bH):LT
 | [.pointer (some a1),.pointer (some a2)]=>λQ h=>F a1 a2 h λn42 h43=>Q (.int .i64 n42) h43
 | _=>λ_ _=>False
theorem bH.good:ai Tryz.prog 63 (WL (bH.L bH)):=.gu (ann:=lQ) mixed (.cons aE.good .nil) Tryz.func63 Tryz.call63 (by intro l;unfold bH.L;split;exact .inr (by intros;kernel_rfl);exact .inl rfl)
def bU.g(F0:type_of% aX)(F1:type_of% gM)(F2:type_of% aI)(F3:type_of% gT)(x0_0:Option Addr)(x0_1 x0_2:Int)(x0_3:ByteArray)(h:H)(Q:Option Addr->Nat->Nat->ByteArray->Int->H->Prop):Prop:=
M.new h (.cells #[.pointer x0_0,.int .i64 x0_1,.int .i64 x0_2,.string x0_3] 126) λb6 h7=>
M.load h7 (Addr.add ⟨b6,0,none⟩ 0) λv8=>
M.ptr v8 λp9=>
M.load h7 (Addr.add ⟨b6,0,none⟩ 1) λv10=>
M.int .i64 v10 λn11=>
M.load h7 (Addr.add ⟨b6,0,none⟩ 2) λv12=>
M.int .i64 v12 λn13=>
M.load h7 (Addr.add ⟨b6,0,none⟩ 3) λv14=>
M.str v14 λs15=>
F0 p9 n11 n13 s15 h7 λb16 h17=>
(bif(!b16)then
Q none 0 0 empty 4 h17
else
M.load h17 (Addr.add ⟨b6,0,none⟩ 2) λv18=>
M.int .i64 v18 λn19=>
F1 empty h17 λs20 h21=>
M.still h17 (Addr.add ⟨b6,0,none⟩ 2) 1 h21 (
M.new h21 (.cells #[.string s20] 9) λb22 h23=>
M.still h17 (Addr.add ⟨b6,0,none⟩ 2) 1 h23 (
F2 (some ⟨b22,0,none⟩) 1 1 n19 h23 λa24 l25 c26 h27=>
F3 a24 l25 c26 h27 λa28 l29 c30 s31 n32 h33=>
M.join (α:=(Option Addr×Nat×Nat)) (λd53 h54=>
M.join (α:=(Option Addr×Nat×Nat)) (λd70 h71=>
Q d70.1 d70.2.1 d70.2.2 s31 0 h71) λJ55=>
M.load h54 (Addr.add ⟨b6,0,none⟩ 2) λv56=>
M.int .i64 v56 λn57=>
M.loop (α:=(Option Addr×Nat×Nat)×Int) (λJ58 d59 h60=>
(bif(decide (d59.2<n57))then
M.val (wrap .i64 (120+d59.2)) λz61=>
M.new h60 (.cells #[.int .i64 z61,.string empty] 261) λb62 h63=>
M.cellsOf h63 (some ⟨b62,0,none⟩) (1*2) λcs68=>
M.app h63 261 2 24 [.int .i64 0,.string empty] d59.1.1 d59.1.2.1 d59.1.2.2 1 cs68 λa64 l65 c66 h67=>
M.val (wrap .i64 (d59.2+1)) λz69=>
J58 ((a64,l65,c66),z69) h67
else
J55 (d59.1.1,d59.1.2.1,d59.1.2.2) h60)) ((d53.1,d53.2.1,d53.2.2),0) h54) λJ34=>
M.loop (α:=(Option Addr×Nat×Nat)×Int) (λJ35 d36 h37=>
M.load h37 (Addr.add ⟨b6,0,none⟩ 2) λv38=>
M.int .i64 v38 λn39=>
(bif(decide (d36.2<n39))then
M.val (wrap .i64 (100+d36.2)) λz40=>
M.idx a28 l29 d36.2 λa41 j42=>
M.load h37 (Addr.add a41 (j42*1)) λv43=>
M.str v43 λs44=>
M.new h37 (.cells #[.int .i64 z40,.string s44] 261) λb45 h46=>
M.cellsOf h46 (some ⟨b45,0,none⟩) (1*2) λcs51=>
M.app h46 261 2 24 [.int .i64 0,.string empty] d36.1.1 d36.1.2.1 d36.1.2.2 1 cs51 λa47 l48 c49 h50=>
M.val (wrap .i64 (d36.2+1)) λz52=>
J35 ((a47,l48,c49),z52) h50
else
J34 (d36.1.1,d36.1.2.1,d36.1.2.2) h37)) ((none,0,0),1) h33)))
def bU:=bU.g aX gM aI gT
def bU.L(F:type_of% bU):LT
 | [.agg ⟨[.pointer x0_0,.int .i64 x0_1,.int .i64 x0_2,.string x0_3]⟩]=>λQ h=>F x0_0 x0_1 x0_2 x0_3 h λa78 l79 c80 s81 n82 h83=>Q (.tuple #[.slice a78 l79 c80,.string s81,.int .i64 n82]) h83
 | _=>λ_ _=>False
def bU.ann:jy:=⟨ah [],ah [(31,[(8,.slc)]),(63,[(8,.slc)])],ah [(250,[(8,.slc),(9,.int .i64)]),(506,[(8,.slc),(42,.int .i64)])]⟩
theorem bU.geq(F0)(F1)(F2)(F3):∀l,gj (fT Tryz.prog (ay [(144,WL (aX.L F0)),(127,WL (gM.L F1)),(146,WL (aI.L F2)),(145,WL (gT.L F3))]) Tryz.f75 bU.ann) l (bU.L (bU.g F0 F1 F2 F3) l):=by
 intro l;unfold bU.L;split;exact .inr (by intros;kernel_rfl);exact .inl rfl
theorem bU.good:ai Tryz.prog 75 (WL (bU.L bU)):=.gu mixed (.cons aX.good (.cons gM.good (.cons aI.good (.cons gT.good .nil)))) Tryz.func75 Tryz.call75 (bU.geq aX gM aI gT)
def cV(x0_0 x0_1:Option Addr)(x0_2:ByteArray)(x1:Int)(x2:ByteArray)(h:H)(Q:Option Addr->Nat->Nat->Int->H->Prop):Prop:=
M.new h (.cells #[.pointer x0_0,.pointer x0_1,.string x0_2] 120) λb5 h6=>
M.join (α:=(Option Addr×Nat×Nat)) (λd27 h28=>
gS d27.1 d27.2.1 d27.2.2 x2 h28 λa29 l30 c31 n32 h33=>
Q a29 l30 c31 n32 h33) λJ7=>
M.loop (α:=(Option Addr×Nat×Nat)×Int) (λJ8 d9 h10=>
(bif(decide (((d9.1.2.1:Nat):Int)<d9.2))then
M.load h10 (Addr.add ⟨b5,0,none⟩ 0) λv11=>
M.ptr v11 λp12=>
M.val (wrap .i64 (2+((d9.1.2.1:Nat):Int))) λz13=>
aY p12 x1 z13 h10 λs14 n15 h16=>
(bif(n15 != 0)then
Q none 0 0 n15 h16
else
M.new h16 (.cells #[.string s14] 9) λb17 h18=>
M.cellsOf h18 (some ⟨b17,0,none⟩) (1*1) λcs23=>
M.app h18 9 1 16 [.string empty] d9.1.1 d9.1.2.1 d9.1.2.2 1 cs23 λa19 l20 c21 h22=>
(bif((l20:Int) == 1)then
fm s14 h22 λn24 n25 h26=>
(bif(n25 != 0)then
Q none 0 0 n25 h26
else
J8 ((a19,l20,c21),n24) h26)
else
J8 ((a19,l20,c21),d9.2) h22))
else
J7 (d9.1.1,d9.1.2.1,d9.1.2.2) h10)) ((none,0,0),1) h6
def cV.L(F:type_of% cV):LT
 | [.agg ⟨[.pointer x0_0,.pointer x0_1,.string x0_2]⟩,.int .i64 x1,.string x2]=>λQ h=>F x0_0 x0_1 x0_2 x1 x2 h λa39 l40 c41 n42 h43=>Q (.tuple #[.slice a39 l40 c41,.int .i64 n42]) h43
 | _=>λ_ _=>False
def cV.ann:jy:=⟨ah [],ah [(7,[(8,.slc)])],ah [(58,[(8,.slc),(9,.int .i64)])]⟩
theorem cV.good:ai Tryz.prog 120 (WL (cV.L cV)):=.gu (ann:=cV.ann) mixed (.cons aY.good (.cons fm.good (.cons gS.good .nil))) Tryz.func120 Tryz.call120 (by intro l;unfold cV.L;split;exact .inr (by intros;kernel_rfl);exact .inl rfl)
def cO.g(F0:type_of% fu)(F1:type_of% aY)(F2:type_of% gh)(x0_0:Option Addr)(x0_1 x0_2:Int)(x0_3 x1:ByteArray)(x2:Int)(x3:Option Nat)(h:H)(Q:Option Addr->Nat->Nat->ByteArray->Int->H->Prop):Prop:=
M.new h (.cells #[.pointer x0_0,.int .i64 x0_1,.int .i64 x0_2,.string x0_3] 126) λb6 h7=>
M.load h7 (Addr.add ⟨b6,0,none⟩ 2) λv8=>
M.int .i64 v8 λn9=>
F0 n9 x2 h7 λa10 l11 c12 n13 h14=>
M.join (α:=(Option Addr×Nat×Nat)) (λd46 h47=>
F2 x1 x2 d46.1 d46.2.1 d46.2.2 h47 λs48 n49 h50=>
Q d46.1 d46.2.1 d46.2.2 s48 n49 h50) λJ15=>
M.loop (α:=(Option Addr×Nat×Nat)×Int) (λJ16 d17 h18=>
(bif(decide (d17.2<(l11:Int)))then
M.idx a10 l11 d17.2 λa19 j20=>
M.load h18 (Addr.add a19 (j20*1)) λv21=>
M.int .i64 v21 λn22=>
M.Nz Tryz.prog 307 (.map x3) (.int .i64 n22) h18 λv23 b25 h24=>
M.str v23 λs26=>
M.join (α:=ByteArray) (λd36 h37=>
M.new h37 (.cells #[.string d36] 9) λb38 h39=>
M.cellsOf h39 (some ⟨b38,0,none⟩) (1*1) λcs44=>
M.app h39 9 1 16 [.string empty] d17.1.1 d17.1.2.1 d17.1.2.2 1 cs44 λa40 l41 c42 h43=>
M.val (wrap .i64 (d17.2+1)) λz45=>
J16 ((a40,l41,c42),z45) h43) λJ27=>
(bif(!b25)then
M.load h24 (Addr.add ⟨b6,0,none⟩ 0) λv28=>
M.ptr v28 λp29=>
M.load h24 (Addr.add ⟨b6,0,none⟩ 1) λv30=>
M.int .i64 v30 λn31=>
M.val (wrap .i64 (100+n22)) λz32=>
F1 p29 n31 z32 h24 λs33 n34 h35=>
(bif(n34 != 0)then
Q none 0 0 empty n34 h35
else
J27 s33 h35)
else
J27 s26 h24)
else
J15 (d17.1.1,d17.1.2.1,d17.1.2.2) h18)) ((none,0,0),0) h14
def cO:=cO.g fu aY gh
def cO.L(F:type_of% cO):LT
 | [.agg ⟨[.pointer x0_0,.int .i64 x0_1,.int .i64 x0_2,.string x0_3]⟩,.string x1,.int .i64 x2,.map x3]=>λQ h=>F x0_0 x0_1 x0_2 x0_3 x1 x2 x3 h λa57 l58 c59 s60 n61 h62=>Q (.tuple #[.slice a57 l58 c59,.string s60,.int .i64 n61]) h62
 | _=>λ_ _=>False
def cO.ann:jy:=⟨ah [],ah [(15,[(13,.slc)]),(15667,[(16,.str)])],ah [(122,[(13,.slc),(30,.int .i64)])]⟩
theorem cO.geq(F0)(F1)(F2):∀l,gj (fT Tryz.prog (ay [(185,WL (fu.L F0)),(116,WL (aY.L F1)),(201,WL (gh.L F2))]) Tryz.f126 cO.ann) l (cO.L (cO.g F0 F1 F2) l):=by
 intro l;unfold cO.L;split;exact .inr (by intros;kernel_rfl);exact .inl rfl
theorem cO.good:ai Tryz.prog 126 (WL (cO.L cO)):=.gu mixed (.cons fu.good (.cons aY.good (.cons gh.good .nil))) Tryz.func126 Tryz.call126 (cO.geq fu aY gh)
def aa(x0:Option Addr)(x0L x0C:Nat)(x1_0:Addr)(h:H)(Q:Bool->H->Prop):Prop:=
af x0 x0L x0C x1_0 h λn2 h3=>
Q (decide (n2≥0)) h3
def aa.L(F:type_of% aa):LT
 | [.slice x0 x0L x0C,.func (.func 135) ⟨[]⟩ ⟨[.pointer (some x1_0)]⟩]=>λQ h=>F x0 x0L x0C x1_0 h λb6 h7=>Q (.bool b6) h7
 | _=>λ_ _=>False
theorem aa.good:ai Tryz.prog 134 (WL (aa.L aa)):=.gu (ann:=lQ) mixed (.cons af.good .nil) Tryz.func134 Tryz.call134 (by intro l;unfold aa.L;split;exact .inr (by intros;kernel_rfl);exact .inl rfl)
end Go.Proofs.YtmfcgihgdhfalaaGreatDoor

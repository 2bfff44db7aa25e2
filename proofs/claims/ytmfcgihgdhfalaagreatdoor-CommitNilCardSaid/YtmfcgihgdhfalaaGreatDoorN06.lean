/- The shallow forms of the functions of this seat, printed by a program of mine, each checked by the kernel against the given code. Words of 32 bits as bit vectors: the program's operations, and the document's loops. Words: turned. Words as bytes; and two steps of the little logic. Words to text. Words to text, as the document does it. Text to words. Text to words, as the document does it. SHA-256 in plain words. The document's block. Rows: what they are read by. Layer 17's rows: what a claim asks of the program's text, fact by fact. The program's schedule. The document's digest. The document's digest, walked. -/
import Derived.Test.YtmfcgihgdhfalaaGreatDoorN05
import Derived.Test.YtmfcgihgdhfalaaGreatDoorN01
import Derived.Test.YtmfcgihgdhfalaaGreatDoorCards
import Derived.Test.YtmfcgihgdhfalaaGreatDoorTie
import Derived.OpenShut
import Derived.Deep.DeepHandedRow
import Derived.Lib.LaidTab
import Derived.Stop.LaidErr
open ByteArray(empty)
open Go.IntKind(wrap)
set_option linter.unusedSimpArgs false
set_option linter.unusedVariables false
namespace Go.Proofs.YtmfcgihgdhfalaaGreatDoor
open Go.Sh
def dx.g(F0:type_of% bA)(F1:type_of% aD)(F2:type_of% cM)(F3:type_of% bF)(F4:type_of% strings_Repeat)(F5:type_of% dh)(F6:type_of% az)(F7:type_of% bU)(F8:type_of% bB)(F9:type_of% aE)(x0 x1:Option Addr)(x2:ByteArray)(x3 x4:Int)(h:H)(Q:Int->H->Prop):Prop:=
M.new h (.cells #[.pointer none,.pointer none,.string empty] 120) λb2 h3=>
M.nN 3 h3 ⟨b2,0,none⟩ [.pointer x0,.pointer x1,.string x2] (λh4=>
M.D6 h4 ⟨b2,0,none⟩ λp6 p8 s10=>
F0 p6 p8 s10 h4 λn11 h12=>
(bif(n11 != 0)then
Q n11 h12
else
M.new h12 (.cells #[.int .i64 0,.int .i64 0,.int .i64 0,.bool false] 59) λb13 h14=>
M.nN 4 h14 ⟨b13,0,none⟩ [.int .i64 x3,.int .i64 x4,.int .i64 0,.bool false] (λh15=>
M.join (α:=Bool) (λd30 h31=>
(bif d30 then
Q 2 h31
else
F3 x1 h31 λn32 s33 h34=>
(bif(n32 != 0)then
Q 13 h34
else
M.new h34 (.cells #[.int .u64 0,.int .u64 0,.int .i64 0,.int .i64 0,.int .i64 0,.int .i64 0,.bool false,.slice none 0 0,.slice none 0 0] 40) λb35 h36=>
M.nN 9 h36 ⟨b35,0,none⟩ [.int .u64 1,.int .u64 1,.int .i64 x3,.int .i64 x4,.int .i64 0,.int .i64 0,.bool false,.slice none 0 0,.slice none 0 0] (λh37=>
M.join (α:=Unit) (λd118 h119=>
M.D6 h119 ⟨b2,0,none⟩ λp121 p123 s125=>
M.kC h119 ⟨b35,0,none⟩ λn127 n129 n131 n133 n135 n137 b139 a141 l142 c143 a145 l146 c147=>
F9 p121 p123 s125 n127 n129 n131 n133 n135 n137 b139 a141 l142 c143 a145 l146 c147 h119 λn148 h149=>
Q n148 h149) λJ38=>
F2 x0 h37 λn39 h40=>
M.loop (α:=Int) (λJ41 d42 h43=>
(bif(decide (d42<n39))then
F4 (⟨#[0]⟩:ByteArray) 32 h43 λs44 h45=>
F5  h45 λs46 h47=>
M.new h47 (.cells #[.int .i64 0,.string empty,.string empty] 51) λb48 h49=>
M.nN 3 h49 ⟨b48,0,none⟩ [.int .i64 0,.string s44,.string s46] (λh50=>
M.join (α:=Unit) (λd97 h98=>
M.load h98 (Addr.add ⟨b35,0,none⟩ 8) λv99=>
M.slc v99 λa100 l101 c102=>
M.load h98 (Addr.add ⟨b48,0,none⟩ 0) λv103=>
M.int .i64 v103 λn104=>
M.load h98 (Addr.add ⟨b48,0,none⟩ 1) λv105=>
M.str v105 λs106=>
M.load h98 (Addr.add ⟨b48,0,none⟩ 2) λv107=>
M.str v107 λs108=>
M.new h98 (.cells #[.int .i64 n104,.string s106,.string s108] 51) λb109 h110=>
M.cellsOf h110 (some ⟨b109,0,none⟩) (1*3) λcs115=>
M.app h110 51 3 40 [.int .i64 0,.string empty,.string empty] a100 l101 c102 1 cs115 λa111 l112 c113 h114=>
M.put h114 (Addr.add ⟨b35,0,none⟩ 8) (.slice a111 l112 c113) λh116=>
M.val (wrap .i64 (d42+1)) λz117=>
J41 z117 h116) λJ51=>
M.val (wrap .i64 (x3+2)) λz52=>
(bif(decide (d42<z52))then
M.D6 h50 ⟨b2,0,none⟩ λp54 p56 s58=>
F6 p54 p56 s58 d42 x4 h50 λp59 n60 n61 s62 h63=>
F7 p59 n60 n61 s62 h63 λa64 l65 c66 s67 n68 h69=>
M.D6 h69 ⟨b2,0,none⟩ λp71 p73 s75=>
F6 p71 p73 s75 d42 x4 h69 λp76 n77 n78 s79 h80=>
F8 p76 n77 n78 s79 a64 l65 c66 h80 λn81 h82=>
(bif(n81 != 0)then
Q n81 h82
else
M.put h82 (Addr.add ⟨b48,0,none⟩ 0) (.int .i64 1) λh83=>
M.put h83 (Addr.add ⟨b48,0,none⟩ 1) (.string s67) λh84=>
M.load h84 (Addr.add ⟨b35,0,none⟩ 7) λv85=>
M.slc v85 λa86 l87 c88=>
M.new h84 (.cells #[.int .i64 d42] 3) λb89 h90=>
M.cellsOf h90 (some ⟨b89,0,none⟩) (1*1) λcs95=>
M.app h90 3 1 8 [.int .i64 0] a86 l87 c88 1 cs95 λa91 l92 c93 h94=>
M.put h94 (Addr.add ⟨b35,0,none⟩ 7) (.slice a91 l92 c93) λh96=>
J51 () h96)
else
J51 () h50))
else
J38 () h43)) 0 h40)))) λJ16=>
M.load h15 (Addr.add ⟨b13,0,none⟩ 0) λv17=>
M.int .i64 v17 λn18=>
M.load h15 (Addr.add ⟨b13,0,none⟩ 1) λv19=>
M.int .i64 v19 λn20=>
M.load h15 (Addr.add ⟨b13,0,none⟩ 2) λv21=>
M.int .i64 v21 λn22=>
M.load h15 (Addr.add ⟨b13,0,none⟩ 3) λv23=>
M.bool v23 λb24=>
F1 n18 n20 n22 b24 h15 λb25 h26=>
(bif(!b25)then
J16 true h26
else
F2 x0 h26 λn27 h28=>
M.val (wrap .i64 (x3+2)) λz29=>
J16 (decide (n27<z29)) h28))))
def dx:=dx.g bA aD cM bF strings_Repeat dh az bU bB aE
def dx.L(F:type_of% dx):LT
 | [.pointer x0,.pointer x1,.string x2,.int .i64 x3,.int .i64 x4]=>λQ h=>F x0 x1 x2 x3 x4 h λn152 h153=>Q (.int .i64 n152) h153
 | _=>λ_ _=>False
def dx.ann:jy:=⟨ah [(6,[(44,.bool)])],ah [(255,[]),(261427,[])],ah [(2042,[(57,.int .i64)])]⟩
theorem dx.geq(F0)(F1)(F2)(F3)(F4)(F5)(F6)(F7)(F8)(F9):∀l,gj (fT Tryz.prog (ay [(49,WL (bA.L F0)),(17,WL (aD.L F1)),(73,WL (cM.L F2)),(35,WL (bF.L F3)),(74,WL (strings_Repeat.L F4)),(52,WL (dh.L F5)),(47,WL (az.L F6)),(75,WL (bU.L F7)),(76,WL (bB.L F8)),(53,WL (aE.L F9))]) Tryz.f22 dx.ann) l (dx.L (dx.g F0 F1 F2 F3 F4 F5 F6 F7 F8 F9) l):=by
 intro l;unfold dx.L;split;exact .inr (by intros;kernel_rfl);exact .inl rfl
theorem dx.good:ai Tryz.prog 22 (WL (dx.L dx)):=.gu mixed (.cons bA.good (.cons aD.good (.cons cM.good (.cons bF.good (.cons strings_Repeat.good (.cons dh.good (.cons az.good (.cons bU.good (.cons bB.good (.cons aE.good .nil)))))))))) Tryz.func22 Tryz.call22 (dx.geq bA aD cM bF strings_Repeat dh az bU bB aE)
def bY.g(F0:type_of% eO)(F1:type_of% cV)(F2:type_of% az)(F3:type_of% bB)(x0_0 x0_1:Option Addr)(x0_2:ByteArray)(x1_0 x1_1 x1_2 x1_3 x1_4 x1_5:Int)(x1_6:Bool)(x1_7:Option Addr)(x1_7L x1_7C:Nat)(x1_8:Option Addr)(x1_8L x1_8C:Nat)(h:H)(Q:Int->H->Prop):Prop:=
M.new h (.cells #[.pointer x0_0,.pointer x0_1,.string x0_2] 120) λb2 h3=>
M.new h3 (.cells #[.int .u64 x1_0,.int .u64 x1_1,.int .i64 x1_2,.int .i64 x1_3,.int .i64 x1_4,.int .i64 x1_5,.bool x1_6,.slice x1_7 x1_7L x1_7C,.slice x1_8 x1_8L x1_8C] 40) λb4 h5=>
M.load h5 (Addr.add ⟨b4,0,none⟩ 8) λv6=>
M.slc v6 λa7 l8 c9=>
M.loop (α:=Int) (λJ10 d11 h12=>
(bif(decide (d11<(l8:Int)))then
M.idx a7 l8 d11 λa13 j14=>
M.load h12 ((Addr.add a13 (j14*3)).add 0) λv15=>
M.int .i64 v15 λn16=>
M.load h12 ((Addr.add a13 (j14*3)).add 1) λv17=>
M.str v17 λs18=>
M.load h12 ((Addr.add a13 (j14*3)).add 2) λv19=>
M.str v19 λs20=>
M.new h12 (.cells #[.int .i64 0,.string empty,.string empty] 51) λb21 h22=>
M.nN 3 h22 ⟨b21,0,none⟩ [.int .i64 n16,.string s18,.string s20] (λh23=>
M.load h23 (Addr.add ⟨b21,0,none⟩ 0) λv24=>
M.int .i64 v24 λn25=>
M.load h23 (Addr.add ⟨b21,0,none⟩ 1) λv26=>
M.str v26 λs27=>
M.load h23 (Addr.add ⟨b21,0,none⟩ 2) λv28=>
M.str v28 λs29=>
F0 n25 s27 s29 h23 λb30 h31=>
(bif(!b30)then
M.val (wrap .i64 (d11+1)) λz32=>
J10 z32 h31
else
M.D6 h31 ⟨b2,0,none⟩ λp34 p36 s38=>
M.load h31 (Addr.add ⟨b21,0,none⟩ 2) λv39=>
M.str v39 λs40=>
F1 p34 p36 s38 d11 s40 h31 λa41 l42 c43 n44 h45=>
M.join (α:=Int) (λd65 h66=>
(bif(d65 == 21)then
Q d65 h66
else
M.val (wrap .i64 (d11+1)) λz67=>
J10 z67 h66)) λJ46=>
M.join (α:=Bool) (λd48 h49=>
(bif d48 then
M.D6 h49 ⟨b2,0,none⟩ λp51 p53 s55=>
M.load h49 (Addr.add ⟨b4,0,none⟩ 3) λv56=>
M.int .i64 v56 λn57=>
F2 p51 p53 s55 d11 n57 h49 λp58 n59 n60 s61 h62=>
F3 p58 n59 n60 s61 a41 l42 c43 h62 λn63 h64=>
J46 n63 h64
else
J46 n44 h49)) λJ47=>
(bif(n44 == 0)then
J47 (decide ((l42:Int)>0)) h45
else
J47 false h45)))
else
Q 0 h12)) 0 h5
def bY:=bY.g eO cV az bB
def bY.L(F:type_of% bY):LT
 | [.agg ⟨[.pointer x0_0,.pointer x0_1,.string x0_2]⟩,.agg ⟨[.int .u64 x1_0,.int .u64 x1_1,.int .i64 x1_2,.int .i64 x1_3,.int .i64 x1_4,.int .i64 x1_5,.bool x1_6,.slice x1_7 x1_7L x1_7C,.slice x1_8 x1_8L x1_8C]⟩]=>λQ h=>F x0_0 x0_1 x0_2 x1_0 x1_1 x1_2 x1_3 x1_4 x1_5 x1_6 x1_7 x1_7L x1_7C x1_8 x1_8L x1_8C h λn70 h71=>Q (.int .i64 n70) h71
 | _=>λ_ _=>False
def bY.ann:jy:=⟨ah [(6,[(34,.bool)])],ah [(6759,[(8,.int .i64)])],ah [(26,[(12,.int .i64)])]⟩
theorem bY.geq(F0)(F1)(F2)(F3):∀l,gj (fT Tryz.prog (ay [(119,WL (eO.L F0)),(120,WL (cV.L F1)),(47,WL (az.L F2)),(76,WL (bB.L F3))]) Tryz.f51 bY.ann) l (bY.L (bY.g F0 F1 F2 F3) l):=by
 intro l;unfold bY.L;split;exact .inr (by intros;kernel_rfl);exact .inl rfl
theorem bY.good:ai Tryz.prog 51 (WL (bY.L bY)):=.gu mixed (.cons eO.good (.cons cV.good (.cons az.good (.cons bB.good .nil)))) Tryz.func51 Tryz.call51 (bY.geq eO cV az bB)
def fA.g(F0:type_of% cr)(F1:type_of% cO)(F2:type_of% aY)(F3:type_of% gM)(F4:type_of% strings_Repeat)(F5:type_of% de)(F6:type_of% iG)(x0_0:Option Addr)(x0_1 x0_2:Int)(x0_3 x1:ByteArray)(x2:Int)(h:H)(Q:ByteArray->Int->H->Prop):Prop:=
M.new h (.cells #[.pointer x0_0,.int .i64 x0_1,.int .i64 x0_2,.string x0_3] 126) λb3 h4=>
M.load h4 (Addr.add ⟨b3,0,none⟩ 0) λv5=>
M.ptr v5 λp6=>
M.load h4 (Addr.add ⟨b3,0,none⟩ 1) λv7=>
M.int .i64 v7 λn8=>
M.load h4 (Addr.add ⟨b3,0,none⟩ 2) λv9=>
M.int .i64 v9 λn10=>
M.load h4 (Addr.add ⟨b3,0,none⟩ 3) λv11=>
M.str v11 λs12=>
F0 p6 n8 n10 s12 x2 h4 λn13 h14=>
(bif(n13 != 0)then
Q empty n13 h14
else
M.load h14 (Addr.add ⟨b3,0,none⟩ 0) λv15=>
M.ptr v15 λp16=>
M.load h14 (Addr.add ⟨b3,0,none⟩ 1) λv17=>
M.int .i64 v17 λn18=>
M.load h14 (Addr.add ⟨b3,0,none⟩ 2) λv19=>
M.int .i64 v19 λn20=>
M.load h14 (Addr.add ⟨b3,0,none⟩ 3) λv21=>
M.str v21 λs22=>
F1 p16 n18 n20 s22 x1 x2 none h14 λa23 l24 c25 s26 n27 h28=>
(bif(n27 != 0)then
Q empty n27 h28
else
M.load h28 (Addr.add ⟨b3,0,none⟩ 0) λv29=>
M.ptr v29 λp30=>
M.load h28 (Addr.add ⟨b3,0,none⟩ 1) λv31=>
M.int .i64 v31 λn32=>
M.val (wrap .i64 (120+x2)) λz33=>
F2 p30 n32 z33 h28 λs34 n35 h36=>
(bif(n35 != 0)then
Q empty n35 h36
else
F3 s34 h36 λs37 h38=>
(bif(!mX s37 s26)then
Q empty 22 h38
else
(bif(mX s34 empty)then
F4 (⟨#[0]⟩:ByteArray) 32 h38 λs39 h40=>
Q s39 0 h40
else
(bif(decide ((ByteArray.size s34:Int)<12))then
Q empty 3 h38
else
M.load h38 (Addr.add ⟨b3,0,none⟩ 3) λv41=>
M.str v41 λs42=>
M.qI s34 0 12 λs43=>
M.load h38 (Addr.add ⟨b3,0,none⟩ 0) λv44=>
M.ptr v44 λp45=>
M.load h38 (Addr.add ⟨b3,0,none⟩ 1) λv46=>
M.int .i64 v46 λn47=>
M.load h38 (Addr.add ⟨b3,0,none⟩ 2) λv48=>
M.int .i64 v48 λn49=>
M.load h38 (Addr.add ⟨b3,0,none⟩ 3) λv50=>
M.str v50 λs51=>
M.qI s34 12 (ByteArray.size s34:Int) λs52=>
F5 p45 n47 n49 s51 x2 h38 λs53 h54=>
M.still h38 (Addr.add ⟨b3,0,none⟩ 3) 1 h54 (
F6 s42 s43 s53 s52 h54 λs55 n56 h57=>
Q s55 n56 h57)))))))
def fA:=fA.g cr cO aY gM strings_Repeat de iG
def fA.L(F:type_of% fA):LT
 | [.agg ⟨[.pointer x0_0,.int .i64 x0_1,.int .i64 x0_2,.string x0_3]⟩,.string x1,.int .i64 x2]=>λQ h=>F x0_0 x0_1 x0_2 x0_3 x1 x2 h λs61 n62 h63=>Q (.tuple #[.string s61,.int .i64 n62]) h63
 | _=>λ_ _=>False
theorem fA.geq(F0)(F1)(F2)(F3)(F4)(F5)(F6):∀l,gj (fT Tryz.prog (ay [(112,WL (cr.L F0)),(126,WL (cO.L F1)),(116,WL (aY.L F2)),(127,WL (gM.L F3)),(74,WL (strings_Repeat.L F4)),(114,WL (de.L F5)),(128,WL (iG.L F6))]) Tryz.f56 lQ) l (fA.L (fA.g F0 F1 F2 F3 F4 F5 F6) l):=by
 intro l;unfold fA.L;split;exact .inr (by intros;kernel_rfl);exact .inl rfl
theorem fA.good:ai Tryz.prog 56 (WL (fA.L fA)):=.gu mixed (.cons cr.good (.cons cO.good (.cons aY.good (.cons gM.good (.cons strings_Repeat.good (.cons de.good (.cons iG.good .nil))))))) Tryz.func56 Tryz.call56 (fA.geq cr cO aY gM strings_Repeat de iG)
def cu.g(F0:type_of% cq)(F1:type_of% aL)(F2:type_of% aq)(F3:type_of% aa)(x0:Option Addr)(x1_0 x1_1 x1_2 x1_3 x1_4 x1_5:Int)(x1_6:Bool)(x1_7:Option Addr)(x1_7L x1_7C:Nat)(x1_8:Option Addr)(x1_8L x1_8C:Nat)(x1_9:Option Addr)(x1_9L x1_9C:Nat)(x1_10:Option Addr)(x1_10L x1_10C:Nat)(h:H)(Q:Option Addr->Int->H->Prop):Prop:=
M.new h (.cells #[.int .u64 x1_0,.int .u64 x1_1,.int .i64 x1_2,.int .i64 x1_3,.int .i64 x1_4,.int .i64 x1_5,.bool x1_6,.slice x1_7 x1_7L x1_7C,.slice x1_8 x1_8L x1_8C,.slice x1_9 x1_9L x1_9C,.slice x1_10 x1_10L x1_10C] 55) λb3 h4=>
M.kC h4 (Addr.add ⟨b3,0,none⟩ 0) λn6 n8 n10 n12 n14 n16 b18 a20 l21 c22 a24 l25 c26=>
F0 n6 n8 n10 n12 n14 n16 b18 a20 l21 c22 a24 l25 c26 h4 λn27 n28 n29 n30 n31 n32 b33 a34 l35 c36 a37 l38 c39 h40=>
M.new h40 (.map #[] 0) λb41 h42=>
M.new h42 (.map #[] 0) λb43 h44=>
M.new h44 (.cells #[.int .u64 n27,.int .u64 n28,.int .i64 n29,.int .i64 n30,.int .i64 n31,.int .i64 n32,.bool b33,.slice a34 l35 c36,.slice a37 l38 c39,(.map (some b41)),(.map (some b43))] 146) λb45 h46=>
M.new h46 (.cells #[.pointer none] 138) λb47 h48=>
M.put h48 ⟨b47,0,none⟩ (.pointer (some ⟨b45,0,none⟩)) λh49=>
M.join (α:=Bool) (λd71 h72=>
(bif d71 then
Q none 4 h72
else
M.load h72 ⟨b47,0,none⟩ λv73=>
M.ptr v73 λp74=>
M.load h72 ⟨b47,0,none⟩ λv75=>
M.ptr v75 λp76=>
M.nn x0 λa77=>
M.load h72 (Addr.add (Addr.add a77 3) 0) λv78=>
M.int .u64 v78 λn79=>
M.nn x0 λa80=>
M.load h72 (Addr.add (Addr.add a80 3) 1) λv81=>
M.int .u64 v81 λn82=>
M.nn p74 λa83=>
M.put h72 (Addr.add (Addr.add a83 0) 0) (.int .u64 n79) λh84=>
M.still h72 ⟨b47,0,none⟩ 1 h84 (
M.nn p76 λa85=>
M.put h84 (Addr.add (Addr.add a85 0) 1) (.int .u64 n82) λh86=>
M.join (α:=Unit) (λd132 h133=>
M.new h133 (.cells #[.nilFunc] 247) λb134 h135=>
M.put h135 ⟨b134,0,none⟩ (.func (.func 131) #[] #[(.pointer (some ⟨b47,0,none⟩))]) λh136=>
M.join (α:=Bool) (λd177 h178=>
(bif d177 then
Q none 4 h178
else
M.load h178 ⟨b47,0,none⟩ λv179=>
M.ptr v179 λp180=>
M.nn p180 λa181=>
M.load h178 (Addr.add (Addr.add a181 0) 0) λv182=>
M.int .u64 v182 λn183=>
M.val (wrap .u64 (n183+1)) λz184=>
M.nn p180 λa185=>
M.put h178 (Addr.add (Addr.add a185 0) 0) (.int .u64 z184) λh186=>
M.load h186 ⟨b47,0,none⟩ λv187=>
M.ptr v187 λp188=>
Q p188 0 h186)) λJ137=>
M.load h136 ⟨b47,0,none⟩ λv138=>
M.ptr v138 λp139=>
M.nn p139 λa140=>
M.kC h136 (Addr.add a140 0) λn142 n144 n146 n148 n150 n152 b154 a156 l157 c158 a160 l161 c162=>
F1 n142 n144 n146 n148 n150 n152 b154 a156 l157 c158 a160 l161 c162 h136 λb163 h164=>
(bif(!b163)then
J137 true h164
else
M.load h164 (Addr.add ⟨b3,0,none⟩ 9) λv165=>
M.slc v165 λa166 l167 c168=>
F2 a166 l167 c168 ⟨b134,0,none⟩ h164 λb169 h170=>
(bif b169 then
J137 true h170
else
M.load h170 (Addr.add ⟨b3,0,none⟩ 10) λv171=>
M.slc v171 λa172 l173 c174=>
F3 a172 l173 c174 ⟨b134,0,none⟩ h170 λb175 h176=>
J137 b175 h176))) λJ87=>
M.nn x0 λa88=>
M.load h86 (Addr.add (Addr.add a88 3) 8) λv89=>
M.slc v89 λa90 l91 c92=>
M.loop (α:=Int) (λJ93 d94 h95=>
(bif(decide (d94<(l91:Int)))then
M.idx a90 l91 d94 λa96 j97=>
M.load h95 ((Addr.add a96 (j97*3)).add 0) λv98=>
M.int .i64 v98 λn99=>
M.load h95 ((Addr.add a96 (j97*3)).add 1) λv100=>
M.str v100 λs101=>
M.load h95 ((Addr.add a96 (j97*3)).add 2) λv102=>
M.str v102 λs103=>
M.new h95 (.cells #[.int .i64 0,.string empty,.string empty] 51) λb104 h105=>
M.nN 3 h105 ⟨b104,0,none⟩ [.int .i64 n99,.string s101,.string s103] (λh106=>
M.load h106 ⟨b47,0,none⟩ λv107=>
M.ptr v107 λp108=>
M.nn p108 λa109=>
M.load h106 (Addr.add (Addr.add a109 0) 8) λv110=>
M.slc v110 λa111 l112 c113=>
M.load h106 ⟨b47,0,none⟩ λv114=>
M.ptr v114 λp115=>
M.nn p115 λa116=>
M.load h106 (Addr.add (Addr.add a116 0) 8) λv117=>
M.slc v117 λa118 l119 c120=>
M.load h106 (Addr.add ⟨b104,0,none⟩ 1) λv121=>
M.str v121 λs122=>
M.load h106 (Addr.add ⟨b104,0,none⟩ 2) λv123=>
M.str v123 λs124=>
M.idx a111 l112 d94 λa125 j126=>
M.put h106 (Addr.add (Addr.add a125 (j126*3)) 1) (.string s122) λh127=>
M.still h106 (Addr.add ⟨b104,0,none⟩ 2) 1 h127 (
M.idx a118 l119 d94 λa128 j129=>
M.put h127 (Addr.add (Addr.add a128 (j129*3)) 2) (.string s124) λh130=>
M.val (wrap .i64 (d94+1)) λz131=>
J93 z131 h130))
else
J87 () h95)) 0 h86))) λJ50=>
M.load h49 ⟨b47,0,none⟩ λv51=>
M.ptr v51 λp52=>
M.nn p52 λa53=>
M.load h49 (Addr.add (Addr.add a53 0) 8) λv54=>
M.slc v54 λa55 l56 c57=>
M.nn x0 λa58=>
M.load h49 (Addr.add (Addr.add a58 3) 8) λv59=>
M.slc v59 λa60 l61 c62=>
(bif((l56:Int) != (l61:Int))then
J50 true h49
else
M.load h49 ⟨b47,0,none⟩ λv63=>
M.ptr v63 λp64=>
M.nn p64 λa65=>
M.load h49 (Addr.add (Addr.add a65 0) 3) λv66=>
M.int .i64 v66 λn67=>
M.nn x0 λa68=>
M.load h49 (Addr.add (Addr.add a68 3) 3) λv69=>
M.int .i64 v69 λn70=>
J50 (n67 != n70) h49)
def cu:=cu.g cq aL aq aa
def cu.L(F:type_of% cu):LT
 | [.pointer x0,.agg ⟨[.int .u64 x1_0,.int .u64 x1_1,.int .i64 x1_2,.int .i64 x1_3,.int .i64 x1_4,.int .i64 x1_5,.bool x1_6,.slice x1_7 x1_7L x1_7C,.slice x1_8 x1_8L x1_8C,.slice x1_9 x1_9L x1_9C,.slice x1_10 x1_10L x1_10C]⟩]=>λQ h=>F x0 x1_0 x1_1 x1_2 x1_3 x1_4 x1_5 x1_6 x1_7 x1_7L x1_7C x1_8 x1_8L x1_8C x1_9 x1_9L x1_9C x1_10 x1_10L x1_10C h λp192 n193 h194=>Q (.tuple #[.pointer p192,.int .i64 n193]) h194
 | _=>λ_ _=>False
def cu.ann:jy:=⟨ah [(2,[(42,.bool)]),(11,[(111,.bool)])],ah [(31,[])],ah [(250,[(67,.int .i64)])]⟩
theorem cu.geq(F0)(F1)(F2)(F3):∀l,gj (fT Tryz.prog (ay [(57,WL (cq.L F0)),(18,WL (aL.L F1)),(132,WL (aq.L F2)),(134,WL (aa.L F3))]) Tryz.f58 cu.ann) l (cu.L (cu.g F0 F1 F2 F3) l):=by
 intro l;unfold cu.L;split;exact .inr (by intros;kernel_rfl);exact .inl rfl
theorem cu.good:ai Tryz.prog 58 (WL (cu.L cu)):=.gu mixed (.cons cq.good (.cons aL.good (.cons aq.good (.cons aa.good .nil)))) Tryz.func58 Tryz.call58 (cu.geq cq aL aq aa)
def bJ(a1 a2:Addr)(h:H)(Q:Int->H->Prop):Prop:=
M.load h a1 λv4=>
M.ptr v4 λp5=>
M.load h a2 λv6=>
M.ptr v6 λp7=>
cF p5 p7 h λn8 h9=>
Q n8 h9
def bJ.L(F:type_of% bJ):LT
 | [.pointer (some a1),.pointer (some a2)]=>λQ h=>F a1 a2 h λn12 h13=>Q (.int .i64 n12) h13
 | _=>λ_ _=>False
theorem bJ.good:ai Tryz.prog 61 (WL (bJ.L bJ)):=.gu (ann:=lQ) mixed (.cons cF.good .nil) Tryz.func61 Tryz.call61 (by intro l;unfold bJ.L;split;exact .inr (by intros;kernel_rfl);exact .inl rfl)
def cA.g(F0:type_of% cB)(F1:type_of% cO)(F2:type_of% gM)(F3:type_of% jm)(F4:type_of% fu)(F5:type_of% gB)(x0_0:Option Addr)(x0_1 x0_2:Int)(x0_3 x1:ByteArray)(x2:Option Addr)(x2L x2C:Nat)(h:H)(Q:Option Addr->Nat->Nat->ByteArray->Int->H->Prop):Prop:=
M.new h (.cells #[.pointer x0_0,.int .i64 x0_1,.int .i64 x0_2,.string x0_3] 126) λb6 h7=>
M.load h7 (Addr.add ⟨b6,0,none⟩ 0) λv8=>
M.ptr v8 λp9=>
M.load h7 (Addr.add ⟨b6,0,none⟩ 1) λv10=>
M.int .i64 v10 λn11=>
M.load h7 (Addr.add ⟨b6,0,none⟩ 2) λv12=>
M.int .i64 v12 λn13=>
M.load h7 (Addr.add ⟨b6,0,none⟩ 3) λv14=>
M.str v14 λs15=>
F0 p9 n11 n13 s15 x2 x2L x2C h7 λn16 h17=>
(bif(n16 != 0)then
Q none 0 0 empty n16 h17
else
M.new h17 (.map #[] 0) λb18 h19=>
M.new h19 (.map #[] 0) λb20 h21=>
M.join (α:=ByteArray) (λd94 h95=>
M.join (α:=(Option Addr×Nat×Nat)) (λd120 h121=>
M.join (α:=(Option Addr×Nat×Nat)) (λd146 h147=>
Q d146.1 d146.2.1 d146.2.2 d94 0 h147) λJ122=>
F5 (some b20) h121 λa123 l124 c125 h126=>
M.loop (α:=(Option Addr×Nat×Nat)×Int) (λJ127 d128 h129=>
(bif(decide (d128.2<(l124:Int)))then
M.idx a123 l124 d128.2 λa130 j131=>
M.load h129 (Addr.add a130 (j131*1)) λv132=>
M.int .i64 v132 λn133=>
M.val (wrap .i64 (120+n133)) λz134=>
M.lk Tryz.prog 144 (.map (some b20)) (.int .i64 n133) h129 λv135 h136=>
M.str v135 λs137=>
M.new h136 (.cells #[.int .i64 z134,.string s137] 261) λb138 h139=>
M.cellsOf h139 (some ⟨b138,0,none⟩) (1*2) λcs144=>
M.app h139 261 2 24 [.int .i64 0,.string empty] d128.1.1 d128.1.2.1 d128.1.2.2 1 cs144 λa140 l141 c142 h143=>
M.val (wrap .i64 (d128.2+1)) λz145=>
J127 ((a140,l141,c142),z145) h143
else
J122 (d128.1.1,d128.1.2.1,d128.1.2.2) h129)) ((d120.1,d120.2.1,d120.2.2),0) h126) λJ96=>
F5 (some b18) h95 λa97 l98 c99 h100=>
M.loop (α:=(Option Addr×Nat×Nat)×Int) (λJ101 d102 h103=>
(bif(decide (d102.2<(l98:Int)))then
M.idx a97 l98 d102.2 λa104 j105=>
M.load h103 (Addr.add a104 (j105*1)) λv106=>
M.int .i64 v106 λn107=>
M.val (wrap .i64 (100+n107)) λz108=>
M.lk Tryz.prog 307 (.map (some b18)) (.int .i64 n107) h103 λv109 h110=>
M.str v109 λs111=>
M.new h110 (.cells #[.int .i64 z108,.string s111] 261) λb112 h113=>
M.cellsOf h113 (some ⟨b112,0,none⟩) (1*2) λcs118=>
M.app h113 261 2 24 [.int .i64 0,.string empty] d102.1.1 d102.1.2.1 d102.1.2.2 1 cs118 λa114 l115 c116 h117=>
M.val (wrap .i64 (d102.2+1)) λz119=>
J101 ((a114,l115,c116),z119) h117
else
J96 (d102.1.1,d102.1.2.1,d102.1.2.2) h103)) ((none,0,0),0) h100) λJ22=>
M.loop (α:=ByteArray×Int) (λJ23 d24 h25=>
(bif(decide (d24.2<(x2L:Int)))then
M.idx x2 x2L d24.2 λa26 j27=>
M.load h25 ((Addr.add a26 (j27*2)).add 0) λv28=>
M.int .i64 v28 λn29=>
M.load h25 ((Addr.add a26 (j27*2)).add 1) λv30=>
M.str v30 λs31=>
M.new h25 (.cells #[.int .i64 0,.string empty] 109) λb32 h33=>
M.req (Array.size (#[.int .i64 n29,.string s31]:Array Value)=2) (M.ku h33 ⟨b32,0,none⟩ [.int .i64 n29,.string s31] λh34=>
M.load h34 (Addr.add ⟨b6,0,none⟩ 0) λv35=>
M.ptr v35 λp36=>
M.load h34 (Addr.add ⟨b6,0,none⟩ 1) λv37=>
M.int .i64 v37 λn38=>
M.load h34 (Addr.add ⟨b6,0,none⟩ 2) λv39=>
M.int .i64 v39 λn40=>
M.load h34 (Addr.add ⟨b6,0,none⟩ 3) λv41=>
M.str v41 λs42=>
M.load h34 (Addr.add ⟨b32,0,none⟩ 0) λv43=>
M.int .i64 v43 λn44=>
F1 p36 n38 n40 s42 d24.1 n44 (some b18) h34 λa45 l46 c47 s48 n49 h50=>
(bif(n49 != 0)then
Q none 0 0 empty n49 h50
else
M.load h50 (Addr.add ⟨b32,0,none⟩ 0) λv51=>
M.int .i64 v51 λn52=>
M.load h50 (Addr.add ⟨b32,0,none⟩ 1) λv53=>
M.str v53 λs54=>
F2 s54 h50 λs55 h56=>
M.still h50 (Addr.add ⟨b32,0,none⟩ 0) 1 h56 (
F3 n52 a45 l46 c47 s55 h56 λa57 l58 c59 s60 n61 h62=>
M.load h62 (Addr.add ⟨b6,0,none⟩ 2) λv63=>
M.int .i64 v63 λn64=>
M.load h62 (Addr.add ⟨b32,0,none⟩ 0) λv65=>
M.int .i64 v65 λn66=>
F4 n64 n66 h62 λa67 l68 c69 n70 h71=>
M.join (α:=Unit) (λd86 h87=>
M.load h87 (Addr.add ⟨b32,0,none⟩ 0) λv88=>
M.int .i64 v88 λn89=>
M.load h87 (Addr.add ⟨b32,0,none⟩ 1) λv90=>
M.str v90 λs91=>
M.An Tryz.prog 144 (.map (some b20)) (.int .i64 n89) (.string s91) h87 λh92=>
M.val (wrap .i64 (d24.2+1)) λz93=>
J23 (s60,z93) h92) λJ72=>
M.loop (α:=Int) (λJ73 d74 h75=>
(bif(decide (d74<(l68:Int)))then
M.idx a67 l68 d74 λa76 j77=>
M.load h75 (Addr.add a76 (j77*1)) λv78=>
M.int .i64 v78 λn79=>
M.idx a57 l58 d74 λa80 j81=>
M.load h75 (Addr.add a80 (j81*1)) λv82=>
M.str v82 λs83=>
M.An Tryz.prog 307 (.map (some b18)) (.int .i64 n79) (.string s83) h75 λh84=>
M.val (wrap .i64 (d74+1)) λz85=>
J73 z85 h84
else
J72 () h75)) 0 h71)))
else
J22 d24.1 h25)) (x1,0) h21)
def cA:=cA.g cB cO gM jm fu gB
def cA.L(F:type_of% cA):LT
 | [.agg ⟨[.pointer x0_0,.int .i64 x0_1,.int .i64 x0_2,.string x0_3]⟩,.string x1,.slice x2 x2L x2C]=>λQ h=>F x0_0 x0_1 x0_2 x0_3 x1 x2 x2L x2C h λa154 l155 c156 s157 n158 h159=>Q (.tuple #[.slice a154 l155 c156,.string s157,.int .i64 n158]) h159
 | _=>λ_ _=>False
def cA.ann:jy:=⟨ah [],ah [(15,[(1,.str)]),(63,[(21,.slc)]),(127,[(21,.slc)]),(125343,[])],ah [(122,[(1,.str),(36,.int .i64)]),(506,[(21,.slc),(95,.int .i64)]),(1018,[(21,.slc),(112,.int .i64)]),(1002746,[(74,.int .i64)])]⟩
theorem cA.geq(F0)(F1)(F2)(F3)(F4)(F5):∀l,gj (fT Tryz.prog (ay [(183,WL (cB.L F0)),(126,WL (cO.L F1)),(127,WL (gM.L F2)),(184,WL (jm.L F3)),(185,WL (fu.L F4)),(186,WL (gB.L F5))]) Tryz.f109 cA.ann) l (cA.L (cA.g F0 F1 F2 F3 F4 F5) l):=by
 intro l;unfold cA.L;split;exact .inr (by intros;kernel_rfl);exact .inl rfl
theorem cA.good:ai Tryz.prog 109 (WL (cA.L cA)):=.gu mixed (.cons cB.good (.cons cO.good (.cons gM.good (.cons jm.good (.cons fu.good (.cons gB.good .nil)))))) Tryz.func109 Tryz.call109 (cA.geq cB cO gM jm fu gB)
def cT.g(F0:type_of% bA)(F1:type_of% bF)(F2:type_of% cC)(F3:type_of% bY)(F4:type_of% dh)(F5:type_of% aE)(F6:type_of% iN)(x0 x1:Option Addr)(x2:ByteArray)(h:H)(Q:Option Addr->Int->H->Prop):Prop:=
M.new h (.cells #[.pointer none,.pointer none,.string empty] 120) λb3 h4=>
M.nN 3 h4 ⟨b3,0,none⟩ [.pointer x0,.pointer x1,.string x2] (λh5=>
M.D6 h5 ⟨b3,0,none⟩ λp7 p9 s11=>
F0 p7 p9 s11 h5 λn12 h13=>
(bif(n12 != 0)then
Q none n12 h13
else
F1 x1 h13 λn14 s15 h16=>
(bif(n14 == 0)then
Q none 11 h16
else
M.D6 h16 ⟨b3,0,none⟩ λp18 p20 s22=>
F2 p18 p20 s22 h16 λn23 n24 n25 n26 n27 n28 b29 a30 l31 c32 a33 l34 c35 n36 h37=>
M.new h37 (.cells #[.int .u64 0,.int .u64 0,.int .i64 0,.int .i64 0,.int .i64 0,.int .i64 0,.bool false,.slice none 0 0,.slice none 0 0] 40) λb38 h39=>
M.nN 9 h39 ⟨b38,0,none⟩ [.int .u64 n23,.int .u64 n24,.int .i64 n25,.int .i64 n26,.int .i64 n27,.int .i64 n28,.bool b29,.slice a30 l31 c32,.slice a33 l34 c35] (λh40=>
(bif(n36 != 0)then
Q none n36 h40
else
M.load h40 (Addr.add ⟨b38,0,none⟩ 1) λv41=>
M.int .u64 v41 λn42=>
(bif(decide (n42≥4294967295))then
Q none 25 h40
else
M.D6 h40 ⟨b3,0,none⟩ λp44 p46 s48=>
M.kC h40 ⟨b38,0,none⟩ λn50 n52 n54 n56 n58 n60 b62 a64 l65 c66 a68 l69 c70=>
F3 p44 p46 s48 n50 n52 n54 n56 n58 n60 b62 a64 l65 c66 a68 l69 c70 h40 λn71 h72=>
(bif(n71 != 0)then
Q none n71 h72
else
M.load h72 (Addr.add ⟨b38,0,none⟩ 0) λv73=>
M.int .u64 v73 λn74=>
M.val (wrap .u64 (n74+1)) λz75=>
M.put h72 (Addr.add ⟨b38,0,none⟩ 0) (.int .u64 z75) λh76=>
M.load h76 (Addr.add ⟨b38,0,none⟩ 1) λv77=>
M.int .u64 v77 λn78=>
M.val (wrap .u64 (n78+1)) λz79=>
M.put h76 (Addr.add ⟨b38,0,none⟩ 1) (.int .u64 z79) λh80=>
M.join (α:=Unit) (λd99 h100=>
M.D6 h100 ⟨b3,0,none⟩ λp102 p104 s106=>
M.kC h100 ⟨b38,0,none⟩ λn108 n110 n112 n114 n116 n118 b120 a122 l123 c124 a126 l127 c128=>
F5 p102 p104 s106 n108 n110 n112 n114 n116 n118 b120 a122 l123 c124 a126 l127 c128 h100 λn129 h130=>
(bif(n129 != 0)then
Q none n129 h130
else
M.load h130 (Addr.add ⟨b38,0,none⟩ 1) λv131=>
M.int .u64 v131 λn132=>
F6 n132 0 h130 λp133 n134 h135=>
M.D6 h135 ⟨b3,0,none⟩ λp137 p139 s141=>
M.kC h135 ⟨b38,0,none⟩ λn143 n145 n147 n149 n151 n153 b155 a157 l158 c159 a161 l162 c163=>
M.new h135 (.cells #[.pointer p137,.pointer p139,.string s141,.int .u64 n143,.int .u64 n145,.int .i64 n147,.int .i64 n149,.int .i64 n151,.int .i64 n153,.bool b155,.slice a157 l158 c159,.slice a161 l162 c163,.pointer p133,.bool false] 123) λb164 h165=>
Q (some ⟨b164,0,none⟩) 0 h165)) λJ81=>
M.load h80 (Addr.add ⟨b38,0,none⟩ 8) λv82=>
M.slc v82 λa83 l84 c85=>
M.loop (α:=Int) (λJ86 d87 h88=>
(bif(decide (d87<(l84:Int)))then
M.load h88 (Addr.add ⟨b38,0,none⟩ 8) λv89=>
M.slc v89 λa90 l91 c92=>
F4  h88 λs93 h94=>
M.still h88 (Addr.add ⟨b38,0,none⟩ 8) 1 h94 (
M.idx a90 l91 d87 λa95 j96=>
M.put h94 (Addr.add (Addr.add a95 (j96*3)) 2) (.string s93) λh97=>
M.val (wrap .i64 (d87+1)) λz98=>
J86 z98 h97)
else
J81 () h88)) 0 h80)))))))
def cT:=cT.g bA bF cC bY dh aE iN
def cT.L(F:type_of% cT):LT
 | [.pointer x0,.pointer x1,.string x2]=>λQ h=>F x0 x1 x2 h λp169 n170 h171=>Q (.tuple #[.pointer p169,.int .i64 n170]) h171
 | _=>λ_ _=>False
def cT.ann:jy:=⟨ah [],ah [(1023,[])],ah [(8186,[(65,.int .i64)])]⟩
theorem cT.geq(F0)(F1)(F2)(F3)(F4)(F5)(F6):∀l,gj (fT Tryz.prog (ay [(49,WL (bA.L F0)),(35,WL (bF.L F1)),(50,WL (cC.L F2)),(51,WL (bY.L F3)),(52,WL (dh.L F4)),(53,WL (aE.L F5)),(54,WL (iN.L F6))]) Tryz.f9 cT.ann) l (cT.L (cT.g F0 F1 F2 F3 F4 F5 F6) l):=by
 intro l;unfold cT.L;split;exact .inr (by intros;kernel_rfl);exact .inl rfl
theorem cT.good:ai Tryz.prog 9 (WL (cT.L cT)):=.gu mixed (.cons bA.good (.cons bF.good (.cons cC.good (.cons bY.good (.cons dh.good (.cons aE.good (.cons iN.good .nil))))))) Tryz.func9 Tryz.call9 (cT.geq bA bF cC bY dh aE iN)
def dc(x0:Option Addr)(h:H)(Q:Bool->H->Prop):Prop:=
M.nn x0 λa2=>
M.load h (Addr.add a2 0) λv3=>
M.ptr v3 λp4=>
M.nn x0 λa5=>
M.load h (Addr.add a5 1) λv6=>
M.ptr v6 λp7=>
cT p4 p7 (⟨#[48,49,50,51,52,53,54,55,56,57,97,98,99,100,101,102,48,49,50,51,52,53,54,55,56,57,97,98,99,100,101,102]⟩:ByteArray) h λp8 n9 h10=>
M.nn x0 λa11=>
M.load h10 (Addr.add a11 3) λv12=>
M.ptr v12 λp13=>
M.nn x0 λa14=>
M.load h10 (Addr.add a14 4) λv15=>
M.ptr v15 λp16=>
gR p13 p16 (⟨#[48,49,50,51,52,53,54,55,56,57,97,98,99,100,101,102,48,49,50,51,52,53,54,55,56,57,97,98,99,100,101,102]⟩:ByteArray) h10 λp17 n18 h19=>
M.join (α:=Bool) (λd21 h22=>
(bif d21 then
Q false h22
else
M.nn x0 λa23=>
M.put h22 (Addr.add a23 2) (.pointer p8) λh24=>
M.nn x0 λa25=>
M.put h24 (Addr.add a25 5) (.pointer p17) λh26=>
Q true h26)) λJ20=>
(bif(n9 != n18)then
J20 true h19
else
J20 (!((Option.isNone p8) == (Option.isNone p17))) h19)
def dc.L(F:type_of% dc):LT
 | [.pointer x0]=>λQ h=>F x0 h λb29 h30=>Q (.bool b29) h30
 | _=>λ_ _=>False
def dc.ann:jy:=⟨ah [(3,[(40,.bool)])],ah [],ah []⟩
def dc.W:W:=WL (dc.L dc)
theorem dc.good:ai Tryz.prog 55 dc.W:=.gu (ann:=dc.ann) mixed (.cons cT.good (.cons gR.good .nil)) Tryz.func55 Tryz.call55 (by intro l;unfold dc.L;split;exact .inr (by intros;kernel_rfl);exact .inl rfl)
def bL.g(F0:type_of% eO)(F1:type_of% aC)(F2:type_of% az)(F3:type_of% bU)(F4:type_of% cA)(F5:type_of% ck)(F6:type_of% bW)(x0 x1:Option Addr)(x2_0 x2_1 x2_2 x2_3 x2_4 x2_5:Int)(x2_6:Bool)(x2_7:Option Addr)(x2_7L x2_7C:Nat)(x2_8:Option Addr)(x2_8L x2_8C:Nat)(x2_9:Option Addr)(x2_9L x2_9C:Nat)(x2_10:Option Addr)(x2_10L x2_10C:Nat)(h:H)(Q:Int->H->Prop):Prop:=
M.new h (.cells #[.int .u64 x2_0,.int .u64 x2_1,.int .i64 x2_2,.int .i64 x2_3,.int .i64 x2_4,.int .i64 x2_5,.bool x2_6,.slice x2_7 x2_7L x2_7C,.slice x2_8 x2_8L x2_8C,.slice x2_9 x2_9L x2_9C,.slice x2_10 x2_10L x2_10C] 55) λb2 h3=>
M.join (α:=Unit) (λd140 h141=>
F6 x1 h141 λb142 h143=>
(bif(!b142)then
Q 24 h143
else
Q 0 h143)) λJ4=>
M.nn x1 λa5=>
M.load h3 (Addr.add (Addr.add a5 0) 8) λv6=>
M.slc v6 λa7 l8 c9=>
M.loop (α:=Int) (λJ10 d11 h12=>
(bif(decide (d11<(l8:Int)))then
M.idx a7 l8 d11 λa13 j14=>
M.load h12 ((Addr.add a13 (j14*3)).add 0) λv15=>
M.int .i64 v15 λn16=>
M.load h12 ((Addr.add a13 (j14*3)).add 1) λv17=>
M.str v17 λs18=>
M.load h12 ((Addr.add a13 (j14*3)).add 2) λv19=>
M.str v19 λs20=>
M.new h12 (.cells #[.int .i64 0,.string empty,.string empty] 51) λb21 h22=>
M.nN 3 h22 ⟨b21,0,none⟩ [.int .i64 n16,.string s18,.string s20] (λh23=>
M.load h23 (Addr.add ⟨b21,0,none⟩ 0) λv24=>
M.int .i64 v24 λn25=>
M.load h23 (Addr.add ⟨b21,0,none⟩ 1) λv26=>
M.str v26 λs27=>
M.load h23 (Addr.add ⟨b21,0,none⟩ 2) λv28=>
M.str v28 λs29=>
F0 n25 s27 s29 h23 λb30 h31=>
(bif(!b30)then
M.val (wrap .i64 (d11+1)) λz32=>
J10 z32 h31
else
M.join (α:=(Option Addr×Nat×Nat)) (λd67 h68=>
M.join (α:=(Option Addr×Nat×Nat)×ByteArray×Int) (λd121 h122=>
(bif(d121.2.2 == 0)then
M.nn x1 λa123=>
M.load h122 (Addr.add a123 9) λv124=>
M.map v124 λm125=>
M.nn x1 λa126=>
M.load h122 (Addr.add a126 10) λv127=>
M.map v127 λm128=>
M.ID Tryz.prog 143 (.map m125) (.int .i64 d11) h122 λv129 n130 h131=>
M.Iz (.map m125) (.int .i64 n130) (.slice d121.1.1 d121.1.2.1 d121.1.2.2) h131 λh132=>
M.ID Tryz.prog 144 (.map m128) (.int .i64 d11) h132 λv133 n134 h135=>
M.Iz (.map m128) (.int .i64 n134) (.string d121.2.1) h135 λh136=>
M.val (wrap .i64 (d11+1)) λz137=>
J10 z137 h136
else
(bif(d121.2.2 == 21)then
Q d121.2.2 h122
else
F5 x1 d11 h122 λh138=>
M.val (wrap .i64 (d11+1)) λz139=>
J10 z139 h138))) λJ69=>
M.load h68 (Addr.add ⟨b2,0,none⟩ 9) λv70=>
M.slc v70 λa71 l72 c73=>
F1 a71 l72 c73 d11 h68 λb74 h75=>
(bif b74 then
M.nn x0 λa76=>
M.D6 h75 (Addr.add a76 0) λp78 p80 s82=>
M.nn x1 λa83=>
M.load h75 (Addr.add (Addr.add a83 0) 3) λv84=>
M.int .i64 v84 λn85=>
F2 p78 p80 s82 d11 n85 h75 λp86 n87 n88 s89 h90=>
F3 p86 n87 n88 s89 h90 λa91 l92 c93 s94 n95 h96=>
J69 ((a91,l92,c93),s94,n95) h96
else
(bif(decide (((d67.2.1:Nat):Int)>0))then
M.nn x0 λa97=>
M.D6 h75 (Addr.add a97 0) λp99 p101 s103=>
M.nn x1 λa104=>
M.load h75 (Addr.add (Addr.add a104 0) 3) λv105=>
M.int .i64 v105 λn106=>
M.load h75 (Addr.add ⟨b21,0,none⟩ 1) λv107=>
M.str v107 λs108=>
F2 p99 p101 s103 d11 n106 h75 λp109 n110 n111 s112 h113=>
M.still h75 (Addr.add ⟨b21,0,none⟩ 1) 1 h113 (
F4 p109 n110 n111 s112 s108 d67.1 d67.2.1 d67.2.2 h113 λa114 l115 c116 s117 n118 h119=>
J69 ((a114,l115,c116),s117,n118) h119)
else
M.val (wrap .i64 (d11+1)) λz120=>
J10 z120 h75))) λJ33=>
M.load h31 (Addr.add ⟨b2,0,none⟩ 10) λv34=>
M.slc v34 λa35 l36 c37=>
M.loop (α:=(Option Addr×Nat×Nat)×Int) (λJ38 d39 h40=>
(bif(decide (d39.2<(l36:Int)))then
M.idx a35 l36 d39.2 λa41 j42=>
M.load h40 ((Addr.add a41 (j42*3)).add 0) λv43=>
M.int .i64 v43 λn44=>
M.load h40 ((Addr.add a41 (j42*3)).add 1) λv45=>
M.int .i64 v45 λn46=>
M.load h40 ((Addr.add a41 (j42*3)).add 2) λv47=>
M.str v47 λs48=>
M.new h40 (.cells #[.int .i64 0,.int .i64 0,.string empty] 111) λb49 h50=>
M.nN 3 h50 ⟨b49,0,none⟩ [.int .i64 n44,.int .i64 n46,.string s48] (λh51=>
M.load h51 (Addr.add ⟨b49,0,none⟩ 0) λv52=>
M.int .i64 v52 λn53=>
(bif(n53 == d11)then
M.load h51 ((Addr.add ⟨b49,0,none⟩ 1).add 0) λv54=>
M.int .i64 v54 λn55=>
M.load h51 ((Addr.add ⟨b49,0,none⟩ 1).add 1) λv56=>
M.str v56 λs57=>
M.new h51 (.cells #[.int .i64 n55,.string s57] 109) λb58 h59=>
M.cellsOf h59 (some ⟨b58,0,none⟩) (1*2) λcs64=>
M.app h59 109 2 24 [.int .i64 0,.string empty] d39.1.1 d39.1.2.1 d39.1.2.2 1 cs64 λa60 l61 c62 h63=>
M.val (wrap .i64 (d39.2+1)) λz65=>
J38 ((a60,l61,c62),z65) h63
else
M.val (wrap .i64 (d39.2+1)) λz66=>
J38 ((d39.1.1,d39.1.2.1,d39.1.2.2),z66) h51))
else
J33 (d39.1.1,d39.1.2.1,d39.1.2.2) h40)) ((none,0,0),0) h31))
else
J4 () h12)) 0 h3
def bL:=bL.g eO aC az bU cA ck bW
def bL.L(F:type_of% bL):LT
 | [.pointer x0,.pointer x1,.agg ⟨[.int .u64 x2_0,.int .u64 x2_1,.int .i64 x2_2,.int .i64 x2_3,.int .i64 x2_4,.int .i64 x2_5,.bool x2_6,.slice x2_7 x2_7L x2_7C,.slice x2_8 x2_8L x2_8C,.slice x2_9 x2_9L x2_9C,.slice x2_10 x2_10L x2_10C]⟩]=>λQ h=>F x0 x1 x2_0 x2_1 x2_2 x2_3 x2_4 x2_5 x2_6 x2_7 x2_7L x2_7C x2_8 x2_8L x2_8C x2_9 x2_9L x2_9C x2_10 x2_10L x2_10C h λn146 h147=>Q (.int .i64 n146) h147
 | _=>λ_ _=>False
def bL.ann:jy:=⟨ah [],ah [(3,[]),(6759,[(9,.slc)]),(108159,[(12,.slc),(13,.str),(14,.int .i64)])],ah [(26,[(21,.int .i64)]),(54074,[(9,.slc),(32,.int .i64)])]⟩
theorem bL.geq(F0)(F1)(F2)(F3)(F4)(F5)(F6):∀l,gj (fT Tryz.prog (ay [(119,WL (eO.L F0)),(67,WL (aC.L F1)),(47,WL (az.L F2)),(75,WL (bU.L F3)),(109,WL (cA.L F4)),(136,WL (ck.L F5)),(137,WL (bW.L F6))]) Tryz.f60 bL.ann) l (bL.L (bL.g F0 F1 F2 F3 F4 F5 F6) l):=by
 intro l;unfold bL.L;split;exact .inr (by intros;kernel_rfl);exact .inl rfl
theorem bL.good:ai Tryz.prog 60 (WL (bL.L bL)):=.gu mixed (.cons eO.good (.cons aC.good (.cons az.good (.cons bU.good (.cons cA.good (.cons ck.good (.cons bW.good .nil))))))) Tryz.func60 Tryz.call60 (bL.geq eO aC az bU cA ck bW)
def fH.g(F0:type_of% ir)(F1:type_of% gQ)(F2:type_of% iI)(F3:type_of% dx)(F4:type_of% fE)(F5:type_of% dc)(x0 x1 x2:Int)(h:H)(Q:Option Addr->Bool->H->Prop):Prop:=
F0 x2 140 h λp3 h4=>
F1  h4 λp5 h6=>
F2 x2 140 h6 λp7 h8=>
M.new h8 (.cells #[.int .u64 0,.string empty] 67) λb9 h10=>
M.new h10 (.cells #[.pointer p3,.pointer p5,.pointer none,.pointer p7,(.pointer (some ⟨b9,0,none⟩)),.pointer none] 47) λb11 h12=>
M.nn (some ⟨b11,0,none⟩) λa13=>
M.load h12 (Addr.add a13 0) λv14=>
M.ptr v14 λp15=>
M.nn (some ⟨b11,0,none⟩) λa16=>
M.load h12 (Addr.add a16 1) λv17=>
M.ptr v17 λp18=>
M.nn (some ⟨b11,0,none⟩) λa19=>
M.load h12 (Addr.add a19 3) λv20=>
M.ptr v20 λp21=>
M.nn (some ⟨b11,0,none⟩) λa22=>
M.load h12 (Addr.add a22 4) λv23=>
M.ptr v23 λRz=>
F3 p15 p18 (⟨#[48,49,50,51,52,53,54,55,56,57,97,98,99,100,101,102,48,49,50,51,52,53,54,55,56,57,97,98,99,100,101,102]⟩:ByteArray) x0 x1 h12 λn25 h26=>
M.still h12 (Addr.add a22 4) 1 h26 (
M.still h12 (Addr.add a19 3) 1 h26 (
F4 p21 Rz (⟨#[48,49,50,51,52,53,54,55,56,57,97,98,99,100,101,102,48,49,50,51,52,53,54,55,56,57,97,98,99,100,101,102]⟩:ByteArray) x0 x1 h26 λn27 h28=>
M.join (α:=Addr×Bool) (λd32 h33=>
Q (some d32.1) d32.2 h33) λJ29=>
(bif(n25 == n27)then
(bif(n25 == 0)then
F5 (some ⟨b11,0,none⟩) h28 λb30 h31=>
J29 (⟨b11,0,none⟩,b30) h31
else
J29 (⟨b11,0,none⟩,false) h28)
else
J29 (⟨b11,0,none⟩,false) h28)))
def fH:=fH.g ir gQ iI dx fE dc
def fH.L(F:type_of% fH):LT
 | [.int .i64 x0,.int .i64 x1,.int .i64 x2]=>λQ h=>F x0 x1 x2 h λp37 b38 h39=>Q (.tuple #[.pointer p37,.bool b38]) h39
 | _=>λ_ _=>False
def fH.ann:jy:=⟨ah [(3,[(6,.adr),(7,.bool)])],ah [],ah []⟩
theorem fH.geq(F0)(F1)(F2)(F3)(F4)(F5):∀l,gj (fT Tryz.prog (ay [(19,WL (ir.L F0)),(21,WL (gQ.L F1)),(20,WL (iI.L F2)),(22,WL (dx.L F3)),(23,WL (fE.L F4)),(55,WL (dc.L F5))]) Tryz.f10 fH.ann) l (fH.L (fH.g F0 F1 F2 F3 F4 F5) l):=by
 intro l;unfold fH.L;split;exact .inr (by intros;kernel_rfl);exact .inl rfl
def fH.W:W:=WL (fH.L fH)
theorem fH.good:ai Tryz.prog 10 fH.W:=.gu mixed (.cons ir.good (.cons gQ.good (.cons iI.good (.cons dx.good (.cons fE.good (.cons dc.good .nil)))))) Tryz.func10 Tryz.call10 (fH.geq ir gQ iI dx fE dc)
def bI(a1 a2 a3:Addr)(h:H)(Q:Int->H->Prop):Prop:=
M.load h a1 λv5=>
M.ptr v5 λp6=>
M.load h a2 λv7=>
M.ptr v7 λp8=>
M.kC h a3 λn10 n12 n14 n16 n18 n20 b22 a24 l25 c26 a28 l29 c30=>
M.load h (a3.add 9) λv31=>
M.slc v31 λa32 l33 c34=>
M.load h (a3.add 10) λv35=>
M.slc v35 λa36 l37 c38=>
bL p6 p8 n10 n12 n14 n16 n18 n20 b22 a24 l25 c26 a28 l29 c30 a32 l33 c34 a36 l37 c38 h λn39 h40=>
Q n39 h40
def bI.L(F:type_of% bI):LT
 | [.pointer (some a1),.pointer (some a2),.pointer (some a3)]=>λQ h=>F a1 a2 a3 h λn43 h44=>Q (.int .i64 n43) h44
 | _=>λ_ _=>False
theorem bI.good:ai Tryz.prog 59 (WL (bI.L bI)):=.gu (ann:=lQ) mixed (.cons bL.good .nil) Tryz.func59 Tryz.call59 (by intro l;unfold bI.L;split;exact .inr (by intros;kernel_rfl);exact .inl rfl)
def aN.g(F0:type_of% bK)(F1:type_of% cu)(F2:type_of% bI)(F3:type_of% bJ)(F4:type_of% bH)(F5:type_of% bG)(x0:Option Addr)(x1_0 x1_1 x1_2 x1_3 x1_4 x1_5:Int)(x1_6:Bool)(x1_7:Option Addr)(x1_7L x1_7C:Nat)(x1_8:Option Addr)(x1_8L x1_8C:Nat)(x1_9:Option Addr)(x1_9L x1_9C:Nat)(x1_10:Option Addr)(x1_10L x1_10C:Nat)(h:H)(Q:Int->H->Prop):Prop:=
M.new h (.cells #[.pointer x0] 26) λb2 h3=>
M.new h3 (.cells #[.int .u64 x1_0,.int .u64 x1_1,.int .i64 x1_2,.int .i64 x1_3,.int .i64 x1_4,.int .i64 x1_5,.bool x1_6,.slice x1_7 x1_7L x1_7C,.slice x1_8 x1_8L x1_8C,.slice x1_9 x1_9L x1_9C,.slice x1_10 x1_10L x1_10C] 55) λb4 h5=>
M.load h5 ⟨b2,0,none⟩ λv6=>
M.ptr v6 λp7=>
F0 p7 h5 λn8 h9=>
(bif(n8 != 0)then
Q n8 h9
else
M.load h9 ⟨b2,0,none⟩ λv10=>
M.ptr v10 λp11=>
M.kC h9 ⟨b4,0,none⟩ λn13 n15 n17 n19 n21 n23 b25 a27 l28 c29 a31 l32 c33=>
M.load h9 (Addr.add ⟨b4,0,none⟩ 9) λv34=>
M.slc v34 λa35 l36 c37=>
M.load h9 (Addr.add ⟨b4,0,none⟩ 10) λv38=>
M.slc v38 λa39 l40 c41=>
F1 p11 n13 n15 n17 n19 n21 n23 b25 a27 l28 c29 a31 l32 c33 a35 l36 c37 a39 l40 c41 h9 λp42 n43 h44=>
M.new h44 (.cells #[.pointer none] 138) λb45 h46=>
M.put h46 ⟨b45,0,none⟩ (.pointer p42) λh47=>
(bif(n43 != 0)then
Q n43 h47
else
M.loop (α:=Int) (λJ48 d49 h50=>
(bif(decide (d49<4))then
M.fk 4 d49 λj51=>
M.at (#[(.func (.func 59) #[] #[(.pointer (some ⟨b2,0,none⟩)),(.pointer (some ⟨b45,0,none⟩)),(.pointer (some ⟨b4,0,none⟩))]),(.func (.func 61) #[] #[(.pointer (some ⟨b2,0,none⟩)),(.pointer (some ⟨b45,0,none⟩))]),(.func (.func 63) #[] #[(.pointer (some ⟨b2,0,none⟩)),(.pointer (some ⟨b45,0,none⟩))]),(.func (.func 64) #[] #[(.pointer (some ⟨b45,0,none⟩)),(.pointer (some ⟨b2,0,none⟩))])]:Array Value) (j51*1) λv52=>
sg (ay [(45,WL (bK.L F0)),(58,WL (cu.L F1)),(59,WL (bI.L F2)),(61,WL (bJ.L F3)),(63,WL (bH.L F4)),(64,WL (bG.L F5))]) v52 [] (λr53 h54=>
M.L9 .i64 r53 λn55=>
(bif(n55 != 0)then
M.join (α:=Unit) (λd68 h69=>
Q n55 h69) λJ56=>
M.load h54 ⟨b2,0,none⟩ λv57=>
M.ptr v57 λp58=>
M.load h54 ⟨b2,0,none⟩ λv59=>
M.ptr v59 λp60=>
M.nn p60 λa61=>
M.load h54 (Addr.add a61 13) λv62=>
M.bool v62 λb63=>
(bif b63 then
M.nn p58 λa64=>
M.put h54 (Addr.add a64 13) (.bool true) λh65=>
J56 () h65
else
M.nn p58 λa66=>
M.put h54 (Addr.add a66 13) (.bool (n55 == 21)) λh67=>
J56 () h67)
else
M.val (wrap .i64 (d49+1)) λz70=>
J48 z70 h54)) h50
else
Q 0 h50)) 0 h47))
def aN:=aN.g bK cu bI bJ bH bG
def aN.L(F:type_of% aN):LT
 | [.pointer x0,.agg ⟨[.int .u64 x1_0,.int .u64 x1_1,.int .i64 x1_2,.int .i64 x1_3,.int .i64 x1_4,.int .i64 x1_5,.bool x1_6,.slice x1_7 x1_7L x1_7C,.slice x1_8 x1_8L x1_8C,.slice x1_9 x1_9L x1_9C,.slice x1_10 x1_10L x1_10C]⟩]=>λQ h=>F x0 x1_0 x1_1 x1_2 x1_3 x1_4 x1_5 x1_6 x1_7 x1_7L x1_7C x1_8 x1_8L x1_8C x1_9 x1_9L x1_9C x1_10 x1_10L x1_10C h λn73 h74=>Q (.int .i64 n73) h74
 | _=>λ_ _=>False
def aN.ann:jy:=⟨ah [(12,[])],ah [],ah [(250,[(30,.int .i64)])]⟩
theorem aN.geq(F0)(F1)(F2)(F3)(F4)(F5):∀l,gj (fT Tryz.prog (ay [(45,WL (bK.L F0)),(58,WL (cu.L F1)),(59,WL (bI.L F2)),(61,WL (bJ.L F3)),(63,WL (bH.L F4)),(64,WL (bG.L F5))]) Tryz.f13 aN.ann) l (aN.L (aN.g F0 F1 F2 F3 F4 F5) l):=by
 intro l;unfold aN.L;split;exact .inr (by intros;kernel_rfl);exact .inl rfl
theorem aN.good:ai Tryz.prog 13 (WL (aN.L aN)):=.gu mixed (.cons bK.good (.cons cu.good (.cons bI.good (.cons bJ.good (.cons bH.good (.cons bG.good .nil)))))) Tryz.func13 Tryz.call13 (aN.geq bK cu bI bJ bH bG)
def fF.g(F0:type_of% ir)(F1:type_of% gQ)(F2:type_of% dx)(F3:type_of% cT)(F4:type_of% aT)(F5:type_of% br)(F6:type_of% aN)(F7:type_of% aH)(F8:type_of% fA)  (h:H) (Q:Bool->H->Prop):Prop:=
F0 5 140 h λp2 h3=>
F1  h3 λp4 h5=>
F2 p2 p4 (⟨#[48,49,50,51,52,53,54,55,56,57,97,98,99,100,101,102,48,49,50,51,52,53,54,55,56,57,97,98,99,100,101,102]⟩:ByteArray) 2 4 h5 λn6 h7=>
F3 p2 p4 (⟨#[48,49,50,51,52,53,54,55,56,57,97,98,99,100,101,102,48,49,50,51,52,53,54,55,56,57,97,98,99,100,101,102]⟩:ByteArray) h7 λp8 n9 h10=>
M.join (α:=Bool) (λd26 h27=>
(bif d26 then
Q false h27
else
F5 p8 1 3 (⟨#[48,49,50,51,52,53,54,55,56,57,97,98,99,100,101,102,48,49,50,51,52,53,54,55,56,57,97,98,99,100,101,102]⟩:ByteArray) h27 λs28 n29 h30=>
F4 p8 h30 λn31 n32 n33 n34 n35 n36 b37 a38 l39 c40 a41 l42 c43 h44=>
M.new h44 (.cells #[.int .i64 1,.int .i64 3,.string s28] 111) λb45 h46=>
F6 p8 n31 n32 n33 n34 n35 n36 b37 a38 l39 c40 a41 l42 c43 none 0 0 (some ⟨b45,0,none⟩) 1 1 h46 λn47 h48=>
F3 p2 p4 (⟨#[48,49,50,51,52,53,54,55,56,57,97,98,99,100,101,102,48,49,50,51,52,53,54,55,56,57,97,98,99,100,101,102]⟩:ByteArray) h48 λp49 n50 h51=>
M.join (α:=Bool) (λd53 h54=>
(bif d53 then
Q false h54
else
F7 p49 3 h54 λa55 l56 c57 h58=>
M.loop (α:=Int) (λJ59 d60 h61=>
(bif(decide (d60<(l56:Int)))then
M.idx a55 l56 d60 λa62 j63=>
M.load h61 ((Addr.add a62 (j63*6)).add 0) λv64=>
M.ptr v64 λp65=>
M.load h61 ((Addr.add a62 (j63*6)).add 1) λv66=>
M.int .i64 v66 λn67=>
M.load h61 ((Addr.add a62 (j63*6)).add 2) λv68=>
M.int .i64 v68 λn69=>
M.load h61 ((Addr.add a62 (j63*6)).add 3) λv70=>
M.str v70 λs71=>
M.load h61 ((Addr.add a62 (j63*6)).add 4) λv72=>
M.str v72 λs73=>
M.load h61 ((Addr.add a62 (j63*6)).add 5) λv74=>
M.bool v74 λb75=>
M.new h61 (.cells #[.pointer none,.int .i64 0,.int .i64 0,.string empty,.string empty,.bool false] 136) λb76 h77=>
M.nN 6 h77 ⟨b76,0,none⟩ [.pointer p65,.int .i64 n67,.int .i64 n69,.string s71,.string s73,.bool b75] (λh78=>
M.load h78 (Addr.add (Addr.add ⟨b76,0,none⟩ 0) 1) λv79=>
M.int .i64 v79 λn80=>
(bif(n80 == 1)then
M.load h78 ((Addr.add ⟨b76,0,none⟩ 0).add 0) λv81=>
M.ptr v81 λp82=>
M.load h78 ((Addr.add ⟨b76,0,none⟩ 0).add 1) λv83=>
M.int .i64 v83 λn84=>
M.load h78 ((Addr.add ⟨b76,0,none⟩ 0).add 2) λv85=>
M.int .i64 v85 λn86=>
M.load h78 ((Addr.add ⟨b76,0,none⟩ 0).add 3) λv87=>
M.str v87 λs88=>
M.load h78 (Addr.add ⟨b76,0,none⟩ 4) λv89=>
M.str v89 λs90=>
F8 p82 n84 n86 s88 s90 3 h78 λs91 n92 h93=>
M.join (α:=Bool) (λd109 h110=>
Q d109 h110) λJ94=>
(bif(n92 == 0)then
(bif(mX s91 (⟨#[48,49,50,51,52,53,54,55,56,57,97,98,99,100,101,102,48,49,50,51,52,53,54,55,56,57,97,98,99,100,101,102]⟩:ByteArray))then
F4 p49 h93 λn95 n96 n97 n98 n99 n100 b101 a102 l103 c104 a105 l106 c107 h108=>
J94 (n96 == 3) h108
else
J94 false h93)
else
J94 false h93)
else
M.val (wrap .i64 (d60+1)) λz111=>
J59 z111 h78))
else
Q false h61)) 0 h58)) λJ52=>
(bif(n29 != 0)then
J52 true h51
else
(bif(n47 != 0)then
J52 true h51
else
J52 (n50 != 0) h51)))) λJ11=>
(bif(n6 != 0)then
J11 true h10
else
(bif(n9 != 0)then
J11 true h10
else
F4 p8 h10 λn12 n13 n14 n15 n16 n17 b18 a19 l20 c21 a22 l23 c24 h25=>
J11 (n12 != 2) h25))
def fF:=fF.g ir gQ dx cT aT br aN aH fA
def fF.L(F:type_of% fF):LT
 | []=>λQ h=>F  h λb114 h115=>Q (.bool b114) h115
 | _=>λ_ _=>False
def fF.ann:jy:=⟨ah [(4,[(38,.bool)]),(10,[(69,.bool)]),(17,[(0,.bool)])],ah [],ah [(16378,[(73,.int .i64)])]⟩
theorem fF.geq(F0)(F1)(F2)(F3)(F4)(F5)(F6)(F7)(F8):∀l,gj (fT Tryz.prog (ay [(19,WL (ir.L F0)),(21,WL (gQ.L F1)),(22,WL (dx.L F2)),(9,WL (cT.L F3)),(12,WL (aT.L F4)),(8,WL (br.L F5)),(13,WL (aN.L F6)),(14,WL (aH.L F7)),(56,WL (fA.L F8))]) Tryz.f11 fF.ann) l (fF.L (fF.g F0 F1 F2 F3 F4 F5 F6 F7 F8) l):=by
 intro l;unfold fF.L;split;exact .inr (by intros;kernel_rfl);exact .inl rfl
def fF.W:W:=WL (fF.L fF)
theorem fF.good:ai Tryz.prog 11 fF.W:=.gu mixed (.cons ir.good (.cons gQ.good (.cons dx.good (.cons cT.good (.cons aT.good (.cons br.good (.cons aN.good (.cons aH.good (.cons fA.good .nil))))))))) Tryz.func11 Tryz.call11 (fF.geq ir gQ dx cT aT br aN aH fA)
def cL.g(F0:type_of% br)(F1:type_of% cT)(F2:type_of% fH)(F3:type_of% fF)(F4:type_of% aT)(F5:type_of% aN)(F6:type_of% aH)(F7:type_of% dD)(F8:type_of% bC)(F9:type_of% aD)(F10:type_of% aL)(x0_0 x0_1 x0_2 x0_3:Int)(x0_4:ByteArray)(x0_5:Option Addr)(x0_5L x0_5C:Nat)(x0_6:Option Addr)(x0_6L x0_6C:Nat)(h:H)(Q:Bool->H->Prop):Prop:=
M.new h (.cells #[.int .i64 x0_0,.int .i64 x0_1,.int .i64 x0_2,.int .i64 x0_3,.string x0_4,.slice x0_5 x0_5L x0_5C,.slice x0_6 x0_6L x0_6C] 25) λb2 h3=>
M.load h3 (Addr.add ⟨b2,0,none⟩ 1) λv4=>
M.int .i64 v4 λn5=>
M.load h3 (Addr.add ⟨b2,0,none⟩ 2) λv6=>
M.int .i64 v6 λn7=>
M.load h3 (Addr.add ⟨b2,0,none⟩ 4) λv8=>
M.str v8 λs9=>
F0 none n5 n7 s9 h3 λs10 n11 h12=>
F1 none none (⟨#[48,49,50,51,52,53,54,55,56,57,97,98,99,100,101,102,48,49,50,51,52,53,54,55,56,57,97,98,99,100,101,102]⟩:ByteArray) h12 λp13 n14 h15=>
F2 2 2 4 h15 λp16 b17 h18=>
M.join (α:=Bool) (λd22 h23=>
(bif d22 then
Q false h23
else
M.nn p16 λa24=>
M.load h23 (Addr.add a24 2) λv25=>
M.ptr v25 λp26=>
F4 p26 h23 λn27 n28 n29 n30 n31 n32 b33 a34 l35 c36 a37 l38 c39 h40=>
M.new h40 (.cells #[.int .u64 0,.int .u64 0,.int .i64 0,.int .i64 0,.int .i64 0,.int .i64 0,.bool false,.slice none 0 0,.slice none 0 0] 40) λb41 h42=>
M.nN 9 h42 ⟨b41,0,none⟩ [.int .u64 n27,.int .u64 n28,.int .i64 n29,.int .i64 n30,.int .i64 n31,.int .i64 n32,.bool b33,.slice a34 l35 c36,.slice a37 l38 c39] (λh43=>
M.load h43 (Addr.add ⟨b41,0,none⟩ 7) λv44=>
M.slc v44 λa45 l46 c47=>
M.load h43 (Addr.add ⟨b41,0,none⟩ 8) λv48=>
M.slc v48 λa49 l50 c51=>
M.idx a45 l46 0 λa52 j53=>
M.put h43 (Addr.add a52 (j53*1)) (.int .i64 3) λh54=>
M.still h43 (Addr.add ⟨b41,0,none⟩ 8) 1 h54 (
M.idx a49 l50 0 λa55 j56=>
M.put h54 (Addr.add (Addr.add a55 (j56*3)) 1) (.string (⟨#[120]⟩:ByteArray)) λh57=>
M.join (α:=Bool) (λd130 h131=>
Q d130 h131) λJ58=>
(bif(n11 == 1)then
(bif(n14 == 1)then
F5 none 0 0 0 0 0 0 false none 0 0 none 0 0 none 0 0 none 0 0 h57 λn59 h60=>
(bif(n59 == 1)then
M.load h60 (Addr.add ⟨b2,0,none⟩ 2) λv61=>
M.int .i64 v61 λn62=>
F6 none n62 h60 λa63 l64 c65 h66=>
(bif((l64:Int) == 0)then
F7 none h66 λb67 h68=>
(bif(!b67)then
F4 none h68 λn69 n70 n71 n72 n73 n74 b75 a76 l77 c78 a79 l80 c81 h82=>
(bif((l77:Int) == 0)then
F8 none h82 λn83 n84 n85 b86 h87=>
F9 n83 n84 n85 b86 h87 λb88 h89=>
(bif(!b88)then
M.nn p16 λa90=>
M.load h89 (Addr.add a90 2) λv91=>
M.ptr v91 λp92=>
F4 p92 h89 λn93 n94 n95 n96 n97 n98 b99 a100 l101 c102 a103 l104 c105 h106=>
M.idx a100 l101 0 λa107 j108=>
M.load h106 (Addr.add a107 (j108*1)) λv109=>
M.int .i64 v109 λn110=>
(bif(n110 == 0)then
M.nn p16 λa111=>
M.load h106 (Addr.add a111 2) λv112=>
M.ptr v112 λp113=>
F4 p113 h106 λn114 n115 n116 n117 n118 n119 b120 a121 l122 c123 a124 l125 c126 h127=>
F10 n114 n115 n116 n117 n118 n119 b120 a121 l122 c123 a124 l125 c126 h127 λb128 h129=>
J58 b128 h129
else
J58 false h106)
else
J58 false h89)
else
J58 false h82)
else
J58 false h68)
else
J58 false h66)
else
J58 false h60)
else
J58 false h57)
else
J58 false h57))))) λJ19=>
F3  h18 λb20 h21=>
(bif(!b20)then
J19 true h21
else
J19 (!b17) h21)
def cL:=cL.g br cT fH fF aT aN aH dD bC aD aL
def cL.L(F:type_of% cL):LT
 | [.agg ⟨[.int .i64 x0_0,.int .i64 x0_1,.int .i64 x0_2,.int .i64 x0_3,.string x0_4,.slice x0_5 x0_5L x0_5C,.slice x0_6 x0_6L x0_6C]⟩]=>λQ h=>F x0_0 x0_1 x0_2 x0_3 x0_4 x0_5 x0_5L x0_5C x0_6 x0_6L x0_6C h λb134 h135=>Q (.bool b134) h135
 | _=>λ_ _=>False
def cL.ann:jy:=⟨ah [(5,[(35,.bool)]),(9,[(2,.bool)])],ah [],ah []⟩
theorem cL.geq(F0)(F1)(F2)(F3)(F4)(F5)(F6)(F7)(F8)(F9)(F10):∀l,gj (fT Tryz.prog (ay [(8,WL (br.L F0)),(9,WL (cT.L F1)),(10,WL (fH.L F2)),(11,WL (fF.L F3)),(12,WL (aT.L F4)),(13,WL (aN.L F5)),(14,WL (aH.L F6)),(15,WL (dD.L F7)),(16,WL (bC.L F8)),(17,WL (aD.L F9)),(18,WL (aL.L F10))]) Tryz.f3 cL.ann) l (cL.L (cL.g F0 F1 F2 F3 F4 F5 F6 F7 F8 F9 F10) l):=by
 intro l;unfold cL.L;split;exact .inr (by intros;kernel_rfl);exact .inl rfl
def cL.W:W:=WL (cL.L cL)
theorem cL.RU(x0_0 x0_1 x0_2 x0_3:Int)(x0_4:ByteArray)(x0_5:Option Addr)(x0_5L x0_5C:Nat)(x0_6:Option Addr)(x0_6L x0_6C:Nat)(Q:Value->H->Prop)(h:H):cL.W #[(.agg (#[(.int .i64 x0_0),(.int .i64 x0_1),(.int .i64 x0_2),(.int .i64 x0_3),(.string x0_4),(.slice x0_5 x0_5L x0_5C),(.slice x0_6 x0_6L x0_6C)]:Array Value))] Q h=cL x0_0 x0_1 x0_2 x0_3 x0_4 x0_5 x0_5L x0_5C x0_6 x0_6L x0_6C h λb134 h135=>Q (.bool b134) h135:=by kernel_rfl
theorem cL.good:ai Tryz.prog 3 cL.W:=.gu mixed (.cons br.good (.cons cT.good (.cons fH.good (.cons fF.good (.cons aT.good (.cons aN.good (.cons aH.good (.cons dD.good (.cons bC.good (.cons aD.good (.cons aL.good .nil))))))))))) Tryz.func3 Tryz.call3 (cL.geq br cT fH fF aT aN aH dD bC aD aL)
end Go.Proofs.YtmfcgihgdhfalaaGreatDoor
namespace Go.Sh
open Go.RowKit
abbrev U:=BitVec 32
def ui(x:U):Int:=(x.toNat:Int)
theorem LU(x:U):0≤ui x:=Int.natCast_nonneg _
theorem vW(n:Int):IntKind.u32.wrap n=ui (BitVec.ofInt 32 n):=by
 have:IntKind.u32.wrap n=n%4294967296:=by simp[wrap,IntKind.bits,IntKind.signed]
 have h2:((2^32:Nat):Int)=4294967296:=by decide
 rw[this,ui,BitVec.toNat_ofInt,h2,Int.toNat_of_nonneg (Int.emod_nonneg _ (by omega))]
theorem nZ(x:U):BitVec.ofInt 32 (ui x)=x:=by
 rw[ui,BitVec.ofInt_natCast];exact BitVec.eq_of_toNat_eq (by rw[BitVec.toNat_ofNat,Nat.mod_eq_of_lt x.isLt])
theorem Aa(x:U):IntKind.u32.wrap (ui x)=ui x:=by rw[vW,nZ]
theorem Hq(x y:U):ye .u32 (ui x) (ui y)=ui (x ||| y):=by
 show IntKind.u32.wrap ((BitVec.ofInt 32 (ui x) ||| BitVec.ofInt 32 (ui y)).toNat)=_;rw[nZ,nZ];exact Aa _
theorem DY(x y:U):lS .u32 (ui x) (ui y)=ui (x &&& y):=by
 show IntKind.u32.wrap ((BitVec.ofInt 32 (ui x) &&& BitVec.ofInt 32 (ui y)).toNat)=_;rw[nZ,nZ];exact Aa _
theorem nU(x y:U):mZ .u32 (ui x) (ui y)=ui (x ^^^ y):=by
 show IntKind.u32.wrap ((BitVec.ofInt 32 (ui x) ^^^ BitVec.ofInt 32 (ui y)).toNat)=_;rw[nZ,nZ];exact Aa _
theorem PF:IntKind.u32.max=ui (BitVec.allOnes 32):=by decide
theorem NQ(x:U):NA .u32 (ui x)=ui (~~~x):=by
 show mZ .u32 IntKind.u32.max (ui x)=_;rw[PF,nU,BitVec.allOnes_xor]
theorem kj(x y:U):IntKind.u32.wrap (ui x+ui y)=ui (x+y):=by
 rw[vW,BitVec.ofInt_add,nZ,nZ]
theorem yN(x:U)(k:Nat):shl .u32 (ui x) (k:Int)=ui (x <<< k):=by
 unfold shl;rw[vW];congr 1;apply BitVec.eq_of_toNat_eq;rw[BitVec.toNat_ofInt,BitVec.toNat_shiftLeft,Nat.shiftLeft_eq];have h:((2:Int)^min (k:Int).toNat IntKind.u32.bits)=((2^min k 32:Nat):Int):=by push_cast;rfl
 rw[h,ui];have:(((x.toNat:Int)*((2^min k 32:Nat):Int))%((2^32:Nat):Int)).toNat=(x.toNat * 2^min k 32)%2^32:=by norm_cast
 rw[this];by_cases hk:k≤32
 ·rw[Nat.min_eq_left hk]
 ·rw[Nat.min_eq_right (by omega),Nat.mul_mod_left];obtain⟨j,rfl⟩:∃j,k=j+32:=⟨k-32,by omega⟩;rw[Nat.pow_add,←Nat.mul_assoc,Nat.mul_mod_left]
theorem Ee(x:U)(k:Nat):shr .u32 (ui x) (k:Int)=ui (x >>> k):=by
 unfold shr;have h:((2:Int)^min (k:Int).toNat IntKind.u32.bits)=((2^min k 32:Nat):Int):=by push_cast;rfl
 rw[h,ui,ui,BitVec.toNat_ushiftRight,Nat.shiftRight_eq_div_pow,Int.fdiv_eq_ediv_of_nonneg _ (Int.natCast_nonneg _)]
 norm_cast
 by_cases hk:k≤32
 ·rw[Nat.min_eq_left hk]
 ·have:=x.isLt;rw[Nat.min_eq_right (by omega),Nat.div_eq_of_lt this,Nat.div_eq_of_lt];exact Nat.lt_of_lt_of_le this (Nat.pow_le_pow_right (by omega) (by omega))
theorem Oh(x:U)(k:Nat)(hk:k<32):x <<< k ||| x >>> (32-k)=x.rotateLeft k:=by
 rw[BitVec.rotateLeft_def,Nat.mod_eq_of_lt hk]
theorem uB(x:U)(k i:Nat)(hi:i<32):(x.rotateRight k).getLsbD i=x.getLsbD ((i+k)%32):=by
 rw[BitVec.getLsbD_rotateRight];have hk:k%32<32:=Nat.mod_lt _ (by omega);by_cases h:i<32-k%32
 ·rw[decide_eq_true h,cond_true];congr 1;omega
 ·rw[decide_eq_false h,cond_false,decide_eq_true hi,Bool.true_and];congr 1;omega
theorem E9(x:U)(k i:Nat)(hi:i<32):(x.rotateLeft k).getLsbD i=x.getLsbD ((i+(32-k%32))%32):=by
 rw[BitVec.getLsbD_rotateLeft];have hk:k%32<32:=Nat.mod_lt _ (by omega);by_cases h:i<k%32
 ·rw[decide_eq_true h,cond_true];congr 1;omega
 ·rw[decide_eq_false h,cond_false,decide_eq_true hi,Bool.true_and];congr 1;omega
theorem KI(x:U)(k:Nat)(hk:k≤32):x.rotateLeft (32-k)=x.rotateRight k:=by
 apply BitVec.eq_of_getLsbD_eq;intro i hi;rw[E9 _ _ _ hi,uB _ _ _ hi];congr 1;omega
theorem JB(x:U)(k:Nat):(x.rotateRight k).rotateRight 1=x.rotateRight (k+1):=by
 apply BitVec.eq_of_getLsbD_eq;intro i hi;rw[uB _ _ _ hi,uB _ _ _ (Nat.mod_lt _ (by omega)),uB _ _ _ hi];congr 1;omega
theorem CY(x:U):x.rotateRight 0=x:=by
 apply BitVec.eq_of_getLsbD_eq;intro i hi;rw[uB _ _ _ hi];congr 1;omega
theorem Ll(x:U):x.rotateLeft 0=x:=by
 apply BitVec.eq_of_getLsbD_eq;intro i hi;rw[E9 _ _ _ hi];congr 1;omega
theorem L0(x:U):IntKind.u32.wrap (IntKind.u32.wrap (Int.tdiv (ui x) 2)+IntKind.u32.wrap (Int.tmod (ui x) 2*2147483648))=ui (x.rotateRight 1):=by
 have h:=x.isLt;have hw:∀n:Int,IntKind.u32.wrap n=n%4294967296:=λn=>by
  have h2:((2^32:Nat):Int)=4294967296:=by decide
  rw[vW,ui,BitVec.toNat_ofInt,h2,Int.toNat_of_nonneg (Int.emod_nonneg _ (by omega))]
 have ht:(x.rotateRight 1).toNat=x.toNat/2+(x.toNat%2)*2147483648:=by
  rw[BitVec.toNat_rotateRight,Nat.shiftRight_eq_div_pow,Nat.shiftLeft_eq];show x.toNat/2 ||| x.toNat * 2147483648%4294967296=_;have e:x.toNat * 2147483648%4294967296=(x.toNat%2)*2147483648:=by omega
  rw[e,Nat.or_comm,Nat.add_comm];have:=Nat.two_pow_add_eq_or_of_lt (i:=31) (b:=x.toNat/2) (by omega) (x.toNat%2);rw[show(2147483648:Nat)=2^31 from rfl,Nat.mul_comm];exact this.symm
 rw[hw,hw,hw,Int.tdiv_eq_ediv_of_nonneg (LU x),Int.tmod_eq_emod_of_nonneg (LU x)];unfold ui;rw[ht];omega
end Go.Sh
namespace Go.Proofs.YtmfcgihgdhfalaaGreatDoor
open Go.Sh Go.RowKit
theorem Dp(n:Int):Int.tmod (wrap .u64 n) 32=n%32:=by
 have h:IntKind.u64.wrap n=n%18446744073709551616:=by
  rw[IntKind.wrap_u64]
 rw[h,Int.tmod_eq_emod_of_nonneg (Int.emod_nonneg _ (by omega))];omega
theorem Km(k:Nat)(hk:k≤32):wrap .u64 (32-(k:Int))=((32-k:Nat):Int):=by
 have h:∀n:Int,IntKind.u64.wrap n=n%18446744073709551616:=λn=>by
  rw[IntKind.wrap_u64]
 rw[h];omega
section
variable {x:U}{n:Int}{h:H}{Q:Int->H->Prop}
theorem rR(k:Q (ui (x.rotateLeft (n%32).toNat)) h):gU (ui x) n h Q:=by
 unfold gU;obtain⟨m,hm,hlt⟩:∃m:Nat,n%32=(m:Int)∧m<32:=⟨(n%32).toNat,by omega,by omega⟩;have e:(n%32).toNat=m:=by omega
 rw[e]at k;refine⟨by omega,?_⟩;simp only[M.val,Dp,hm,Km m (by omega),yN,Ee,Hq,Oh x m hlt];exact⟨by omega,by omega,k⟩
theorem lp(k:Q (ui (x.rotateRight (n%32).toNat)) h):fl (ui x) n h Q:=by
 unfold fl;obtain⟨m,hm,hlt⟩:∃m:Nat,n%32=(m:Int)∧m<32:=⟨(n%32).toNat,by omega,by omega⟩;have e:(n%32).toNat=m:=by omega
 rw[e]at k;refine⟨by omega,?_⟩;have w1:wrap .i64 (m:Int)=m:=by rw[IntKind.wrap_i64];omega
 have w2:wrap .i64 (32-(m:Int))=32-(m:Int):=by rw[IntKind.wrap_i64];omega
 simp only[M.val,Dp,hm,w1,w2];refine rR ?_;by_cases h0:m=0
 ·subst h0;have:((32-((0:Nat):Int))%32).toNat=0:=by decide
  rw[this,Ll]
  rwa [CY]at k
 ·have:((32-(m:Int))%32).toNat=32-m:=by omega
  rw[this,KI x m (by omega)];exact k
theorem nc(hn:0≤n∧n<32)(k:Q (ui (x.rotateRight n.toNat)) h):fG (ui x) n h Q:=by
 unfold fG;have e:Int.tmod n 32=n:=by rw[Int.tmod_eq_emod_of_nonneg hn.1];omega
 refine⟨by omega,?_⟩;have h0:¬n<0:=by omega
 simp only[M.val,M.join,e,h0,decide_false,cond_false];refine M.aP (I:=λ(p:Int×Int) h'=>h'=h∧0≤p.2∧p.2≤n∧p.1=ui (x.rotateRight p.2.toNat)) (μ:=λp=>(n-p.2).toNat) ⟨rfl,by simp,by simpa using hn.1,by simp[CY]⟩ ?_;rintro⟨y,j⟩ h1 J ⟨rfl,hj0,hj,hy⟩ hJ;simp only at hj0 hj hy ⊢;subst hy;by_cases hlt:j<n
 ·have w1:wrap .i64 (j+1)=j+1:=by rw[IntKind.wrap_i64];omega
  simp only[hlt,decide_true,cond_true,L0,JB,w1];refine⟨by omega,by omega,hJ _ _ ⟨rfl,by simp only;omega,by simp only;omega,?_⟩ (by simp only;omega)⟩;have:(j+1).toNat=j.toNat+1:=by omega
  simp only[this]
 ·simp only[hlt,decide_false,cond_false];have:j=n:=by omega
  subst this;exact k
end
end Go.Proofs.YtmfcgihgdhfalaaGreatDoor
namespace Go.Sh
open Go.RowKit
def vF(x:U)(k:Nat):Int:=((x.toNat/256^k%256:Nat):Int)
def wz(ji:Bool)(x:U):List Int:=bif ji then [vF x 3,vF x 2,vF x 1,vF x 0] else [vF x 0,vF x 1,vF x 2,vF x 3]
def Dw(ji:Bool)(us:List U):List Int:=us.flatMap (wz ji)
def lf(ji:Bool)(us:List U):ByteArray:=ofBytes (Dw ji us)
def uv(x:U):Value:=.int .u32 (ui x)
def kQ(us:List U):List Value:=us.map uv
def oT(zs:List Int):List Value:=zs.map (Value.int .u8)
theorem G6(ji:Bool)(x:U):(wz ji x).length=4:=by cases ji<;>rfl
theorem Ja(ji:Bool):∀us:List U,(Dw ji us).length=4*us.length
 | []=>rfl
 | x::us=>by rw[Dw,List.flatMap_cons,List.length_append,G6,←Dw,Ja,List.length_cons];omega
theorem OS(ji:Bool)(us vs:List U):Dw ji (us++vs)=Dw ji us++Dw ji vs:=by simp[Dw]
theorem kV(ji:Bool)(us:List U):(lf ji us).size=4*us.length:=by
 rw[←Ja ji us];simp[lf,ofBytes,ByteArray.size]
theorem uN(x:U)(k:Nat):wrap .u8 (shr .u32 (ui x) ((8*k:Nat):Int))=vF x k:=by
 have e:(2:Nat)^8=256:=rfl;rw[Ee,IntKind.wrap_u8,ui,BitVec.toNat_ushiftRight,Nat.shiftRight_eq_div_pow,vF,Nat.pow_mul,e];exact(Int.natCast_emod _ 256).symm
theorem FT(x:U):wrap .u8 (ui x)=vF x 0:=by
 rw[IntKind.wrap_u8,ui,vF,Nat.pow_zero,Nat.div_one];exact(Int.natCast_emod _ 256).symm
theorem Wd.push{h0 h:H}{L:List Chunk}{e te:TypeId}{size bytes:Nat}{zero:List Value}{a:Option Addr}{l c n:Nat}{xs new:List Value}{K:Option Addr->Nat->Nat->H->Prop}(w:Wd h0 h L)(i:Nat)(hi:L[i]? = some (.sl e size a l c xs))
  (hz:zero.length=size) (hn:new.length=n*size) (hp:∀v∈new,ag v=true) (hmax:2*(l+n)*bytes≤281474976710656) (hmax2:l+n≤9223372036854775807)
  (k:∀a' c' h',Wd h0 h' (L.set i (.sl e size a' (l+n) c' (xs++new)))->K a' (l+n) c' h'):
  M.new h (.cells new.toArray te) λb h1=>M.cellsOf h1 (some ⟨b,0,none⟩) (n*size) λcs=>M.app h1 e size bytes zero a l c n cs K:=by
 refine M.EF w λb h1 hb w1=>?_;refine M.nL hn (λe=>by simp at e) (λb' e=>?_) (M.ru w1 i hi hz hn hp hmax hmax2 k);simp only[Option.some.injEq]at e;subst e;intro j hj;rw[aS,dA hb,Nat.zero_add,List.getElem?_toArray]
theorem Wd.text{h0 h:H}{L:List Chunk}{e:TypeId}{a:Option Addr}{l c:Nat}{zs:List Int}{K:ByteArray->Prop}(w:Wd h0 h L)(i:Nat)(hi:L[i]? = some (.sl e 1 a l c (oT zs)))(k:K (ofBytes zs)):M.xX h a l K:=by
 obtain⟨h1,_,h3,h4⟩:=w.mI i hi;refine⟨λe=>?_,λb e=>⟨zs,by simpa [oT] using h1,h4 b e,k⟩⟩;have:=(h3 e).1;simp only[oT,List.map_eq_nil_iff]at this;subst this;exact k
theorem pV(zs:List Int):∀v∈oT zs,ag v=true:=by
 intro v hv;simp only[oT,List.mem_map]at hv;obtain⟨_,_,rfl⟩:=hv;rfl
theorem pX(us:List U):∀v∈kQ us,ag v=true:=by
 intro v hv;simp only[kQ,List.mem_map]at hv;obtain⟨_,_,rfl⟩:=hv;rfl
theorem xC(a b:List Int):oT (a++b)=oT a++oT b:=by simp[oT]
theorem oK(a b:List U):kQ (a++b)=kQ a++kQ b:=by simp[kQ]
theorem jd(a:List U):(kQ a).length=a.length:=by simp[kQ]
theorem sB(a:List Int):(oT a).length=a.length:=by simp[oT]
theorem Ek(us:List U)(i:Nat)(hi:i<us.length):(kQ us)[i]? = some (.int .u32 (ui us[i])):=by simp[kQ,hi,uv]
def AP(ji:Bool)(a b c d:Int):U:=BitVec.ofInt 32 (bif ji then 256*(256*(256*a+b)+c)+d else 256*(256*(256*d+c)+b)+a)
def kr(ji:Bool)(s:ByteArray)(i:Nat):U:=AP ji (aF s (4*i)) (aF s (4*i+1)) (aF s (4*i+2)) (aF s (4*i+3))
def bP(ji:Bool)(s:ByteArray):List U:=(List.range (s.size/4)).map (kr ji s)
theorem ju(ji:Bool)(s:ByteArray):(bP ji s).length=s.size/4:=by simp[bP]
theorem dZ(s:ByteArray)(i:Nat):0≤aF s i∧aF s i<256:=by
 unfold aF;have:=(s.data.toList.getD i 0).toNat_lt;omega
end Go.Sh
namespace Go.Proofs.YtmfcgihgdhfalaaGreatDoor
open Go.Sh Go.RowKit
structure Words (h:H) (a:Option Addr) (l:Nat) (us:List U):Prop where
 len:us.length=l
 small:us.length≤1000000
 none:a=none->l=0
 row:∀b,a=some b->Sh.rowAt h b (kQ us)
theorem Words.keep{h h':H}{a:Option Addr}{l:Nat}{us:List U}(w:Words h a l us)(k:bq h h'):Words h' a l us:=⟨w.len,w.small,w.none,λb e=>k.row (w.row b e)⟩
theorem Words.at_{h:H}{a:Option Addr}{l:Nat}{us:List U}{i:Int}{K:Addr->Nat->Prop}(w:Words h a l us)(h0:0≤i)(h1:i<l)
  (k:∀b,(hi:i.toNat<us.length)->h.cell (b.add i.toNat)=some (.int .u32 (ui us[i.toNat]))->K b i.toNat):M.idx a l i K:=by
 have hi:i.toNat<us.length:=by rw[w.len];omega
 cases a with
 | none=>have:=w.none rfl;omega
 | some b=>
  refine M.mq h0 h1 (k b hi ?_);rw[w.row b rfl i.toNat (by rw[jd];omega),Ek us _ hi]
section
variable {h:H}{a:Option Addr}{l c:Nat}{us:List U}{Q:ByteArray->H->Prop}
theorem AG(ji:Bool){i:Nat}(hi:i<us.length):Dw ji (us.take (i+1))=Dw ji (us.take i)++wz ji us[i]:=by
 rw[List.take_succ_eq_append_getElem hi,OS];simp[Dw]
theorem pR(wd:Words h a l us)(k:∀h',bq h h'->Q (lf true us) h'):cI a l c h Q:=by
 unfold cI;have hl:=wd.len;have hsm:=wd.small;have w1:wrap .i64 (4*((l:Nat):Int))=4*(l:Int):=by rw[IntKind.wrap_i64];omega
 simp only[M.val,w1];refine M.uj (size:=1) (Wd.start h) (by omega) (by omega) (by omega) (by omega) rfl λa1 h1 w=>?_;refine M.jn ?_;refine M.aP (I:=λ(p:(Option Addr×Nat×Nat)×Int) h'=>0≤p.2∧p.2≤l∧p.1.2.1=4*p.2.toNat∧Wd h h' [.sl 5 1 p.1.1 p.1.2.1 p.1.2.2 (oT (Dw true (us.take p.2.toNat)))]) (μ:=λp=>(l-p.2).toNat) ⟨by simp,by simp,rfl,w⟩ ?_;rintro⟨⟨a2,l2,c2⟩,i⟩ h2 J ⟨h0,h1',e2,w⟩ hJ;simp only at h0 h1' e2 w ⊢;by_cases hlt:i<l
 ·simp only[hlt,decide_true,cond_true];refine(wd.keep w.keep).at_ h0 hlt λb hi hc=>?_;have w2:wrap .i64 (i+1)=i+1:=by rw[IntKind.wrap_i64];omega
  have e3:=uN us[i.toNat] 3;have e4:=uN us[i.toNat] 2;have e5:=uN us[i.toNat] 1;have e6:=FT us[i.toNat];have z3:((8*3:Nat):Int)=24:=rfl;have z2:((8*2:Nat):Int)=16:=rfl;have z1:((8*1:Nat):Int)=8:=rfl;rw[z3]at e3;rw[z2]at e4;rw[z1]at e5;simp only[aS,dK,Nat.zero_add,Nat.add_zero,Nat.mul_one,Nat.one_mul,Nat.zero_mul,Nat.reduceAdd,List.setIfInBounds_toArray,List.set_cons_zero,List.set_cons_succ,List.getElem?_toArray,List.getElem?_cons_zero,List.getElem?_cons_succ,cH,int_eq,dV,fq,fQ,fP,iy,M.val,cond_true,cond_false,Bool.not_true,Bool.not_false,hc,w2,e3,e4,e5,e6,M.jZ];refine⟨by omega,by omega,by omega,?_⟩;refine Wd.push (n:=4) (new:=oT (wz true us[i.toNat])) w 0 rfl rfl rfl (pV _) (by omega) (by omega) λa3 c3 h3 w=>?_;refine hJ _ _ ⟨by simp only;omega,by simp only;omega,by simp only;omega,?_⟩ (by simp only;omega);have:(i+1).toNat=i.toNat+1:=by omega
  simp only[this,AG true hi,xC];exact w
 ·simp only[hlt,decide_false,cond_false];have e:i.toNat=us.length:=by omega
  rw[e,List.take_length]at w;exact w.text 0 rfl (k h2 w.keep)
theorem o6(wd:Words h a l us)(k:∀h',bq h h'->Q (lf false us) h'):bE a l c h Q:=by
 unfold bE;have hl:=wd.len;have hsm:=wd.small;have w1:wrap .i64 (4*((l:Nat):Int))=4*(l:Int):=by rw[IntKind.wrap_i64];omega
 simp only[M.val,w1];refine M.uj (size:=1) (Wd.start h) (by omega) (by omega) (by omega) (by omega) rfl λa1 h1 w=>?_;refine M.jn ?_;refine M.aP (I:=λ(p:(Option Addr×Nat×Nat)×Int) h'=>0≤p.2∧p.2≤l∧p.1.2.1=4*p.2.toNat∧Wd h h' [.sl 5 1 p.1.1 p.1.2.1 p.1.2.2 (oT (Dw false (us.take p.2.toNat)))]) (μ:=λp=>(l-p.2).toNat) ⟨by simp,by simp,rfl,w⟩ ?_;rintro⟨⟨a2,l2,c2⟩,i⟩ h2 J ⟨h0,h1',e2,w⟩ hJ;simp only at h0 h1' e2 w ⊢;by_cases hlt:i<l
 ·simp only[hlt,decide_true,cond_true];refine(wd.keep w.keep).at_ h0 hlt λb hi hc=>?_;have w2:wrap .i64 (i+1)=i+1:=by rw[IntKind.wrap_i64];omega
  have e3:=uN us[i.toNat] 3;have e4:=uN us[i.toNat] 2;have e5:=uN us[i.toNat] 1;have e6:=FT us[i.toNat];have z3:((8*3:Nat):Int)=24:=rfl;have z2:((8*2:Nat):Int)=16:=rfl;have z1:((8*1:Nat):Int)=8:=rfl;rw[z3]at e3;rw[z2]at e4;rw[z1]at e5;simp only[aS,dK,Nat.zero_add,Nat.add_zero,Nat.mul_one,Nat.one_mul,Nat.zero_mul,Nat.reduceAdd,List.setIfInBounds_toArray,List.set_cons_zero,List.set_cons_succ,List.getElem?_toArray,List.getElem?_cons_zero,List.getElem?_cons_succ,cH,int_eq,dV,fq,fQ,fP,iy,M.val,cond_true,cond_false,Bool.not_true,Bool.not_false,hc,w2,e3,e4,e5,e6,M.jZ];refine⟨by omega,by omega,by omega,?_⟩;refine Wd.push (n:=4) (new:=oT (wz false us[i.toNat])) w 0 rfl rfl rfl (pV _) (by omega) (by omega) λa3 c3 h3 w=>?_;refine hJ _ _ ⟨by simp only;omega,by simp only;omega,by simp only;omega,?_⟩ (by simp only;omega);have:(i+1).toNat=i.toNat+1:=by omega
  simp only[this,AG false hi,xC];exact w
 ·simp only[hlt,decide_false,cond_false];have e:i.toNat=us.length:=by omega
  rw[e,List.take_length]at w;exact w.text 0 rfl (k h2 w.keep)
end
theorem Lu(n:Nat)(k:Nat):(n/256^k)/256=n/256^(k+1):=by rw[Nat.div_div_eq_div_mul,Nat.pow_succ]
def MP(ji:Bool)(f:Nat->Int)(k:Nat)(j:Nat):Int:=bif ji then(if 3-j<k∧j<4 then f (3-j)else 0)else(if j<k then f j else 0)
def four(f:Nat->Int):List Int:=[f 0,f 1,f 2,f 3]
theorem MH(ji:Bool)(x:U):four (MP ji (vF x) 4)=wz ji x:=by cases ji<;>rfl
theorem Lr(ji:Bool)(f:Nat->Int)(t:Nat)(ht:t<4):(oT (four (MP ji f t))).toArray.setIfInBounds (bif ji then 3-t else t) (.int .u8 (f t))=(oT (four (MP ji f (t+1)))).toArray:=by
 match t,ht with
 | 0,_=>cases ji<;>rfl
 | 1,_=>cases ji<;>rfl
 | 2,_=>cases ji<;>rfl
 | 3,_=>cases ji<;>rfl
section
variable {h:H}{a:Option Addr}{l c:Nat}{us:List U}{Q:ByteArray->H->Prop}{ji:Bool}
theorem xJ(wd:Words h a l us)(k:∀h',bq h h'->Q (lf ji us) h'):gw a l c ji h Q:=by
 unfold gw;have hl:=wd.len;have hsm:=wd.small;refine M.jn ?_;refine M.aP (I:=λ(p:(Option Addr×Nat×Nat)×Int) h'=>0≤p.2∧p.2≤l∧p.1.2.1=4*p.2.toNat∧Wd h h' [.sl 5 1 p.1.1 p.1.2.1 p.1.2.2 (oT (Dw ji (us.take p.2.toNat)))]) (μ:=λp=>(l-p.2).toNat) ⟨by simp,by simp,rfl,(Wd.start h).jt _ _⟩ ?_;rintro⟨⟨a2,l2,c2⟩,i⟩ h2 J ⟨h0,h1',e2,w⟩ hJ;simp only at h0 h1' e2 w ⊢;by_cases hlt:i<l
 ·simp only[hlt,decide_true,cond_true];refine M.jn ?_;refine M.aK w λb7 h3 w=>?_;refine(wd.keep w.keep).at_ h0 hlt λb hi hc=>?_;have w2:wrap .i64 (i+1)=i+1:=by rw[IntKind.wrap_i64];omega
  simp only[aS,dK,Nat.zero_add,Nat.add_zero,Nat.mul_one,Nat.one_mul,Nat.zero_mul,Nat.reduceAdd,List.setIfInBounds_toArray,List.set_cons_zero,List.set_cons_succ,List.getElem?_toArray,List.getElem?_cons_zero,List.getElem?_cons_succ,cH,int_eq,dV,fq,fQ,fP,iy,M.val,cond_true,cond_false,Bool.not_true,Bool.not_false,hc];refine M.jn ?_;refine M.aP (I:=λ(p:Int×Int) h'=>0≤p.2∧p.2≤4∧p.1=((us[i.toNat].toNat/256^p.2.toNat:Nat):Int)∧Wd h h' [.sl 5 1 a2 l2 c2 (oT (Dw ji (us.take i.toNat))),.blk b7 (.cells (oT (four (MP ji (vF us[i.toNat]) p.2.toNat))).toArray 423)]) (μ:=λp=>(4-p.2).toNat) ⟨by simp,by simp,by simp[ui],?_⟩ ?_
  ·have:four (MP ji (vF us[i.toNat]) 0)=[0,0,0,0]:=by cases ji<;>rfl
   simp only[this,Int.toNat_zero];exact w
  rintro⟨n,t⟩ h4 J2 ⟨t0,t1,hn,w⟩ hJ2;simp only at t0 t1 hn w ⊢;by_cases ht:t<4
  ·simp only[ht,decide_true,cond_true];refine M.jn ?_;have hx:=us[i.toNat].isLt;have w3:wrap .i64 (t+1)=t+1:=by rw[IntKind.wrap_i64];omega
   have w4:wrap .i64 (3-t)=3-t:=by rw[IntKind.wrap_i64];omega
   obtain⟨q,hq⟩:∃q,us[i.toNat].toNat/256^t.toNat=q:=⟨_,rfl⟩;have hqx:q≤us[i.toNat].toNat:=by rw[←hq];exact Nat.div_le_self _ _
   rw[hq]at hn;have e1:wrap .u8 (Int.tmod n 256)=vF us[i.toNat] t.toNat:=by
    rw[hn,Int.tmod_eq_emod_of_nonneg (by omega),IntKind.wrap_u8,vF,hq];omega
   have e2':wrap .u32 (Int.tdiv n 256)=((us[i.toNat].toNat/256^(t.toNat+1):Nat):Int):=by
    rw[hn,Int.tdiv_eq_ediv_of_nonneg (by omega),IntKind.wrap_u32,←Lu,hq];omega
   have tn:(t+1).toNat=t.toNat+1:=by omega
   have fin:∀(j:Int),j=(bif ji then 3-t else t)->M.nz 256 (M.fk 4 j λj23=>M.put h4 ⟨b7,j23,none⟩ (.int .u8 (IntKind.u8.wrap (n.tmod 256))) λh24=>M.nz 256 (J2 (IntKind.u32.wrap (n.tdiv 256),IntKind.i64.wrap (t+1)) h24)):=by
    intro j hj;have j0:0≤j∧j<4:=by rw[hj];cases ji<;>simp<;>omega
    refine⟨by omega,?_⟩;simp only[aS,dK,Nat.zero_add,Nat.add_zero,Nat.mul_one,Nat.one_mul,Nat.zero_mul,Nat.reduceAdd,List.setIfInBounds_toArray,List.set_cons_zero,List.set_cons_succ,List.getElem?_toArray,List.getElem?_cons_zero,List.getElem?_cons_succ,cH,int_eq,dV,fq,fQ,fP,iy,M.val,cond_true,cond_false,Bool.not_true,Bool.not_false,e1,e2',w3];refine⟨j0.1,j0.2,?_⟩;refine M.bg w 1 rfl rfl (by simp[four,oT];omega) λh5 w=>⟨by omega,hJ2 _ _ ⟨by simp only;omega,by simp only;omega,by simp only[tn],?_⟩ (by simp only;omega)⟩;have this:=Lr ji (vF us[i.toNat]) t.toNat (by omega);have hj2:j.toNat=(bif ji then 3-t.toNat else t.toNat):=by rw[hj];cases ji<;>simp<;>omega
    rw[←hj2]at this;rw[tn];simp only[List.set_cons_succ,List.set_cons_zero]at w;rw[this]at w;exact w
   cases hb:ji
   ·simp only[cond_false];exact fin t (by rw[hb];rfl)
   ·simp only[cond_true,M.val,w4];exact fin (3-t) (by rw[hb];rfl)
  ·simp only[ht,decide_false,cond_false];have:t.toNat=4:=by omega
   rw[this,MH]at w;refine M.aP (I:=λ(p:(Option Addr×Nat×Nat)×Int) h'=>0≤p.2∧p.2≤4∧p.1.2.1=4*i.toNat+p.2.toNat∧Wd h h' [.sl 5 1 p.1.1 p.1.2.1 p.1.2.2 (oT (Dw ji (us.take i.toNat)++(wz ji us[i.toNat]).take p.2.toNat)),.blk b7 (.cells (oT (wz ji us[i.toNat])).toArray 423)]) (μ:=λp=>(4-p.2).toNat) ⟨by simp,by simp,by simp only;omega,by simpa using w⟩ ?_;rintro⟨⟨a5,l5,c5⟩,u⟩ h5 J3 ⟨u0,u1,ul,w⟩ hJ3;simp only at u0 u1 ul w ⊢;by_cases hu:u<4
   ·simp only[hu,decide_true,cond_true];have w5:wrap .i64 (u+1)=u+1:=by rw[IntKind.wrap_i64];omega
    have un:(u+1).toNat=u.toNat+1:=by omega
    have hb:=w.blk 1 rfl;have hlen:=G6 ji us[i.toNat];have hg:(oT (wz ji us[i.toNat])).toArray[u.toNat]? = some (.int .u8 ((wz ji us[i.toNat])[u.toNat]'(by omega))):=by
     simp[oT,show u.toNat<(wz ji us[i.toNat]).length by omega]
    refine⟨u0,hu,?_⟩;simp only[aS,dK,Nat.zero_add,Nat.add_zero,Nat.mul_one,Nat.one_mul,Nat.zero_mul,Nat.reduceAdd,List.setIfInBounds_toArray,List.set_cons_zero,List.set_cons_succ,List.getElem?_toArray,List.getElem?_cons_zero,List.getElem?_cons_succ,cH,int_eq,dV,fq,fQ,fP,iy,M.val,cond_true,cond_false,Bool.not_true,Bool.not_false,dA hb,hg,w5];refine Wd.push (n:=1) (new:=oT [(wz ji us[i.toNat])[u.toNat]'(by omega)]) w 0 rfl rfl rfl (pV _) (by omega) (by omega) λa3 c3 h3 w=>?_;refine hJ3 _ _ ⟨by simp only;omega,by simp only;omega,by simp only;omega,?_⟩ (by simp only;omega);simp only[un,List.take_succ_eq_append_getElem (show u.toNat<(wz ji us[i.toNat]).length by omega),←List.append_assoc];rw[xC _ [_]];exact w
   ·simp only[hu,decide_false,cond_false,M.val,w2];have:u.toNat=4:=by omega
    have tk:(wz ji us[i.toNat]).take 4=wz ji us[i.toNat]:=List.take_of_length_le (by rw[G6];omega);rw[this,tk]at w;have w:=w.drop (i:=1) rfl;refine hJ _ _ ⟨by simp only;omega,by simp only;omega,by simp only;omega,?_⟩ (by simp only;omega);have:(i+1).toNat=i.toNat+1:=by omega
    simp only[this,AG ji hi];exact w
 ·simp only[hlt,decide_false,cond_false];have e:i.toNat=us.length:=by omega
  rw[e,List.take_length]at w;exact w.text 0 rfl (k h2 w.keep)
end
theorem Mp(a b c d:Nat)(ha:a<256)(hb:b<256)(hc:c<256)(hd:d<256):a*2^24 ||| b*2^16 ||| c*2^8 ||| d=256*(256*(256*a+b)+c)+d:=by
 have h1:a*2^24 ||| b*2^16=2^16*(256*a+b):=by
  have:=Nat.two_pow_add_eq_or_of_lt (i:=24) (b:=b*2^16) (by omega) a;rw[Nat.mul_comm a,←this];omega
 have h2:2^16*(256*a+b) ||| c*2^8=2^8*(256*(256*a+b)+c):=by
  rw[←Nat.two_pow_add_eq_or_of_lt (i:=16) (b:=c*2^8) (by omega)];omega
 rw[h1,h2,←Nat.two_pow_add_eq_or_of_lt (i:=8) (b:=d) (by omega)]
theorem A5(a:Int)(h:0≤a∧a<256):(BitVec.ofInt 32 a).toNat=a.toNat:=by
 have h2:((2^32:Nat):Int)=4294967296:=by decide
 rw[BitVec.toNat_ofInt,h2];omega
theorem Eo(a:Int)(h:0≤a∧a<256)(k:Nat)(hk:k≤24):((BitVec.ofInt 32 a) <<< k).toNat=a.toNat * 2^k:=by
 rw[BitVec.toNat_shiftLeft,Nat.shiftLeft_eq,A5 a h];refine Nat.mod_eq_of_lt ?_;have:2^k≤2^24:=Nat.pow_le_pow_right (by omega) hk
 calc a.toNat * 2^k≤255*2^24:=Nat.mul_le_mul (by omega) this
  _<2^32:=by omega
theorem Mt(a b c d:Int)(ha:0≤a∧a<256)(hb:0≤b∧b<256)(hc:0≤c∧c<256)(hd:0≤d∧d<256):
  (BitVec.ofInt 32 a <<< 24 ||| BitVec.ofInt 32 b <<< 16 ||| BitVec.ofInt 32 c <<< 8 ||| BitVec.ofInt 32 d)=BitVec.ofInt 32 (256*(256*(256*a+b)+c)+d):=by
 apply BitVec.eq_of_toNat_eq;have h2:((2^32:Nat):Int)=4294967296:=by decide
 rw[BitVec.toNat_or,BitVec.toNat_or,BitVec.toNat_or,Eo a ha 24 (by omega),Eo b hb 16 (by omega),Eo c hc 8 (by omega),A5 d hd,Mp _ _ _ _ (by omega) (by omega) (by omega) (by omega),BitVec.toNat_ofInt,h2];omega
theorem K9(a b c d:Int)(ha:0≤a∧a<256)(hb:0≤b∧b<256)(hc:0≤c∧c<256)(hd:0≤d∧d<256):
  (BitVec.ofInt 32 a ||| BitVec.ofInt 32 b <<< 8 ||| BitVec.ofInt 32 c <<< 16 ||| BitVec.ofInt 32 d <<< 24)=BitVec.ofInt 32 (256*(256*(256*d+c)+b)+a):=by
 rw[←Mt d c b a hd hc hb ha];generalize BitVec.ofInt 32 a=A;generalize BitVec.ofInt 32 b <<< 8=B;generalize BitVec.ofInt 32 c <<< 16=C;generalize BitVec.ofInt 32 d <<< 24=D;rw[BitVec.or_comm D C,BitVec.or_assoc C D B,BitVec.or_comm D B,←BitVec.or_assoc C B D,BitVec.or_comm C B,BitVec.or_comm _ A,←BitVec.or_assoc,←BitVec.or_assoc]
section
variable {h:H}{a b c d:Int}{Q:Int->H->Prop}
theorem HX(ha:0≤a∧a<256)(hb:0≤b∧b<256)(hc:0≤c∧c<256)(hd:0≤d∧d<256)(k:Q (ui (AP true a b c d)) h):iB (wrap .u32 a) (wrap .u32 b) (wrap .u32 c) (wrap .u32 d) h Q:=by
 unfold iB;have s24:=λx=>yN x 24;have s16:=λx=>yN x 16;have s8:=λx=>yN x 8;simp only[M.jZ,M.val,vW,show(24:Int)=((24:Nat):Int)from rfl,show(16:Int)=((16:Nat):Int)from rfl,show(8:Int)=((8:Nat):Int)from rfl,yN,Hq,Mt a b c d ha hb hc hd];exact⟨by omega,by omega,by omega,k⟩
theorem B5(ha:0≤a∧a<256)(hb:0≤b∧b<256)(hc:0≤c∧c<256)(hd:0≤d∧d<256)(k:Q (ui (AP false a b c d)) h):fR (wrap .u32 a) (wrap .u32 b) (wrap .u32 c) (wrap .u32 d) h Q:=by
 unfold fR;simp only[M.jZ,M.val,vW,show(24:Int)=((24:Nat):Int)from rfl,show(16:Int)=((16:Nat):Int)from rfl,show(8:Int)=((8:Nat):Int)from rfl,yN,Hq,K9 a b c d ha hb hc hd];exact⟨by omega,by omega,by omega,k⟩
end
theorem ER{us:List U}{i n:Nat}(hn:us.length=n)(hi:i<n):(kQ (us.take i)++List.replicate (n-i) (Value.int .u32 0)).set i (.int .u32 (ui (us[i]'(by omega))))=kQ (us.take (i+1))++List.replicate (n-(i+1)) (Value.int .u32 0):=by
 have hl:(kQ (us.take i)).length=i:=by rw[jd,List.length_take];omega
 obtain⟨m,hm⟩:∃m,n-i=m+1:=⟨n-i-1,by omega⟩;rw[List.set_append_right _ _ (by omega),hl,Nat.sub_self,hm,List.replicate_succ,List.set_cons_zero,List.take_succ_eq_append_getElem (by omega),oK,List.append_assoc];congr 2;have:n-(i+1)=m:=by omega
 rw[this];rfl
section
variable {h:H}{s:ByteArray}{Q:Option Addr->Nat->Nat->Int->H->Prop}
theorem MD(hs:s.size≤1000000)(hm:s.size%4=0)(k:∀a c h',Wd h h' [.sl 230 1 a (s.size/4) c (kQ (bP true s))]->Q a (s.size/4) c 0 h'):aV s h Q:=by
 unfold aV;refine⟨by omega,?_⟩;have e0:(Int.tmod (s.size:Int) 4 != 0)=false:=by
  rw[Int.tmod_eq_emod_of_nonneg (by omega)];have:(s.size:Int)%4=0:=by omega
  rw[this];rfl
 have e1:wrap .i64 (Int.tdiv (s.size:Int) 4)=((s.size/4:Nat):Int):=by
  rw[Int.tdiv_eq_ediv_of_nonneg (by omega),IntKind.wrap_i64];omega
 simp only[M.val,e0,cond_false,e1];refine⟨by omega,?_⟩;refine M.uj (size:=1) (Wd.start h) (by omega) (by omega) (by omega) (by omega) rfl λa1 h1 w=>?_;refine M.jn ?_;obtain⟨n,hn⟩:∃n,s.size/4=n:=⟨_,rfl⟩;have hN:((s.size/4:Nat):Int).toNat=n:=by omega
 have hlen:(bP true s).length=n:=by rw[ju,hn]
 rw[hN]at w ⊢;rw[hn]at k;refine M.aP (I:=λ(i:Int) h'=>0≤i∧i≤n∧Wd h h' [.sl 230 1 a1 n n (kQ ((bP true s).take i.toNat)++List.replicate (n-i.toNat) (Value.int .u32 0))]) (μ:=λi=>(n-i).toNat) ⟨by omega,by omega,by simpa [gx,kQ] using w⟩ ?_;rintro i h2 J ⟨h0,h1',w⟩ hJ;by_cases hlt:i<n
 ·simp only[hlt,decide_true,cond_true];refine M.jn ?_;have v0:wrap .i64 (4*i)=4*i:=by rw[IntKind.wrap_i64];omega
  have v1:wrap .i64 (4*i+1)=4*i+1:=by rw[IntKind.wrap_i64];omega
  have v2:wrap .i64 (4*i+2)=4*i+2:=by rw[IntKind.wrap_i64];omega
  have v3:wrap .i64 (4*i+3)=4*i+3:=by rw[IntKind.wrap_i64];omega
  have v4:wrap .i64 (i+1)=i+1:=by rw[IntKind.wrap_i64];omega
  simp only[v0,v1,v2,v3,v4,and_self,M.val];refine⟨by omega,by omega,by omega,by omega,by omega,by omega,by omega,by omega,?_⟩;refine HX (dZ _ _) (dZ _ _) (dZ _ _) (dZ _ _) ?_;cases a1 with
  | none=>have:=((w.mI 0 rfl).2.2.1 rfl).2;omega
  | some ab=>
   refine M.mq h0 hlt ?_;rw[Nat.mul_one];refine M.DH w 0 rfl rfl (by simp[jd];omega) λh3 w=>?_;have hi:i.toNat<n:=by omega
   have e:AP true (aF s (4*i).toNat) (aF s (4*i+1).toNat) (aF s (4*i+2).toNat) (aF s (4*i+3).toNat)=(bP true s)[i.toNat]'(by omega):=by
    have q0:(4*i).toNat=4*i.toNat:=by omega
    have q1:(4*i+1).toNat=4*i.toNat+1:=by omega
    have q2:(4*i+2).toNat=4*i.toNat+2:=by omega
    have q3:(4*i+3).toNat=4*i.toNat+3:=by omega
    simp only[q0,q1,q2,q3,bP,List.getElem_map,List.getElem_range];rfl
   rw[e]at w;refine hJ _ _ ⟨by omega,by omega,?_⟩ (by omega);have e5:(i+1).toNat=i.toNat+1:=by omega
   simp only[List.set_cons_zero,ER hlen hi]at w;rw[e5];exact w
 ·simp only[hlt,decide_false,cond_false];have:i.toNat=n:=by omega
  rw[this,Nat.sub_self,List.take_of_length_le (by omega),List.replicate_zero,List.append_nil]at w;exact k a1 n h2 w
theorem EV(hs:s.size≤1000000)(hm:s.size%4=0)(k:∀a c h',Wd h h' [.sl 230 1 a (s.size/4) c (kQ (bP false s))]->Q a (s.size/4) c 0 h'):aM s h Q:=by
 unfold aM;refine⟨by omega,?_⟩;have e0:(Int.tmod (s.size:Int) 4 != 0)=false:=by
  rw[Int.tmod_eq_emod_of_nonneg (by omega)];have:(s.size:Int)%4=0:=by omega
  rw[this];rfl
 have e1:wrap .i64 (Int.tdiv (s.size:Int) 4)=((s.size/4:Nat):Int):=by
  rw[Int.tdiv_eq_ediv_of_nonneg (by omega),IntKind.wrap_i64];omega
 simp only[M.val,e0,cond_false,e1];refine⟨by omega,?_⟩;refine M.uj (size:=1) (Wd.start h) (by omega) (by omega) (by omega) (by omega) rfl λa1 h1 w=>?_;refine M.jn ?_;obtain⟨n,hn⟩:∃n,s.size/4=n:=⟨_,rfl⟩;have hN:((s.size/4:Nat):Int).toNat=n:=by omega
 have hlen:(bP false s).length=n:=by rw[ju,hn]
 rw[hN]at w ⊢;rw[hn]at k;refine M.aP (I:=λ(i:Int) h'=>0≤i∧i≤n∧Wd h h' [.sl 230 1 a1 n n (kQ ((bP false s).take i.toNat)++List.replicate (n-i.toNat) (Value.int .u32 0))]) (μ:=λi=>(n-i).toNat) ⟨by omega,by omega,by simpa [gx,kQ] using w⟩ ?_;rintro i h2 J ⟨h0,h1',w⟩ hJ;by_cases hlt:i<n
 ·simp only[hlt,decide_true,cond_true];refine M.jn ?_;have v0:wrap .i64 (4*i)=4*i:=by rw[IntKind.wrap_i64];omega
  have v1:wrap .i64 (4*i+1)=4*i+1:=by rw[IntKind.wrap_i64];omega
  have v2:wrap .i64 (4*i+2)=4*i+2:=by rw[IntKind.wrap_i64];omega
  have v3:wrap .i64 (4*i+3)=4*i+3:=by rw[IntKind.wrap_i64];omega
  have v4:wrap .i64 (i+1)=i+1:=by rw[IntKind.wrap_i64];omega
  simp only[v0,v1,v2,v3,v4,and_self,M.val];refine⟨by omega,by omega,by omega,by omega,by omega,by omega,by omega,by omega,?_⟩;refine B5 (dZ _ _) (dZ _ _) (dZ _ _) (dZ _ _) ?_;cases a1 with
  | none=>have:=((w.mI 0 rfl).2.2.1 rfl).2;omega
  | some ab=>
   refine M.mq h0 hlt ?_;rw[Nat.mul_one];refine M.DH w 0 rfl rfl (by simp[jd];omega) λh3 w=>?_;have hi:i.toNat<n:=by omega
   have e:AP false (aF s (4*i).toNat) (aF s (4*i+1).toNat) (aF s (4*i+2).toNat) (aF s (4*i+3).toNat)=(bP false s)[i.toNat]'(by omega):=by
    have q0:(4*i).toNat=4*i.toNat:=by omega
    have q1:(4*i+1).toNat=4*i.toNat+1:=by omega
    have q2:(4*i+2).toNat=4*i.toNat+2:=by omega
    have q3:(4*i+3).toNat=4*i.toNat+3:=by omega
    simp only[q0,q1,q2,q3,bP,List.getElem_map,List.getElem_range];rfl
   rw[e]at w;refine hJ _ _ ⟨by omega,by omega,?_⟩ (by omega);have e5:(i+1).toNat=i.toNat+1:=by omega
   simp only[List.set_cons_zero,ER hlen hi]at w;rw[e5];exact w
 ·simp only[hlt,decide_false,cond_false];have:i.toNat=n:=by omega
  rw[this,Nat.sub_self,List.take_of_length_le (by omega),List.replicate_zero,List.append_nil]at w;exact k a1 n h2 w
theorem xK(hs:s.size≤1000000)(hm:s.size%4=0)(k:∀a c h',Wd h h' [.sl 230 1 a (s.size/4) c (kQ (bP true s))]->Q a (s.size/4) c 0 h'):gW s h Q:=by
 unfold gW;exact MD hs hm k
theorem qN(hs:s.size≤1000000)(hm:s.size%4=0)(k:∀a c h',Wd h h' [.sl 230 1 a (s.size/4) c (kQ (bP false s))]->Q a (s.size/4) c 0 h'):di s h Q:=by
 unfold di;exact EV hs hm k
end
def me(f:Nat->Int):Nat->Int
 | 0=>0
 | k+1=>256*me f k+f k
theorem zX(f:Nat->Int)(hf:∀k,0≤f k∧f k<256):∀k,k≤4->0≤me f k∧me f k<256^k
 | 0,_=>⟨by simp[me],by simp[me]⟩
 | k+1,hk=>by
  have:=zX f hf k (by omega);have h2:=hf k;have:(256:Int)^(k+1)=256*256^k:=by rw[Int.pow_succ,Int.mul_comm]
  simp only[me];omega
def Lo(ji:Bool)(k:Nat):Nat:=bif ji then k else 3-k
theorem CI(ji:Bool)(s:ByteArray)(i:Nat):BitVec.ofInt 32 (me (λk=>aF s (4*i+Lo ji k)) 4)=kr ji s i:=by
 cases ji<;>simp[me,kr,AP,Lo]
section
variable {h:H}{s:ByteArray}{ji:Bool}{Q:Option Addr->Nat->Nat->Int->H->Prop}
theorem B6(hs:s.size≤1000000)(hm:s.size%4=0)(k:∀a c h',Wd h h' [.sl 230 1 a (s.size/4) c (kQ (bP ji s))]->Q a (s.size/4) c 0 h'):gZ s ji h Q:=by
 unfold gZ;refine⟨by omega,?_⟩;have e0:(Int.tmod (s.size:Int) 4 != 0)=false:=by
  rw[Int.tmod_eq_emod_of_nonneg (by omega)];have:(s.size:Int)%4=0:=by omega
  rw[this];rfl
 simp only[M.val,e0,cond_false];refine M.jn ?_;obtain⟨n,hn⟩:∃n,s.size/4=n:=⟨_,rfl⟩;have hlen:(bP ji s).length=n:=by rw[ju,hn]
 rw[hn]at k;refine M.aP (I:=λ(p:(Option Addr×Nat×Nat)×Int) h'=>∃i:Nat,p.2=4*(i:Int)∧i≤n∧p.1.2.1=i∧Wd h h' [.sl 230 1 p.1.1 p.1.2.1 p.1.2.2 (kQ ((bP ji s).take i))]) (μ:=λp=>(4*n-p.2).toNat) ⟨0,rfl,by omega,rfl,(Wd.start h).jt _ _⟩ ?_;rintro⟨⟨a2,l2,c2⟩,i4⟩ h2 J ⟨i,hi4,h1',e2,w⟩ hJ;simp only at hi4 e2 w ⊢;subst hi4 e2;by_cases hlt:l2<n
 ·have:4*(l2:Int)<s.size:=by omega
  simp only[this,decide_true,cond_true];refine M.jn ?_;refine M.jn ?_;refine M.aP (I:=λ(p:Int×Int) h'=>h'=h2∧∃t:Nat,p.2=(t:Int)∧t≤4∧p.1=me (λk=>aF s (4*l2+Lo ji k)) t) (μ:=λp=>(4-p.2).toNat) ⟨rfl,0,rfl,by omega,rfl⟩ ?_;rintro⟨m,ti⟩ h3 J2 ⟨rfl,t,rfl,t1,hm'⟩ hJ2;simp only at hm' ⊢;by_cases ht:t<4
  ·have:(t:Int)<4:=by omega
   simp only[this,decide_true,cond_true];have nb:=zX (λk=>aF s (4*l2+Lo ji k)) (λk=>dZ _ _) t (by omega);have nb2:=zX (λk=>aF s (4*l2+Lo ji k)) (λk=>dZ _ _) (t+1) (by omega);have hp:(256:Int)^(t+1)≤4294967296:=(show ∀t,t<4->(256:Int)^(t+1)≤4294967296 by decide) t ht;have hbt:=dZ s (4*l2+Lo ji t);have hb4:Lo ji t<4:=by unfold Lo;cases ji<;>simp<;>omega
   have v0:wrap .i64 (4*(l2:Int)+3)=4*(l2:Int)+3:=by rw[IntKind.wrap_i64];omega
   have v1:wrap .i64 (4*(l2:Int)+3-t)=4*(l2:Int)+3-t:=by rw[IntKind.wrap_i64];omega
   have v2:wrap .i64 (4*(l2:Int)+t)=4*(l2:Int)+t:=by rw[IntKind.wrap_i64];omega
   have v3:wrap .i64 ((t:Int)+1)=t+1:=by rw[IntKind.wrap_i64];omega
   refine M.jn ?_;have fin:∀j:Int,j=((4*l2+Lo ji t:Nat):Int)->M.byte s j λn22=>J2 (IntKind.u32.wrap (IntKind.u32.wrap (256*m)+IntKind.u32.wrap n22),(t:Int)+1) h3:=by
    intro j hj;subst hj;refine⟨by omega,by omega,?_⟩;rw[Int.toNat_natCast];refine hJ2 _ _ ⟨rfl,t+1,by simp,by omega,?_⟩ (by simp only;omega);simp only[me]at nb2 ⊢;rw[IntKind.wrap_u32,IntKind.wrap_u32,IntKind.wrap_u32,hm'];omega
   cases hb:ji
   ·simp only[cond_false,v0,v1,v3];exact fin _ (by rw[hb];simp only[Lo,cond_false];omega)
   ·simp only[cond_true,v2,v3];exact fin _ (by rw[hb];simp only[Lo,cond_true];omega)
  ·have h4:t=4:=by omega
   subst h4;have:¬((4:Nat):Int)<4:=by omega
   simp only[this,decide_false,cond_false];have v4:wrap .i64 (4*(l2:Int)+4)=4*((l2+1:Nat):Int):=by rw[IntKind.wrap_i64];omega
   have nb:=zX (λk=>aF s (4*l2+Lo ji k)) (λk=>dZ _ _) 4 (by omega);have hu:m=ui (kr ji s l2):=by
    rw[←CI,←vW,IntKind.wrap_u32,hm'];simp only[show(256:Int)^4=4294967296 from rfl]at nb;omega
   subst hu;simp only[v4];refine Wd.push (n:=1) (new:=[Value.int .u32 (ui (kr ji s l2))]) w 0 rfl rfl rfl (by simp[ag]) (by omega) (by omega) λa3 c3 h3 w=>?_;refine hJ _ _ ⟨l2+1,rfl,by omega,rfl,?_⟩ (by simp only;omega);have hi:l2<(bP ji s).length:=by omega
   simp only[List.take_succ_eq_append_getElem hi,oK];have:(bP ji s)[l2]=kr ji s l2:=by simp[bP]
   rw[this];exact w
 ·have:¬4*(l2:Int)<s.size:=by omega
  simp only[this,decide_false,cond_false];have:l2=n:=by omega
  subst this;rw[List.take_of_length_le (by omega)]at w;exact k a2 c2 h2 w
end
end Go.Proofs.YtmfcgihgdhfalaaGreatDoor
namespace Go.Sh
open Go.RowKit
def tr:List U:=[
 0x428a2f98,0x71374491,0xb5c0fbcf,0xe9b5dba5,0x3956c25b,0x59f111f1,0x923f82a4,0xab1c5ed5,
 0xd807aa98,0x12835b01,0x243185be,0x550c7dc3,0x72be5d74,0x80deb1fe,0x9bdc06a7,0xc19bf174,
 0xe49b69c1,0xefbe4786,0x0fc19dc6,0x240ca1cc,0x2de92c6f,0x4a7484aa,0x5cb0a9dc,0x76f988da,
 0x983e5152,0xa831c66d,0xb00327c8,0xbf597fc7,0xc6e00bf3,0xd5a79147,0x06ca6351,0x14292967,
 0x27b70a85,0x2e1b2138,0x4d2c6dfc,0x53380d13,0x650a7354,0x766a0abb,0x81c2c92e,0x92722c85,
 0xa2bfe8a1,0xa81a664b,0xc24b8b70,0xc76c51a3,0xd192e819,0xd6990624,0xf40e3585,0x106aa070,
 0x19a4c116,0x1e376c08,0x2748774c,0x34b0bcb5,0x391c0cb3,0x4ed8aa4a,0x5b9cca4f,0x682e6ff3,
 0x748f82ee,0x78a5636f,0x84c87814,0x8cc70208,0x90befffa,0xa4506ceb,0xbef9a3f7,0xc67178f2]
structure S8 where
 a:U
 b:U
 c:U
 d:U
 e:U
 f:U
 g:U
 i:U
def S8.l(s:S8):List U:=[s.a,s.b,s.c,s.d,s.e,s.f,s.g,s.i]
def S8.first:S8:=⟨0x6a09e667,0xbb67ae85,0x3c6ef372,0xa54ff53a,0x510e527f,0x9b05688c,0x1f83d9ab,0x5be0cd19⟩
def S8.add(s t:S8):S8:=⟨s.a+t.a,s.b+t.b,s.c+t.c,s.d+t.d,s.e+t.e,s.f+t.f,s.g+t.g,s.i+t.i⟩
def GP(x:U)(a b c:Nat):U:=x.rotateRight a ^^^ x.rotateRight b ^^^ x.rotateRight c
def vn(x:U)(a b c:Nat):U:=x.rotateRight a ^^^ x.rotateRight b ^^^ x >>> c
def IZ(x y z:U):U:=(x &&& y) ^^^ (~~~x &&& z)
def Es(x y z:U):U:=(x &&& y) ^^^ (x &&& z) ^^^ (y &&& z)
def S8.t1(s:S8)(k w:U):U:=s.i+GP s.e 6 11 25+IZ s.e s.f s.g+k+w
def S8.t2(s:S8):U:=GP s.a 2 13 22+Es s.a s.b s.c
def S8.Qc(s:S8)(k w:U):S8:=⟨s.t1 k w+s.t2,s.a,s.b,s.c,s.d+s.t1 k w,s.e,s.f,s.g⟩
def jV(l:List U)(i:Nat):U:=l.getD i 0
def xU(l:List U):U:=jV l (l.length-16)+vn (jV l (l.length-15)) 7 18 3+jV l (l.length-7)+vn (jV l (l.length-2)) 17 19 10
def gX(l:List U):Nat->List U
 | 0=>l
 | k+1=>gX l k++[xU (gX l k)]
theorem oD(l:List U):∀k,(gX l k).length=l.length+k
 | 0=>rfl
 | k+1=>by rw[gX,List.length_append,oD l k];rfl
def u6(ws:List U)(s:S8):Nat->S8
 | 0=>s
 | k+1=>(u6 ws s k).Qc (jV tr k) (jV ws k)
def S8.block(s:S8)(t:ByteArray):S8:=s.add (u6 (gX (bP true t) 48) s 64)
theorem rX(l:List U)(i:Nat)(hi:i<l.length):jV l i=l[i]:=by simp[jV,hi]
theorem OP(x:U):(4294967295:Int)-ui x=ui (~~~x):=by
 have:=x.isLt;rw[ui,ui,BitVec.toNat_not];omega
theorem Qa(x:U)(k:Nat)(m:Int)(hm:m=((2^k:Nat):Int)):IntKind.u32.wrap (Int.tdiv (ui x) m)=ui (x >>> k):=by
 have h:=x.isLt;have h2:=Nat.div_le_self x.toNat (2^k);rw[hm,Int.tdiv_eq_ediv_of_nonneg (LU x),ui,ui,BitVec.toNat_ushiftRight,Nat.shiftRight_eq_div_pow,←Int.natCast_ediv,IntKind.wrap_u32];generalize x.toNat/2^k=q at *;omega
end Go.Sh
namespace Go.Proofs.YtmfcgihgdhfalaaGreatDoor
open Go.Sh Go.RowKit
def Pr:List Int:=[0,1,56,2,57,49,28,3,61,58,42,50,38,29,17,4,62,47,59,36,45,43,51,22,53,39,33,30,24,18,12,5,63,55,48,27,60,41,37,16,46,35,44,21,52,32,23,11,54,26,40,15,34,20,31,10,25,14,19,9,13,8,7,6]
structure Tabs (h:H):Prop where
 f0:Sh.rowAt h ⟨1,0,none⟩ (kQ S8.first.l)
 k1:Sh.rowAt h ⟨3,0,none⟩ (kQ tr)
 tz:Sh.rowAt h ⟨7,0,none⟩ (oT Pr)
structure qa (h:H):Prop extends Tabs h where
 f2:Sh.rowAt h ⟨2,0,none⟩ (kQ S8.first.l)
 k3:Sh.rowAt h ⟨5,0,none⟩ (kQ tr)
theorem Tabs.keep{h h':H}(t:Tabs h)(k:bq h h'):Tabs h':=⟨k.row t.f0,k.row t.k1,k.row t.tz⟩
theorem qa.keep{h h':H}(t:qa h)(k:bq h h'):qa h':=⟨t.toTabs.keep k,k.row t.f2,k.row t.k3⟩
section
variable {h:H}{x y z:U}{a b c:Int}{Q:Int->H->Prop}
theorem tQ(ha:0≤a∧a<32)(hb:0≤b∧b<32)(hc:0≤c∧c<32)(k:Q (ui (GP x a.toNat b.toNat c.toNat)) h):fX (ui x) a b c h Q:=by
 unfold fX;refine nc ha (nc hb (nc hc ?_));simp only[M.val,nU];exact k
theorem vm{e:Nat}{m:Int}(ha:0≤a∧a<32)(hb:0≤b∧b<32)(hm:m=((2^e:Nat):Int))(k:Q (ui (vn x a.toNat b.toNat e)) h):gL (ui x) a b m h Q:=by
 unfold gL;refine nc ha (nc hb ?_);have:m≠0:=by rw[hm];have:=Nat.two_pow_pos e;omega
 simp only[M.val,nU,Qa x e m hm];exact⟨this,k⟩
theorem DT(k:Q (ui (IZ x y z)) h):jg (ui x) (ui y) (ui z) h Q:=by
 unfold jg;simp only[M.val,DY,nU,OP,Aa];exact k
theorem Et(k:Q (ui (Es x y z)) h):jf (ui x) (ui y) (ui z) h Q:=by
 unfold jf;simp only[M.val,DY,nU];exact k
end
section
variable {h:H}{us:List U}{K:Int->Prop}{i:Int}{n N:Nat}{ad:Addr}
theorem jW(hr:Sh.rowAt h ad (kQ us))(n:Nat)(hn:n<us.length)(k:K (ui (jV us n))):M.load h (ad.add n) λv=>M.int .u32 v K:=by
 rw[dK,hr n (by rw[jd];exact hn),Ek us n hn];simp only[cH,int_eq,←rX us n hn];exact k
theorem iT(hr:Sh.rowAt h ad (kQ us))(n:Nat)(hi:i=(n:Int))(hn:n<N)(hl:us.length=N)(k:K (ui (jV us n))):M.fk N i λj=>M.load h (Addr.add ad (j*1)) λv=>M.int .u32 v K:=by
 subst hi;refine⟨by omega,by omega,?_⟩;simp only[Int.toNat_natCast,Nat.mul_one];exact jW hr n (by omega) k
theorem Words.ld{a:Option Addr}{l:Nat}(w:Words h a l us)(n:Nat)(hi:i=(n:Int))(hn:n<l)(k:K (ui (jV us n))):M.idx a l i λa j=>M.load h (Addr.add a (j*1)) λv=>M.int .u32 v K:=by
 subst hi;cases a with
 | none=>have:=w.none rfl;omega
 | some b=>
  refine M.mq (by omega) (by omega) ?_;simp only[Int.toNat_natCast,Nat.mul_one];exact jW (w.row b rfl) n (by rw[w.len];exact hn) k
theorem hM{b:Nat}{xs:List Value}{e:TypeId}{f:Nat×Nat}(hb:h b=some (.cells xs.toArray e f)):Sh.rowAt h ⟨b,0,none⟩ xs:=by
 intro j hj;rw[aS,dA hb,Nat.zero_add,List.getElem?_toArray]
theorem tB{h0:H}{L:List Chunk}{e:TypeId}{a:Option Addr}{l c:Nat}(w:Wd h0 h L)(i:Nat)(hi:L[i]? = some (.sl e 1 a l c (kQ us)))(sm:us.length≤1000000):Words h a l us:=by
 obtain⟨h1,_,h3,h4⟩:=w.mI i hi;exact⟨by simpa [jd] using h1,sm,λe=>(h3 e).2,h4⟩
end
theorem Cc{h:H}{s:S8}{t:ByteArray}{Q:Int->Int->Int->Int->Int->Int->Int->Int->H->Prop}(ht:t.size=64)(tb:qa h)
  (k:∀h',bq h h'->Q (ui (s.block t).a) (ui (s.block t).b) (ui (s.block t).c) (ui (s.block t).d) (ui (s.block t).e) (ui (s.block t).f) (ui (s.block t).g) (ui (s.block t).i) h'):
  gp (ui s.a) (ui s.b) (ui s.c) (ui s.d) (ui s.e) (ui s.f) (ui s.g) (ui s.i) t h Q:=by
 unfold gp;refine M.aK (Wd.start h) λb9 h1 w=>M.aK w λb11 h2 w=>?_;refine B6 (by omega) (by omega) λa13 c15 h3 w'=>?_;have w:=w.join w';clear w';have hl16:(bP true t).length=16:=by rw[ju,ht]
 refine M.jn ?_;have e16:t.size/4=16:=by omega
 rw[e16]at w ⊢;generalize hws:bP true t=ws at w hl16;refine M.aP (I:=λ(p:(Option Addr×Nat×Nat)×Int) h'=>∃m:Nat,m≤48∧p.2=((16+m:Nat):Int)∧p.1.2.1=16+m∧Wd h h' [.blk b9 (.cells (kQ s.l).toArray 365),.blk b11 (.cells (kQ (List.replicate 8 (0:U))).toArray 365),.sl 230 1 p.1.1 p.1.2.1 p.1.2.2 (kQ (gX ws m))]) (μ:=λp=>(64-p.2).toNat) ⟨0,by omega,rfl,rfl,w⟩ ?_;rintro⟨⟨a2,l2,c2⟩,i⟩ h4 J ⟨m,hm,hi,hl,w⟩ hJ;simp only at hi hl w ⊢;subst hi hl;by_cases hlt:m<48
 ·have:((16+m:Nat):Int)<64:=by omega
  simp only[this,decide_true,cond_true];have hlen:=oD ws m;rw[hl16]at hlen;have wd:=tB w 2 rfl (by omega);have v1:wrap .i64 (((16+m:Nat):Int)-15)=((m+1:Nat):Int):=by rw[IntKind.wrap_i64];omega
  have v2:wrap .i64 (((16+m:Nat):Int)-2)=((m+14:Nat):Int):=by rw[IntKind.wrap_i64];omega
  have v3:wrap .i64 (((16+m:Nat):Int)-7)=((m+9:Nat):Int):=by rw[IntKind.wrap_i64];omega
  have v4:wrap .i64 (((16+m:Nat):Int)-16)=((m:Nat):Int):=by rw[IntKind.wrap_i64];omega
  have v5:wrap .i64 (((16+m:Nat):Int)+1)=((16+(m+1):Nat):Int):=by rw[IntKind.wrap_i64];omega
  simp only[M.val,v1,v2,v3,v4,v5];refine wd.ld (m+1) rfl (by omega) ?_;refine vm (e:=3) (by omega) (by omega) rfl ?_;refine wd.ld (m+14) rfl (by omega) ?_;refine vm (e:=10) (by omega) (by omega) rfl ?_;refine wd.ld (m+9) rfl (by omega) ?_;rw[kj,kj];refine wd.ld m rfl (by omega) ?_;rw[kj];have en:vn (jV (gX ws m) (m+14)) 17 19 10+jV (gX ws m) (m+9)+vn (jV (gX ws m) (m+1)) 7 18 3+jV (gX ws m) m=xU (gX ws m):=by
   unfold xU;rw[hlen,show 16+m-16=m by omega,show 16+m-15=m+1 by omega,show 16+m-7=m+9 by omega,show 16+m-2=m+14 by omega]
   ac_rfl
  simp only[Int.reduceToNat,en];refine Wd.push (n:=1) (new:=[Value.int .u32 (ui (xU (gX ws m)))]) w 2 rfl rfl rfl (by simp[ag]) (by omega) (by omega) λa3 c3 h5 w=>?_;refine hJ _ _ ⟨m+1,by omega,rfl,by simp only;omega,?_⟩ (by simp only;omega);simp only[gX,oK];exact w
 ·have:¬((16+m:Nat):Int)<64:=by omega
  simp only[this,decide_false,cond_false];have hm48:m=48:=by omega
  subst hm48;have hlen:=oD ws 48;rw[hl16]at hlen;have r9:=hM (w.blk 0 rfl);have tb4:=tb.keep w.keep;have wd:=tB w 2 rfl (by omega);have hb:s.block t=s.add (u6 (gX ws 48) s 64):=by rw[S8.block,hws]
  rw[hb]at k;generalize gX ws 48=sc at *;obtain⟨R,hR0,hRs,hR64⟩:∃R:Nat->S8,R 0=s∧(∀n,R (n+1)=(R n).Qc (jV tr n) (jV sc n))∧u6 sc s 64=R 64:=⟨u6 sc s,rfl,λ_=>rfl,rfl⟩;rw[hR64]at k;refine iT r9 0 rfl (by omega) rfl ?_;refine iT r9 1 rfl (by omega) rfl ?_;refine iT r9 2 rfl (by omega) rfl ?_;refine iT r9 3 rfl (by omega) rfl ?_;refine iT r9 4 rfl (by omega) rfl ?_;refine iT r9 5 rfl (by omega) rfl ?_;refine iT r9 6 rfl (by omega) rfl ?_;refine iT r9 7 rfl (by omega) rfl ?_;refine M.jn ?_;refine M.aP (I:=λ(p:Int×Int×Int×Int×Int×Int×Int×Int×Int) h'=>h'=h4∧∃n:Nat,n≤64∧p=(ui (R n).a,ui (R n).b,ui (R n).c,ui (R n).d,ui (R n).e,ui (R n).f,ui (R n).g,ui (R n).i,(n:Int))) (μ:=λp=>(64-p.2.2.2.2.2.2.2.2).toNat) ⟨rfl,0,by omega,by rw[hR0];rfl⟩ ?_;rintro p h5 J2 ⟨rfl,n,hn,rfl⟩ hJ2;simp only;by_cases hn64:n<64
  ·have:(n:Int)<64:=by omega
   simp only[this,decide_true,cond_true];refine tQ (by omega) (by omega) (by omega) ?_;refine tQ (by omega) (by omega) (by omega) ?_;refine DT (Et ?_);simp only[M.val,kj,Int.reduceToNat];refine iT tb4.k3 n rfl hn64 rfl ?_;simp only[kj];refine wd.ld n rfl (by omega) ?_;simp only[kj];have v5:wrap .i64 ((n:Int)+1)=((n+1:Nat):Int):=by rw[IntKind.wrap_i64];omega
   rw[v5];exact hJ2 _ _ ⟨rfl,n+1,by omega,by rw[hRs];rfl⟩ (by simp only;omega)
  ·have hn':n=64:=by omega
   subst hn';have:¬((64:Nat):Int)<64:=by omega
   simp only[this,decide_false,cond_false];refine iT r9 0 rfl (by omega) rfl ?_;refine iT r9 1 rfl (by omega) rfl ?_;refine iT r9 2 rfl (by omega) rfl ?_;refine iT r9 3 rfl (by omega) rfl ?_;refine iT r9 4 rfl (by omega) rfl ?_;refine iT r9 5 rfl (by omega) rfl ?_;refine iT r9 6 rfl (by omega) rfl ?_;refine iT r9 7 rfl (by omega) rfl ?_;generalize R 64=r at k ⊢;simp only[M.val,kj];refine⟨rfl,?_⟩;refine M.bz w 1 rfl (by simp[ag]) rfl λh6 w=>?_;have rr:=hM (xs:=kQ (s.add r).l) (w.blk 1 rfl);refine jW rr 0 (show 0<8 by decide) (jW rr 1 (show 1<8 by decide) (jW rr 2 (show 2<8 by decide) (jW rr 3 (show 3<8 by decide) (jW rr 4 (show 4<8 by decide) (jW rr 5 (show 5<8 by decide) (jW rr 6 (show 6<8 by decide) (jW rr 7 (show 7<8 by decide) ?_)))))));exact k h6 w.keep
end Go.Proofs.YtmfcgihgdhfalaaGreatDoor
namespace Go.Proofs.YtmfcgihgdhfalaaGreatDoor
open Go.Sh Go.RowKit Go.ChangeShapes Go.WideShapes Go.ChangeAt
theorem Tryz.own:ownKnob Tryz.prog.godebug=none:=by kernel_rfl
theorem Tryz.laidOut:laidOutB Tryz.prog=true:=by kernel_rfl
theorem oA{W:World}{name:String}{k:IntKind}{zs:List Int}{g:Nat}(h:Lib.TabIs Tryz.prog W name k zs)(hg:Tryz.prog.globalNamed name=some g):Sh.rowAt (hp W) ⟨g,0,none⟩ (zs.map (Value.int k)):=by
 intro i hi;rw[List.length_map]at hi;have:=h.cell hg i hi;rw[aS,Nat.zero_add];rw[List.getElem?_map,List.getElem?_eq_getElem hi];have e:zs.getD i 0=zs[i]:=by simp[List.getD,hi]
 rw[e]at this;exact this
theorem Q9:Tryz.prog.globalNamed "cofferdam/sha.first" = some 1:=by kernel_rfl
theorem QI:Tryz.prog.globalNamed "cofferdam/sha.round" = some 3:=by kernel_rfl
theorem Rf:Tryz.prog.globalNamed "math/bits.deBruijn64tab" = some 7:=by kernel_rfl
def K0(l:List U):List Int:=l.map ui
theorem RI:(Rows.laid_cofferdam_sha_first:DataW Unit)=Lib.tabData .u32 (K0 S8.first.l):=by kernel_rfl
theorem R6:(Rows.laid_cofferdam_sha_round:DataW Unit)=Lib.tabData .u32 (K0 tr):=by kernel_rfl
theorem RG:(Rows.laid_math_bits_deBruijn64tab:DataW Unit)=Lib.tabData .u8 Pr:=by kernel_rfl
def RZ:List Int:=[0,1,28,2,29,14,24,3,30,22,20,15,25,17,4,8,31,27,13,23,21,19,16,7,26,12,18,6,11,5,10,9]
theorem OL(l:List U):(K0 l).map (Value.int .u32)=kQ l:=by rw[K0,List.map_map];rfl
theorem p3:mapsRowed Tryz.prog=true:=by kernel_rfl
theorem p7:(Tryz.prog.stops == [])=true:=by kernel_rfl
theorem p9:(Tryz.prog.stopKnobs == [])=true:=by kernel_rfl
theorem O8:(Rows.commitFormatsRow.plainKeys == Tryz.prog.plainKeys)=true:=by kernel_rfl
theorem RP:Tryz.prog.stopsHeard=true:=by kernel_rfl
theorem Rz:Tryz.prog.mayEnter=true:=by kernel_rfl
theorem Ss:(Rows.commitFormatsRow.lifted == Tryz.prog.liftsFinal)=true:=by kernel_rfl
theorem R7:(Tryz.prog.make == some Rows.commitFormatsRow.make)=true:=by kernel_rfl
theorem nr{a b:Bool}(h1:a=true)(h2:b=true):(a && b)=true:=by rw[h1,h2];rfl
set_option maxRecDepth 100000 in
theorem MK{f:FuncId}{fn:Func}{s:ChangeSpec}{c:OpenClaim}(k1:c.wf (OpenSpec.ofChange s)=true)(k4:fn.params.all (Tryz.prog.readableRec ·)=true)(k5:namedTie Tryz.prog c.named s.vars=true)(k6:(c.stops == [])=true)(k8:(c.knobs == [])=true)(Ny:(c.inPlace == Tryz.prog.inPlace f)=true)(u7:(c.unfollowed == Tryz.prog.unfollowed f)=true)(yb:(c.recurses == Tryz.prog.recurses f)=true)(Cz:(c.named == Tryz.prog.varsNamed f)=true)(Mv:(c.maps == (fn.params.toList++s.plain.varTypes Tryz.prog).any (Tryz.prog.mapsRec ·))=true)(Sb:(c.ifaces == (fn.params.toList++s.plain.varTypes Tryz.prog).any (Tryz.prog.ifacesRec ·))=true)(N0:(c.mapsOut == Tryz.prog.mapsAmong fn.resultTypes.toList)=true)(Jf:(c.loops == (fn.params.toList++s.plain.varTypes Tryz.prog).any (Tryz.prog.loopsFrom ·))=true)(P7:(c.wideKeys == (fn.params.toList++s.plain.varTypes Tryz.prog++fn.resultTypes.toList).any (Tryz.prog.wideKeysFrom ·))=true)(Q0:s.vars.all (Tryz.prog.varReadable ·)=true)(St:fn.resultTypes.all (λt=>Tryz.prog.readableRec t && decide (t<Tryz.prog.types.size))=true)(PT:(c.ifacesOut == fn.resultTypes.toList.any (Tryz.prog.ifacesRec ·))=true)(RY:(c.loopsOut == fn.resultTypes.toList.any (Tryz.prog.loopsFrom ·))=true)(e22:c.plainKeys=Rows.commitFormatsRow.plainKeys)(RR:c.shortTexts.isNone=true)(e24b:c.lifted=Rows.commitFormatsRow.lifted)(e24c:c.make=Rows.commitFormatsRow.make)(R5:(c.kinds == (if c.domain.isEmpty then [] else fn.params.toList.map λt=>match Tryz.prog.underlying t with|some (.int k)=>some k|_=>none))=true)(Sj:(c.pinned == c.pinnedBy)=true)(Su:(c.veiled == (fn.params.toList++s.plain.varTypes Tryz.prog++fn.resultTypes.toList).any (Tryz.prog.veiledRec ·))=true)(RH:c.veiledFits Tryz.prog fn.params.toList (fn.params.toList++s.plain.varTypes Tryz.prog++fn.resultTypes.toList)=true):joinedFacts Tryz.prog f fn s c=true:=by
 have k2:=Tryz.laidOut;have k3:=p3;have k7:=p7;have k9:=p9;have k23b:=RP;have k24:=Rz;have k22:=O8;have k24b:=Ss;have k24c:=R7;rw[←e22]at k22;rw[←e24b]at k24b;rw[←e24c]at k24c;unfold joinedFacts;exact(nr (nr (nr (nr (nr (nr (nr (nr (nr (nr (nr (nr (nr (nr (nr (nr (nr (nr (nr (nr (nr (nr (nr (nr (nr (nr (nr (nr (nr (nr (nr k1 k2) k3) k4) k5) k6) k7) k8) k9) Ny) u7) yb) Cz) Mv) Sb) N0) Jf) P7) Q0) St) PT) RY) k22) RR) k23b) k24) k24b) k24c) R5) Sj) Su) RH)
end Go.Proofs.YtmfcgihgdhfalaaGreatDoor
namespace Go.Proofs.YtmfcgihgdhfalaaGreatDoor
open Go.Sh Go.RowKit
theorem Ac(l m:List U)(i:Nat)(h:i<l.length):jV (l++m) i=jV l i:=by
 simp[jV,List.getElem?_append_left h,h]
theorem Lm(sc:Nat->List U)(ws:List U)(m:Nat)(hm:m<48)(hl:(sc m).length=16+m)(v:U):(kQ (sc m++List.replicate (48-m) 0)).toArray.setIfInBounds (16+m) (.int .u32 (ui v))=(kQ ((sc m++[v])++List.replicate (48-(m+1)) 0)).toArray:=by
 rw[List.setIfInBounds_toArray];congr 1;obtain⟨q,hq⟩:∃q,48-m=q+1:=⟨47-m,by omega⟩;rw[hq,oK,List.set_append_right _ _ (by rw[jd];omega),jd,hl,Nat.sub_self,List.replicate_succ,show kQ ((0:U)::List.replicate q 0)=uv 0::kQ (List.replicate q 0)from rfl,List.set_cons_zero,show 48-(m+1)=q by omega,oK,oK,List.append_assoc];rfl
theorem dN{z:Int}{K:Int->Prop}(k:K z):M.val z K:=k
theorem B8{h:H}{t:ByteArray}{Q:Array Value->H->Prop}(ht:t.size=64)(k:∀h',bq h h'->Q (kQ (gX (bP true t) 48)).toArray h'):fe t h Q:=by
 unfold fe;refine M.aK (Wd.start h) λb2 h1 w=>M.aK w λb4 h2 w=>?_;refine xK (by omega) (by omega) λa6 c8 h3 w'=>?_;have w:=w.join w';clear w';have e16:t.size/4=16:=by omega
 have hl16:(bP true t).length=16:=by rw[ju,ht]
 rw[e16]at w ⊢;generalize bP true t=ws at *;refine⟨by omega,by omega,by omega,?_⟩;obtain⟨q1,_,q3,q4⟩:=w.mI 2 rfl;refine M.nL (xs:=kQ ws) (by rw[jd,hl16];rfl) (λe=>(q3 e).1) q4 ?_;refine M.vM (vs:=kQ ws) (o:=0) w 1 rfl (pX _) (by simp[jd,hl16]) λh4 w=>?_;obtain⟨sc,h0,hS,hE⟩:∃sc:Nat->List U,sc 0=ws∧(∀n,sc (n+1)=sc n++[xU (sc n)])∧gX ws 48=sc 48:=⟨gX ws,rfl,λ_=>rfl,rfl⟩;have hlen:∀m,(sc m).length=16+m:=by
  intro m;induction m with
  | zero=>rw[h0,hl16]
  | succ m ih=>rw[hS,List.length_append,ih];rfl
 rw[hE]at k;refine M.aP (I:=λ(i:Int) h'=>∃m:Nat,m≤48∧i=((16+m:Nat):Int)∧Wd h h' [.blk b2 (.cells (kQ (List.replicate 64 (0:U))).toArray 402),.blk b4 (.cells (kQ (sc m++List.replicate (48-m) 0)).toArray 402),.sl 230 1 a6 16 c8 (kQ ws)]) (μ:=λi=>(64-i).toNat) ⟨0,by omega,rfl,?_⟩ ?_
 ·have e:splice (Array.replicate 64 (Value.int .u32 0)) 0 (kQ ws)=(kQ (sc 0++List.replicate (48-0) 0)).toArray:=by
   rw[h0];apply Array.ext_getElem?;intro i;rw[nB _ _ _ (by simp[jd,hl16])];simp only[List.getElem?_toArray,oK,jd,hl16,Nat.zero_le,true_and,Nat.zero_add,Nat.sub_zero];by_cases hi:i<16
   ·rw[if_pos hi,List.getElem?_append_left (by rw[jd];omega)]
   ·rw[if_neg hi,List.getElem?_append_right (by rw[jd];omega),jd,hl16];have z48:kQ (List.replicate 48 (0:U))=List.replicate 48 (Value.int .u32 0):=by rw[kQ,List.map_replicate];rfl
    rw[z48,Array.getElem?_replicate,List.getElem?_replicate];by_cases h64:i<64
    ·rw[if_pos h64,if_pos (by omega)]
    ·rw[if_neg h64,if_neg (by omega)]
  have e2:(Array.replicate 64 (Value.int .u32 0))=(kQ (List.replicate 64 (0:U))).toArray:=by rfl
  simp only[List.set_cons_succ,List.set_cons_zero,e]at w;rw[←e2];exact w
 rintro i h5 J ⟨m,hm,rfl,w⟩ hJ;by_cases hlt:m<48
 ·have:((16+m:Nat):Int)<64:=by omega
  simp only[this,decide_true,cond_true];have v1:wrap .i64 (((16+m:Nat):Int)-15)=((m+1:Nat):Int):=by rw[IntKind.wrap_i64];omega
  have v2:wrap .i64 (((16+m:Nat):Int)-2)=((m+14:Nat):Int):=by rw[IntKind.wrap_i64];omega
  have v3:wrap .i64 (((16+m:Nat):Int)-7)=((m+9:Nat):Int):=by rw[IntKind.wrap_i64];omega
  have v4:wrap .i64 (((16+m:Nat):Int)-16)=((m:Nat):Int):=by rw[IntKind.wrap_i64];omega
  have v5:wrap .i64 (((16+m:Nat):Int)+1)=((16+(m+1):Nat):Int):=by rw[IntKind.wrap_i64];omega
  have hl:=hlen m;have r4:=hM (w.blk 1 rfl);have hr:(sc m++List.replicate (48-m) (0:U)).length=64:=by simp[hl];omega
  have s3:∀x:U,shr .u32 (ui x) (3:Int)=ui (x >>> 3):=λx=>Ee x 3;have s10:∀x:U,shr .u32 (ui x) (10:Int)=ui (x >>> 10):=λx=>Ee x 10;refine dN (iT r4 (m+1) v1 (by omega) hr ?_);refine dN (iT r4 (m+14) v2 (by omega) hr ?_);refine lp (lp ?_);refine dN ⟨by omega,dN (dN ?_)⟩;refine lp (lp ?_);refine dN ⟨by omega,dN (dN (dN ?_))⟩;refine iT r4 m v4 (by omega) hr ?_;refine dN (dN ?_);refine iT r4 (m+9) v3 (by omega) hr ?_;refine dN (dN ?_);have en:jV (sc m++List.replicate (48-m) 0) m+(BitVec.rotateRight (jV (sc m++List.replicate (48-m) 0) (m+1)) 7 ^^^ BitVec.rotateRight (jV (sc m++List.replicate (48-m) 0) (m+1)) 18 ^^^ jV (sc m++List.replicate (48-m) 0) (m+1) >>> 3)+jV (sc m++List.replicate (48-m) 0) (m+9)+(BitVec.rotateRight (jV (sc m++List.replicate (48-m) 0) (m+14)) 17 ^^^ BitVec.rotateRight (jV (sc m++List.replicate (48-m) 0) (m+14)) 19 ^^^ jV (sc m++List.replicate (48-m) 0) (m+14) >>> 10)=xU (sc m):=by
   rw[Ac _ _ _ (by omega),Ac _ _ _ (by omega),Ac _ _ _ (by omega),Ac _ _ _ (by omega)];unfold xU vn;rw[hl,show 16+m-16=m by omega,show 16+m-15=m+1 by omega,show 16+m-7=m+9 by omega,show 16+m-2=m+14 by omega]
  refine⟨by omega,by omega,?_⟩;show M.put h5 (Addr.add ⟨b4,0,none⟩ (((16+m:Nat):Int).toNat * 1)) _ _;rw[aS,Int.toNat_natCast,Nat.mul_one,Nat.zero_add];refine M.bg w 1 rfl rfl (by simp[jd,hl];omega) λh6 w=>?_;simp only[s3,s10,nU,kj,Int.reduceMod,Int.reduceToNat,en,List.set_cons_succ,List.set_cons_zero,Lm sc ws m hlt hl,←hS]at w;show J (wrap .i64 (((16+m:Nat):Int)+1)) h6;rw[v5];exact hJ _ _ ⟨m+1,by omega,rfl,w⟩ (by omega)
 ·have hm48:m=48:=by omega
  subst hm48;have:¬((16+48:Nat):Int)<64:=by omega
  simp only[this,decide_false,cond_false];have hl:=hlen 48;rw[Nat.sub_self,List.replicate_zero,List.append_nil]at w;generalize sc 48=s48 at w k hl;refine M.Ae (w.blk 1 rfl) (by simp[jd,hl]) ?_;refine⟨by simp[jd,hl],?_⟩;refine M.bz w 0 rfl (pX _) (by simp[jd,hl]) λh6 w=>?_;refine M.Ae (w.blk 0 rfl) (by simp[jd,hl]) ?_;exact k h6 w.keep
def pM(n:Nat):Nat:=(119-n%64)%64
theorem Ad(n:Nat):(n+1+pM n)%64=56∧pM n<64∧∀j,j<pM n->(n+1+j)%64≠56:=by
 unfold pM;refine⟨by omega,by omega,λj hj=>by omega⟩
def kL(n:Nat):ByteArray:=ofBytes (List.replicate n 0)
def AN(n:Nat):List U:=[BitVec.ofNat 32 (8*n/4294967296),BitVec.ofNat 32 (8*n)]
def q8(n:Nat):ByteArray:=(⟨#[128]⟩++kL (pM n))++lf true (AN n)
theorem nK(n:Nat):(kL n).size=n:=by
 unfold kL ofBytes ByteArray.size;simp
def pF(s:S8)(t:ByteArray):Nat->S8
 | 0=>s
 | k+1=>(pF s t k).block (t.extract (64*k) (64*k+64))
def nO(s:ByteArray):ByteArray:=lf true (pF S8.first (s++q8 s.size) ((s.size+(q8 s.size).size)/64)).l
def BG(s:ByteArray):List Int:=s.data.toList.map λb=>(b.toNat:Int)
theorem zv(s:ByteArray):bytesOf s=oT (BG s):=by simp[bytesOf,oT,BG]
theorem Bt(s:ByteArray):ofBytes (BG s)=s:=by
 obtain⟨d⟩:=s;have:(λz:Int=>UInt8.ofNat z.toNat) ∘ (λb:UInt8=>(b.toNat:Int))=id:=by funext b;simp
 simp[ofBytes,BG,this]
theorem y7(a b:List Int):ofBytes (a++b)=ofBytes a++ofBytes b:=by
 apply ByteArray.ext;simp[ofBytes]
theorem OM(n:Nat)(hn:n≤1000000000):wrap .u32 (wrap .i64 (Int.tdiv (8*(n:Int)) 4294967296))=ui (BitVec.ofNat 32 (8*n/4294967296))∧wrap .u32 (Int.tmod (8*(n:Int)) 4294967296)=ui (BitVec.ofNat 32 (8*n)):=by
 rw[Int.tdiv_eq_ediv_of_nonneg (by omega),Int.tmod_eq_emod_of_nonneg (by omega),IntKind.wrap_u32,IntKind.wrap_u32,IntKind.wrap_i64,ui,ui,BitVec.toNat_ofNat,BitVec.toNat_ofNat];omega
theorem GL{h:H}{s:ByteArray}{Q:ByteArray->H->Prop}(hs:s.size≤1000000)(k:∀h',bq h h'->Q (s++q8 s.size) h'):fD s h Q:=by
 unfold fD;have hmax:IntKind.i64.max=9223372036854775807:=by decide
 have hz2:(s++(⟨#[128]⟩:ByteArray)).size=s.size+1:=by rw[ByteArray.size_append];rfl
 refine⟨by rw[hmax];show((s.size+1:Nat):Int)≤_;omega,?_⟩;refine M.Pe (Wd.start h) λb c h1 w=>?_;rw[hz2]at w ⊢;rw[zv]at w;generalize hzs:BG (s++(⟨#[128]⟩:ByteArray))=zs at w;obtain⟨p1,p2,p3⟩:=Ad s.size;refine M.jn ?_;refine M.aP (I:=λ(p:Option Addr×Nat×Nat) h'=>∃j,j≤pM s.size∧p.2.1=s.size+1+j∧Wd h h' [.sl 5 1 p.1 p.2.1 p.2.2 (oT (zs++List.replicate j 0))]) (μ:=λp=>s.size+1+pM s.size-p.2.1) ⟨0,by omega,rfl,by simpa using w⟩ ?_;rintro⟨a2,l2,c2⟩ h2 J ⟨j,hj,hl,w⟩ hJ;simp only at hl w ⊢;subst hl;refine⟨by omega,?_⟩;by_cases hlt:j<pM s.size
 ·have e:(Int.tmod ((s.size+1+j:Nat):Int) 64 != 56)=true:=by
   have:=p3 j hlt;rw[Int.tmod_eq_emod_of_nonneg (by omega),bne_iff_ne];omega
  simp only[M.val,e,cond_true];refine Wd.push (n:=1) (new:=[Value.int .u8 0]) w 0 rfl rfl rfl (by simp[ag]) (by omega) (by omega) λa3 c3 h3 w=>?_;refine hJ _ _ ⟨j+1,by omega,rfl,?_⟩ (by simp only;omega);rw[List.replicate_succ',←List.append_assoc,xC];exact w
 ·have hje:j=pM s.size:=by omega
  subst hje;have e:(Int.tmod ((s.size+1+pM s.size:Nat):Int) 64 != 56)=false:=by
   rw[Int.tmod_eq_emod_of_nonneg (by omega),bne_eq_false_iff_eq];omega
  have v1:wrap .i64 (8*(s.size:Int))=8*(s.size:Int):=by rw[IntKind.wrap_i64];omega
  obtain⟨l1,l2'⟩:=OM s.size (by omega);simp only[e,cond_false,M.val,v1,l1,l2'];refine⟨by omega,by omega,?_⟩;refine M.aK w λb26 h3 w=>?_;have rb:=hM (xs:=kQ (AN s.size)) (w.blk 1 rfl);refine xJ (us:=AN s.size) ⟨rfl,by simp[AN],λe=>by simp at e,λb' e=>by simp only[Option.some.injEq]at e;subst e;exact rb⟩ λh4 k4=>?_;have w:=w.keeps k4;refine w.text 0 rfl ?_;have ez:ofBytes (zs++List.replicate (pM s.size) 0)=(s++(⟨#[128]⟩:ByteArray))++kL (pM s.size):=by rw[y7,←hzs,Bt];rfl
  rw[ez];refine⟨?_,?_⟩
  ·rw[hmax,ByteArray.size_append,hz2,nK,kV];simp[AN];omega
  ·have:=k h4 w.keep;rw[q8,←ByteArray.append_assoc,←ByteArray.append_assoc]at this;exact this
theorem x9(n:Nat):(n+(q8 n).size)%64=0∧(q8 n).size≤80:=by
 have h1:(q8 n).size=1+pM n+8:=by
  rw[q8,ByteArray.size_append,ByteArray.size_append,nK,kV];rfl
 obtain⟨p1,p2,_⟩:=Ad n;rw[h1];omega
theorem GA{h:H}{s:ByteArray}{Q:ByteArray->H->Prop}(hs:s.size≤1000000)(tb:qa h)(k:∀h',bq h h'->Q (nO s) h'):iE s h Q:=by
 unfold iE;refine GL hs λh1 k1=>?_;have tb1:=tb.keep k1;refine jW tb1.f2 0 (by decide) (jW tb1.f2 1 (by decide) (jW tb1.f2 2 (by decide) (jW tb1.f2 3 (by decide) (jW tb1.f2 4 (by decide) (jW tb1.f2 5 (by decide) (jW tb1.f2 6 (by decide) (jW tb1.f2 7 (by decide) ?_)))))));refine M.aK ((Wd.start h1).base k1) λb20 h2 w=>?_;refine⟨rfl,M.bz w 0 rfl (by simp[ag]) rfl λh3 w=>?_⟩;obtain⟨q1,q2⟩:=x9 s.size;have hts:(s++q8 s.size).size=s.size+(q8 s.size).size:=ByteArray.size_append ..;obtain⟨N,hN⟩:∃N,s.size+(q8 s.size).size=64*N:=⟨(s.size+(q8 s.size).size)/64,by omega⟩;have hdig:nO s=lf true (pF S8.first (s++q8 s.size) N).l:=by rw[nO,hN,Nat.mul_div_cancel_left _ (by omega)]
 rw[hdig]at k;rw[hN]at hts;generalize s++q8 s.size=t at hts k ⊢;obtain⟨F,f0,fs,fN⟩:∃F:Nat->S8,F 0=S8.first∧(∀n,F (n+1)=(F n).block (t.extract (64*n) (64*n+64)))∧pF S8.first t N=F N:=⟨pF S8.first t,rfl,λ_=>rfl,rfl⟩
 rw[fN]at k;refine M.jn ?_;refine M.aP (I:=λ(i:Int) h'=>∃n:Nat,n≤N∧i=((64*n:Nat):Int)∧Wd h h' [.blk b20 (.cells (kQ (F n).l).toArray 365)]) (μ:=λi=>(64*N-i).toNat) ⟨0,by omega,rfl,by rw[f0];exact w⟩ ?_;rintro i h4 J ⟨n,hn,rfl,w⟩ hJ;have r:=hM (w.blk 0 rfl);by_cases hlt:n<N
 ·have:((64*n:Nat):Int)<(t.size:Int):=by omega
  simp only[this,decide_true,cond_true];have v1:wrap .i64 (((64*n:Nat):Int)+64)=((64*(n+1):Nat):Int):=by rw[IntKind.wrap_i64];omega
  refine jW r 0 (by simp[S8.l]) (jW r 1 (by simp[S8.l]) (jW r 2 (by simp[S8.l]) (jW r 3 (by simp[S8.l]) (jW r 4 (by simp[S8.l]) (jW r 5 (by simp[S8.l]) (jW r 6 (by simp[S8.l]) (jW r 7 (by simp[S8.l]) ?_)))))));rw[v1];refine⟨by omega,by omega,by omega,?_⟩;have ex:(t.extract ((64*n:Nat):Int).toNat ((64*(n+1):Nat):Int).toNat)=t.extract (64*n) (64*n+64):=by
   rw[Int.toNat_natCast,Int.toNat_natCast];rfl
  simp only[ex];refine Cc (s:=F n) (by rw[ByteArray.size_extract];omega) (tb.keep w.keep) λh5 k5=>?_;have w:=w.keeps k5;rw[←fs n];refine⟨rfl,M.bz w 0 rfl (by simp[ag]) rfl λh6 w=>?_⟩;exact hJ _ _ ⟨n+1,by omega,rfl,w⟩ (by omega)
 ·have hnN:n=N:=by omega
  subst hnN;have:¬((64*n:Nat):Int)<(t.size:Int):=by omega
  simp only[this,decide_false,cond_false];refine M.jn ?_;have hl8:(F n).l.length=8:=rfl;generalize (F n).l=us at r k hl8;refine M.aP (I:=λ(p:(Option Addr×Nat×Nat)×Int) h'=>∃m:Nat,m≤8∧p.2=(m:Int)∧p.1.2.1=m∧Wd h4 h' [.sl 230 1 p.1.1 p.1.2.1 p.1.2.2 (kQ (us.take m))]) (μ:=λp=>(8-p.2).toNat) ⟨0,by omega,rfl,rfl,(Wd.start h4).jt _ _⟩ ?_;rintro⟨⟨a2,l2,c2⟩,i⟩ h5 J2 ⟨m,hm,hi,hl,w2⟩ hJ2;simp only at hi hl w2 ⊢;subst hi hl;by_cases h8:l2<8
  ·have:(l2:Int)<8:=by omega
   simp only[this,decide_true,cond_true];have v1:wrap .i64 ((l2:Int)+1)=((l2+1:Nat):Int):=by rw[IntKind.wrap_i64];omega
   refine iT (w2.keep.row r) l2 rfl h8 hl8 ?_;refine Wd.push (n:=1) (new:=[Value.int .u32 (ui (jV us l2))]) w2 0 rfl rfl rfl (by simp[ag]) (by omega) (by omega) λa3 c3 h6 w3=>?_;rw[v1];refine hJ2 _ _ ⟨l2+1,by omega,rfl,rfl,?_⟩ (by simp only;omega);have hi:l2<us.length:=by omega
   rw[rX us l2 hi]at w3;simp only[List.take_succ_eq_append_getElem hi,oK];exact w3
  ·have:¬(l2:Int)<8:=by omega
   simp only[this,decide_false,cond_false];rw[List.take_of_length_le (by omega)]at w2;refine xJ (tB w2 0 rfl (by omega)) λh6 k6=>?_;exact k h6 ((w.keep.trans w2.keep).trans k6)
end Go.Proofs.YtmfcgihgdhfalaaGreatDoor

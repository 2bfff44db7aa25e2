/- The shallow forms of the functions of this seat, printed by a program of mine, each checked by the kernel against the given code. -/
import Derived.Test.YthegnmanjdlmjaaGreatDoorS09
set_option linter.unusedSimpArgs false
set_option linter.unusedVariables false
namespace Go.Proofs.YthegnmanjdlmjaaGreatDoor
open Go.Sh
def stripe_Load.g (F0:type_of% stripe_may) (F1:type_of% stripe_Shelf_get) (F2:type_of% rs_Decode) (x0:Option Addr) (x0L x0C:Nat) (x1:Int) (h:H) (Q:Option Addr→Nat→Nat→Option Addr→Nat→Nat→Int→H→Prop):Prop:=
M.val (IntKind.wrap .i64 ((x0L:Int)-2)) fun z8=>
F0 z8 h fun b9 h10=>
(bif (!b9) then
Q none 0 0 none 0 0 2 h10
else
M.join (α:=(Option Addr × Nat × Nat) × (Option Addr × Nat × Nat)) (fun d28 h29=>
M.join (α:=(Option Addr × Nat × Nat)) (fun d81 h82=>
F2 d28.1.1 d28.1.2.1 d28.1.2.2 d28.2.1 d28.2.2.1 d28.2.2.2 h82 fun a83 l84 c85 n86 h87=>
(bif (n86 != 0) then
Q none 0 0 none 0 0 n86 h87
else
Q a83 l84 c85 d81.1 d81.2.1 d81.2.2 0 h87)) fun J30=>
M.loop (α:=(Option Addr × Nat × Nat) × Int) (fun J31 d32 h33=>
(bif (decide (d32.2<(x0L:Int))) then
M.idx x0 x0L d32.2 fun a34 j35=>
M.load h33 ((Addr.add a34 (j35*6)).add 0) fun v36=>
M.ptr v36 fun p37=>
M.load h33 ((Addr.add a34 (j35*6)).add 1) fun v38=>
M.int .i64 v38 fun n39=>
M.load h33 ((Addr.add a34 (j35*6)).add 2) fun v40=>
M.int .i64 v40 fun n41=>
M.load h33 ((Addr.add a34 (j35*6)).add 3) fun v42=>
M.str v42 fun s43=>
M.load h33 ((Addr.add a34 (j35*6)).add 4) fun v44=>
M.str v44 fun s45=>
M.load h33 ((Addr.add a34 (j35*6)).add 5) fun v46=>
M.bool v46 fun b47=>
M.new h33 (.cells #[.pointer none,.int .i64 0,.int .i64 0,.string ByteArray.empty,.string ByteArray.empty,.bool false] 85) fun b48 h49=>
M.req (Array.size (#[.pointer p37,.int .i64 n39,.int .i64 n41,.string s43,.string s45,.bool b47]:Array Value)=6) (M.puts h49 ⟨b48,0,none⟩ [.pointer p37,.int .i64 n39,.int .i64 n41,.string s43,.string s45,.bool b47] fun h50=>
M.load h50 (Addr.add ⟨b48,0,none⟩ 0) fun v51=>
M.ptr v51 fun p52=>
M.load h50 (Addr.add ⟨b48,0,none⟩ 1) fun v53=>
M.int .i64 v53 fun n54=>
M.load h50 (Addr.add ⟨b48,0,none⟩ 2) fun v55=>
M.int .i64 v55 fun n56=>
M.load h50 (Addr.add ⟨b48,0,none⟩ 3) fun v57=>
M.str v57 fun s58=>
M.load h50 (Addr.add ⟨b48,0,none⟩ 4) fun v59=>
M.str v59 fun s60=>
M.load h50 (Addr.add ⟨b48,0,none⟩ 5) fun v61=>
M.bool v61 fun b62=>
F1 p52 n54 n56 s58 s60 b62 x1 h50 fun s63 n64 h65=>
(bif (n64 == 21) then
Q none 0 0 none 0 0 n64 h65
else
(bif (n64 == 0) then
M.idx d28.1.1 d28.1.2.1 d32.2 fun a66 j67=>
M.put h65 (Addr.add a66 (j67*1)) (.string s63) fun h68=>
M.idx d28.2.1 d28.2.2.1 d32.2 fun a69 j70=>
M.put h68 (Addr.add a69 (j70*1)) (.bool true) fun h71=>
M.val (IntKind.wrap .i64 (d32.2+1)) fun z72=>
J31 ((d32.1.1,d32.1.2.1,d32.1.2.2),z72) h71
else
M.new h65 (.cells #[.int .i64 d32.2] 3) fun b73 h74=>
M.cellsOf h74 (some ⟨b73,0,none⟩) (1*1) fun cs79=>
M.app h74 3 1 8 [.int .i64 0] d32.1.1 d32.1.2.1 d32.1.2.2 1 cs79 fun a75 l76 c77 h78=>
M.val (IntKind.wrap .i64 (d32.2+1)) fun z80=>
J31 ((a75,l76,c77),z80) h78)))
else
J30 (d32.1.1,d32.1.2.1,d32.1.2.2) h33)) ((none,0,0),0) h29) fun J11=>
(M.mk h10 9 [.string ByteArray.empty] 16 (x0L:Int) (x0L:Int) fun a12 l13 c14 h15=>
M.mk h15 4 [.bool false] 1 (x0L:Int) (x0L:Int) fun a16 l17 c18 h19=>
J11 ((a12,l13,c14),(a16,l17,c18)) h19) ∧
(M.mk h10 4 [.bool false] 1 (x0L:Int) (x0L:Int) fun a20 l21 c22 h23=>
M.mk h23 9 [.string ByteArray.empty] 16 (x0L:Int) (x0L:Int) fun a24 l25 c26 h27=>
J11 ((a24,l25,c26),(a20,l21,c22)) h27))
def stripe_Load:=stripe_Load.g stripe_may stripe_Shelf_get rs_Decode
def stripe_Load.L (F:type_of% stripe_Load):LT
 | [.slice x0 x0L x0C,.int .i64 x1]=>fun Q h=>F x0 x0L x0C x1 h fun a96 l97 c98 a99 l100 c101 n102 h103=>Q (.tuple #[.slice a96 l97 c98,.slice a99 l100 c101,.int .i64 n102]) h103
 | _=>fun _ _=>False
def stripe_Load.ann:Ann:=⟨lookN [(3,[(7,.slc),(8,.slc)])],lookN [(31,[(9,.slc)])],lookN [(250,[(9,.slc),(29,.int .i64)])]⟩
theorem stripe_Load.geq (F0) (F1) (F2):∀ l,OkL (evF Tryz.prog (envOf [(78,WL (stripe_may.L F0)),(84,WL (stripe_Shelf_get.L F1)),(85,WL (rs_Decode.L F2))]) Tryz.f36 stripe_Load.ann) l (stripe_Load.L (stripe_Load.g F0 F1 F2) l):=by
 intro l; unfold stripe_Load.L; split; exact .inr (by intros; kernel_rfl); exact .inl rfl
theorem stripe_Load.good:FnGood Tryz.prog 36 (WL (stripe_Load.L stripe_Load)):=.ofL mixed (.cons stripe_may.good (.cons stripe_Shelf_get.good (.cons rs_Decode.good .nil))) Tryz.func36 Tryz.call36 (stripe_Load.geq stripe_may stripe_Shelf_get rs_Decode)
def stripe_One.g (F0:type_of% stripe_may) (F1:type_of% stripe_Shelf_get) (F2:type_of% stripe_Load) (x0:Option Addr) (x0L x0C:Nat) (x1 x2:Int) (h:H) (Q:ByteArray→Int→H→Prop):Prop:=
M.join (α:=Bool) (fun d7 h8=>
(bif d7 then
Q ByteArray.empty 2 h8
else
M.idx x0 x0L x2 fun a9 j10=>
M.load h8 ((Addr.add a9 (j10*6)).add 0) fun v11=>
M.ptr v11 fun p12=>
M.load h8 ((Addr.add a9 (j10*6)).add 1) fun v13=>
M.int .i64 v13 fun n14=>
M.load h8 ((Addr.add a9 (j10*6)).add 2) fun v15=>
M.int .i64 v15 fun n16=>
M.load h8 ((Addr.add a9 (j10*6)).add 3) fun v17=>
M.str v17 fun s18=>
M.load h8 ((Addr.add a9 (j10*6)).add 4) fun v19=>
M.str v19 fun s20=>
M.load h8 ((Addr.add a9 (j10*6)).add 5) fun v21=>
M.bool v21 fun b22=>
F1 p12 n14 n16 s18 s20 b22 x1 h8 fun s23 n24 h25=>
M.join (α:=Bool) (fun d27 h28=>
(bif d27 then
Q s23 n24 h28
else
F2 x0 x0L x0C x1 h28 fun a29 l30 c31 a32 l33 c34 n35 h36=>
(bif (n35 != 0) then
Q ByteArray.empty n35 h36
else
M.idx a29 l30 x2 fun a37 j38=>
M.load h36 (Addr.add a37 (j38*1)) fun v39=>
M.str v39 fun s40=>
Q s40 0 h36))) fun J26=>
(bif (n24 == 0) then
J26 true h25
else
J26 (n24 == 21) h25))) fun J3=>
M.val (IntKind.wrap .i64 ((x0L:Int)-2)) fun z4=>
F0 z4 h fun b5 h6=>
(bif (!b5) then
J3 true h6
else
(bif (decide (x2<0)) then
J3 true h6
else
J3 (decide (x2 ≥ (x0L:Int))) h6))
def stripe_One:=stripe_One.g stripe_may stripe_Shelf_get stripe_Load
def stripe_One.L (F:type_of% stripe_One):LT
 | [.slice x0 x0L x0C,.int .i64 x1,.int .i64 x2]=>fun Q h=>F x0 x0L x0C x1 x2 h fun s44 n45 h46=>Q (.tuple #[.string s44,.int .i64 n45]) h46
 | _=>fun _ _=>False
def stripe_One.ann:Ann:=⟨lookN [(1,[(26,.bool)]),(4,[(41,.bool)])],lookN [],lookN []⟩
theorem stripe_One.geq (F0) (F1) (F2):∀ l,OkL (evF Tryz.prog (envOf [(78,WL (stripe_may.L F0)),(84,WL (stripe_Shelf_get.L F1)),(36,WL (stripe_Load.L F2))]) Tryz.f37 stripe_One.ann) l (stripe_One.L (stripe_One.g F0 F1 F2) l):=by
 intro l; unfold stripe_One.L; split; exact .inr (by intros; kernel_rfl); exact .inl rfl
theorem stripe_One.good:FnGood Tryz.prog 37 (WL (stripe_One.L stripe_One)):=.ofL mixed (.cons stripe_may.good (.cons stripe_Shelf_get.good (.cons stripe_Load.good .nil))) Tryz.func37 Tryz.call37 (stripe_One.geq stripe_may stripe_Shelf_get stripe_Load)
def law19_wakes.g (F0:type_of% law19_blocksOf) (F1:type_of% law19_lay) (F2:type_of% bank_Bank_Disk) (F3:type_of% disk_Disk_Fail) (F4:type_of% stripe_Load) (F5:type_of% stripe_One) (F6:type_of% stripe_Whole)  (h:H) (Q:Bool→H→Prop):Prop:=
M.new h (.cells #[.int .u8 5,.int .u8 7] 5) fun b2 h3=>
F0 0 (some ⟨b2,0,none⟩) 2 2 h3 fun a4 l5 c6 h7=>
F1 a4 l5 c6 4 1 h7 fun a8 l9 c10 a11 l12 c13 a14 l15 c16 b17 h18=>
(bif (!b17) then
Q false h18
else
M.idx a8 l9 0 fun a19 j20=>
M.load h18 (Addr.add (Addr.add (Addr.add a19 (j20*6)) 0) 0) fun v21=>
M.ptr v21 fun p22=>
F2 p22 0 h18 fun p23 h24=>
F3 p23 h24 fun h25=>
M.idx a8 l9 3 fun a26 j27=>
M.put h25 (Addr.add (Addr.add a26 (j27*6)) 5) (.bool false) fun h28=>
F4 a8 l9 c10 1 h28 fun a29 l30 c31 a32 l33 c34 n35 h36=>
F5 a8 l9 c10 1 0 h36 fun s37 n38 h39=>
M.join (α:=Bool) (fun d55 h56=>
Q d55 h56) fun J40=>
(bif (n35 == 0) then
(bif (n38 == 0) then
(bif ((l33:Int) == 2) then
(bif ((l30:Int) == 4) then
M.idx a29 l30 0 fun a41 j42=>
M.load h39 (Addr.add a41 (j42*1)) fun v43=>
M.str v43 fun s44=>
M.idx a14 l15 0 fun a45 j46=>
M.load h39 (Addr.add a45 (j46*1)) fun v47=>
M.str v47 fun s48=>
(bif (strEq s44 s48) then
M.idx a14 l15 0 fun a49 j50=>
M.load h39 (Addr.add a49 (j50*1)) fun v51=>
M.str v51 fun s52=>
(bif (strEq s37 s52) then
F6 a8 l9 c10 1 h39 fun b53 h54=>
J40 (!b53) h54
else
J40 false h39)
else
J40 false h39)
else
J40 false h39)
else
J40 false h39)
else
J40 false h39)
else
J40 false h39))
def law19_wakes:=law19_wakes.g law19_blocksOf law19_lay bank_Bank_Disk disk_Disk_Fail stripe_Load stripe_One stripe_Whole
def law19_wakes.L (F:type_of% law19_wakes):LT
 | []=>fun Q h=>F  h fun b59 h60=>Q (.bool b59) h60
 | _=>fun _ _=>False
def law19_wakes.ann:Ann:=⟨lookN [(8,[(0,.bool)])],lookN [],lookN []⟩
theorem law19_wakes.geq (F0) (F1) (F2) (F3) (F4) (F5) (F6):∀ l,OkL (evF Tryz.prog (envOf [(29,WL (law19_blocksOf.L F0)),(34,WL (law19_lay.L F1)),(22,WL (bank_Bank_Disk.L F2)),(35,WL (disk_Disk_Fail.L F3)),(36,WL (stripe_Load.L F4)),(37,WL (stripe_One.L F5)),(38,WL (stripe_Whole.L F6))]) Tryz.f33 law19_wakes.ann) l (law19_wakes.L (law19_wakes.g F0 F1 F2 F3 F4 F5 F6) l):=by
 intro l; unfold law19_wakes.L; split; exact .inr (by intros; kernel_rfl); exact .inl rfl
def law19_wakes.W:W:=WL (law19_wakes.L law19_wakes)
theorem law19_wakes.good:FnGood Tryz.prog 33 law19_wakes.W:=.ofL mixed (.cons law19_blocksOf.good (.cons law19_lay.good (.cons bank_Bank_Disk.good (.cons disk_Disk_Fail.good (.cons stripe_Load.good (.cons stripe_One.good (.cons stripe_Whole.good .nil))))))) Tryz.func33 Tryz.call33 (law19_wakes.geq law19_blocksOf law19_lay bank_Bank_Disk disk_Disk_Fail stripe_Load stripe_One stripe_Whole)
def law19_StripeMakes.g (F0:type_of% law19_blocksOf) (F1:type_of% stripe_Make) (F2:type_of% ref19_Make) (F3:type_of% law19_equal) (F4:type_of% law19_wakes) (x0:Int) (x1:Option Addr) (x1L x1C:Nat) (x2:Option Addr) (x2L x2C:Nat) (h:H) (Q:Bool→H→Prop):Prop:=
M.sub x2 x2C 1 0 (mn (x2L:Int) 12) fun a2 l3 c4=>
F0 x0 x1 x1L x1C h fun a5 l6 c7 h8=>
M.new h8 (.cells #[.slice a5 l6 c7,.slice a2 l3 c4] 28) fun b9 h10=>
M.loop (α:=Int) (fun J11 d12 h13=>
(bif (decide (d12<((2:Nat):Int))) then
M.idx (some ⟨b9,0,none⟩) 2 d12 fun a14 j15=>
M.load h13 (Addr.add a14 (j15*1)) fun v16=>
M.slc v16 fun a17 l18 c19=>
F1 a17 l18 c19 h13 fun a20 l21 c22 n23 h24=>
F2 a17 l18 c19 h24 fun a25 l26 c27 n28 h29=>
M.join (α:=Bool) (fun d33 h34=>
(bif d33 then
Q false h34
else
M.val (IntKind.wrap .i64 (d12+1)) fun z35=>
J11 z35 h34)) fun J30=>
F3 a20 l21 c22 a25 l26 c27 h29 fun b31 h32=>
(bif (!b31) then
J30 true h32
else
J30 (n23 != n28) h32)
else
F4  h13 fun b36 h37=>
Q b36 h37)) 0 h10
def law19_StripeMakes:=law19_StripeMakes.g law19_blocksOf stripe_Make ref19_Make law19_equal law19_wakes
def law19_StripeMakes.L (F:type_of% law19_StripeMakes):LT
 | [.int .i64 x0,.slice x1 x1L x1C,.slice x2 x2L x2C]=>fun Q h=>F x0 x1 x1L x1C x2 x2L x2C h fun b40 h41=>Q (.bool b40) h41
 | _=>fun _ _=>False
def law19_StripeMakes.ann:Ann:=⟨lookN [(6,[(45,.bool)])],lookN [],lookN [(26,[(23,.int .i64)])]⟩
theorem law19_StripeMakes.geq (F0) (F1) (F2) (F3) (F4):∀ l,OkL (evF Tryz.prog (envOf [(29,WL (law19_blocksOf.L F0)),(30,WL (stripe_Make.L F1)),(31,WL (ref19_Make.L F2)),(32,WL (law19_equal.L F3)),(33,WL (law19_wakes.L F4))]) Tryz.f8 law19_StripeMakes.ann) l (law19_StripeMakes.L (law19_StripeMakes.g F0 F1 F2 F3 F4) l):=by
 intro l; unfold law19_StripeMakes.L; split; exact .inr (by intros; kernel_rfl); exact .inl rfl
def law19_StripeMakes.W:W:=WL (law19_StripeMakes.L law19_StripeMakes)
theorem law19_StripeMakes.W_eq (x0:Int) (x1:Option Addr) (x1L x1C:Nat) (x2:Option Addr) (x2L x2C:Nat) (Q:Value→H→Prop) (h:H):law19_StripeMakes.W #[(.int .i64 x0),(.slice x1 x1L x1C),(.slice x2 x2L x2C)] Q h=law19_StripeMakes x0 x1 x1L x1C x2 x2L x2C h fun b40 h41=>Q (.bool b40) h41:=by kernel_rfl
theorem law19_StripeMakes.good:FnGood Tryz.prog 8 law19_StripeMakes.W:=.ofL mixed (.cons law19_blocksOf.good (.cons stripe_Make.good (.cons ref19_Make.good (.cons law19_equal.good (.cons law19_wakes.good .nil))))) Tryz.func8 Tryz.call8 (law19_StripeMakes.geq law19_blocksOf stripe_Make ref19_Make law19_equal law19_wakes)
def law19_StripeThree.g (F0:type_of% law19_blocksOf) (F1:type_of% law19_lay) (F2:type_of% law19_wakes) (F3:type_of% bank_Bank_Disk) (F4:type_of% disk_Disk_Fail) (F5:type_of% stripe_Load) (F6:type_of% stripe_One) (F7:type_of% stripe_Whole) (x0_0 x0_1 x0_2 x0_3:Int) (x1:Option Addr) (x1L x1C:Nat) (h:H) (Q:Bool→H→Prop):Prop:=
M.new h (.cells #[.int .i64 x0_0,.int .i64 x0_1,.int .i64 x0_2,.int .i64 x0_3] 78) fun b2 h3=>
M.aidx 4 0 fun j4=>
M.load h3 (Addr.add ⟨b2,0,none⟩ (j4*1)) fun v5=>
M.int .i64 v5 fun n6=>
F0 n6 x1 x1L x1C h3 fun a7 l8 c9 h10=>
F1 a7 l8 c9 2 1 h10 fun a11 l12 c13 a14 l15 c16 a17 l18 c19 b20 h21=>
M.join (α:=Bool) (fun d25 h26=>
(bif d25 then
Q false h26
else
M.new h26 (.map #[] 0) fun b27 h28=>
M.join (α:=Unit) (fun d57 h58=>
F5 a11 l12 c13 1 h58 fun a59 l60 c61 a62 l63 c64 n65 h66=>
M.join (α:=Bool) (fun d68 h69=>
(bif d68 then
Q false h69
else
M.join (α:=Unit) (fun d98 h99=>
F7 a11 l12 c13 1 h99 fun b100 h101=>
Q (!b100) h101) fun J70=>
M.loop (α:=Int) (fun J71 d72 h73=>
(bif (decide (d72<(l18:Int))) then
F6 a11 l12 c13 1 d72 h73 fun s74 n75 h76=>
M.join (α:=Bool) (fun d95 h96=>
(bif d95 then
Q false h96
else
M.val (IntKind.wrap .i64 (d72+1)) fun z97=>
J71 z97 h96)) fun J77=>
M.lk Tryz.prog 83 (.map (some b27)) (.int .i64 d72) h76 fun v78 h79=>
M.bool v78 fun b80=>
(bif b80 then
(bif (n75 != 24) then
J77 true h79
else
M.lk Tryz.prog 83 (.map (some b27)) (.int .i64 d72) h79 fun v81 h82=>
M.bool v81 fun b83=>
(bif (!b83) then
(bif (n75 != 0) then
J77 true h82
else
M.idx a17 l18 d72 fun a84 j85=>
M.load h82 (Addr.add a84 (j85*1)) fun v86=>
M.str v86 fun s87=>
J77 (!strEq s74 s87) h82)
else
J77 false h82))
else
M.lk Tryz.prog 83 (.map (some b27)) (.int .i64 d72) h79 fun v88 h89=>
M.bool v88 fun b90=>
(bif (!b90) then
(bif (n75 != 0) then
J77 true h89
else
M.idx a17 l18 d72 fun a91 j92=>
M.load h89 (Addr.add a91 (j92*1)) fun v93=>
M.str v93 fun s94=>
J77 (!strEq s74 s94) h89)
else
J77 false h89))
else
J70 () h73)) 0 h69)) fun J67=>
(bif (n65 != 24) then
J67 true h66
else
J67 ((l60:Int) != 0) h66)) fun J29=>
M.loop (α:=Int) (fun J30 d31 h32=>
(bif (decide (d31<3)) then
M.aidx 4 1 fun j33=>
M.load h32 (Addr.add ⟨b2,0,none⟩ (j33*1)) fun v34=>
M.int .i64 v34 fun n35=>
M.nz (l12:Int) (
M.val (Int.tmod (mx 0 n35) (l12:Int)) fun z36=>
M.val (IntKind.wrap .i64 (z36+d31)) fun z37=>
M.nz (l12:Int) (
M.val (Int.tmod z37 (l12:Int)) fun z38=>
M.mput Tryz.prog 83 (.map (some b27)) (.int .i64 z38) (.bool true) h32 fun h39=>
M.aidx 4 2 fun j40=>
M.load h39 (Addr.add ⟨b2,0,none⟩ (j40*1)) fun v41=>
M.int .i64 v41 fun n42=>
M.shr0 d31 (
M.val (shr .i64 n42 d31) fun z43=>
M.val (bAnd .i64 z43 1) fun z44=>
(bif (z44 == 0) then
M.idx a11 l12 z38 fun a45 j46=>
M.load h39 (Addr.add (Addr.add (Addr.add a45 (j46*6)) 0) 0) fun v47=>
M.ptr v47 fun p48=>
F3 p48 z38 h39 fun p49 h50=>
F4 p49 h50 fun h51=>
M.val (IntKind.wrap .i64 (d31+1)) fun z52=>
J30 z52 h51
else
M.idx a11 l12 z38 fun a53 j54=>
M.put h39 (Addr.add (Addr.add a53 (j54*6)) 5) (.bool false) fun h55=>
M.val (IntKind.wrap .i64 (d31+1)) fun z56=>
J30 z56 h55))))
else
J29 () h32)) 0 h28)) fun J22=>
F2  h21 fun b23 h24=>
(bif (!b23) then
J22 true h24
else
J22 (!b20) h24)
def law19_StripeThree:=law19_StripeThree.g law19_blocksOf law19_lay law19_wakes bank_Bank_Disk disk_Disk_Fail stripe_Load stripe_One stripe_Whole
def law19_StripeThree.L (F:type_of% law19_StripeThree):LT
 | [.agg ⟨[.int .i64 x0_0,.int .i64 x0_1,.int .i64 x0_2,.int .i64 x0_3]⟩,.slice x1 x1L x1C]=>fun Q h=>F x0_0 x0_1 x0_2 x0_3 x1 x1L x1C h fun b104 h105=>Q (.bool b104) h105
 | _=>fun _ _=>False
def law19_StripeThree.ann:Ann:=⟨lookN [(2,[(33,.bool)]),(15,[(83,.bool)]),(21,[(119,.bool)])],lookN [(31,[]),(127,[])],lookN [(250,[(35,.int .i64)]),(1018,[(86,.int .i64)])]⟩
theorem law19_StripeThree.geq (F0) (F1) (F2) (F3) (F4) (F5) (F6) (F7):∀ l,OkL (evF Tryz.prog (envOf [(29,WL (law19_blocksOf.L F0)),(34,WL (law19_lay.L F1)),(33,WL (law19_wakes.L F2)),(22,WL (bank_Bank_Disk.L F3)),(35,WL (disk_Disk_Fail.L F4)),(36,WL (stripe_Load.L F5)),(37,WL (stripe_One.L F6)),(38,WL (stripe_Whole.L F7))]) Tryz.f9 law19_StripeThree.ann) l (law19_StripeThree.L (law19_StripeThree.g F0 F1 F2 F3 F4 F5 F6 F7) l):=by
 intro l; unfold law19_StripeThree.L; split; exact .inr (by intros; kernel_rfl); exact .inl rfl
def law19_StripeThree.W:W:=WL (law19_StripeThree.L law19_StripeThree)
theorem law19_StripeThree.W_eq (x0_0 x0_1 x0_2 x0_3:Int) (x1:Option Addr) (x1L x1C:Nat) (Q:Value→H→Prop) (h:H):law19_StripeThree.W #[(.agg (#[(.int .i64 x0_0),(.int .i64 x0_1),(.int .i64 x0_2),(.int .i64 x0_3)]:Array Value)),(.slice x1 x1L x1C)] Q h=law19_StripeThree x0_0 x0_1 x0_2 x0_3 x1 x1L x1C h fun b104 h105=>Q (.bool b104) h105:=by kernel_rfl
theorem law19_StripeThree.good:FnGood Tryz.prog 9 law19_StripeThree.W:=.ofL mixed (.cons law19_blocksOf.good (.cons law19_lay.good (.cons law19_wakes.good (.cons bank_Bank_Disk.good (.cons disk_Disk_Fail.good (.cons stripe_Load.good (.cons stripe_One.good (.cons stripe_Whole.good .nil)))))))) Tryz.func9 Tryz.call9 (law19_StripeThree.geq law19_blocksOf law19_lay law19_wakes bank_Bank_Disk disk_Disk_Fail stripe_Load stripe_One stripe_Whole)
def law19_StripeTwo.g (F0:type_of% law19_blocksOf) (F1:type_of% law19_lay) (F2:type_of% law19_wakes) (F3:type_of% law19_harm) (F4:type_of% slab_Slab_Get) (F5:type_of% stripe_Load) (F6:type_of% law19_equal) (F7:type_of% stripe_One) (F8:type_of% stripe_Whole) (x0_0 x0_1 x0_2 x0_3:Int) (x1:Option Addr) (x1L x1C:Nat) (x2:Option Addr) (x2L x2C:Nat) (h:H) (Q:Bool→H→Prop):Prop:=
M.new h (.cells #[.int .i64 x0_0,.int .i64 x0_1,.int .i64 x0_2,.int .i64 x0_3] 78) fun b2 h3=>
M.aidx 4 1 fun j4=>
M.load h3 (Addr.add ⟨b2,0,none⟩ (j4*1)) fun v5=>
M.int .i64 v5 fun n6=>
M.nz 4 (
M.val (Int.tmod (mx 0 n6) 4) fun z7=>
M.shr0 z7 (
M.val (shl .i64 2 z7) fun z8=>
M.aidx 4 2 fun j9=>
M.load h3 (Addr.add ⟨b2,0,none⟩ (j9*1)) fun v10=>
M.int .i64 v10 fun n11=>
M.nz z8 (
M.val (Int.tmod (mx 0 n11) z8) fun z12=>
M.aidx 4 0 fun j13=>
M.load h3 (Addr.add ⟨b2,0,none⟩ (j13*1)) fun v14=>
M.int .i64 v14 fun n15=>
F0 n15 x1 x1L x1C h3 fun a16 l17 c18 h19=>
F1 a16 l17 c18 z8 z12 h19 fun a20 l21 c22 a23 l24 c25 a26 l27 c28 b29 h30=>
M.join (α:=Bool) (fun d34 h35=>
(bif d34 then
Q false h35
else
M.aidx 4 3 fun j36=>
M.load h35 (Addr.add ⟨b2,0,none⟩ (j36*1)) fun v37=>
M.int .i64 v37 fun n38=>
M.nz (l21:Int) (
M.val (Int.tmod (mx 0 n38) (l21:Int)) fun z39=>
M.aidx 4 0 fun j40=>
M.load h35 (Addr.add ⟨b2,0,none⟩ (j40*1)) fun v41=>
M.int .i64 v41 fun n42=>
M.nz (l21:Int) (
M.val (Int.tmod (mx 0 n42) (l21:Int)) fun z43=>
M.new h35 (.cells #[.int .i64 0,.int .i64 0] 66) fun b44 h45=>
M.still h35 (Addr.add ⟨b2,0,none⟩ (j40*1)) 1 h45 (
M.still h35 (Addr.add ⟨b2,0,none⟩ (j36*1)) 1 h45 (
M.req (Array.size (#[.int .i64 z39,.int .i64 z43]:Array Value)=2) (M.puts h45 ⟨b44,0,none⟩ [.int .i64 z39,.int .i64 z43] fun h46=>
M.join (α:=Unit) (fun d82 h83=>
M.join (α:=Unit) (fun d124 h125=>
F5 a20 l21 c22 z12 h125 fun a126 l127 c128 a129 l130 c131 n132 h133=>
M.join (α:=Bool) (fun d137 h138=>
(bif d137 then
Q false h138
else
M.join (α:=Unit) (fun d154 h155=>
F8 a20 l21 c22 z12 h155 fun b156 h157=>
Q (b156 == ((l130:Int) == 0)) h157) fun J139=>
M.loop (α:=Int) (fun J140 d141 h142=>
(bif (decide (d141<(l27:Int))) then
F7 a20 l21 c22 z12 d141 h142 fun s143 n144 h145=>
M.join (α:=Bool) (fun d151 h152=>
(bif d151 then
Q false h152
else
M.val (IntKind.wrap .i64 (d141+1)) fun z153=>
J140 z153 h152)) fun J146=>
(bif (n144 != 0) then
J146 true h145
else
M.idx a26 l27 d141 fun a147 j148=>
M.load h145 (Addr.add a147 (j148*1)) fun v149=>
M.str v149 fun s150=>
J146 (!strEq s143 s150) h145)
else
J139 () h142)) 0 h138)) fun J134=>
(bif (n132 != 0) then
J134 true h133
else
(bif (decide ((l130:Int) > 2)) then
J134 true h133
else
F6 a126 l127 c128 a26 l27 c28 h133 fun b135 h136=>
J134 (!b135) h136))) fun J84=>
M.load h83 (Addr.add ⟨b44,0,none⟩ 0) fun v85=>
M.int .i64 v85 fun n86=>
M.load h83 (Addr.add ⟨b44,0,none⟩ 1) fun v87=>
M.int .i64 v87 fun n88=>
M.loop (α:=Int) (fun J89 d90 h91=>
(bif (decide (d90<2)) then
M.aidx 2 d90 fun j92=>
M.at (#[.int .i64 n86,.int .i64 n88]:Array Value) (j92*1) fun v93=>
M.int .i64 v93 fun n94=>
M.idx a20 l21 n94 fun a95 j96=>
M.load h91 ((Addr.add (Addr.add a95 (j96*6)) 0).add 0) fun v97=>
M.ptr v97 fun p98=>
M.load h91 ((Addr.add (Addr.add a95 (j96*6)) 0).add 1) fun v99=>
M.int .i64 v99 fun n100=>
M.load h91 ((Addr.add (Addr.add a95 (j96*6)) 0).add 2) fun v101=>
M.int .i64 v101 fun n102=>
M.load h91 ((Addr.add (Addr.add a95 (j96*6)) 0).add 3) fun v103=>
M.str v103 fun s104=>
M.idx a20 l21 n94 fun a105 j106=>
M.load h91 (Addr.add (Addr.add a105 (j106*6)) 4) fun v107=>
M.str v107 fun s108=>
F4 p98 n100 n102 s104 s108 z12 h91 fun s109 n110 h111=>
M.join (α:=Bool) (fun d121 h122=>
(bif d121 then
Q true h122
else
M.val (IntKind.wrap .i64 (d90+1)) fun z123=>
J89 z123 h122)) fun J112=>
M.idx a20 l21 n94 fun a113 j114=>
M.load h111 (Addr.add (Addr.add a113 (j114*6)) 5) fun v115=>
M.bool v115 fun b116=>
(bif b116 then
(bif (n110 == 0) then
M.idx a26 l27 n94 fun a117 j118=>
M.load h111 (Addr.add a117 (j118*1)) fun v119=>
M.str v119 fun s120=>
J112 (!strEq s109 s120) h111
else
J112 false h111)
else
J112 false h111)
else
J84 () h91)) 0 h83) fun J47=>
M.sub x2 x2C 4 0 (mn (x2L:Int) 20) fun a48 l49 c50=>
M.loop (α:=Int) (fun J51 d52 h53=>
(bif (decide (d52<(l49:Int))) then
M.idx a48 l49 d52 fun a54 j55=>
M.load h53 ((Addr.add a54 (j55*4)).add 0) fun v56=>
M.int .i64 v56 fun n57=>
M.load h53 ((Addr.add a54 (j55*4)).add 1) fun v58=>
M.int .i64 v58 fun n59=>
M.load h53 ((Addr.add a54 (j55*4)).add 2) fun v60=>
M.int .i64 v60 fun n61=>
M.load h53 ((Addr.add a54 (j55*4)).add 3) fun v62=>
M.str v62 fun s63=>
M.new h53 (.cells #[.int .i64 0,.int .i64 0,.int .i64 0,.string ByteArray.empty] 93) fun b64 h65=>
M.req (Array.size (#[.int .i64 n57,.int .i64 n59,.int .i64 n61,.string s63]:Array Value)=4) (M.puts h65 ⟨b64,0,none⟩ [.int .i64 n57,.int .i64 n59,.int .i64 n61,.string s63] fun h66=>
M.nz 2 (
M.val (Int.tmod d52 2) fun z67=>
M.aidx 2 z67 fun j68=>
M.load h66 (Addr.add ⟨b44,0,none⟩ (j68*1)) fun v69=>
M.int .i64 v69 fun n70=>
M.put h66 (Addr.add ⟨b64,0,none⟩ 1) (.int .i64 n70) fun h71=>
M.load h71 (Addr.add ⟨b64,0,none⟩ 0) fun v72=>
M.int .i64 v72 fun n73=>
M.load h71 (Addr.add ⟨b64,0,none⟩ 1) fun v74=>
M.int .i64 v74 fun n75=>
M.load h71 (Addr.add ⟨b64,0,none⟩ 2) fun v76=>
M.int .i64 v76 fun n77=>
M.load h71 (Addr.add ⟨b64,0,none⟩ 3) fun v78=>
M.str v78 fun s79=>
F3 a20 l21 c22 a23 l24 c25 n73 n75 n77 s79 h71 fun h80=>
M.val (IntKind.wrap .i64 (d52+1)) fun z81=>
J51 z81 h80))
else
J47 () h53)) 0 h46))))))) fun J31=>
F2  h30 fun b32 h33=>
(bif (!b32) then
J31 true h33
else
J31 (!b29) h33))))
def law19_StripeTwo:=law19_StripeTwo.g law19_blocksOf law19_lay law19_wakes law19_harm slab_Slab_Get stripe_Load law19_equal stripe_One stripe_Whole
def law19_StripeTwo.L (F:type_of% law19_StripeTwo):LT
 | [.agg ⟨[.int .i64 x0_0,.int .i64 x0_1,.int .i64 x0_2,.int .i64 x0_3]⟩,.slice x1 x1L x1C,.slice x2 x2L x2C]=>fun Q h=>F x0_0 x0_1 x0_2 x0_3 x1 x1L x1C x2 x2L x2C h fun b160 h161=>Q (.bool b160) h161
 | _=>fun _ _=>False
def law19_StripeTwo.ann:Ann:=⟨lookN [(4,[(53,.bool)]),(17,[(123,.bool)]),(21,[(144,.bool)]),(27,[(166,.bool)])],lookN [(127,[]),(255,[]),(2047,[])],lookN [(1018,[(73,.int .i64)]),(2042,[(89,.int .i64)]),(16378,[(147,.int .i64)])]⟩
theorem law19_StripeTwo.geq (F0) (F1) (F2) (F3) (F4) (F5) (F6) (F7) (F8):∀ l,OkL (evF Tryz.prog (envOf [(29,WL (law19_blocksOf.L F0)),(34,WL (law19_lay.L F1)),(33,WL (law19_wakes.L F2)),(39,WL (law19_harm.L F3)),(17,WL (slab_Slab_Get.L F4)),(36,WL (stripe_Load.L F5)),(32,WL (law19_equal.L F6)),(37,WL (stripe_One.L F7)),(38,WL (stripe_Whole.L F8))]) Tryz.f10 law19_StripeTwo.ann) l (law19_StripeTwo.L (law19_StripeTwo.g F0 F1 F2 F3 F4 F5 F6 F7 F8) l):=by
 intro l; unfold law19_StripeTwo.L; split; exact .inr (by intros; kernel_rfl); exact .inl rfl
def law19_StripeTwo.W:W:=WL (law19_StripeTwo.L law19_StripeTwo)
theorem law19_StripeTwo.W_eq (x0_0 x0_1 x0_2 x0_3:Int) (x1:Option Addr) (x1L x1C:Nat) (x2:Option Addr) (x2L x2C:Nat) (Q:Value→H→Prop) (h:H):law19_StripeTwo.W #[(.agg (#[(.int .i64 x0_0),(.int .i64 x0_1),(.int .i64 x0_2),(.int .i64 x0_3)]:Array Value)),(.slice x1 x1L x1C),(.slice x2 x2L x2C)] Q h=law19_StripeTwo x0_0 x0_1 x0_2 x0_3 x1 x1L x1C x2 x2L x2C h fun b160 h161=>Q (.bool b160) h161:=by kernel_rfl
theorem law19_StripeTwo.good:FnGood Tryz.prog 10 law19_StripeTwo.W:=.ofL mixed (.cons law19_blocksOf.good (.cons law19_lay.good (.cons law19_wakes.good (.cons law19_harm.good (.cons slab_Slab_Get.good (.cons stripe_Load.good (.cons law19_equal.good (.cons stripe_One.good (.cons stripe_Whole.good .nil))))))))) Tryz.func10 Tryz.call10 (law19_StripeTwo.geq law19_blocksOf law19_lay law19_wakes law19_harm slab_Slab_Get stripe_Load law19_equal stripe_One stripe_Whole)
def law19_StripeEach.g (F0:type_of% law19_blocksOf) (F1:type_of% law19_lay) (F2:type_of% law19_wakes) (F3:type_of% law19_harm) (F4:type_of% stripe_Load) (F5:type_of% stripe_One) (F6:type_of% slab_Slab_Get) (x0_0 x0_1 x0_2 x0_3:Int) (x1:Option Addr) (x1L x1C:Nat) (h:H) (Q:Bool→H→Prop):Prop:=
M.new h (.cells #[.int .i64 x0_0,.int .i64 x0_1,.int .i64 x0_2,.int .i64 x0_3] 78) fun b2 h3=>
M.aidx 4 1 fun j4=>
M.load h3 (Addr.add ⟨b2,0,none⟩ (j4*1)) fun v5=>
M.int .i64 v5 fun n6=>
M.nz 4 (
M.val (Int.tmod (mx 0 n6) 4) fun z7=>
M.shr0 z7 (
M.val (shl .i64 2 z7) fun z8=>
M.aidx 4 2 fun j9=>
M.load h3 (Addr.add ⟨b2,0,none⟩ (j9*1)) fun v10=>
M.int .i64 v10 fun n11=>
M.nz z8 (
M.val (Int.tmod (mx 0 n11) z8) fun z12=>
M.aidx 4 0 fun j13=>
M.load h3 (Addr.add ⟨b2,0,none⟩ (j13*1)) fun v14=>
M.int .i64 v14 fun n15=>
M.aidx 4 3 fun j16=>
M.load h3 (Addr.add ⟨b2,0,none⟩ (j16*1)) fun v17=>
M.int .i64 v17 fun n18=>
M.val (IntKind.wrap .u8 n18) fun z19=>
M.new h3 (.cells #[.int .u8 z19] 5) fun b20 h21=>
F0 n15 (some ⟨b20,0,none⟩) 1 1 h21 fun a22 l23 c24 h25=>
F1 a22 l23 c24 z8 z12 h25 fun a26 l27 c28 a29 l30 c31 a32 l33 c34 b35 h36=>
M.join (α:=Bool) (fun d40 h41=>
(bif d40 then
Q false h41
else
M.join (α:=Unit) (fun d72 h73=>
F4 a26 l27 c28 z12 h73 fun a74 l75 c76 a77 l78 c79 n80 h81=>
M.loop (α:=Int) (fun J82 d83 h84=>
(bif (decide (d83<(l27:Int))) then
F5 a26 l27 c28 z12 d83 h84 fun s85 n86 h87=>
M.join (α:=Bool) (fun d100 h101=>
M.join (α:=Bool) (fun d107 h108=>
(bif d107 then
Q false h108
else
M.idx a26 l27 d83 fun a109 j110=>
M.load h108 ((Addr.add (Addr.add a109 (j110*6)) 0).add 0) fun v111=>
M.ptr v111 fun p112=>
M.load h108 ((Addr.add (Addr.add a109 (j110*6)) 0).add 1) fun v113=>
M.int .i64 v113 fun n114=>
M.load h108 ((Addr.add (Addr.add a109 (j110*6)) 0).add 2) fun v115=>
M.int .i64 v115 fun n116=>
M.load h108 ((Addr.add (Addr.add a109 (j110*6)) 0).add 3) fun v117=>
M.str v117 fun s118=>
M.idx a26 l27 d83 fun a119 j120=>
M.load h108 (Addr.add (Addr.add a119 (j120*6)) 4) fun v121=>
M.str v121 fun s122=>
F6 p112 n114 n116 s118 s122 z12 h108 fun s123 n124 h125=>
M.join (α:=Bool) (fun d131 h132=>
(bif d131 then
Q false h132
else
M.val (IntKind.wrap .i64 (d83+1)) fun z133=>
J82 z133 h132)) fun J126=>
M.idx a26 l27 d83 fun a127 j128=>
M.load h125 (Addr.add (Addr.add a127 (j128*6)) 5) fun v129=>
M.bool v129 fun b130=>
(bif b130 then
(bif (n124 == 0) then
(bif (n86 != 0) then
J126 true h125
else
J126 (!strEq s85 s123) h125)
else
J126 false h125)
else
J126 false h125))) fun J102=>
(bif (n80 == 0) then
(bif (n86 != 0) then
J102 true h101
else
(bif d100 then
M.idx a74 l75 d83 fun a103 j104=>
M.load h101 (Addr.add a103 (j104*1)) fun v105=>
M.str v105 fun s106=>
(bif (!strEq s85 s106) then
J102 true h101
else
(bif (n80 == 24) then
(bif (n86 != 0) then
J102 (n86 != 24) h101
else
J102 false h101)
else
J102 false h101))
else
(bif (n80 == 24) then
(bif (n86 != 0) then
J102 (n86 != 24) h101
else
J102 false h101)
else
J102 false h101)))
else
(bif (n80 == 24) then
(bif (n86 != 0) then
J102 (n86 != 24) h101
else
J102 false h101)
else
J102 false h101))) fun J88=>
M.loop (α:=Bool × Int) (fun J89 d90 h91=>
(bif (decide (d90.2<(l78:Int))) then
M.idx a77 l78 d90.2 fun a92 j93=>
M.load h91 (Addr.add a92 (j93*1)) fun v94=>
M.int .i64 v94 fun n95=>
M.join (α:=Bool) (fun d97 h98=>
M.val (IntKind.wrap .i64 (d90.2+1)) fun z99=>
J89 (d97,z99) h98) fun J96=>
(bif d90.1 then
J96 true h91
else
J96 (n95 == d83) h91)
else
J88 d90.1 h91)) (false,0) h87
else
Q true h84)) 0 h81) fun J42=>
M.sub x1 x1C 4 0 (mn (x1L:Int) 10) fun a43 l44 c45=>
M.loop (α:=Int) (fun J46 d47 h48=>
(bif (decide (d47<(l44:Int))) then
M.idx a43 l44 d47 fun a49 j50=>
M.load h48 ((Addr.add a49 (j50*4)).add 0) fun v51=>
M.int .i64 v51 fun n52=>
M.load h48 ((Addr.add a49 (j50*4)).add 1) fun v53=>
M.int .i64 v53 fun n54=>
M.load h48 ((Addr.add a49 (j50*4)).add 2) fun v55=>
M.int .i64 v55 fun n56=>
M.load h48 ((Addr.add a49 (j50*4)).add 3) fun v57=>
M.str v57 fun s58=>
M.new h48 (.cells #[.int .i64 0,.int .i64 0,.int .i64 0,.string ByteArray.empty] 93) fun b59 h60=>
M.req (Array.size (#[.int .i64 n52,.int .i64 n54,.int .i64 n56,.string s58]:Array Value)=4) (M.puts h60 ⟨b59,0,none⟩ [.int .i64 n52,.int .i64 n54,.int .i64 n56,.string s58] fun h61=>
M.load h61 (Addr.add ⟨b59,0,none⟩ 0) fun v62=>
M.int .i64 v62 fun n63=>
M.load h61 (Addr.add ⟨b59,0,none⟩ 1) fun v64=>
M.int .i64 v64 fun n65=>
M.load h61 (Addr.add ⟨b59,0,none⟩ 2) fun v66=>
M.int .i64 v66 fun n67=>
M.load h61 (Addr.add ⟨b59,0,none⟩ 3) fun v68=>
M.str v68 fun s69=>
F3 a26 l27 c28 a29 l30 c31 n63 n65 n67 s69 h61 fun h70=>
M.val (IntKind.wrap .i64 (d47+1)) fun z71=>
J46 z71 h70)
else
J42 () h48)) 0 h41)) fun J37=>
F2  h36 fun b38 h39=>
(bif (!b38) then
J37 true h39
else
J37 (!b35) h39))))
def law19_StripeEach:=law19_StripeEach.g law19_blocksOf law19_lay law19_wakes law19_harm stripe_Load stripe_One slab_Slab_Get
def law19_StripeEach.L (F:type_of% law19_StripeEach):LT
 | [.agg ⟨[.int .i64 x0_0,.int .i64 x0_1,.int .i64 x0_2,.int .i64 x0_3]⟩,.slice x1 x1L x1C]=>fun Q h=>F x0_0 x0_1 x0_2 x0_3 x1 x1L x1C h fun b136 h137=>Q (.bool b136) h137
 | _=>fun _ _=>False
def law19_StripeEach.ann:Ann:=⟨lookN [(4,[(54,.bool)]),(20,[(19,.bool)]),(22,[(130,.bool)]),(25,[(163,.bool)])],lookN [(63,[]),(522855,[(19,.bool)])],lookN [(506,[(61,.int .i64)]),(2042,[(79,.int .i64)]),(4182842,[(19,.bool),(91,.int .i64)])]⟩
theorem law19_StripeEach.geq (F0) (F1) (F2) (F3) (F4) (F5) (F6):∀ l,OkL (evF Tryz.prog (envOf [(29,WL (law19_blocksOf.L F0)),(34,WL (law19_lay.L F1)),(33,WL (law19_wakes.L F2)),(39,WL (law19_harm.L F3)),(36,WL (stripe_Load.L F4)),(37,WL (stripe_One.L F5)),(17,WL (slab_Slab_Get.L F6))]) Tryz.f11 law19_StripeEach.ann) l (law19_StripeEach.L (law19_StripeEach.g F0 F1 F2 F3 F4 F5 F6) l):=by
 intro l; unfold law19_StripeEach.L; split; exact .inr (by intros; kernel_rfl); exact .inl rfl
def law19_StripeEach.W:W:=WL (law19_StripeEach.L law19_StripeEach)
theorem law19_StripeEach.W_eq (x0_0 x0_1 x0_2 x0_3:Int) (x1:Option Addr) (x1L x1C:Nat) (Q:Value→H→Prop) (h:H):law19_StripeEach.W #[(.agg (#[(.int .i64 x0_0),(.int .i64 x0_1),(.int .i64 x0_2),(.int .i64 x0_3)]:Array Value)),(.slice x1 x1L x1C)] Q h=law19_StripeEach x0_0 x0_1 x0_2 x0_3 x1 x1L x1C h fun b136 h137=>Q (.bool b136) h137:=by kernel_rfl
theorem law19_StripeEach.good:FnGood Tryz.prog 11 law19_StripeEach.W:=.ofL mixed (.cons law19_blocksOf.good (.cons law19_lay.good (.cons law19_wakes.good (.cons law19_harm.good (.cons stripe_Load.good (.cons stripe_One.good (.cons slab_Slab_Get.good .nil))))))) Tryz.func11 Tryz.call11 (law19_StripeEach.geq law19_blocksOf law19_lay law19_wakes law19_harm stripe_Load stripe_One slab_Slab_Get)
end Go.Proofs.YthegnmanjdlmjaaGreatDoor

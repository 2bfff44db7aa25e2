/- The shallow forms of the functions of this seat, printed by a program of mine, each checked by the kernel against the given code. -/
import Derived.Test.YthegnmanjdlmjaaGreatDoorS06
set_option linter.unusedSimpArgs false
set_option linter.unusedVariables false
namespace Go.Proofs.YthegnmanjdlmjaaGreatDoor
open Go.Sh
def law19_blocksOf (x0:Int) (x1:Option Addr) (x1L x1C:Nat) (h:H) (Q:Option Addr→Nat→Nat→H→Prop):Prop:=
M.nz 7 (
M.val (Int.tmod (mx 0 x0) 7) fun z4=>
M.val (IntKind.wrap .i64 (2+z4)) fun z5=>
M.loop (α:=(Option Addr × Nat × Nat) × Int) (fun J6 d7 h8=>
(bif (decide (d7.2<z5)) then
M.join (α:=Int) (fun d14 h15=>
M.join (α:=(Option Addr × Nat × Nat)) (fun d148 h149=>
M.val (IntKind.wrap .i64 (d7.2+1)) fun z150=>
J6 ((d148.1,d148.2.1,d148.2.2),z150) h149) fun J16=>
(M.val (IntKind.wrap .u8 d7.2) fun z17=>
(M.new h15 (.cells #[.int .u8 d14,.int .u8 z17] 5) fun b18 h19=>
(M.b2s h19 (some ⟨b18,0,none⟩) 2 fun s20=>
M.mk h19 5 [.int .u8 0] 1 30 30 fun a21 l22 c23 h24=>
M.b2s h24 a21 l22 fun s25=>
M.cat s20 s25 fun s26=>
M.new h24 (.cells #[.string s26] 9) fun b27 h28=>
M.cellsOf h28 (some ⟨b27,0,none⟩) (1*1) fun cs33=>
M.app h28 9 1 16 [.string ByteArray.empty] d7.1.1 d7.1.2.1 d7.1.2.2 1 cs33 fun a29 l30 c31 h32=>
J16 (a29,l30,c31) h32) ∧
(M.mk h19 5 [.int .u8 0] 1 30 30 fun a34 l35 c36 h37=>
(M.b2s h37 (some ⟨b18,0,none⟩) 2 fun s38=>
M.b2s h37 a34 l35 fun s39=>
M.cat s38 s39 fun s40=>
M.new h37 (.cells #[.string s40] 9) fun b41 h42=>
M.cellsOf h42 (some ⟨b41,0,none⟩) (1*1) fun cs47=>
M.app h42 9 1 16 [.string ByteArray.empty] d7.1.1 d7.1.2.1 d7.1.2.2 1 cs47 fun a43 l44 c45 h46=>
J16 (a43,l44,c45) h46) ∧
(M.b2s h37 a34 l35 fun s48=>
M.b2s h37 (some ⟨b18,0,none⟩) 2 fun s49=>
M.cat s49 s48 fun s50=>
M.new h37 (.cells #[.string s50] 9) fun b51 h52=>
M.cellsOf h52 (some ⟨b51,0,none⟩) (1*1) fun cs57=>
M.app h52 9 1 16 [.string ByteArray.empty] d7.1.1 d7.1.2.1 d7.1.2.2 1 cs57 fun a53 l54 c55 h56=>
J16 (a53,l54,c55) h56))) ∧
(M.mk h15 5 [.int .u8 0] 1 30 30 fun a58 l59 c60 h61=>
(M.new h61 (.cells #[.int .u8 d14,.int .u8 z17] 5) fun b62 h63=>
(M.b2s h63 (some ⟨b62,0,none⟩) 2 fun s64=>
M.b2s h63 a58 l59 fun s65=>
M.cat s64 s65 fun s66=>
M.new h63 (.cells #[.string s66] 9) fun b67 h68=>
M.cellsOf h68 (some ⟨b67,0,none⟩) (1*1) fun cs73=>
M.app h68 9 1 16 [.string ByteArray.empty] d7.1.1 d7.1.2.1 d7.1.2.2 1 cs73 fun a69 l70 c71 h72=>
J16 (a69,l70,c71) h72) ∧
(M.b2s h63 a58 l59 fun s74=>
M.b2s h63 (some ⟨b62,0,none⟩) 2 fun s75=>
M.cat s75 s74 fun s76=>
M.new h63 (.cells #[.string s76] 9) fun b77 h78=>
M.cellsOf h78 (some ⟨b77,0,none⟩) (1*1) fun cs83=>
M.app h78 9 1 16 [.string ByteArray.empty] d7.1.1 d7.1.2.1 d7.1.2.2 1 cs83 fun a79 l80 c81 h82=>
J16 (a79,l80,c81) h82)) ∧
(M.b2s h61 a58 l59 fun s84=>
M.new h61 (.cells #[.int .u8 d14,.int .u8 z17] 5) fun b85 h86=>
M.b2s h86 (some ⟨b85,0,none⟩) 2 fun s87=>
M.cat s87 s84 fun s88=>
M.new h86 (.cells #[.string s88] 9) fun b89 h90=>
M.cellsOf h90 (some ⟨b89,0,none⟩) (1*1) fun cs95=>
M.app h90 9 1 16 [.string ByteArray.empty] d7.1.1 d7.1.2.1 d7.1.2.2 1 cs95 fun a91 l92 c93 h94=>
J16 (a91,l92,c93) h94))) ∧
(M.mk h15 5 [.int .u8 0] 1 30 30 fun a96 l97 c98 h99=>
(M.val (IntKind.wrap .u8 d7.2) fun z100=>
(M.new h99 (.cells #[.int .u8 d14,.int .u8 z100] 5) fun b101 h102=>
(M.b2s h102 (some ⟨b101,0,none⟩) 2 fun s103=>
M.b2s h102 a96 l97 fun s104=>
M.cat s103 s104 fun s105=>
M.new h102 (.cells #[.string s105] 9) fun b106 h107=>
M.cellsOf h107 (some ⟨b106,0,none⟩) (1*1) fun cs112=>
M.app h107 9 1 16 [.string ByteArray.empty] d7.1.1 d7.1.2.1 d7.1.2.2 1 cs112 fun a108 l109 c110 h111=>
J16 (a108,l109,c110) h111) ∧
(M.b2s h102 a96 l97 fun s113=>
M.b2s h102 (some ⟨b101,0,none⟩) 2 fun s114=>
M.cat s114 s113 fun s115=>
M.new h102 (.cells #[.string s115] 9) fun b116 h117=>
M.cellsOf h117 (some ⟨b116,0,none⟩) (1*1) fun cs122=>
M.app h117 9 1 16 [.string ByteArray.empty] d7.1.1 d7.1.2.1 d7.1.2.2 1 cs122 fun a118 l119 c120 h121=>
J16 (a118,l119,c120) h121)) ∧
(M.b2s h99 a96 l97 fun s123=>
M.new h99 (.cells #[.int .u8 d14,.int .u8 z100] 5) fun b124 h125=>
M.b2s h125 (some ⟨b124,0,none⟩) 2 fun s126=>
M.cat s126 s123 fun s127=>
M.new h125 (.cells #[.string s127] 9) fun b128 h129=>
M.cellsOf h129 (some ⟨b128,0,none⟩) (1*1) fun cs134=>
M.app h129 9 1 16 [.string ByteArray.empty] d7.1.1 d7.1.2.1 d7.1.2.2 1 cs134 fun a130 l131 c132 h133=>
J16 (a130,l131,c132) h133)) ∧
(M.b2s h99 a96 l97 fun s135=>
M.val (IntKind.wrap .u8 d7.2) fun z136=>
M.new h99 (.cells #[.int .u8 d14,.int .u8 z136] 5) fun b137 h138=>
M.b2s h138 (some ⟨b137,0,none⟩) 2 fun s139=>
M.cat s139 s135 fun s140=>
M.new h138 (.cells #[.string s140] 9) fun b141 h142=>
M.cellsOf h142 (some ⟨b141,0,none⟩) (1*1) fun cs147=>
M.app h142 9 1 16 [.string ByteArray.empty] d7.1.1 d7.1.2.1 d7.1.2.2 1 cs147 fun a143 l144 c145 h146=>
J16 (a143,l144,c145) h146))) fun J9=>
(bif (decide (d7.2<(x1L:Int))) then
M.idx x1 x1L d7.2 fun a10 j11=>
M.load h8 (Addr.add a10 (j11*1)) fun v12=>
M.int .u8 v12 fun n13=>
J9 n13 h8
else
J9 0 h8)
else
Q d7.1.1 d7.1.2.1 d7.1.2.2 h8)) ((none,0,0),0) h)
def law19_blocksOf.L (F:type_of% law19_blocksOf):LT
 | [.int .i64 x0,.slice x1 x1L x1C]=>fun Q h=>F x0 x1 x1L x1C h fun a155 l156 c157 h158=>Q (.slice a155 l156 c157) h158
 | _=>fun _ _=>False
def law19_blocksOf.ann:Ann:=⟨lookN [(8,[(5,.slc)])],lookN [(7475,[(7,.int .u8)])],lookN [(58,[(5,.slc),(12,.int .i64)])]⟩
theorem law19_blocksOf.geq:∀ l,OkL (evF Tryz.prog (envOf []) Tryz.f29 law19_blocksOf.ann) l (law19_blocksOf.L law19_blocksOf l):=by
 intro l; unfold law19_blocksOf.L; split; exact .inr (by intros; kernel_rfl); exact .inl rfl
def law19_blocksOf.W:W:=WL (law19_blocksOf.L law19_blocksOf)
theorem law19_blocksOf.good:FnGood Tryz.prog 29 law19_blocksOf.W:=.ofL mixed .nil Tryz.func29 Tryz.call29 (law19_blocksOf.geq)
def law19_equal (x0:Option Addr) (x0L x0C:Nat) (x1:Option Addr) (x1L x1C:Nat) (h:H) (Q:Bool→H→Prop):Prop:=
(bif ((x0L:Int) != (x1L:Int)) then
Q false h
else
M.loop (α:=Int) (fun J2 d3 h4=>
(bif (decide (d3<(x0L:Int))) then
M.idx x0 x0L d3 fun a5 j6=>
M.load h4 (Addr.add a5 (j6*1)) fun v7=>
M.str v7 fun s8=>
M.idx x1 x1L d3 fun a9 j10=>
M.load h4 (Addr.add a9 (j10*1)) fun v11=>
M.str v11 fun s12=>
(bif (!strEq s8 s12) then
Q false h4
else
M.val (IntKind.wrap .i64 (d3+1)) fun z13=>
J2 z13 h4)
else
Q true h4)) 0 h)
def law19_equal.L (F:type_of% law19_equal):LT
 | [.slice x0 x0L x0C,.slice x1 x1L x1C]=>fun Q h=>F x0 x0L x0C x1 x1L x1C h fun b16 h17=>Q (.bool b16) h17
 | _=>fun _ _=>False
def law19_equal.ann:Ann:=⟨lookN [],lookN [],lookN [(58,[(13,.int .i64)])]⟩
theorem law19_equal.geq:∀ l,OkL (evF Tryz.prog (envOf []) Tryz.f32 law19_equal.ann) l (law19_equal.L law19_equal l):=by
 intro l; unfold law19_equal.L; split; exact .inr (by intros; kernel_rfl); exact .inl rfl
def law19_equal.W:W:=WL (law19_equal.L law19_equal)
theorem law19_equal.good:FnGood Tryz.prog 32 law19_equal.W:=.ofL mixed .nil Tryz.func32 Tryz.call32 (law19_equal.geq)
def disk_Disk_Fail (x0:Option Addr) (h:H) (Q:H→Prop):Prop:=
(bif (!(Option.isNone x0)) then
M.nn x0 fun a1=>
M.put h (Addr.add a1 3) (.bool true) fun h2=>
M.nn x0 fun a3=>
M.put h2 (Addr.add a3 2) (.slice none 0 0) fun h4=>
Q h4
else
Q h)
def disk_Disk_Fail.L (F:type_of% disk_Disk_Fail):LT
 | [.pointer x0]=>fun Q h=>F x0 h fun h6=>Q (.tuple #[]) h6
 | _=>fun _ _=>False
theorem disk_Disk_Fail.geq:∀ l,OkL (evF Tryz.prog (envOf []) Tryz.f35 an0) l (disk_Disk_Fail.L disk_Disk_Fail l):=by
 intro l; unfold disk_Disk_Fail.L; split; exact .inr (by intros; kernel_rfl); exact .inl rfl
theorem disk_Disk_Fail.good:FnGood Tryz.prog 35 (WL (disk_Disk_Fail.L disk_Disk_Fail)):=.ofL mixed .nil Tryz.func35 Tryz.call35 (disk_Disk_Fail.geq)
def stripe_may (x0:Int) (h:H) (Q:Bool→H→Prop):Prop:=
M.join (α:=Bool) (fun d3 h4=>
Q d3 h4) fun J2=>
(bif (decide (x0 ≥ 2)) then
J2 (decide (x0≤8)) h
else
J2 false h)
def stripe_may.L (F:type_of% stripe_may):LT
 | [.int .i64 x0]=>fun Q h=>F x0 h fun b7 h8=>Q (.bool b7) h8
 | _=>fun _ _=>False
def stripe_may.ann:Ann:=⟨lookN [(1,[(2,.bool)])],lookN [],lookN []⟩
theorem stripe_may.geq:∀ l,OkL (evF Tryz.prog (envOf []) Tryz.f78 stripe_may.ann) l (stripe_may.L stripe_may l):=by
 intro l; unfold stripe_may.L; split; exact .inr (by intros; kernel_rfl); exact .inl rfl
theorem stripe_may.good:FnGood Tryz.prog 78 (WL (stripe_may.L stripe_may)):=.ofL mixed .nil Tryz.func78 Tryz.call78 (stripe_may.geq)
def stripe_Make_1 (x0:ByteArray) (h:H) (Q:Bool→H→Prop):Prop:=
Q ((ByteArray.size x0:Int) != 32) h
def stripe_Make_1.L (F:type_of% stripe_Make_1):LT
 | [.string x0]=>fun Q h=>F x0 h fun b4 h5=>Q (.bool b4) h5
 | _=>fun _ _=>False
theorem stripe_Make_1.geq:∀ l,OkL (evF Tryz.prog (envOf []) Tryz.f80 an0) l (stripe_Make_1.L stripe_Make_1 l):=by
 intro l; unfold stripe_Make_1.L; split; exact .inr (by intros; kernel_rfl); exact .inl rfl
theorem stripe_Make_1.good:FnGood Tryz.prog 80 (WL (stripe_Make_1.L stripe_Make_1)):=.ofL mixed .nil Tryz.func80 Tryz.call80 (stripe_Make_1.geq)
def ref09_Restore (x0 x1:Option Addr) (x1L x1C:Nat) (h:H) (Q:H→Prop):Prop:=
M.nn x0 fun a1=>
M.load h (Addr.add a1 2) fun v2=>
M.bool v2 fun b3=>
(bif b3 then
Q h
else
M.join (α:=Unit) (fun d44 h45=>
M.nn x0 fun a46=>
M.put h45 (Addr.add a46 1) (.slice none 0 0) fun h47=>
Q h47) fun J4=>
M.loop (α:=Int) (fun J5 d6 h7=>
M.nn x0 fun a8=>
M.load h7 (Addr.add a8 0) fun v9=>
M.slc v9 fun a10 l11 c12=>
(bif (decide (d6<(l11:Int))) then
M.join (α:=Unit) (fun d41 h42=>
M.val (IntKind.wrap .i64 (d6+1)) fun z43=>
J5 z43 h42) fun J13=>
M.nn x0 fun a14=>
M.load h7 (Addr.add a14 0) fun v15=>
M.slc v15 fun a16 l17 c18=>
M.idx a16 l17 d6 fun a19 j20=>
M.put h7 (Addr.add a19 (j20*1)) (.string ByteArray.empty) fun h21=>
M.join (α:=Bool) (fun d27 h28=>
(bif d27 then
M.nn x0 fun a29=>
M.load h28 (Addr.add a29 0) fun v30=>
M.slc v30 fun a31 l32 c33=>
M.idx x1 x1L d6 fun a34 j35=>
M.load h28 (Addr.add a34 (j35*1)) fun v36=>
M.str v36 fun s37=>
M.idx a31 l32 d6 fun a38 j39=>
M.put h28 (Addr.add a38 (j39*1)) (.string s37) fun h40=>
J13 () h40
else
J13 () h28)) fun J22=>
(bif (decide (d6<(x1L:Int))) then
M.idx x1 x1L d6 fun a23 j24=>
M.load h21 (Addr.add a23 (j24*1)) fun v25=>
M.str v25 fun s26=>
J22 (decide ((ByteArray.size s26:Int)≤2048)) h21
else
J22 false h21)
else
J4 () h7)) 0 h)
def ref09_Restore.L (F:type_of% ref09_Restore):LT
 | [.pointer x0,.slice x1 x1L x1C]=>fun Q h=>F x0 x1 x1L x1C h fun h49=>Q (.tuple #[]) h49
 | _=>fun _ _=>False
def ref09_Restore.ann:Ann:=⟨lookN [(5,[(35,.bool)])],lookN [(3,[]),(105,[])],lookN [(26,[(4,.int .i64)])]⟩
theorem ref09_Restore.geq:∀ l,OkL (evF Tryz.prog (envOf []) Tryz.f83 ref09_Restore.ann) l (ref09_Restore.L ref09_Restore l):=by
 intro l; unfold ref09_Restore.L; split; exact .inr (by intros; kernel_rfl); exact .inl rfl
theorem ref09_Restore.good:FnGood Tryz.prog 83 (WL (ref09_Restore.L ref09_Restore)):=.ofL mixed .nil Tryz.func83 Tryz.call83 (ref09_Restore.geq)
def ref09_Fail (x0:Option Addr) (h:H) (Q:H→Prop):Prop:=
M.nn x0 fun a1=>
M.put h (Addr.add a1 2) (.bool true) fun h2=>
M.nn x0 fun a3=>
M.put h2 (Addr.add a3 1) (.slice none 0 0) fun h4=>
Q h4
def ref09_Fail.L (F:type_of% ref09_Fail):LT
 | [.pointer x0]=>fun Q h=>F x0 h fun h6=>Q (.tuple #[]) h6
 | _=>fun _ _=>False
theorem ref09_Fail.geq:∀ l,OkL (evF Tryz.prog (envOf []) Tryz.f87 an0) l (ref09_Fail.L ref09_Fail l):=by
 intro l; unfold ref09_Fail.L; split; exact .inr (by intros; kernel_rfl); exact .inl rfl
theorem ref09_Fail.good:FnGood Tryz.prog 87 (WL (ref09_Fail.L ref09_Fail)):=.ofL mixed .nil Tryz.func87 Tryz.call87 (ref09_Fail.geq)
def rs_may (x0:Int) (h:H) (Q:Bool→H→Prop):Prop:=
M.join (α:=Bool) (fun d3 h4=>
Q d3 h4) fun J2=>
(bif (decide (x0 ≥ 1)) then
J2 (decide (x0≤8)) h
else
J2 false h)
def rs_may.L (F:type_of% rs_may):LT
 | [.int .i64 x0]=>fun Q h=>F x0 h fun b7 h8=>Q (.bool b7) h8
 | _=>fun _ _=>False
def rs_may.ann:Ann:=⟨lookN [(1,[(2,.bool)])],lookN [],lookN []⟩
theorem rs_may.geq:∀ l,OkL (evF Tryz.prog (envOf []) Tryz.f132 rs_may.ann) l (rs_may.L rs_may l):=by
 intro l; unfold rs_may.L; split; exact .inr (by intros; kernel_rfl); exact .inl rfl
theorem rs_may.good:FnGood Tryz.prog 132 (WL (rs_may.L rs_may)):=.ofL mixed .nil Tryz.func132 Tryz.call132 (rs_may.geq)
def rs_shape (x0:Option Addr) (x0L x0C:Nat) (h:H) (Q:Int→H→Prop):Prop:=
M.join (α:=Unit) (fun d15 h16=>
M.join (α:=Bool) (fun d22 h23=>
(bif d22 then
Q 5 h23
else
Q 0 h23)) fun J17=>
(bif (decide ((x0L:Int) > 0)) then
M.idx x0 x0L 0 fun a18 j19=>
M.load h16 (Addr.add a18 (j19*1)) fun v20=>
M.str v20 fun s21=>
J17 (decide ((ByteArray.size s21:Int) > 65536)) h16
else
J17 false h16)) fun J2=>
M.loop (α:=Int) (fun J3 d4 h5=>
(bif (decide (d4<(x0L:Int))) then
M.idx x0 x0L d4 fun a6 j7=>
M.load h5 (Addr.add a6 (j7*1)) fun v8=>
M.str v8 fun s9=>
M.idx x0 x0L 0 fun a10 j11=>
M.load h5 (Addr.add a10 (j11*1)) fun v12=>
M.str v12 fun s13=>
(bif ((ByteArray.size s9:Int) != (ByteArray.size s13:Int)) then
Q 7 h5
else
M.val (IntKind.wrap .i64 (d4+1)) fun z14=>
J3 z14 h5)
else
J2 () h5)) 0 h
def rs_shape.L (F:type_of% rs_shape):LT
 | [.slice x0 x0L x0C]=>fun Q h=>F x0 x0L x0C h fun n26 h27=>Q (.int .i64 n26) h27
 | _=>fun _ _=>False
def rs_shape.ann:Ann:=⟨lookN [(7,[(28,.bool)])],lookN [(3,[])],lookN [(26,[(7,.int .i64)])]⟩
theorem rs_shape.geq:∀ l,OkL (evF Tryz.prog (envOf []) Tryz.f133 rs_shape.ann) l (rs_shape.L rs_shape l):=by
 intro l; unfold rs_shape.L; split; exact .inr (by intros; kernel_rfl); exact .inl rfl
theorem rs_shape.good:FnGood Tryz.prog 133 (WL (rs_shape.L rs_shape)):=.ofL mixed .nil Tryz.func133 Tryz.call133 (rs_shape.geq)
def ref04_shape (x0:Option Addr) (x0L x0C:Nat) (h:H) (Q:Int→H→Prop):Prop:=
M.join (α:=Unit) (fun d15 h16=>
M.join (α:=Bool) (fun d22 h23=>
(bif d22 then
Q 5 h23
else
Q 0 h23)) fun J17=>
(bif (decide ((x0L:Int) > 0)) then
M.idx x0 x0L 0 fun a18 j19=>
M.load h16 (Addr.add a18 (j19*1)) fun v20=>
M.str v20 fun s21=>
J17 (decide ((ByteArray.size s21:Int) > 65536)) h16
else
J17 false h16)) fun J2=>
M.loop (α:=Int) (fun J3 d4 h5=>
(bif (decide (d4<(x0L:Int))) then
M.idx x0 x0L d4 fun a6 j7=>
M.load h5 (Addr.add a6 (j7*1)) fun v8=>
M.str v8 fun s9=>
M.idx x0 x0L 0 fun a10 j11=>
M.load h5 (Addr.add a10 (j11*1)) fun v12=>
M.str v12 fun s13=>
(bif ((ByteArray.size s9:Int) != (ByteArray.size s13:Int)) then
Q 7 h5
else
M.val (IntKind.wrap .i64 (d4+1)) fun z14=>
J3 z14 h5)
else
J2 () h5)) 0 h
def ref04_shape.L (F:type_of% ref04_shape):LT
 | [.slice x0 x0L x0C]=>fun Q h=>F x0 x0L x0C h fun n26 h27=>Q (.int .i64 n26) h27
 | _=>fun _ _=>False
def ref04_shape.ann:Ann:=⟨lookN [(6,[(29,.bool)])],lookN [(3,[])],lookN [(26,[(3,.int .i64)])]⟩
theorem ref04_shape.geq:∀ l,OkL (evF Tryz.prog (envOf []) Tryz.f137 ref04_shape.ann) l (ref04_shape.L ref04_shape l):=by
 intro l; unfold ref04_shape.L; split; exact .inr (by intros; kernel_rfl); exact .inl rfl
theorem ref04_shape.good:FnGood Tryz.prog 137 (WL (ref04_shape.L ref04_shape)):=.ofL mixed .nil Tryz.func137 Tryz.call137 (ref04_shape.geq)
def gf_Mul (x0 x1:Int) (h:H) (Q:Int→H→Prop):Prop:=
M.val (IntKind.wrap .i64 x0) fun z2=>
M.join (α:=Int) (fun d18 h19=>
M.val (IntKind.wrap .u8 d18) fun z20=>
Q z20 h19) fun J3=>
M.loop (α:=Int × Int × Int) (fun J4 d5 h6=>
(bif (d5.1 != 0) then
M.join (α:=Int × Int) (fun d15 h16=>
M.shr0 1 (
M.val (shr .u8 d5.1 1) fun z17=>
J4 (z17,d15.1,d15.2) h16)) fun J7=>
M.join (α:=Int) (fun d11 h12=>
M.shr0 1 (
M.val (shl .i64 d5.2.1 1) fun z13=>
(bif (decide (z13 > 255)) then
M.val (bXor .i64 z13 285) fun z14=>
J7 (z14,d11) h12
else
J7 (z13,d11) h12))) fun J8=>
M.val (bAnd .u8 d5.1 1) fun z9=>
(bif (z9 == 1) then
M.val (bXor .i64 d5.2.2 d5.2.1) fun z10=>
J8 z10 h6
else
J8 d5.2.2 h6)
else
J3 d5.2.2 h6)) (x1,z2,0) h
def gf_Mul.L (F:type_of% gf_Mul):LT
 | [.int .u8 x0,.int .u8 x1]=>fun Q h=>F x0 x1 h fun n23 h24=>Q (.int .u8 n23) h24
 | _=>fun _ _=>False
def gf_Mul.ann:Ann:=⟨lookN [],lookN [(7,[(6,.int .i64)]),(113,[(5,.int .i64),(6,.int .i64)]),(452,[(6,.int .i64)])],lookN [(28,[(1,.int .u8),(5,.int .i64),(6,.int .i64)])]⟩
theorem gf_Mul.geq:∀ l,OkL (evF Tryz.prog (envOf []) Tryz.f173 gf_Mul.ann) l (gf_Mul.L gf_Mul l):=by
 intro l; unfold gf_Mul.L; split; exact .inr (by intros; kernel_rfl); exact .inl rfl
theorem gf_Mul.good:FnGood Tryz.prog 173 (WL (gf_Mul.L gf_Mul)):=.ofL mixed .nil Tryz.func173 Tryz.call173 (gf_Mul.geq)
def ref02_Mul (x0 x1:Int) (h:H) (Q:Int→H→Prop):Prop:=
M.new h (.cells #[.int .i64 0,.int .i64 0,.int .i64 0,.int .i64 0,.int .i64 0,.int .i64 0,.int .i64 0,.int .i64 0,.int .i64 0,.int .i64 0,.int .i64 0,.int .i64 0,.int .i64 0,.int .i64 0,.int .i64 0,.int .i64 0] 294) fun b2 h3=>
M.val (IntKind.wrap .i64 x0) fun z4=>
M.join (α:=Unit) (fun d35 h36=>
M.new h36 (.cells #[.int .i64 0,.int .i64 0,.int .i64 0,.int .i64 0,.int .i64 0,.int .i64 0,.int .i64 0,.int .i64 0,.int .i64 0] 295) fun b37 h38=>
M.req (Array.size (#[.int .i64 1,.int .i64 0,.int .i64 1,.int .i64 1,.int .i64 1,.int .i64 0,.int .i64 0,.int .i64 0,.int .i64 1]:Array Value)=9) (M.puts h38 ⟨b37,0,none⟩ [.int .i64 1,.int .i64 0,.int .i64 1,.int .i64 1,.int .i64 1,.int .i64 0,.int .i64 0,.int .i64 0,.int .i64 1] fun h39=>
M.join (α:=Unit) (fun d69 h70=>
M.join (α:=Int) (fun d81 h82=>
M.val (IntKind.wrap .u8 d81) fun z83=>
Q z83 h82) fun J71=>
M.loop (α:=Int × Int) (fun J72 d73 h74=>
(bif (decide (d73.2 ≥ 0)) then
M.val (IntKind.wrap .i64 (2*d73.1)) fun z75=>
M.aidx 16 d73.2 fun j76=>
M.load h74 (Addr.add ⟨b2,0,none⟩ (j76*1)) fun v77=>
M.int .i64 v77 fun n78=>
M.val (IntKind.wrap .i64 (z75+n78)) fun z79=>
M.val (IntKind.wrap .i64 (d73.2-1)) fun z80=>
J72 (z79,z80) h74
else
J71 d73.1 h74)) (0,7) h70) fun J40=>
M.loop (α:=Int) (fun J41 d42 h43=>
(bif (decide (d42 ≥ 8)) then
M.join (α:=Unit) (fun d66 h67=>
M.val (IntKind.wrap .i64 (d42-1)) fun z68=>
J41 z68 h67) fun J44=>
M.aidx 16 d42 fun j45=>
M.load h43 (Addr.add ⟨b2,0,none⟩ (j45*1)) fun v46=>
M.int .i64 v46 fun n47=>
(bif (n47 == 1) then
M.loop (α:=Int) (fun J48 d49 h50=>
(bif (decide (d49≤8)) then
M.val (IntKind.wrap .i64 (d42-8)) fun z51=>
M.val (IntKind.wrap .i64 (z51+d49)) fun z52=>
M.val (IntKind.wrap .i64 (d42-8)) fun z53=>
M.val (IntKind.wrap .i64 (z53+d49)) fun z54=>
M.aidx 16 z54 fun j55=>
M.load h50 (Addr.add ⟨b2,0,none⟩ (j55*1)) fun v56=>
M.int .i64 v56 fun n57=>
M.aidx 9 d49 fun j58=>
M.load h50 (Addr.add ⟨b37,0,none⟩ (j58*1)) fun v59=>
M.int .i64 v59 fun n60=>
M.val (IntKind.wrap .i64 (n57+n60)) fun z61=>
M.nz 2 (
M.val (Int.tmod z61 2) fun z62=>
M.aidx 16 z52 fun j63=>
M.put h50 (Addr.add ⟨b2,0,none⟩ (j63*1)) (.int .i64 z62) fun h64=>
M.val (IntKind.wrap .i64 (d49+1)) fun z65=>
J48 z65 h64)
else
J44 () h50)) 0 h43
else
J44 () h43)
else
J40 () h43)) 15 h39)) fun J5=>
M.loop (α:=Int × Int) (fun J6 d7 h8=>
(bif (decide (d7.2<8)) then
M.join (α:=Int) (fun d32 h33=>
M.val (IntKind.wrap .i64 (d7.2+1)) fun z34=>
J6 (d32,z34) h33) fun J9=>
M.val (IntKind.wrap .i64 x1) fun z10=>
M.join (α:=Unit) (fun d29 h30=>
M.nz 2 (
M.val (IntKind.wrap .i64 (Int.tdiv d7.1 2)) fun z31=>
J9 z31 h30)) fun J11=>
M.loop (α:=Int × Int) (fun J12 d13 h14=>
(bif (decide (d13.2<8)) then
M.val (IntKind.wrap .i64 (d7.2+d13.2)) fun z15=>
M.val (IntKind.wrap .i64 (d7.2+d13.2)) fun z16=>
M.aidx 16 z16 fun j17=>
M.load h14 (Addr.add ⟨b2,0,none⟩ (j17*1)) fun v18=>
M.int .i64 v18 fun n19=>
M.nz 2 (
M.val (Int.tmod d7.1 2) fun z20=>
M.nz 2 (
M.val (Int.tmod d13.1 2) fun z21=>
M.val (IntKind.wrap .i64 (z20*z21)) fun z22=>
M.val (IntKind.wrap .i64 (n19+z22)) fun z23=>
M.nz 2 (
M.val (Int.tmod z23 2) fun z24=>
M.aidx 16 z15 fun j25=>
M.put h14 (Addr.add ⟨b2,0,none⟩ (j25*1)) (.int .i64 z24) fun h26=>
M.nz 2 (
M.val (IntKind.wrap .i64 (Int.tdiv d13.1 2)) fun z27=>
M.val (IntKind.wrap .i64 (d13.2+1)) fun z28=>
J12 (z27,z28) h26))))
else
J11 () h14)) (z10,0) h8
else
J5 () h8)) (z4,0) h3
def ref02_Mul.L (F:type_of% ref02_Mul):LT
 | [.int .u8 x0,.int .u8 x1]=>fun Q h=>F x0 x1 h fun n86 h87=>Q (.int .u8 n86) h87
 | _=>fun _ _=>False
def ref02_Mul.ann:Ann:=⟨lookN [],lookN [(15,[]),(63,[]),(255,[(13,.int .i64)]),(489,[(6,.int .i64)]),(2025,[]),(3913,[])],lookN [(122,[(6,.int .i64),(7,.int .i64)]),(506,[(11,.int .i64)]),(2042,[(13,.int .i64),(14,.int .i64)]),(31306,[(8,.int .i64),(9,.int .i64)]),(129610,[(12,.int .i64)])]⟩
theorem ref02_Mul.geq:∀ l,OkL (evF Tryz.prog (envOf []) Tryz.f175 ref02_Mul.ann) l (ref02_Mul.L ref02_Mul l):=by
 intro l; unfold ref02_Mul.L; split; exact .inr (by intros; kernel_rfl); exact .inl rfl
theorem ref02_Mul.good:FnGood Tryz.prog 175 (WL (ref02_Mul.L ref02_Mul)):=.ofL mixed .nil Tryz.func175 Tryz.call175 (ref02_Mul.geq)
def slices_Clonebyte_byte (x0:Option Addr) (x0L x0C:Nat) (h:H) (Q:Option Addr→Nat→Nat→H→Prop):Prop:=
(bif (Option.isNone x0) then
Q none 0 0 h
else
M.new h (.cells #[] 5) fun b4 h5=>
M.cellsOf h5 x0 (x0L*1) fun cs10=>
M.app h5 5 1 1 [.int .u8 0] (some ⟨b4,0,none⟩) 0 0 x0L cs10 fun a6 l7 c8 h9=>
Q a6 l7 c8 h9)
def slices_Clonebyte_byte.L (F:type_of% slices_Clonebyte_byte):LT
 | [.slice x0 x0L x0C]=>fun Q h=>F x0 x0L x0C h fun a15 l16 c17 h18=>Q (.slice a15 l16 c17) h18
 | _=>fun _ _=>False
theorem slices_Clonebyte_byte.geq:∀ l,OkL (evF Tryz.prog (envOf []) Tryz.f180 an0) l (slices_Clonebyte_byte.L slices_Clonebyte_byte l):=by
 intro l; unfold slices_Clonebyte_byte.L; split; exact .inr (by intros; kernel_rfl); exact .inl rfl
theorem slices_Clonebyte_byte.good:FnGood Tryz.prog 180 (WL (slices_Clonebyte_byte.L slices_Clonebyte_byte)):=.ofL mixed .nil Tryz.func180 Tryz.call180 (slices_Clonebyte_byte.geq)
def matrix_Invert_1 (x0:Option Addr) (x0L x0C:Nat) (a1:Addr) (h:H) (Q:Bool→H→Prop):Prop:=
M.load h a1 fun v3=>
M.int .i64 v3 fun n4=>
M.idx x0 x0L n4 fun a5 j6=>
M.load h (Addr.add a5 (j6*1)) fun v7=>
M.int .u8 v7 fun n8=>
Q (n8 != 0) h
def matrix_Invert_1.L (F:type_of% matrix_Invert_1):LT
 | [.slice x0 x0L x0C,.pointer (some a1)]=>fun Q h=>F x0 x0L x0C a1 h fun b11 h12=>Q (.bool b11) h12
 | _=>fun _ _=>False
theorem matrix_Invert_1.geq:∀ l,OkL (evF Tryz.prog (envOf []) Tryz.f182 an0) l (matrix_Invert_1.L matrix_Invert_1 l):=by
 intro l; unfold matrix_Invert_1.L; split; exact .inr (by intros; kernel_rfl); exact .inl rfl
theorem matrix_Invert_1.good:FnGood Tryz.prog 182 (WL (matrix_Invert_1.L matrix_Invert_1)):=.ofL mixed .nil Tryz.func182 Tryz.call182 (matrix_Invert_1.geq)
def matrix_Apply_1 (x0:ByteArray) (a1:Addr) (h:H) (Q:Bool→H→Prop):Prop:=
M.load h a1 fun v3=>
M.slc v3 fun a4 l5 c6=>
M.idx a4 l5 0 fun a7 j8=>
M.load h (Addr.add a7 (j8*1)) fun v9=>
M.str v9 fun s10=>
Q ((ByteArray.size x0:Int) != (ByteArray.size s10:Int)) h
def matrix_Apply_1.L (F:type_of% matrix_Apply_1):LT
 | [.string x0,.pointer (some a1)]=>fun Q h=>F x0 a1 h fun b13 h14=>Q (.bool b13) h14
 | _=>fun _ _=>False
theorem matrix_Apply_1.geq:∀ l,OkL (evF Tryz.prog (envOf []) Tryz.f185 an0) l (matrix_Apply_1.L matrix_Apply_1 l):=by
 intro l; unfold matrix_Apply_1.L; split; exact .inr (by intros; kernel_rfl); exact .inl rfl
theorem matrix_Apply_1.good:FnGood Tryz.prog 185 (WL (matrix_Apply_1.L matrix_Apply_1)):=.ofL mixed .nil Tryz.func185 Tryz.call185 (matrix_Apply_1.geq)
def matrix_may (x0:Int) (h:H) (Q:Bool→H→Prop):Prop:=
M.join (α:=Bool) (fun d3 h4=>
Q d3 h4) fun J2=>
(bif (decide (x0 ≥ 1)) then
J2 (decide (x0≤16)) h
else
J2 false h)
def matrix_may.L (F:type_of% matrix_may):LT
 | [.int .i64 x0]=>fun Q h=>F x0 h fun b7 h8=>Q (.bool b7) h8
 | _=>fun _ _=>False
def matrix_may.ann:Ann:=⟨lookN [(1,[(2,.bool)])],lookN [],lookN []⟩
theorem matrix_may.geq:∀ l,OkL (evF Tryz.prog (envOf []) Tryz.f212 matrix_may.ann) l (matrix_may.L matrix_may l):=by
 intro l; unfold matrix_may.L; split; exact .inr (by intros; kernel_rfl); exact .inl rfl
theorem matrix_may.good:FnGood Tryz.prog 212 (WL (matrix_may.L matrix_may)):=.ofL mixed .nil Tryz.func212 Tryz.call212 (matrix_may.geq)
def matrix_empty (x0 x1:Int) (h:H) (Q:Option Addr→Nat→Nat→H→Prop):Prop:=
M.mk h 29 [.slice none 0 0] 24 x0 x0 fun a4 l5 c6 h7=>
M.loop (α:=Int) (fun J8 d9 h10=>
(bif (decide (d9<(l5:Int))) then
M.mk h10 5 [.int .u8 0] 1 x1 x1 fun a11 l12 c13 h14=>
M.idx a4 l5 d9 fun a15 j16=>
M.put h14 (Addr.add a15 (j16*1)) (.slice a11 l12 c13) fun h17=>
M.val (IntKind.wrap .i64 (d9+1)) fun z18=>
J8 z18 h17
else
Q a4 l5 c6 h10)) 0 h7
def matrix_empty.L (F:type_of% matrix_empty):LT
 | [.int .i64 x0,.int .i64 x1]=>fun Q h=>F x0 x1 h fun a23 l24 c25 h26=>Q (.slice a23 l24 c25) h26
 | _=>fun _ _=>False
def matrix_empty.ann:Ann:=⟨lookN [],lookN [],lookN [(58,[(11,.int .i64)])]⟩
theorem matrix_empty.geq:∀ l,OkL (evF Tryz.prog (envOf []) Tryz.f213 matrix_empty.ann) l (matrix_empty.L matrix_empty l):=by
 intro l; unfold matrix_empty.L; split; exact .inr (by intros; kernel_rfl); exact .inl rfl
theorem matrix_empty.good:FnGood Tryz.prog 213 (WL (matrix_empty.L matrix_empty)):=.ofL mixed .nil Tryz.func213 Tryz.call213 (matrix_empty.geq)
def matrix_Matrix_Good_1 (x0:Option Addr) (x0L x0C:Nat) (a1:Addr) (h:H) (Q:Bool→H→Prop):Prop:=
M.load h a1 fun v3=>
M.slc v3 fun a4 l5 c6=>
M.idx a4 l5 0 fun a7 j8=>
M.load h (Addr.add a7 (j8*1)) fun v9=>
M.slc v9 fun a10 l11 c12=>
Q ((x0L:Int) != (l11:Int)) h
def matrix_Matrix_Good_1.L (F:type_of% matrix_Matrix_Good_1):LT
 | [.slice x0 x0L x0C,.pointer (some a1)]=>fun Q h=>F x0 x0L x0C a1 h fun b15 h16=>Q (.bool b15) h16
 | _=>fun _ _=>False
theorem matrix_Matrix_Good_1.geq:∀ l,OkL (evF Tryz.prog (envOf []) Tryz.f215 an0) l (matrix_Matrix_Good_1.L matrix_Matrix_Good_1 l):=by
 intro l; unfold matrix_Matrix_Good_1.L; split; exact .inr (by intros; kernel_rfl); exact .inl rfl
theorem matrix_Matrix_Good_1.good:FnGood Tryz.prog 215 (WL (matrix_Matrix_Good_1.L matrix_Matrix_Good_1)):=.ofL mixed .nil Tryz.func215 Tryz.call215 (matrix_Matrix_Good_1.geq)
def gf_Add (x0 x1:Int) (h:H) (Q:Int→H→Prop):Prop:=
M.val (bXor .u8 x0 x1) fun z2=>
Q z2 h
def gf_Add.L (F:type_of% gf_Add):LT
 | [.int .u8 x0,.int .u8 x1]=>fun Q h=>F x0 x1 h fun n5 h6=>Q (.int .u8 n5) h6
 | _=>fun _ _=>False
theorem gf_Add.geq:∀ l,OkL (evF Tryz.prog (envOf []) Tryz.f216 an0) l (gf_Add.L gf_Add l):=by
 intro l; unfold gf_Add.L; split; exact .inr (by intros; kernel_rfl); exact .inl rfl
theorem gf_Add.good:FnGood Tryz.prog 216 (WL (gf_Add.L gf_Add)):=.ofL mixed .nil Tryz.func216 Tryz.call216 (gf_Add.geq)
def gf_Scale.g (F0:type_of% gf_Mul) (x0:Int) (x1:ByteArray) (h:H) (Q:ByteArray→H→Prop):Prop:=
M.s2b h 5 x1 fun a2 l3 c4 h5=>
M.join (α:=Unit) (fun d20 h21=>
M.b2s h21 a2 l3 fun s22=>
Q s22 h21) fun J6=>
M.loop (α:=Int) (fun J7 d8 h9=>
(bif (decide (d8<(l3:Int))) then
M.idx a2 l3 d8 fun a10 j11=>
M.load h9 (Addr.add a10 (j11*1)) fun v12=>
M.int .u8 v12 fun n13=>
F0 x0 n13 h9 fun n14 h15=>
M.idx a2 l3 d8 fun a16 j17=>
M.put h15 (Addr.add a16 (j17*1)) (.int .u8 n14) fun h18=>
M.val (IntKind.wrap .i64 (d8+1)) fun z19=>
J7 z19 h18
else
J6 () h9)) 0 h5
def gf_Scale:=gf_Scale.g gf_Mul
def gf_Scale.L (F:type_of% gf_Scale):LT
 | [.int .u8 x0,.string x1]=>fun Q h=>F x0 x1 h fun s25 h26=>Q (.string s25) h26
 | _=>fun _ _=>False
def gf_Scale.ann:Ann:=⟨lookN [],lookN [(7,[])],lookN [(58,[(11,.int .i64)])]⟩
theorem gf_Scale.geq (F0):∀ l,OkL (evF Tryz.prog (envOf [(173,WL (gf_Mul.L F0))]) Tryz.f135 gf_Scale.ann) l (gf_Scale.L (gf_Scale.g F0) l):=by
 intro l; unfold gf_Scale.L; split; exact .inr (by intros; kernel_rfl); exact .inl rfl
theorem gf_Scale.good:FnGood Tryz.prog 135 (WL (gf_Scale.L gf_Scale)):=.ofL mixed (.cons gf_Mul.good .nil) Tryz.func135 Tryz.call135 (gf_Scale.geq gf_Mul)
def gf_Pow.g (F0:type_of% gf_Mul) (x0 x1:Int) (h:H) (Q:Int→H→Prop):Prop:=
(bif (x1 == 0) then
Q 1 h
else
(bif (x0 == 0) then
Q 0 h
else
M.nz 255 (
M.val (Int.tmod x1 255) fun z2=>
M.val (IntKind.wrap .i64 (z2+255)) fun z3=>
M.nz 255 (
M.val (Int.tmod z3 255) fun z4=>
M.loop (α:=Int × Int × Int) (fun J5 d6 h7=>
(bif (decide (d6.2.2 > 0)) then
M.join (α:=Int) (fun d12 h13=>
F0 d6.1 d6.1 h13 fun n14 h15=>
M.shr0 1 (
M.val (shr .i64 d6.2.2 1) fun z16=>
J5 (n14,d12,z16) h15)) fun J8=>
M.val (bAnd .i64 d6.2.2 1) fun z9=>
(bif (z9 == 1) then
F0 d6.2.1 d6.1 h7 fun n10 h11=>
J8 n10 h11
else
J8 d6.2.1 h7)
else
Q d6.2.1 h7)) (x0,1,z4) h))))
def gf_Pow:=gf_Pow.g gf_Mul
def gf_Pow.L (F:type_of% gf_Pow):LT
 | [.int .u8 x0,.int .i64 x1]=>fun Q h=>F x0 x1 h fun n19 h20=>Q (.int .u8 n19) h20
 | _=>fun _ _=>False
def gf_Pow.ann:Ann:=⟨lookN [],lookN [(4004,[(5,.int .u8)])],lookN [(250,[(0,.int .u8),(5,.int .u8),(6,.int .i64)])]⟩
theorem gf_Pow.geq (F0):∀ l,OkL (evF Tryz.prog (envOf [(173,WL (gf_Mul.L F0))]) Tryz.f136 gf_Pow.ann) l (gf_Pow.L (gf_Pow.g F0) l):=by
 intro l; unfold gf_Pow.L; split; exact .inr (by intros; kernel_rfl); exact .inl rfl
theorem gf_Pow.good:FnGood Tryz.prog 136 (WL (gf_Pow.L gf_Pow)):=.ofL mixed (.cons gf_Mul.good .nil) Tryz.func136 Tryz.call136 (gf_Pow.geq gf_Mul)
def ref02_Pow.g (F0:type_of% ref02_Mul) (x0 x1:Int) (h:H) (Q:Int→H→Prop):Prop:=
(bif (x1 == 0) then
Q 1 h
else
(bif (x0 == 0) then
Q 0 h
else
M.nz 255 (
M.val (Int.tmod x1 255) fun z2=>
M.join (α:=Int) (fun d5 h6=>
M.loop (α:=Int × Int) (fun J7 d8 h9=>
(bif (decide (d8.2<d5)) then
F0 d8.1 x0 h9 fun n10 h11=>
M.val (IntKind.wrap .i64 (d8.2+1)) fun z12=>
J7 (n10,z12) h11
else
Q d8.1 h9)) (1,0) h6) fun J3=>
(bif (decide (z2<0)) then
M.val (IntKind.wrap .i64 (z2+255)) fun z4=>
J3 z4 h
else
J3 z2 h))))
def ref02_Pow:=ref02_Pow.g ref02_Mul
def ref02_Pow.L (F:type_of% ref02_Pow):LT
 | [.int .u8 x0,.int .i64 x1]=>fun Q h=>F x0 x1 h fun n15 h16=>Q (.int .u8 n15) h16
 | _=>fun _ _=>False
def ref02_Pow.ann:Ann:=⟨lookN [],lookN [(31,[(5,.int .i64)])],lookN [(1018,[(6,.int .u8),(7,.int .i64)])]⟩
theorem ref02_Pow.geq (F0):∀ l,OkL (evF Tryz.prog (envOf [(175,WL (ref02_Mul.L F0))]) Tryz.f174 ref02_Pow.ann) l (ref02_Pow.L (ref02_Pow.g F0) l):=by
 intro l; unfold ref02_Pow.L; split; exact .inr (by intros; kernel_rfl); exact .inl rfl
theorem ref02_Pow.good:FnGood Tryz.prog 174 (WL (ref02_Pow.L ref02_Pow)):=.ofL mixed (.cons ref02_Mul.good .nil) Tryz.func174 Tryz.call174 (ref02_Pow.geq ref02_Mul)
def matrix_Identity.g (F0:type_of% matrix_may) (F1:type_of% matrix_empty) (x0:Int) (h:H) (Q:Option Addr→Nat→Nat→Int→H→Prop):Prop:=
F0 x0 h fun b5 h6=>
(bif (!b5) then
Q none 0 0 2 h6
else
F1 x0 x0 h6 fun a7 l8 c9 h10=>
M.join (α:=Unit) (fun d25 h26=>
Q a7 l8 c9 0 h26) fun J11=>
M.loop (α:=Int) (fun J12 d13 h14=>
(bif (decide (d13<x0)) then
M.idx a7 l8 d13 fun a15 j16=>
M.load h14 (Addr.add a15 (j16*1)) fun v17=>
M.slc v17 fun a18 l19 c20=>
M.idx a18 l19 d13 fun a21 j22=>
M.put h14 (Addr.add a21 (j22*1)) (.int .u8 1) fun h23=>
M.val (IntKind.wrap .i64 (d13+1)) fun z24=>
J12 z24 h23
else
J11 () h14)) 0 h10)
def matrix_Identity:=matrix_Identity.g matrix_may matrix_empty
def matrix_Identity.L (F:type_of% matrix_Identity):LT
 | [.int .i64 x0]=>fun Q h=>F x0 h fun a32 l33 c34 n35 h36=>Q (.tuple #[.slice a32 l33 c34,.int .i64 n35]) h36
 | _=>fun _ _=>False
def matrix_Identity.ann:Ann:=⟨lookN [],lookN [(15,[])],lookN [(122,[(13,.int .i64)])]⟩
theorem matrix_Identity.geq (F0) (F1):∀ l,OkL (evF Tryz.prog (envOf [(212,WL (matrix_may.L F0)),(213,WL (matrix_empty.L F1))]) Tryz.f177 matrix_Identity.ann) l (matrix_Identity.L (matrix_Identity.g F0 F1) l):=by
 intro l; unfold matrix_Identity.L; split; exact .inr (by intros; kernel_rfl); exact .inl rfl
theorem matrix_Identity.good:FnGood Tryz.prog 177 (WL (matrix_Identity.L matrix_Identity)):=.ofL mixed (.cons matrix_may.good (.cons matrix_empty.good .nil)) Tryz.func177 Tryz.call177 (matrix_Identity.geq matrix_may matrix_empty)
def matrix_Vandermonde.g (F0:type_of% matrix_may) (F1:type_of% matrix_empty) (F2:type_of% gf_Pow) (x0 x1:Int) (h:H) (Q:Option Addr→Nat→Nat→Int→H→Prop):Prop:=
M.join (α:=Bool) (fun d10 h11=>
(bif d10 then
Q none 0 0 2 h11
else
F1 x0 x1 h11 fun a12 l13 c14 h15=>
M.join (α:=Unit) (fun d37 h38=>
Q a12 l13 c14 0 h38) fun J16=>
M.loop (α:=Int) (fun J17 d18 h19=>
(bif (decide (d18<x0)) then
M.loop (α:=Int) (fun J20 d21 h22=>
(bif (decide (d21<x1)) then
M.idx a12 l13 d18 fun a23 j24=>
M.load h22 (Addr.add a23 (j24*1)) fun v25=>
M.slc v25 fun a26 l27 c28=>
M.val (IntKind.wrap .i64 (d18*d21)) fun z29=>
F2 2 z29 h22 fun n30 h31=>
M.still h22 (Addr.add a23 (j24*1)) 1 h31 (
M.idx a26 l27 d21 fun a32 j33=>
M.put h31 (Addr.add a32 (j33*1)) (.int .u8 n30) fun h34=>
M.val (IntKind.wrap .i64 (d21+1)) fun z35=>
J20 z35 h34)
else
M.val (IntKind.wrap .i64 (d18+1)) fun z36=>
J17 z36 h22)) 0 h19
else
J16 () h19)) 0 h15)) fun J5=>
F0 x0 h fun b6 h7=>
(bif (!b6) then
J5 true h7
else
F0 x1 h7 fun b8 h9=>
J5 (!b8) h9)
def matrix_Vandermonde:=matrix_Vandermonde.g matrix_may matrix_empty gf_Pow
def matrix_Vandermonde.L (F:type_of% matrix_Vandermonde):LT
 | [.int .i64 x0,.int .i64 x1]=>fun Q h=>F x0 x1 h fun a44 l45 c46 n47 h48=>Q (.tuple #[.slice a44 l45 c46,.int .i64 n47]) h48
 | _=>fun _ _=>False
def matrix_Vandermonde.ann:Ann:=⟨lookN [(1,[(16,.bool)])],lookN [(15,[])],lookN [(122,[(21,.int .i64)]),(31334,[(25,.int .i64)])]⟩
theorem matrix_Vandermonde.geq (F0) (F1) (F2):∀ l,OkL (evF Tryz.prog (envOf [(212,WL (matrix_may.L F0)),(213,WL (matrix_empty.L F1)),(136,WL (gf_Pow.L F2))]) Tryz.f178 matrix_Vandermonde.ann) l (matrix_Vandermonde.L (matrix_Vandermonde.g F0 F1 F2) l):=by
 intro l; unfold matrix_Vandermonde.L; split; exact .inr (by intros; kernel_rfl); exact .inl rfl
theorem matrix_Vandermonde.good:FnGood Tryz.prog 178 (WL (matrix_Vandermonde.L matrix_Vandermonde)):=.ofL mixed (.cons matrix_may.good (.cons matrix_empty.good (.cons gf_Pow.good .nil))) Tryz.func178 Tryz.call178 (matrix_Vandermonde.geq matrix_may matrix_empty gf_Pow)
def gf_Inv.g (F0:type_of% gf_Pow) (x0:Int) (h:H) (Q:Int→Int→H→Prop):Prop:=
(bif (x0 == 0) then
Q 0 6 h
else
F0 x0 254 h fun n3 h4=>
Q n3 0 h4)
def gf_Inv:=gf_Inv.g gf_Pow
def gf_Inv.L (F:type_of% gf_Inv):LT
 | [.int .u8 x0]=>fun Q h=>F x0 h fun n8 n9 h10=>Q (.tuple #[.int .u8 n8,.int .i64 n9]) h10
 | _=>fun _ _=>False
theorem gf_Inv.geq (F0):∀ l,OkL (evF Tryz.prog (envOf [(136,WL (gf_Pow.L F0))]) Tryz.f183 an0) l (gf_Inv.L (gf_Inv.g F0) l):=by
 intro l; unfold gf_Inv.L; split; exact .inr (by intros; kernel_rfl); exact .inl rfl
theorem gf_Inv.good:FnGood Tryz.prog 183 (WL (gf_Inv.L gf_Inv)):=.ofL mixed (.cons gf_Pow.good .nil) Tryz.func183 Tryz.call183 (gf_Inv.geq gf_Pow)
def matrix_clearRow.g (F0:type_of% gf_Mul) (F1:type_of% gf_Add) (x0:Option Addr) (x0L x0C:Nat) (x1 x2 x3:Int) (h:H) (Q:H→Prop):Prop:=
M.idx x0 x0L x1 fun a1 j2=>
M.load h (Addr.add a1 (j2*1)) fun v3=>
M.slc v3 fun a4 l5 c6=>
M.idx a4 l5 x3 fun a7 j8=>
M.load h (Addr.add a7 (j8*1)) fun v9=>
M.int .u8 v9 fun n10=>
M.join (α:=Bool) (fun d12 h13=>
(bif d12 then
M.idx x0 x0L x1 fun a14 j15=>
M.load h13 (Addr.add a14 (j15*1)) fun v16=>
M.slc v16 fun a17 l18 c19=>
M.loop (α:=Int) (fun J20 d21 h22=>
(bif (decide (d21<(l18:Int))) then
M.idx x0 x0L x1 fun a23 j24=>
M.load h22 (Addr.add a23 (j24*1)) fun v25=>
M.slc v25 fun a26 l27 c28=>
M.idx x0 x0L x1 fun a29 j30=>
M.load h22 (Addr.add a29 (j30*1)) fun v31=>
M.slc v31 fun a32 l33 c34=>
M.idx a32 l33 d21 fun a35 j36=>
M.load h22 (Addr.add a35 (j36*1)) fun v37=>
M.int .u8 v37 fun n38=>
M.idx x0 x0L x2 fun a39 j40=>
M.load h22 (Addr.add a39 (j40*1)) fun v41=>
M.slc v41 fun a42 l43 c44=>
M.idx a42 l43 d21 fun a45 j46=>
M.load h22 (Addr.add a45 (j46*1)) fun v47=>
M.int .u8 v47 fun n48=>
F0 n10 n48 h22 fun n49 h50=>
M.still h22 (Addr.add a35 (j36*1)) 1 h50 (
M.still h22 (Addr.add a29 (j30*1)) 1 h50 (
M.still h22 (Addr.add a23 (j24*1)) 1 h50 (
F1 n38 n49 h50 fun n51 h52=>
M.still h22 (Addr.add a23 (j24*1)) 1 h52 (
M.idx a26 l27 d21 fun a53 j54=>
M.put h52 (Addr.add a53 (j54*1)) (.int .u8 n51) fun h55=>
M.val (IntKind.wrap .i64 (d21+1)) fun z56=>
J20 z56 h55))))
else
Q h22)) 0 h13
else
Q h13)) fun J11=>
(bif (x1 != x2) then
J11 (n10 != 0) h
else
J11 false h)
def matrix_clearRow:=matrix_clearRow.g gf_Mul gf_Add
def matrix_clearRow.L (F:type_of% matrix_clearRow):LT
 | [.slice x0 x0L x0C,.int .i64 x1,.int .i64 x2,.int .i64 x3]=>fun Q h=>F x0 x0L x0C x1 x2 x3 h fun h58=>Q (.tuple #[]) h58
 | _=>fun _ _=>False
def matrix_clearRow.ann:Ann:=⟨lookN [(1,[(23,.bool)])],lookN [],lookN [(58,[(29,.int .i64)])]⟩
theorem matrix_clearRow.geq (F0) (F1):∀ l,OkL (evF Tryz.prog (envOf [(173,WL (gf_Mul.L F0)),(216,WL (gf_Add.L F1))]) Tryz.f184 matrix_clearRow.ann) l (matrix_clearRow.L (matrix_clearRow.g F0 F1) l):=by
 intro l; unfold matrix_clearRow.L; split; exact .inr (by intros; kernel_rfl); exact .inl rfl
theorem matrix_clearRow.good:FnGood Tryz.prog 184 (WL (matrix_clearRow.L matrix_clearRow)):=.ofL mixed (.cons gf_Mul.good (.cons gf_Add.good .nil)) Tryz.func184 Tryz.call184 (matrix_clearRow.geq gf_Mul gf_Add)
def rs_Encode.g (F0:type_of% rs_may) (F1:type_of% rs_shape) (F2:type_of% words_Xor) (F3:type_of% gf_Pow) (F4:type_of% gf_Scale) (x0:Option Addr) (x0L x0C:Nat) (h:H) (Q:ByteArray→ByteArray→Int→H→Prop):Prop:=
F0 (x0L:Int) h fun b4 h5=>
(bif (!b4) then
Q ByteArray.empty ByteArray.empty 2 h5
else
F1 x0 x0L x0C h5 fun n6 h7=>
(bif (n6 != 0) then
Q ByteArray.empty ByteArray.empty n6 h7
else
M.idx x0 x0L 0 fun a8 j9=>
M.load h7 (Addr.add a8 (j9*1)) fun v10=>
M.str v10 fun s11=>
M.mk h7 5 [.int .u8 0] 1 (ByteArray.size s11:Int) (ByteArray.size s11:Int) fun a12 l13 c14 h15=>
M.b2s h15 a12 l13 fun s16=>
M.join (α:=ByteArray × ByteArray) (fun d34 h35=>
Q d34.1 d34.2 0 h35) fun J17=>
M.loop (α:=ByteArray × ByteArray × Int) (fun J18 d19 h20=>
(bif (decide (d19.2.2<(x0L:Int))) then
M.idx x0 x0L d19.2.2 fun a21 j22=>
M.load h20 (Addr.add a21 (j22*1)) fun v23=>
M.str v23 fun s24=>
F2 d19.1 s24 h20 fun s25 h26=>
F3 2 d19.2.2 h26 fun n27 h28=>
F4 n27 s24 h28 fun s29 h30=>
F2 d19.2.1 s29 h30 fun s31 h32=>
M.val (IntKind.wrap .i64 (d19.2.2+1)) fun z33=>
J18 (s25,s31,z33) h32
else
J17 (d19.1,d19.2.1) h20)) (s16,s16,0) h15))
def rs_Encode:=rs_Encode.g rs_may rs_shape words_Xor gf_Pow gf_Scale
def rs_Encode.L (F:type_of% rs_Encode):LT
 | [.slice x0 x0L x0C]=>fun Q h=>F x0 x0L x0C h fun s40 s41 n42 h43=>Q (.tuple #[.string s40,.string s41,.int .i64 n42]) h43
 | _=>fun _ _=>False
def rs_Encode.ann:Ann:=⟨lookN [],lookN [(63,[(2,.str),(3,.str)])],lookN [(506,[(2,.str),(3,.str),(25,.int .i64)])]⟩
theorem rs_Encode.geq (F0) (F1) (F2) (F3) (F4):∀ l,OkL (evF Tryz.prog (envOf [(132,WL (rs_may.L F0)),(133,WL (rs_shape.L F1)),(134,WL (words_Xor.L F2)),(136,WL (gf_Pow.L F3)),(135,WL (gf_Scale.L F4))]) Tryz.f81 rs_Encode.ann) l (rs_Encode.L (rs_Encode.g F0 F1 F2 F3 F4) l):=by
 intro l; unfold rs_Encode.L; split; exact .inr (by intros; kernel_rfl); exact .inl rfl
theorem rs_Encode.good:FnGood Tryz.prog 81 (WL (rs_Encode.L rs_Encode)):=.ofL mixed (.cons rs_may.good (.cons rs_shape.good (.cons words_Xor.good (.cons gf_Pow.good (.cons gf_Scale.good .nil))))) Tryz.func81 Tryz.call81 (rs_Encode.geq rs_may rs_shape words_Xor gf_Pow gf_Scale)
def rs_Check.g (F0:type_of% rs_may) (F1:type_of% rs_Encode) (x0:Option Addr) (x0L x0C:Nat) (h:H) (Q:Bool→H→Prop):Prop:=
M.val (IntKind.wrap .i64 ((x0L:Int)-2)) fun z2=>
F0 z2 h fun b3 h4=>
(bif (!b3) then
Q false h4
else
M.sub x0 x0C 1 0 z2 fun a5 l6 c7=>
F1 a5 l6 c7 h4 fun s8 s9 n10 h11=>
M.join (α:=Bool) (fun d23 h24=>
Q d23 h24) fun J12=>
(bif (n10 == 0) then
M.sub x0 x0C 1 z2 (x0L:Int) fun a13 l14 c15=>
M.req (2≤l14) (M.nn a13 fun a16=>
M.load h11 (a16.add 0) fun v17=>
M.str v17 fun s18=>
M.load h11 (a16.add 1) fun v19=>
M.str v19 fun s20=>
M.eqv Tryz.prog .eql 236 (.tmp 28) (.tmp 31) (.agg (#[.string s18,.string s20]:Array Value)) (.agg (#[.string s8,.string s9]:Array Value)) h11 fun b21 h22=>
J12 b21 h22)
else
J12 false h11))
def rs_Check:=rs_Check.g rs_may rs_Encode
def rs_Check.L (F:type_of% rs_Check):LT
 | [.slice x0 x0L x0C]=>fun Q h=>F x0 x0L x0C h fun b27 h28=>Q (.bool b27) h28
 | _=>fun _ _=>False
def rs_Check.ann:Ann:=⟨lookN [(5,[(2,.bool)])],lookN [],lookN []⟩
theorem rs_Check.geq (F0) (F1):∀ l,OkL (evF Tryz.prog (envOf [(132,WL (rs_may.L F0)),(81,WL (rs_Encode.L F1))]) Tryz.f86 rs_Check.ann) l (rs_Check.L (rs_Check.g F0 F1) l):=by
 intro l; unfold rs_Check.L; split; exact .inr (by intros; kernel_rfl); exact .inl rfl
theorem rs_Check.good:FnGood Tryz.prog 86 (WL (rs_Check.L rs_Check)):=.ofL mixed (.cons rs_may.good (.cons rs_Encode.good .nil)) Tryz.func86 Tryz.call86 (rs_Check.geq rs_may rs_Encode)
def rs_generator.g (F0:type_of% matrix_Identity) (F1:type_of% matrix_Vandermonde) (x0:Int) (h:H) (Q:Option Addr→Nat→Nat→H→Prop):Prop:=
F0 x0 h fun a4 l5 c6 n7 h8=>
F1 2 x0 h8 fun a9 l10 c11 n12 h13=>
M.cellsOf h13 a9 (l10*1) fun cs18=>
M.app h13 29 1 24 [.slice none 0 0] a4 l5 c6 l10 cs18 fun a14 l15 c16 h17=>
Q a14 l15 c16 h17
def rs_generator:=rs_generator.g matrix_Identity matrix_Vandermonde
def rs_generator.L (F:type_of% rs_generator):LT
 | [.int .i64 x0]=>fun Q h=>F x0 h fun a23 l24 c25 h26=>Q (.slice a23 l24 c25) h26
 | _=>fun _ _=>False
theorem rs_generator.geq (F0) (F1):∀ l,OkL (evF Tryz.prog (envOf [(177,WL (matrix_Identity.L F0)),(178,WL (matrix_Vandermonde.L F1))]) Tryz.f139 an0) l (rs_generator.L (rs_generator.g F0 F1) l):=by
 intro l; unfold rs_generator.L; split; exact .inr (by intros; kernel_rfl); exact .inl rfl
theorem rs_generator.good:FnGood Tryz.prog 139 (WL (rs_generator.L rs_generator)):=.ofL mixed (.cons matrix_Identity.good (.cons matrix_Vandermonde.good .nil)) Tryz.func139 Tryz.call139 (rs_generator.geq matrix_Identity matrix_Vandermonde)
def ref02_Add.g (F0:type_of% ref01_Xor) (x0 x1:Int) (h:H) (Q:Int→H→Prop):Prop:=
M.new h (.cells #[.int .u8 x0] 5) fun b2 h3=>
M.b2s h3 (some ⟨b2,0,none⟩) 1 fun s4=>
M.new h3 (.cells #[.int .u8 x1] 5) fun b5 h6=>
M.b2s h6 (some ⟨b5,0,none⟩) 1 fun s7=>
F0 s4 s7 h6 fun s8 h9=>
M.byte s8 0 fun n10=>
Q n10 h9
def ref02_Add:=ref02_Add.g ref01_Xor
def ref02_Add.L (F:type_of% ref02_Add):LT
 | [.int .u8 x0,.int .u8 x1]=>fun Q h=>F x0 x1 h fun n13 h14=>Q (.int .u8 n13) h14
 | _=>fun _ _=>False
theorem ref02_Add.geq (F0):∀ l,OkL (evF Tryz.prog (envOf [(211,WL (ref01_Xor.L F0))]) Tryz.f176 an0) l (ref02_Add.L (ref02_Add.g F0) l):=by
 intro l; unfold ref02_Add.L; split; exact .inr (by intros; kernel_rfl); exact .inl rfl
theorem ref02_Add.good:FnGood Tryz.prog 176 (WL (ref02_Add.L ref02_Add)):=.ofL mixed (.cons ref01_Xor.good .nil) Tryz.func176 Tryz.call176 (ref02_Add.geq ref01_Xor)
def slices_IndexFuncstring_string_stripe_Make_1.g (F0:type_of% stripe_Make_1) (x0:Option Addr) (x0L x0C:Nat) (h:H) (Q:Int→H→Prop):Prop:=
M.loop (α:=Int) (fun J2 d3 h4=>
(bif (decide (d3<(x0L:Int))) then
M.idx x0 x0L d3 fun a5 j6=>
M.load h4 (Addr.add a5 (j6*1)) fun v7=>
M.str v7 fun s8=>
F0 s8 h4 fun b9 h10=>
(bif b9 then
Q d3 h10
else
M.val (IntKind.wrap .i64 (d3+1)) fun z11=>
J2 z11 h10)
else
Q (-1) h4)) 0 h
def slices_IndexFuncstring_string_stripe_Make_1:=slices_IndexFuncstring_string_stripe_Make_1.g stripe_Make_1
def slices_IndexFuncstring_string_stripe_Make_1.L (F:type_of% slices_IndexFuncstring_string_stripe_Make_1):LT
 | [.slice x0 x0L x0C,.func (.func 80) ⟨[]⟩ ⟨[]⟩]=>fun Q h=>F x0 x0L x0C h fun n14 h15=>Q (.int .i64 n14) h15
 | _=>fun _ _=>False
def slices_IndexFuncstring_string_stripe_Make_1.ann:Ann:=⟨lookN [],lookN [],lookN [(26,[(8,.int .i64)])]⟩
theorem slices_IndexFuncstring_string_stripe_Make_1.geq (F0):∀ l,OkL (evF Tryz.prog (envOf [(80,WL (stripe_Make_1.L F0))]) Tryz.f131 slices_IndexFuncstring_string_stripe_Make_1.ann) l (slices_IndexFuncstring_string_stripe_Make_1.L (slices_IndexFuncstring_string_stripe_Make_1.g F0) l):=by
 intro l; unfold slices_IndexFuncstring_string_stripe_Make_1.L; split; exact .inr (by intros; kernel_rfl); exact .inl rfl
theorem slices_IndexFuncstring_string_stripe_Make_1.good:FnGood Tryz.prog 131 (WL (slices_IndexFuncstring_string_stripe_Make_1.L slices_IndexFuncstring_string_stripe_Make_1)):=.ofL mixed (.cons stripe_Make_1.good .nil) Tryz.func131 Tryz.call131 (slices_IndexFuncstring_string_stripe_Make_1.geq stripe_Make_1)
def slices_IndexFuncbyte_matrix_Matrix_Good_1.g (F0:type_of% matrix_Matrix_Good_1) (x0:Option Addr) (x0L x0C:Nat) (x1_0:Addr) (h:H) (Q:Int→H→Prop):Prop:=
M.loop (α:=Int) (fun J2 d3 h4=>
(bif (decide (d3<(x0L:Int))) then
M.idx x0 x0L d3 fun a5 j6=>
M.load h4 (Addr.add a5 (j6*1)) fun v7=>
M.slc v7 fun a8 l9 c10=>
F0 a8 l9 c10 x1_0 h4 fun b11 h12=>
(bif b11 then
Q d3 h12
else
M.val (IntKind.wrap .i64 (d3+1)) fun z13=>
J2 z13 h12)
else
Q (-1) h4)) 0 h
def slices_IndexFuncbyte_matrix_Matrix_Good_1:=slices_IndexFuncbyte_matrix_Matrix_Good_1.g matrix_Matrix_Good_1
def slices_IndexFuncbyte_matrix_Matrix_Good_1.L (F:type_of% slices_IndexFuncbyte_matrix_Matrix_Good_1):LT
 | [.slice x0 x0L x0C,.func (.func 215) ⟨[]⟩ ⟨[.pointer (some x1_0)]⟩]=>fun Q h=>F x0 x0L x0C x1_0 h fun n16 h17=>Q (.int .i64 n16) h17
 | _=>fun _ _=>False
def slices_IndexFuncbyte_matrix_Matrix_Good_1.ann:Ann:=⟨lookN [],lookN [],lookN [(26,[(8,.int .i64)])]⟩
theorem slices_IndexFuncbyte_matrix_Matrix_Good_1.geq (F0):∀ l,OkL (evF Tryz.prog (envOf [(215,WL (matrix_Matrix_Good_1.L F0))]) Tryz.f181 slices_IndexFuncbyte_matrix_Matrix_Good_1.ann) l (slices_IndexFuncbyte_matrix_Matrix_Good_1.L (slices_IndexFuncbyte_matrix_Matrix_Good_1.g F0) l):=by
 intro l; unfold slices_IndexFuncbyte_matrix_Matrix_Good_1.L; split; exact .inr (by intros; kernel_rfl); exact .inl rfl
theorem slices_IndexFuncbyte_matrix_Matrix_Good_1.good:FnGood Tryz.prog 181 (WL (slices_IndexFuncbyte_matrix_Matrix_Good_1.L slices_IndexFuncbyte_matrix_Matrix_Good_1)):=.ofL mixed (.cons matrix_Matrix_Good_1.good .nil) Tryz.func181 Tryz.call181 (slices_IndexFuncbyte_matrix_Matrix_Good_1.geq matrix_Matrix_Good_1)
def ref04_parity.g (F0:type_of% ref02_Pow) (F1:type_of% ref02_Mul) (F2:type_of% ref02_Add) (x0:Option Addr) (x0L x0C:Nat) (x1:Int) (h:H) (Q:Int→Int→H→Prop):Prop:=
M.join (α:=Int × Int) (fun d26 h27=>
Q d26.1 d26.2 h27) fun J3=>
M.loop (α:=Int × Int × Int) (fun J4 d5 h6=>
(bif (decide (d5.2.2<(x0L:Int))) then
F0 2 d5.2.2 h6 fun n7 h8=>
M.idx x0 x0L d5.2.2 fun a9 j10=>
M.load h8 (Addr.add a9 (j10*1)) fun v11=>
M.str v11 fun s12=>
M.byte s12 x1 fun n13=>
F1 n7 n13 h8 fun n14 h15=>
M.idx x0 x0L d5.2.2 fun a16 j17=>
M.load h15 (Addr.add a16 (j17*1)) fun v18=>
M.str v18 fun s19=>
M.byte s19 x1 fun n20=>
F2 d5.1 n20 h15 fun n21 h22=>
F2 d5.2.1 n14 h22 fun n23 h24=>
M.val (IntKind.wrap .i64 (d5.2.2+1)) fun z25=>
J4 (n21,n23,z25) h24
else
J3 (d5.1,d5.2.1) h6)) (0,0,0) h
def ref04_parity:=ref04_parity.g ref02_Pow ref02_Mul ref02_Add
def ref04_parity.L (F:type_of% ref04_parity):LT
 | [.slice x0 x0L x0C,.int .i64 x1]=>fun Q h=>F x0 x0L x0C x1 h fun n31 n32 h33=>Q (.tuple #[.int .u8 n31,.int .u8 n32]) h33
 | _=>fun _ _=>False
def ref04_parity.ann:Ann:=⟨lookN [],lookN [(15,[(6,.int .u8),(7,.int .u8)])],lookN [(122,[(6,.int .u8),(7,.int .u8),(8,.int .i64)])]⟩
theorem ref04_parity.geq (F0) (F1) (F2):∀ l,OkL (evF Tryz.prog (envOf [(174,WL (ref02_Pow.L F0)),(175,WL (ref02_Mul.L F1)),(176,WL (ref02_Add.L F2))]) Tryz.f138 ref04_parity.ann) l (ref04_parity.L (ref04_parity.g F0 F1 F2) l):=by
 intro l; unfold ref04_parity.L; split; exact .inr (by intros; kernel_rfl); exact .inl rfl
theorem ref04_parity.good:FnGood Tryz.prog 138 (WL (ref04_parity.L ref04_parity)):=.ofL mixed (.cons ref02_Pow.good (.cons ref02_Mul.good (.cons ref02_Add.good .nil))) Tryz.func138 Tryz.call138 (ref04_parity.geq ref02_Pow ref02_Mul ref02_Add)
def slices_ContainsFuncstring_string_stripe_Make_1.g (F0:type_of% slices_IndexFuncstring_string_stripe_Make_1) (x0:Option Addr) (x0L x0C:Nat) (h:H) (Q:Bool→H→Prop):Prop:=
F0 x0 x0L x0C h fun n2 h3=>
Q (decide (n2 ≥ 0)) h3
def slices_ContainsFuncstring_string_stripe_Make_1:=slices_ContainsFuncstring_string_stripe_Make_1.g slices_IndexFuncstring_string_stripe_Make_1
def slices_ContainsFuncstring_string_stripe_Make_1.L (F:type_of% slices_ContainsFuncstring_string_stripe_Make_1):LT
 | [.slice x0 x0L x0C,.func (.func 80) ⟨[]⟩ ⟨[]⟩]=>fun Q h=>F x0 x0L x0C h fun b6 h7=>Q (.bool b6) h7
 | _=>fun _ _=>False
theorem slices_ContainsFuncstring_string_stripe_Make_1.geq (F0):∀ l,OkL (evF Tryz.prog (envOf [(131,WL (slices_IndexFuncstring_string_stripe_Make_1.L F0))]) Tryz.f79 an0) l (slices_ContainsFuncstring_string_stripe_Make_1.L (slices_ContainsFuncstring_string_stripe_Make_1.g F0) l):=by
 intro l; unfold slices_ContainsFuncstring_string_stripe_Make_1.L; split; exact .inr (by intros; kernel_rfl); exact .inl rfl
theorem slices_ContainsFuncstring_string_stripe_Make_1.good:FnGood Tryz.prog 79 (WL (slices_ContainsFuncstring_string_stripe_Make_1.L slices_ContainsFuncstring_string_stripe_Make_1)):=.ofL mixed (.cons slices_IndexFuncstring_string_stripe_Make_1.good .nil) Tryz.func79 Tryz.call79 (slices_ContainsFuncstring_string_stripe_Make_1.geq slices_IndexFuncstring_string_stripe_Make_1)
def slices_ContainsFuncbyte_matrix_Matrix_Good_1.g (F0:type_of% slices_IndexFuncbyte_matrix_Matrix_Good_1) (x0:Option Addr) (x0L x0C:Nat) (x1_0:Addr) (h:H) (Q:Bool→H→Prop):Prop:=
F0 x0 x0L x0C x1_0 h fun n2 h3=>
Q (decide (n2 ≥ 0)) h3
def slices_ContainsFuncbyte_matrix_Matrix_Good_1:=slices_ContainsFuncbyte_matrix_Matrix_Good_1.g slices_IndexFuncbyte_matrix_Matrix_Good_1
def slices_ContainsFuncbyte_matrix_Matrix_Good_1.L (F:type_of% slices_ContainsFuncbyte_matrix_Matrix_Good_1):LT
 | [.slice x0 x0L x0C,.func (.func 215) ⟨[]⟩ ⟨[.pointer (some x1_0)]⟩]=>fun Q h=>F x0 x0L x0C x1_0 h fun b6 h7=>Q (.bool b6) h7
 | _=>fun _ _=>False
theorem slices_ContainsFuncbyte_matrix_Matrix_Good_1.geq (F0):∀ l,OkL (evF Tryz.prog (envOf [(181,WL (slices_IndexFuncbyte_matrix_Matrix_Good_1.L F0))]) Tryz.f214 an0) l (slices_ContainsFuncbyte_matrix_Matrix_Good_1.L (slices_ContainsFuncbyte_matrix_Matrix_Good_1.g F0) l):=by
 intro l; unfold slices_ContainsFuncbyte_matrix_Matrix_Good_1.L; split; exact .inr (by intros; kernel_rfl); exact .inl rfl
theorem slices_ContainsFuncbyte_matrix_Matrix_Good_1.good:FnGood Tryz.prog 214 (WL (slices_ContainsFuncbyte_matrix_Matrix_Good_1.L slices_ContainsFuncbyte_matrix_Matrix_Good_1)):=.ofL mixed (.cons slices_IndexFuncbyte_matrix_Matrix_Good_1.good .nil) Tryz.func214 Tryz.call214 (slices_ContainsFuncbyte_matrix_Matrix_Good_1.geq slices_IndexFuncbyte_matrix_Matrix_Good_1)
def stripe_Make.g (F0:type_of% stripe_may) (F1:type_of% slices_ContainsFuncstring_string_stripe_Make_1) (F2:type_of% rs_Encode) (x0:Option Addr) (x0L x0C:Nat) (h:H) (Q:Option Addr→Nat→Nat→Int→H→Prop):Prop:=
F0 (x0L:Int) h fun b5 h6=>
(bif (!b5) then
Q none 0 0 2 h6
else
F1 x0 x0L x0C h6 fun b7 h8=>
(bif b7 then
Q none 0 0 7 h8
else
F2 x0 x0L x0C h8 fun s9 s10 n11 h12=>
M.cellsOf h12 x0 (x0L*1) fun cs17=>
M.app h12 9 1 16 [.string ByteArray.empty] none 0 0 x0L cs17 fun a13 l14 c15 h16=>
M.new h16 (.cells #[.string s9,.string s10] 9) fun b18 h19=>
M.cellsOf h19 (some ⟨b18,0,none⟩) (2*1) fun cs24=>
M.app h19 9 1 16 [.string ByteArray.empty] a13 l14 c15 2 cs24 fun a20 l21 c22 h23=>
Q a20 l21 c22 0 h23))
def stripe_Make:=stripe_Make.g stripe_may slices_ContainsFuncstring_string_stripe_Make_1 rs_Encode
def stripe_Make.L (F:type_of% stripe_Make):LT
 | [.slice x0 x0L x0C]=>fun Q h=>F x0 x0L x0C h fun a30 l31 c32 n33 h34=>Q (.tuple #[.slice a30 l31 c32,.int .i64 n33]) h34
 | _=>fun _ _=>False
theorem stripe_Make.geq (F0) (F1) (F2):∀ l,OkL (evF Tryz.prog (envOf [(78,WL (stripe_may.L F0)),(79,WL (slices_ContainsFuncstring_string_stripe_Make_1.L F1)),(81,WL (rs_Encode.L F2))]) Tryz.f30 an0) l (stripe_Make.L (stripe_Make.g F0 F1 F2) l):=by
 intro l; unfold stripe_Make.L; split; exact .inr (by intros; kernel_rfl); exact .inl rfl
theorem stripe_Make.good:FnGood Tryz.prog 30 (WL (stripe_Make.L stripe_Make)):=.ofL mixed (.cons stripe_may.good (.cons slices_ContainsFuncstring_string_stripe_Make_1.good (.cons rs_Encode.good .nil))) Tryz.func30 Tryz.call30 (stripe_Make.geq stripe_may slices_ContainsFuncstring_string_stripe_Make_1 rs_Encode)
def law19_harm.g (F0:type_of% bank_Bank_Disk) (F1:type_of% disk_Disk_Tamper) (F2:type_of% ref09_Tamper) (F3:type_of% disk_Disk_Fail) (F4:type_of% ref09_Fail) (x0:Option Addr) (x0L x0C:Nat) (x1:Option Addr) (x1L x1C:Nat) (x2_0 x2_1 x2_2:Int) (x2_3:ByteArray) (h:H) (Q:H→Prop):Prop:=
M.new h (.cells #[.int .i64 x2_0,.int .i64 x2_1,.int .i64 x2_2,.string x2_3] 93) fun b1 h2=>
M.load h2 (Addr.add ⟨b1,0,none⟩ 1) fun v3=>
M.int .i64 v3 fun n4=>
M.nz (x0L:Int) (
M.val (Int.tmod (mx 0 n4) (x0L:Int)) fun z5=>
M.load h2 (Addr.add ⟨b1,0,none⟩ 0) fun v6=>
M.int .i64 v6 fun n7=>
M.val (bAnd .i64 n7 3) fun z8=>
(bif (z8 == 0) then
M.idx x0 x0L z5 fun a9 j10=>
M.load h2 (Addr.add (Addr.add (Addr.add a9 (j10*6)) 0) 0) fun v11=>
M.ptr v11 fun p12=>
M.load h2 (Addr.add ⟨b1,0,none⟩ 2) fun v13=>
M.int .i64 v13 fun n14=>
M.load h2 (Addr.add ⟨b1,0,none⟩ 3) fun v15=>
M.str v15 fun s16=>
M.load h2 (Addr.add ⟨b1,0,none⟩ 3) fun v17=>
M.str v17 fun s18=>
M.ssub s16 0 (mn (ByteArray.size s18:Int) 100) fun s19=>
F0 p12 z5 h2 fun p20 h21=>
M.still h2 (Addr.add ⟨b1,0,none⟩ 3) 1 h21 (
M.still h2 (Addr.add ⟨b1,0,none⟩ 3) 1 h21 (
M.still h2 (Addr.add ⟨b1,0,none⟩ 2) 1 h21 (
F1 p20 n14 s19 h21 fun b22 h23=>
M.idx x1 x1L z5 fun a24 j25=>
M.load h23 (Addr.add (Addr.add (Addr.add a24 (j25*6)) 0) 0) fun v26=>
M.ptr v26 fun p27=>
M.nn p27 fun a28=>
M.load h23 (Addr.add a28 0) fun v29=>
M.slc v29 fun a30 l31 c32=>
M.idx a30 l31 z5 fun a33 j34=>
M.load h23 (Addr.add a33 (j34*1)) fun v35=>
M.ptr v35 fun p36=>
M.load h23 (Addr.add ⟨b1,0,none⟩ 2) fun v37=>
M.int .i64 v37 fun n38=>
M.load h23 (Addr.add ⟨b1,0,none⟩ 3) fun v39=>
M.str v39 fun s40=>
M.load h23 (Addr.add ⟨b1,0,none⟩ 3) fun v41=>
M.str v41 fun s42=>
M.ssub s40 0 (mn (ByteArray.size s42:Int) 100) fun s43=>
F2 p36 n38 s43 h23 fun b44 h45=>
Q h45)))
else
(bif (z8 == 1) then
M.idx x0 x0L z5 fun a46 j47=>
M.load h2 (Addr.add (Addr.add (Addr.add a46 (j47*6)) 0) 0) fun v48=>
M.ptr v48 fun p49=>
F0 p49 z5 h2 fun p50 h51=>
F3 p50 h51 fun h52=>
M.idx x1 x1L z5 fun a53 j54=>
M.load h52 (Addr.add (Addr.add (Addr.add a53 (j54*6)) 0) 0) fun v55=>
M.ptr v55 fun p56=>
M.nn p56 fun a57=>
M.load h52 (Addr.add a57 0) fun v58=>
M.slc v58 fun a59 l60 c61=>
M.idx a59 l60 z5 fun a62 j63=>
M.load h52 (Addr.add a62 (j63*1)) fun v64=>
M.ptr v64 fun p65=>
F4 p65 h52 fun h66=>
Q h66
else
(bif (z8 == 2) then
M.idx x0 x0L z5 fun a67 j68=>
M.put h2 (Addr.add (Addr.add a67 (j68*6)) 5) (.bool false) fun h69=>
M.idx x1 x1L z5 fun a70 j71=>
M.put h69 (Addr.add (Addr.add a70 (j71*6)) 5) (.bool false) fun h72=>
Q h72
else
M.load h2 (Addr.add ⟨b1,0,none⟩ 3) fun v73=>
M.str v73 fun s74=>
M.load h2 (Addr.add ⟨b1,0,none⟩ 3) fun v75=>
M.str v75 fun s76=>
M.idx x0 x0L z5 fun a77 j78=>
M.put h2 (Addr.add (Addr.add a77 (j78*6)) 4) (.string s74) fun h79=>
M.still h2 (Addr.add ⟨b1,0,none⟩ 3) 1 h79 (
M.idx x1 x1L z5 fun a80 j81=>
M.put h79 (Addr.add (Addr.add a80 (j81*6)) 4) (.string s76) fun h82=>
Q h82)))))
def law19_harm:=law19_harm.g bank_Bank_Disk disk_Disk_Tamper ref09_Tamper disk_Disk_Fail ref09_Fail
def law19_harm.L (F:type_of% law19_harm):LT
 | [.slice x0 x0L x0C,.slice x1 x1L x1C,.agg ⟨[.int .i64 x2_0,.int .i64 x2_1,.int .i64 x2_2,.string x2_3]⟩]=>fun Q h=>F x0 x0L x0C x1 x1L x1C x2_0 x2_1 x2_2 x2_3 h fun h84=>Q (.tuple #[]) h84
 | _=>fun _ _=>False
theorem law19_harm.geq (F0) (F1) (F2) (F3) (F4):∀ l,OkL (evF Tryz.prog (envOf [(22,WL (bank_Bank_Disk.L F0)),(25,WL (disk_Disk_Tamper.L F1)),(71,WL (ref09_Tamper.L F2)),(35,WL (disk_Disk_Fail.L F3)),(87,WL (ref09_Fail.L F4))]) Tryz.f39 an0) l (law19_harm.L (law19_harm.g F0 F1 F2 F3 F4) l):=by
 intro l; unfold law19_harm.L; split; exact .inr (by intros; kernel_rfl); exact .inl rfl
def law19_harm.W:W:=WL (law19_harm.L law19_harm)
theorem law19_harm.good:FnGood Tryz.prog 39 law19_harm.W:=.ofL mixed (.cons bank_Bank_Disk.good (.cons disk_Disk_Tamper.good (.cons ref09_Tamper.good (.cons disk_Disk_Fail.good (.cons ref09_Fail.good .nil))))) Tryz.func39 Tryz.call39 (law19_harm.geq bank_Bank_Disk disk_Disk_Tamper ref09_Tamper disk_Disk_Fail ref09_Fail)
def ref04_Encode.g (F0:type_of% ref04_shape) (F1:type_of% ref04_parity) (x0:Option Addr) (x0L x0C:Nat) (h:H) (Q:ByteArray→ByteArray→Int→H→Prop):Prop:=
M.join (α:=Bool) (fun d5 h6=>
(bif d5 then
Q ByteArray.empty ByteArray.empty 2 h6
else
F0 x0 x0L x0C h6 fun n7 h8=>
(bif (n7 != 0) then
Q ByteArray.empty ByteArray.empty n7 h8
else
M.join (α:=(Option Addr × Nat × Nat) × (Option Addr × Nat × Nat)) (fun d35 h36=>
M.join (α:=ByteArray × ByteArray × Int) (fun d42 h43=>
Q d42.1 d42.2.1 d42.2.2 h43) fun J37=>
(M.b2s h36 d35.1.1 d35.1.2.1 fun s38=>
M.b2s h36 d35.2.1 d35.2.2.1 fun s39=>
J37 (s38,s39,0) h36) ∧
(M.b2s h36 d35.2.1 d35.2.2.1 fun s40=>
M.b2s h36 d35.1.1 d35.1.2.1 fun s41=>
J37 (s41,s40,0) h36)) fun J9=>
M.loop (α:=(Option Addr × Nat × Nat) × (Option Addr × Nat × Nat) × Int) (fun J10 d11 h12=>
M.idx x0 x0L 0 fun a13 j14=>
M.load h12 (Addr.add a13 (j14*1)) fun v15=>
M.str v15 fun s16=>
(bif (decide (d11.2.2<(ByteArray.size s16:Int))) then
F1 x0 x0L x0C d11.2.2 h12 fun n17 n18 h19=>
M.new h19 (.cells #[.int .u8 n17] 5) fun b20 h21=>
M.cellsOf h21 (some ⟨b20,0,none⟩) (1*1) fun cs26=>
M.app h21 5 1 1 [.int .u8 0] d11.1.1 d11.1.2.1 d11.1.2.2 1 cs26 fun a22 l23 c24 h25=>
M.new h25 (.cells #[.int .u8 n18] 5) fun b27 h28=>
M.cellsOf h28 (some ⟨b27,0,none⟩) (1*1) fun cs33=>
M.app h28 5 1 1 [.int .u8 0] d11.2.1.1 d11.2.1.2.1 d11.2.1.2.2 1 cs33 fun a29 l30 c31 h32=>
M.val (IntKind.wrap .i64 (d11.2.2+1)) fun z34=>
J10 ((a22,l23,c24),(a29,l30,c31),z34) h32
else
J9 ((d11.1.1,d11.1.2.1,d11.1.2.2),(d11.2.1.1,d11.2.1.2.1,d11.2.1.2.2)) h12)) ((none,0,0),(none,0,0),0) h8))) fun J4=>
(bif (decide ((x0L:Int)<1)) then
J4 true h
else
J4 (decide ((x0L:Int) > 8)) h)
def ref04_Encode:=ref04_Encode.g ref04_shape ref04_parity
def ref04_Encode.L (F:type_of% ref04_Encode):LT
 | [.slice x0 x0L x0C]=>fun Q h=>F x0 x0L x0C h fun s48 s49 n50 h51=>Q (.tuple #[.string s48,.string s49,.int .i64 n50]) h51
 | _=>fun _ _=>False
def ref04_Encode.ann:Ann:=⟨lookN [(1,[(18,.bool)]),(13,[(2,.str),(3,.str),(4,.int .i64)])],lookN [(63,[(6,.slc),(7,.slc)])],lookN [(506,[(6,.slc),(7,.slc),(8,.int .i64)])]⟩
theorem ref04_Encode.geq (F0) (F1):∀ l,OkL (evF Tryz.prog (envOf [(137,WL (ref04_shape.L F0)),(138,WL (ref04_parity.L F1))]) Tryz.f82 ref04_Encode.ann) l (ref04_Encode.L (ref04_Encode.g F0 F1) l):=by
 intro l; unfold ref04_Encode.L; split; exact .inr (by intros; kernel_rfl); exact .inl rfl
theorem ref04_Encode.good:FnGood Tryz.prog 82 (WL (ref04_Encode.L ref04_Encode)):=.ofL mixed (.cons ref04_shape.good (.cons ref04_parity.good .nil)) Tryz.func82 Tryz.call82 (ref04_Encode.geq ref04_shape ref04_parity)
def matrix_Matrix_Good.g (F0:type_of% matrix_may) (F1:type_of% slices_ContainsFuncbyte_matrix_Matrix_Good_1) (x0:Option Addr) (x0L x0C:Nat) (h:H) (Q:Bool→H→Prop):Prop:=
M.new h (.cells #[.slice x0 x0L x0C] 231) fun b2 h3=>
M.join (α:=Bool) (fun d23 h24=>
(bif d23 then
Q false h24
else
M.load h24 ⟨b2,0,none⟩ fun v25=>
M.slc v25 fun a26 l27 c28=>
F1 a26 l27 c28 ⟨b2,0,none⟩ h24 fun b29 h30=>
Q (!b29) h30)) fun J4=>
M.load h3 ⟨b2,0,none⟩ fun v5=>
M.slc v5 fun a6 l7 c8=>
F0 (l7:Int) h3 fun b9 h10=>
(bif (!b9) then
J4 true h10
else
M.load h10 ⟨b2,0,none⟩ fun v11=>
M.slc v11 fun a12 l13 c14=>
M.idx a12 l13 0 fun a15 j16=>
M.load h10 (Addr.add a15 (j16*1)) fun v17=>
M.slc v17 fun a18 l19 c20=>
F0 (l19:Int) h10 fun b21 h22=>
J4 (!b21) h22)
def matrix_Matrix_Good:=matrix_Matrix_Good.g matrix_may slices_ContainsFuncbyte_matrix_Matrix_Good_1
def matrix_Matrix_Good.L (F:type_of% matrix_Matrix_Good):LT
 | [.slice x0 x0L x0C]=>fun Q h=>F x0 x0L x0C h fun b33 h34=>Q (.bool b33) h34
 | _=>fun _ _=>False
def matrix_Matrix_Good.ann:Ann:=⟨lookN [(1,[(14,.bool)])],lookN [],lookN []⟩
theorem matrix_Matrix_Good.geq (F0) (F1):∀ l,OkL (evF Tryz.prog (envOf [(212,WL (matrix_may.L F0)),(214,WL (slices_ContainsFuncbyte_matrix_Matrix_Good_1.L F1))]) Tryz.f179 matrix_Matrix_Good.ann) l (matrix_Matrix_Good.L (matrix_Matrix_Good.g F0 F1) l):=by
 intro l; unfold matrix_Matrix_Good.L; split; exact .inr (by intros; kernel_rfl); exact .inl rfl
theorem matrix_Matrix_Good.good:FnGood Tryz.prog 179 (WL (matrix_Matrix_Good.L matrix_Matrix_Good)):=.ofL mixed (.cons matrix_may.good (.cons slices_ContainsFuncbyte_matrix_Matrix_Good_1.good .nil)) Tryz.func179 Tryz.call179 (matrix_Matrix_Good.geq matrix_may slices_ContainsFuncbyte_matrix_Matrix_Good_1)
def ref19_Make.g (F0:type_of% ref04_Encode) (x0:Option Addr) (x0L x0C:Nat) (h:H) (Q:Option Addr→Nat→Nat→Int→H→Prop):Prop:=
M.join (α:=Bool) (fun d6 h7=>
(bif d6 then
Q none 0 0 2 h7
else
M.join (α:=(Option Addr × Nat × Nat)) (fun d28 h29=>
F0 x0 x0L x0C h29 fun s30 s31 n32 h33=>
M.new h33 (.cells #[.string s30] 9) fun b34 h35=>
M.cellsOf h35 (some ⟨b34,0,none⟩) (1*1) fun cs40=>
M.app h35 9 1 16 [.string ByteArray.empty] d28.1 d28.2.1 d28.2.2 1 cs40 fun a36 l37 c38 h39=>
M.new h39 (.cells #[.string s31] 9) fun b41 h42=>
M.cellsOf h42 (some ⟨b41,0,none⟩) (1*1) fun cs47=>
M.app h42 9 1 16 [.string ByteArray.empty] a36 l37 c38 1 cs47 fun a43 l44 c45 h46=>
Q a43 l44 c45 0 h46) fun J8=>
M.loop (α:=(Option Addr × Nat × Nat) × Int) (fun J9 d10 h11=>
(bif (decide (d10.2<(x0L:Int))) then
M.idx x0 x0L d10.2 fun a12 j13=>
M.load h11 (Addr.add a12 (j13*1)) fun v14=>
M.str v14 fun s15=>
(bif ((ByteArray.size s15:Int) != 32) then
Q none 0 0 7 h11
else
M.idx x0 x0L d10.2 fun a16 j17=>
M.load h11 (Addr.add a16 (j17*1)) fun v18=>
M.str v18 fun s19=>
M.new h11 (.cells #[.string s19] 9) fun b20 h21=>
M.cellsOf h21 (some ⟨b20,0,none⟩) (1*1) fun cs26=>
M.app h21 9 1 16 [.string ByteArray.empty] d10.1.1 d10.1.2.1 d10.1.2.2 1 cs26 fun a22 l23 c24 h25=>
M.val (IntKind.wrap .i64 (d10.2+1)) fun z27=>
J9 ((a22,l23,c24),z27) h25)
else
J8 (d10.1.1,d10.1.2.1,d10.1.2.2) h11)) ((none,0,0),0) h7)) fun J5=>
(bif (decide ((x0L:Int)<2)) then
J5 true h
else
J5 (decide ((x0L:Int) > 8)) h)
def ref19_Make:=ref19_Make.g ref04_Encode
def ref19_Make.L (F:type_of% ref19_Make):LT
 | [.slice x0 x0L x0C]=>fun Q h=>F x0 x0L x0C h fun a53 l54 c55 n56 h57=>Q (.tuple #[.slice a53 l54 c55,.int .i64 n56]) h57
 | _=>fun _ _=>False
def ref19_Make.ann:Ann:=⟨lookN [(1,[(16,.bool)])],lookN [(15,[(4,.slc)])],lookN [(122,[(4,.slc),(5,.int .i64)])]⟩
theorem ref19_Make.geq (F0):∀ l,OkL (evF Tryz.prog (envOf [(82,WL (ref04_Encode.L F0))]) Tryz.f31 ref19_Make.ann) l (ref19_Make.L (ref19_Make.g F0) l):=by
 intro l; unfold ref19_Make.L; split; exact .inr (by intros; kernel_rfl); exact .inl rfl
theorem ref19_Make.good:FnGood Tryz.prog 31 (WL (ref19_Make.L ref19_Make)):=.ofL mixed (.cons ref04_Encode.good .nil) Tryz.func31 Tryz.call31 (ref19_Make.geq ref04_Encode)
def slices_IndexFuncbyte_matrix_Invert_1.g (F0:type_of% matrix_Invert_1) (x0:Option Addr) (x0L x0C:Nat) (x1_0:Addr) (h:H) (Q:Int→H→Prop):Prop:=
M.loop (α:=Int) (fun J2 d3 h4=>
(bif (decide (d3<(x0L:Int))) then
M.idx x0 x0L d3 fun a5 j6=>
M.load h4 (Addr.add a5 (j6*1)) fun v7=>
M.slc v7 fun a8 l9 c10=>
F0 a8 l9 c10 x1_0 h4 fun b11 h12=>
(bif b11 then
Q d3 h12
else
M.val (IntKind.wrap .i64 (d3+1)) fun z13=>
J2 z13 h12)
else
Q (-1) h4)) 0 h
def slices_IndexFuncbyte_matrix_Invert_1:=slices_IndexFuncbyte_matrix_Invert_1.g matrix_Invert_1
def slices_IndexFuncbyte_matrix_Invert_1.L (F:type_of% slices_IndexFuncbyte_matrix_Invert_1):LT
 | [.slice x0 x0L x0C,.func (.func 182) ⟨[]⟩ ⟨[.pointer (some x1_0)]⟩]=>fun Q h=>F x0 x0L x0C x1_0 h fun n16 h17=>Q (.int .i64 n16) h17
 | _=>fun _ _=>False
def slices_IndexFuncbyte_matrix_Invert_1.ann:Ann:=⟨lookN [],lookN [],lookN [(26,[(8,.int .i64)])]⟩
theorem slices_IndexFuncbyte_matrix_Invert_1.geq (F0):∀ l,OkL (evF Tryz.prog (envOf [(182,WL (matrix_Invert_1.L F0))]) Tryz.f181 slices_IndexFuncbyte_matrix_Invert_1.ann) l (slices_IndexFuncbyte_matrix_Invert_1.L (slices_IndexFuncbyte_matrix_Invert_1.g F0) l):=by
 intro l; unfold slices_IndexFuncbyte_matrix_Invert_1.L; split; exact .inr (by intros; kernel_rfl); exact .inl rfl
theorem slices_IndexFuncbyte_matrix_Invert_1.good:FnGood Tryz.prog 181 (WL (slices_IndexFuncbyte_matrix_Invert_1.L slices_IndexFuncbyte_matrix_Invert_1)):=.ofL mixed (.cons matrix_Invert_1.good .nil) Tryz.func181 Tryz.call181 (slices_IndexFuncbyte_matrix_Invert_1.geq matrix_Invert_1)
def matrix_Invert.g (F0:type_of% matrix_Matrix_Good) (F1:type_of% slices_Clonebyte_byte) (F2:type_of% slices_IndexFuncbyte_matrix_Invert_1) (F3:type_of% gf_Inv) (F4:type_of% gf_Scale) (F5:type_of% matrix_clearRow) (x0:Option Addr) (x0L x0C:Nat) (h:H) (Q:Option Addr→Nat→Nat→Int→H→Prop):Prop:=
F0 x0 x0L x0C h fun b5 h6=>
(bif (!b5) then
Q none 0 0 4 h6
else
M.idx x0 x0L 0 fun a7 j8=>
M.load h6 (Addr.add a7 (j8*1)) fun v9=>
M.slc v9 fun a10 l11 c12=>
(bif ((x0L:Int) != (l11:Int)) then
Q none 0 0 7 h6
else
M.mk h6 29 [.slice none 0 0] 24 (x0L:Int) (x0L:Int) fun a13 l14 c15 h16=>
M.join (α:=Unit) (fun d49 h50=>
M.join (α:=Unit) (fun d140 h141=>
M.join (α:=Unit) (fun d161 h162=>
Q a13 l14 c15 0 h162) fun J142=>
M.loop (α:=Int) (fun J143 d144 h145=>
(bif (decide (d144<(l14:Int))) then
M.idx a13 l14 d144 fun a146 j147=>
M.load h145 (Addr.add a146 (j147*1)) fun v148=>
M.slc v148 fun a149 l150 c151=>
M.val (IntKind.wrap .i64 (2*(x0L:Int))) fun z152=>
M.val (IntKind.wrap .i64 (2*(x0L:Int))) fun z153=>
M.sub3 a149 c151 1 (x0L:Int) z152 z153 fun a154 l155 c156=>
M.idx a13 l14 d144 fun a157 j158=>
M.put h145 (Addr.add a157 (j158*1)) (.slice a154 l155 c156) fun h159=>
M.val (IntKind.wrap .i64 (d144+1)) fun z160=>
J143 z160 h159
else
J142 () h145)) 0 h141) fun J51=>
M.loop (α:=Int) (fun J52 d53 h54=>
(bif (decide (d53<(x0L:Int))) then
M.new h54 (.cells #[.int .i64 0] 3) fun b55 h56=>
M.put h56 ⟨b55,0,none⟩ (.int .i64 d53) fun h57=>
M.load h57 ⟨b55,0,none⟩ fun v58=>
M.int .i64 v58 fun n59=>
M.sub a13 c15 1 n59 (l14:Int) fun a60 l61 c62=>
F2 a60 l61 c62 ⟨b55,0,none⟩ h57 fun n63 h64=>
(bif (decide (n63<0)) then
Q none 0 0 6 h64
else
M.load h64 ⟨b55,0,none⟩ fun v65=>
M.int .i64 v65 fun n66=>
M.load h64 ⟨b55,0,none⟩ fun v67=>
M.int .i64 v67 fun n68=>
M.val (IntKind.wrap .i64 (n68+n63)) fun z69=>
M.load h64 ⟨b55,0,none⟩ fun v70=>
M.int .i64 v70 fun n71=>
M.val (IntKind.wrap .i64 (n71+n63)) fun z72=>
M.idx a13 l14 z72 fun a73 j74=>
M.load h64 (Addr.add a73 (j74*1)) fun v75=>
M.slc v75 fun a76 l77 c78=>
M.load h64 ⟨b55,0,none⟩ fun v79=>
M.int .i64 v79 fun n80=>
M.idx a13 l14 n80 fun a81 j82=>
M.load h64 (Addr.add a81 (j82*1)) fun v83=>
M.slc v83 fun a84 l85 c86=>
M.idx a13 l14 n66 fun a87 j88=>
M.put h64 (Addr.add a87 (j88*1)) (.slice a76 l77 c78) fun h89=>
M.still h64 ⟨b55,0,none⟩ 1 h89 (
M.idx a13 l14 z69 fun a90 j91=>
M.put h89 (Addr.add a90 (j91*1)) (.slice a84 l85 c86) fun h92=>
M.load h92 ⟨b55,0,none⟩ fun v93=>
M.int .i64 v93 fun n94=>
M.idx a13 l14 n94 fun a95 j96=>
M.load h92 (Addr.add a95 (j96*1)) fun v97=>
M.slc v97 fun a98 l99 c100=>
M.load h92 ⟨b55,0,none⟩ fun v101=>
M.int .i64 v101 fun n102=>
M.idx a98 l99 n102 fun a103 j104=>
M.load h92 (Addr.add a103 (j104*1)) fun v105=>
M.int .u8 v105 fun n106=>
F3 n106 h92 fun n107 n108 h109=>
M.load h109 ⟨b55,0,none⟩ fun v110=>
M.int .i64 v110 fun n111=>
M.load h109 ⟨b55,0,none⟩ fun v112=>
M.int .i64 v112 fun n113=>
M.idx a13 l14 n113 fun a114 j115=>
M.load h109 (Addr.add a114 (j115*1)) fun v116=>
M.slc v116 fun a117 l118 c119=>
M.b2s h109 a117 l118 fun s120=>
M.still h109 ⟨b55,0,none⟩ 1 h109 (
F4 n107 s120 h109 fun s121 h122=>
M.still h109 ⟨b55,0,none⟩ 1 h122 (
M.s2b h122 5 s121 fun a123 l124 c125 h126=>
M.still h109 ⟨b55,0,none⟩ 1 h126 (
M.idx a13 l14 n111 fun a127 j128=>
M.put h126 (Addr.add a127 (j128*1)) (.slice a123 l124 c125) fun h129=>
M.loop (α:=Int) (fun J130 d131 h132=>
(bif (decide (d131<(l14:Int))) then
M.load h132 ⟨b55,0,none⟩ fun v133=>
M.int .i64 v133 fun n134=>
M.load h132 ⟨b55,0,none⟩ fun v135=>
M.int .i64 v135 fun n136=>
F5 a13 l14 c15 d131 n134 n136 h132 fun h137=>
M.val (IntKind.wrap .i64 (d131+1)) fun z138=>
J130 z138 h137
else
M.val (IntKind.wrap .i64 (d53+1)) fun z139=>
J52 z139 h132)) 0 h129)))))
else
J51 () h54)) 0 h50) fun J17=>
M.loop (α:=Int) (fun J18 d19 h20=>
(bif (decide (d19<(l14:Int))) then
M.idx x0 x0L d19 fun a21 j22=>
M.load h20 (Addr.add a21 (j22*1)) fun v23=>
M.slc v23 fun a24 l25 c26=>
F1 a24 l25 c26 h20 fun a27 l28 c29 h30=>
M.appz h30 5 1 1 [.int .u8 0] a27 l28 c29 (x0L:Int) fun a31 l32 c33 h34=>
M.idx a13 l14 d19 fun a35 j36=>
M.put h34 (Addr.add a35 (j36*1)) (.slice a31 l32 c33) fun h37=>
M.idx a13 l14 d19 fun a38 j39=>
M.load h37 (Addr.add a38 (j39*1)) fun v40=>
M.slc v40 fun a41 l42 c43=>
M.val (IntKind.wrap .i64 ((x0L:Int)+d19)) fun z44=>
M.idx a41 l42 z44 fun a45 j46=>
M.put h37 (Addr.add a45 (j46*1)) (.int .u8 1) fun h47=>
M.val (IntKind.wrap .i64 (d19+1)) fun z48=>
J18 z48 h47
else
J17 () h20)) 0 h16))
def matrix_Invert:=matrix_Invert.g matrix_Matrix_Good slices_Clonebyte_byte slices_IndexFuncbyte_matrix_Invert_1 gf_Inv gf_Scale matrix_clearRow
def matrix_Invert.L (F:type_of% matrix_Invert):LT
 | [.slice x0 x0L x0C]=>fun Q h=>F x0 x0L x0C h fun a168 l169 c170 n171 h172=>Q (.tuple #[.slice a168 l169 c170,.int .i64 n171]) h172
 | _=>fun _ _=>False
def matrix_Invert.ann:Ann:=⟨lookN [],lookN [(31,[]),(63,[]),(127,[])],lookN [(250,[(31,.int .i64)]),(506,[(54,.int .i64)]),(1018,[(118,.int .i64)]),(4148478,[(106,.int .i64)])]⟩
theorem matrix_Invert.geq (F0) (F1) (F2) (F3) (F4) (F5):∀ l,OkL (evF Tryz.prog (envOf [(179,WL (matrix_Matrix_Good.L F0)),(180,WL (slices_Clonebyte_byte.L F1)),(181,WL (slices_IndexFuncbyte_matrix_Invert_1.L F2)),(183,WL (gf_Inv.L F3)),(135,WL (gf_Scale.L F4)),(184,WL (matrix_clearRow.L F5))]) Tryz.f140 matrix_Invert.ann) l (matrix_Invert.L (matrix_Invert.g F0 F1 F2 F3 F4 F5) l):=by
 intro l; unfold matrix_Invert.L; split; exact .inr (by intros; kernel_rfl); exact .inl rfl
theorem matrix_Invert.good:FnGood Tryz.prog 140 (WL (matrix_Invert.L matrix_Invert)):=.ofL mixed (.cons matrix_Matrix_Good.good (.cons slices_Clonebyte_byte.good (.cons slices_IndexFuncbyte_matrix_Invert_1.good (.cons gf_Inv.good (.cons gf_Scale.good (.cons matrix_clearRow.good .nil)))))) Tryz.func140 Tryz.call140 (matrix_Invert.geq matrix_Matrix_Good slices_Clonebyte_byte slices_IndexFuncbyte_matrix_Invert_1 gf_Inv gf_Scale matrix_clearRow)
def slices_IndexFuncstring_string_matrix_Apply_1.g (F0:type_of% matrix_Apply_1) (x0:Option Addr) (x0L x0C:Nat) (x1_0:Addr) (h:H) (Q:Int→H→Prop):Prop:=
M.loop (α:=Int) (fun J2 d3 h4=>
(bif (decide (d3<(x0L:Int))) then
M.idx x0 x0L d3 fun a5 j6=>
M.load h4 (Addr.add a5 (j6*1)) fun v7=>
M.str v7 fun s8=>
F0 s8 x1_0 h4 fun b9 h10=>
(bif b9 then
Q d3 h10
else
M.val (IntKind.wrap .i64 (d3+1)) fun z11=>
J2 z11 h10)
else
Q (-1) h4)) 0 h
def slices_IndexFuncstring_string_matrix_Apply_1:=slices_IndexFuncstring_string_matrix_Apply_1.g matrix_Apply_1
def slices_IndexFuncstring_string_matrix_Apply_1.L (F:type_of% slices_IndexFuncstring_string_matrix_Apply_1):LT
 | [.slice x0 x0L x0C,.func (.func 185) ⟨[]⟩ ⟨[.pointer (some x1_0)]⟩]=>fun Q h=>F x0 x0L x0C x1_0 h fun n14 h15=>Q (.int .i64 n14) h15
 | _=>fun _ _=>False
def slices_IndexFuncstring_string_matrix_Apply_1.ann:Ann:=⟨lookN [],lookN [],lookN [(26,[(8,.int .i64)])]⟩
theorem slices_IndexFuncstring_string_matrix_Apply_1.geq (F0):∀ l,OkL (evF Tryz.prog (envOf [(185,WL (matrix_Apply_1.L F0))]) Tryz.f131 slices_IndexFuncstring_string_matrix_Apply_1.ann) l (slices_IndexFuncstring_string_matrix_Apply_1.L (slices_IndexFuncstring_string_matrix_Apply_1.g F0) l):=by
 intro l; unfold slices_IndexFuncstring_string_matrix_Apply_1.L; split; exact .inr (by intros; kernel_rfl); exact .inl rfl
theorem slices_IndexFuncstring_string_matrix_Apply_1.good:FnGood Tryz.prog 131 (WL (slices_IndexFuncstring_string_matrix_Apply_1.L slices_IndexFuncstring_string_matrix_Apply_1)):=.ofL mixed (.cons matrix_Apply_1.good .nil) Tryz.func131 Tryz.call131 (slices_IndexFuncstring_string_matrix_Apply_1.geq matrix_Apply_1)
def slices_ContainsFuncstring_string_matrix_Apply_1.g (F0:type_of% slices_IndexFuncstring_string_matrix_Apply_1) (x0:Option Addr) (x0L x0C:Nat) (x1_0:Addr) (h:H) (Q:Bool→H→Prop):Prop:=
F0 x0 x0L x0C x1_0 h fun n2 h3=>
Q (decide (n2 ≥ 0)) h3
def slices_ContainsFuncstring_string_matrix_Apply_1:=slices_ContainsFuncstring_string_matrix_Apply_1.g slices_IndexFuncstring_string_matrix_Apply_1
def slices_ContainsFuncstring_string_matrix_Apply_1.L (F:type_of% slices_ContainsFuncstring_string_matrix_Apply_1):LT
 | [.slice x0 x0L x0C,.func (.func 185) ⟨[]⟩ ⟨[.pointer (some x1_0)]⟩]=>fun Q h=>F x0 x0L x0C x1_0 h fun b6 h7=>Q (.bool b6) h7
 | _=>fun _ _=>False
theorem slices_ContainsFuncstring_string_matrix_Apply_1.geq (F0):∀ l,OkL (evF Tryz.prog (envOf [(131,WL (slices_IndexFuncstring_string_matrix_Apply_1.L F0))]) Tryz.f79 an0) l (slices_ContainsFuncstring_string_matrix_Apply_1.L (slices_ContainsFuncstring_string_matrix_Apply_1.g F0) l):=by
 intro l; unfold slices_ContainsFuncstring_string_matrix_Apply_1.L; split; exact .inr (by intros; kernel_rfl); exact .inl rfl
theorem slices_ContainsFuncstring_string_matrix_Apply_1.good:FnGood Tryz.prog 79 (WL (slices_ContainsFuncstring_string_matrix_Apply_1.L slices_ContainsFuncstring_string_matrix_Apply_1)):=.ofL mixed (.cons slices_IndexFuncstring_string_matrix_Apply_1.good .nil) Tryz.func79 Tryz.call79 (slices_ContainsFuncstring_string_matrix_Apply_1.geq slices_IndexFuncstring_string_matrix_Apply_1)
def law19_lay.g (F0:type_of% stripe_Make) (F1:type_of% bank_New) (F2:type_of% ref10_New) (F3:type_of% slab_Slab_Blank) (F4:type_of% slab_Slab_Seal) (F5:type_of% slab_Slab_Apply) (F6:type_of% slab_Slab_Prepare) (F7:type_of% bank_Bank_Disk) (F8:type_of% disk_Disk_Image) (F9:type_of% ref09_Restore) (x0:Option Addr) (x0L x0C:Nat) (x1 x2:Int) (h:H) (Q:Option Addr→Nat→Nat→Option Addr→Nat→Nat→Option Addr→Nat→Nat→Bool→H→Prop):Prop:=
F0 x0 x0L x0C h fun a11 l12 c13 n14 h15=>
F1 (l12:Int) 140 h15 fun p16 h17=>
F2 (l12:Int) 140 h17 fun p18 h19=>
M.join (α:=(Option Addr × Nat × Nat) × (Option Addr × Nat × Nat)) (fun d179 h180=>
M.join (α:=(Option Addr × Nat × Nat) × (Option Addr × Nat × Nat) × (Option Addr × Nat × Nat) × Bool) (fun d183 h184=>
Q d183.1.1 d183.1.2.1 d183.1.2.2 d183.2.1.1 d183.2.1.2.1 d183.2.1.2.2 d183.2.2.1.1 d183.2.2.1.2.1 d183.2.2.1.2.2 d183.2.2.2 h184) fun J181=>
(bif (n14 == 0) then
M.val (IntKind.wrap .i64 ((x0L:Int)+2)) fun z182=>
J181 ((d179.1.1,d179.1.2.1,d179.1.2.2),(d179.2.1,d179.2.2.1,d179.2.2.2),(a11,l12,c13),((l12:Int) == z182)) h180
else
J181 ((d179.1.1,d179.1.2.1,d179.1.2.2),(d179.2.1,d179.2.2.1,d179.2.2.2),(a11,l12,c13),false) h180)) fun J20=>
M.loop (α:=(Option Addr × Nat × Nat) × (Option Addr × Nat × Nat) × Int) (fun J21 d22 h23=>
(bif (decide (d22.2.2<(l12:Int))) then
M.idx a11 l12 d22.2.2 fun a24 j25=>
M.load h23 (Addr.add a24 (j25*1)) fun v26=>
M.str v26 fun s27=>
M.new h23 (.cells #[.pointer none,.int .i64 0,.int .i64 0,.string ByteArray.empty] 37) fun b28 h29=>
M.req (Array.size (#[.pointer p16,.int .i64 d22.2.2,.int .i64 x1,(.string (⟨#[48,49,50,51,52,53,54,55,56,57,97,98,99,100,101,102,48,49,50,51,52,53,54,55,56,57,97,98,99,100,101,102]⟩:ByteArray))]:Array Value)=4) (M.puts h29 ⟨b28,0,none⟩ [.pointer p16,.int .i64 d22.2.2,.int .i64 x1,(.string (⟨#[48,49,50,51,52,53,54,55,56,57,97,98,99,100,101,102,48,49,50,51,52,53,54,55,56,57,97,98,99,100,101,102]⟩:ByteArray))] fun h30=>
M.new h30 (.cells #[.pointer none,.int .i64 0,.int .i64 0,.string ByteArray.empty] 40) fun b31 h32=>
M.req (Array.size (#[.pointer p18,.int .i64 d22.2.2,.int .i64 x1,(.string (⟨#[48,49,50,51,52,53,54,55,56,57,97,98,99,100,101,102,48,49,50,51,52,53,54,55,56,57,97,98,99,100,101,102]⟩:ByteArray))]:Array Value)=4) (M.puts h32 ⟨b31,0,none⟩ [.pointer p18,.int .i64 d22.2.2,.int .i64 x1,(.string (⟨#[48,49,50,51,52,53,54,55,56,57,97,98,99,100,101,102,48,49,50,51,52,53,54,55,56,57,97,98,99,100,101,102]⟩:ByteArray))] fun h33=>
M.load h33 (Addr.add ⟨b28,0,none⟩ 0) fun v34=>
M.ptr v34 fun p35=>
M.load h33 (Addr.add ⟨b28,0,none⟩ 1) fun v36=>
M.int .i64 v36 fun n37=>
M.load h33 (Addr.add ⟨b28,0,none⟩ 2) fun v38=>
M.int .i64 v38 fun n39=>
M.load h33 (Addr.add ⟨b28,0,none⟩ 3) fun v40=>
M.str v40 fun s41=>
F3 p35 n37 n39 s41 h33 fun a42 l43 c44 s45 n46 h47=>
M.load h47 (Addr.add ⟨b28,0,none⟩ 0) fun v48=>
M.ptr v48 fun p49=>
M.load h47 (Addr.add ⟨b28,0,none⟩ 1) fun v50=>
M.int .i64 v50 fun n51=>
M.load h47 (Addr.add ⟨b28,0,none⟩ 2) fun v52=>
M.int .i64 v52 fun n53=>
M.load h47 (Addr.add ⟨b28,0,none⟩ 3) fun v54=>
M.str v54 fun s55=>
M.val (IntKind.wrap .u8 d22.2.2) fun z56=>
M.new h47 (.cells #[.int .u8 z56] 5) fun b57 h58=>
M.b2s h58 (some ⟨b57,0,none⟩) 1 fun s59=>
M.cat s59 (⟨#[97,98,99,100,101,102,103,104,105,106,107]⟩:ByteArray) fun s60=>
F4 p49 n51 n53 s55 x2 s60 s27 h58 fun s61 n62 h63=>
M.load h63 (Addr.add ⟨b28,0,none⟩ 0) fun v64=>
M.ptr v64 fun p65=>
M.load h63 (Addr.add ⟨b28,0,none⟩ 1) fun v66=>
M.int .i64 v66 fun n67=>
M.load h63 (Addr.add ⟨b28,0,none⟩ 2) fun v68=>
M.int .i64 v68 fun n69=>
M.load h63 (Addr.add ⟨b28,0,none⟩ 3) fun v70=>
M.str v70 fun s71=>
F5 p65 n67 n69 s71 a42 l43 c44 h63 fun n72 h73=>
M.load h73 (Addr.add ⟨b28,0,none⟩ 0) fun v74=>
M.ptr v74 fun p75=>
M.load h73 (Addr.add ⟨b28,0,none⟩ 1) fun v76=>
M.int .i64 v76 fun n77=>
M.load h73 (Addr.add ⟨b28,0,none⟩ 2) fun v78=>
M.int .i64 v78 fun n79=>
M.load h73 (Addr.add ⟨b28,0,none⟩ 3) fun v80=>
M.str v80 fun s81=>
M.new h73 (.cells #[.int .i64 x2,.string s61] 45) fun b82 h83=>
F6 p75 n77 n79 s81 s45 (some ⟨b82,0,none⟩) 1 1 h83 fun a84 l85 c86 s87 n88 h89=>
M.join (α:=Bool) (fun d101 h102=>
(bif d101 then
Q none 0 0 none 0 0 none 0 0 false h102
else
M.nn p18 fun a103=>
M.load h102 (Addr.add a103 0) fun v104=>
M.slc v104 fun a105 l106 c107=>
M.idx a105 l106 d22.2.2 fun a108 j109=>
M.load h102 (Addr.add a108 (j109*1)) fun v110=>
M.ptr v110 fun p111=>
F7 p16 d22.2.2 h102 fun p112 h113=>
M.still h102 (Addr.add a108 (j109*1)) 1 h113 (
M.still h102 (Addr.add a103 0) 1 h113 (
F8 p112 h113 fun a114 l115 c116 h117=>
M.still h102 (Addr.add a108 (j109*1)) 1 h117 (
M.still h102 (Addr.add a103 0) 1 h117 (
F9 p111 a114 l115 c116 h117 fun h118=>
M.join (α:=(Option Addr × Nat × Nat) × (Option Addr × Nat × Nat)) (fun d176 h177=>
M.val (IntKind.wrap .i64 (d22.2.2+1)) fun z178=>
J21 ((d176.1.1,d176.1.2.1,d176.1.2.2),(d176.2.1,d176.2.2.1,d176.2.2.2),z178) h177) fun J119=>
M.load h118 (Addr.add ⟨b28,0,none⟩ 0) fun v120=>
M.ptr v120 fun p121=>
M.load h118 (Addr.add ⟨b28,0,none⟩ 1) fun v122=>
M.int .i64 v122 fun n123=>
M.load h118 (Addr.add ⟨b28,0,none⟩ 2) fun v124=>
M.int .i64 v124 fun n125=>
M.load h118 (Addr.add ⟨b28,0,none⟩ 3) fun v126=>
M.str v126 fun s127=>
M.load h118 (Addr.add ⟨b31,0,none⟩ 0) fun v128=>
M.ptr v128 fun p129=>
M.load h118 (Addr.add ⟨b31,0,none⟩ 1) fun v130=>
M.int .i64 v130 fun n131=>
M.load h118 (Addr.add ⟨b31,0,none⟩ 2) fun v132=>
M.int .i64 v132 fun n133=>
M.load h118 (Addr.add ⟨b31,0,none⟩ 3) fun v134=>
M.str v134 fun s135=>
(M.new h118 (.cells #[.pointer p121,.int .i64 n123,.int .i64 n125,.string s127,.string s87,.bool true] 85) fun b136 h137=>
M.still h118 ⟨b31,0,none⟩ 4 h137 (
(M.cellsOf h137 (some ⟨b136,0,none⟩) (1*6) fun cs142=>
M.app h137 85 6 64 [.pointer none,.int .i64 0,.int .i64 0,.string ByteArray.empty,.string ByteArray.empty,.bool false] d22.1.1 d22.1.2.1 d22.1.2.2 1 cs142 fun a138 l139 c140 h141=>
M.still h118 ⟨b31,0,none⟩ 4 h141 (
M.new h141 (.cells #[.pointer p129,.int .i64 n131,.int .i64 n133,.string s135,.string s87,.bool true] 162) fun b143 h144=>
M.still h118 ⟨b28,0,none⟩ 4 h144 (
M.cellsOf h144 (some ⟨b143,0,none⟩) (1*6) fun cs149=>
M.app h144 162 6 64 [.pointer none,.int .i64 0,.int .i64 0,.string ByteArray.empty,.string ByteArray.empty,.bool false] d22.2.1.1 d22.2.1.2.1 d22.2.1.2.2 1 cs149 fun a145 l146 c147 h148=>
J119 ((a138,l139,c140),(a145,l146,c147)) h148))) ∧
(M.new h137 (.cells #[.pointer p129,.int .i64 n131,.int .i64 n133,.string s135,.string s87,.bool true] 162) fun b150 h151=>
M.still h118 ⟨b28,0,none⟩ 4 h151 (
M.cellsOf h151 (some ⟨b136,0,none⟩) (1*6) fun cs156=>
M.app h151 85 6 64 [.pointer none,.int .i64 0,.int .i64 0,.string ByteArray.empty,.string ByteArray.empty,.bool false] d22.1.1 d22.1.2.1 d22.1.2.2 1 cs156 fun a152 l153 c154 h155=>
M.still h118 ⟨b31,0,none⟩ 4 h155 (
M.cellsOf h155 (some ⟨b150,0,none⟩) (1*6) fun cs161=>
M.app h155 162 6 64 [.pointer none,.int .i64 0,.int .i64 0,.string ByteArray.empty,.string ByteArray.empty,.bool false] d22.2.1.1 d22.2.1.2.1 d22.2.1.2.2 1 cs161 fun a157 l158 c159 h160=>
J119 ((a152,l153,c154),(a157,l158,c159)) h160))))) ∧
(M.new h118 (.cells #[.pointer p129,.int .i64 n131,.int .i64 n133,.string s135,.string s87,.bool true] 162) fun b162 h163=>
M.still h118 ⟨b28,0,none⟩ 4 h163 (
M.new h163 (.cells #[.pointer p121,.int .i64 n123,.int .i64 n125,.string s127,.string s87,.bool true] 85) fun b164 h165=>
M.still h118 ⟨b31,0,none⟩ 4 h165 (
M.cellsOf h165 (some ⟨b164,0,none⟩) (1*6) fun cs170=>
M.app h165 85 6 64 [.pointer none,.int .i64 0,.int .i64 0,.string ByteArray.empty,.string ByteArray.empty,.bool false] d22.1.1 d22.1.2.1 d22.1.2.2 1 cs170 fun a166 l167 c168 h169=>
M.still h118 ⟨b31,0,none⟩ 4 h169 (
M.cellsOf h169 (some ⟨b162,0,none⟩) (1*6) fun cs175=>
M.app h169 162 6 64 [.pointer none,.int .i64 0,.int .i64 0,.string ByteArray.empty,.string ByteArray.empty,.bool false] d22.2.1.1 d22.2.1.2.1 d22.2.1.2.2 1 cs175 fun a171 l172 c173 h174=>
J119 ((a166,l167,c168),(a171,l172,c173)) h174)))))))))) fun J90=>
(bif (n46 != 0) then
J90 true h89
else
(bif (n62 != 0) then
J90 true h89
else
(bif (n72 != 0) then
J90 true h89
else
(bif (n88 != 0) then
J90 true h89
else
M.load h89 (Addr.add ⟨b28,0,none⟩ 0) fun v91=>
M.ptr v91 fun p92=>
M.load h89 (Addr.add ⟨b28,0,none⟩ 1) fun v93=>
M.int .i64 v93 fun n94=>
M.load h89 (Addr.add ⟨b28,0,none⟩ 2) fun v95=>
M.int .i64 v95 fun n96=>
M.load h89 (Addr.add ⟨b28,0,none⟩ 3) fun v97=>
M.str v97 fun s98=>
F5 p92 n94 n96 s98 a84 l85 c86 h89 fun n99 h100=>
J90 (n99 != 0) h100))))))
else
J20 ((d22.1.1,d22.1.2.1,d22.1.2.2),(d22.2.1.1,d22.2.1.2.1,d22.2.1.2.2)) h23)) ((none,0,0),(none,0,0),0) h19
def law19_lay:=law19_lay.g stripe_Make bank_New ref10_New slab_Slab_Blank slab_Slab_Seal slab_Slab_Apply slab_Slab_Prepare bank_Bank_Disk disk_Disk_Image ref09_Restore
def law19_lay.L (F:type_of% law19_lay):LT
 | [.slice x0 x0L x0C,.int .i64 x1,.int .i64 x2]=>fun Q h=>F x0 x0L x0C x1 x2 h fun a196 l197 c198 a199 l200 c201 a202 l203 c204 b205 h206=>Q (.tuple #[.slice a196 l197 c198,.slice a199 l200 c201,.slice a202 l203 c204,.bool b205]) h206
 | _=>fun _ _=>False
def law19_lay.ann:Ann:=⟨lookN [(14,[(104,.bool)]),(17,[(14,.slc),(15,.slc)]),(19,[(6,.slc),(7,.slc),(8,.slc),(9,.bool)])],lookN [(63,[(14,.slc),(15,.slc)])],lookN [(506,[(14,.slc),(15,.slc),(40,.int .i64)])]⟩
theorem law19_lay.geq (F0) (F1) (F2) (F3) (F4) (F5) (F6) (F7) (F8) (F9):∀ l,OkL (evF Tryz.prog (envOf [(30,WL (stripe_Make.L F0)),(19,WL (bank_New.L F1)),(40,WL (ref10_New.L F2)),(20,WL (slab_Slab_Blank.L F3)),(14,WL (slab_Slab_Seal.L F4)),(16,WL (slab_Slab_Apply.L F5)),(15,WL (slab_Slab_Prepare.L F6)),(22,WL (bank_Bank_Disk.L F7)),(24,WL (disk_Disk_Image.L F8)),(83,WL (ref09_Restore.L F9))]) Tryz.f34 law19_lay.ann) l (law19_lay.L (law19_lay.g F0 F1 F2 F3 F4 F5 F6 F7 F8 F9) l):=by
 intro l; unfold law19_lay.L; split; exact .inr (by intros; kernel_rfl); exact .inl rfl
def law19_lay.W:W:=WL (law19_lay.L law19_lay)
theorem law19_lay.good:FnGood Tryz.prog 34 law19_lay.W:=.ofL mixed (.cons stripe_Make.good (.cons bank_New.good (.cons ref10_New.good (.cons slab_Slab_Blank.good (.cons slab_Slab_Seal.good (.cons slab_Slab_Apply.good (.cons slab_Slab_Prepare.good (.cons bank_Bank_Disk.good (.cons disk_Disk_Image.good (.cons ref09_Restore.good .nil)))))))))) Tryz.func34 Tryz.call34 (law19_lay.geq stripe_Make bank_New ref10_New slab_Slab_Blank slab_Slab_Seal slab_Slab_Apply slab_Slab_Prepare bank_Bank_Disk disk_Disk_Image ref09_Restore)
def stripe_Shelf_get.g (F0:type_of% slab_Slab_Get) (x0_0:Option Addr) (x0_1 x0_2:Int) (x0_3 x0_4:ByteArray) (x0_5:Bool) (x1:Int) (h:H) (Q:ByteArray→Int→H→Prop):Prop:=
M.new h (.cells #[.pointer x0_0,.int .i64 x0_1,.int .i64 x0_2,.string x0_3,.string x0_4,.bool x0_5] 85) fun b3 h4=>
M.load h4 (Addr.add ⟨b3,0,none⟩ 5) fun v5=>
M.bool v5 fun b6=>
(bif (!b6) then
Q ByteArray.empty 24 h4
else
M.load h4 ((Addr.add ⟨b3,0,none⟩ 0).add 0) fun v7=>
M.ptr v7 fun p8=>
M.load h4 ((Addr.add ⟨b3,0,none⟩ 0).add 1) fun v9=>
M.int .i64 v9 fun n10=>
M.load h4 ((Addr.add ⟨b3,0,none⟩ 0).add 2) fun v11=>
M.int .i64 v11 fun n12=>
M.load h4 ((Addr.add ⟨b3,0,none⟩ 0).add 3) fun v13=>
M.str v13 fun s14=>
M.load h4 (Addr.add ⟨b3,0,none⟩ 4) fun v15=>
M.str v15 fun s16=>
F0 p8 n10 n12 s14 s16 x1 h4 fun s17 n18 h19=>
Q s17 n18 h19)
def stripe_Shelf_get:=stripe_Shelf_get.g slab_Slab_Get
def stripe_Shelf_get.L (F:type_of% stripe_Shelf_get):LT
 | [.agg ⟨[.pointer x0_0,.int .i64 x0_1,.int .i64 x0_2,.string x0_3,.string x0_4,.bool x0_5]⟩,.int .i64 x1]=>fun Q h=>F x0_0 x0_1 x0_2 x0_3 x0_4 x0_5 x1 h fun s23 n24 h25=>Q (.tuple #[.string s23,.int .i64 n24]) h25
 | _=>fun _ _=>False
theorem stripe_Shelf_get.geq (F0):∀ l,OkL (evF Tryz.prog (envOf [(17,WL (slab_Slab_Get.L F0))]) Tryz.f84 an0) l (stripe_Shelf_get.L (stripe_Shelf_get.g F0) l):=by
 intro l; unfold stripe_Shelf_get.L; split; exact .inr (by intros; kernel_rfl); exact .inl rfl
theorem stripe_Shelf_get.good:FnGood Tryz.prog 84 (WL (stripe_Shelf_get.L stripe_Shelf_get)):=.ofL mixed (.cons slab_Slab_Get.good .nil) Tryz.func84 Tryz.call84 (stripe_Shelf_get.geq slab_Slab_Get)
def matrix_Apply.g (F0:type_of% matrix_Matrix_Good) (F1:type_of% slices_ContainsFuncstring_string_matrix_Apply_1) (F2:type_of% gf_Scale) (F3:type_of% words_Xor) (x0:Option Addr) (x0L x0C:Nat) (x1:Option Addr) (x1L x1C:Nat) (h:H) (Q:Option Addr→Nat→Nat→Int→H→Prop):Prop:=
M.new h (.cells #[.slice x1 x1L x1C] 28) fun b5 h6=>
F0 x0 x0L x0C h6 fun b7 h8=>
(bif (!b7) then
Q none 0 0 4 h8
else
M.join (α:=Bool) (fun d26 h27=>
(bif d26 then
Q none 0 0 7 h27
else
M.load h27 ⟨b5,0,none⟩ fun v28=>
M.slc v28 fun a29 l30 c31=>
M.idx a29 l30 0 fun a32 j33=>
M.load h27 (Addr.add a32 (j33*1)) fun v34=>
M.str v34 fun s35=>
(bif (decide ((ByteArray.size s35:Int) > 65536)) then
Q none 0 0 5 h27
else
M.mk h27 9 [.string ByteArray.empty] 16 (x0L:Int) (x0L:Int) fun a36 l37 c38 h39=>
M.join (α:=Unit) (fun d94 h95=>
Q a36 l37 c38 0 h95) fun J40=>
M.loop (α:=Int) (fun J41 d42 h43=>
(bif (decide (d42<(l37:Int))) then
M.load h43 ⟨b5,0,none⟩ fun v44=>
M.slc v44 fun a45 l46 c47=>
M.idx a45 l46 0 fun a48 j49=>
M.load h43 (Addr.add a48 (j49*1)) fun v50=>
M.str v50 fun s51=>
M.mk h43 5 [.int .u8 0] 1 (ByteArray.size s51:Int) (ByteArray.size s51:Int) fun a52 l53 c54 h55=>
M.b2s h55 a52 l53 fun s56=>
M.idx a36 l37 d42 fun a57 j58=>
M.put h55 (Addr.add a57 (j58*1)) (.string s56) fun h59=>
M.load h59 ⟨b5,0,none⟩ fun v60=>
M.slc v60 fun a61 l62 c63=>
M.loop (α:=Int) (fun J64 d65 h66=>
(bif (decide (d65<(l62:Int))) then
M.idx a61 l62 d65 fun a67 j68=>
M.load h66 (Addr.add a67 (j68*1)) fun v69=>
M.str v69 fun s70=>
M.idx a36 l37 d42 fun a71 j72=>
M.load h66 (Addr.add a71 (j72*1)) fun v73=>
M.str v73 fun s74=>
M.idx x0 x0L d42 fun a75 j76=>
M.load h66 (Addr.add a75 (j76*1)) fun v77=>
M.slc v77 fun a78 l79 c80=>
M.idx a78 l79 d65 fun a81 j82=>
M.load h66 (Addr.add a81 (j82*1)) fun v83=>
M.int .u8 v83 fun n84=>
F2 n84 s70 h66 fun s85 h86=>
M.still h66 (Addr.add a71 (j72*1)) 1 h86 (
F3 s74 s85 h86 fun s87 h88=>
M.idx a36 l37 d42 fun a89 j90=>
M.put h88 (Addr.add a89 (j90*1)) (.string s87) fun h91=>
M.val (IntKind.wrap .i64 (d65+1)) fun z92=>
J64 z92 h91)
else
M.val (IntKind.wrap .i64 (d42+1)) fun z93=>
J41 z93 h66)) 0 h59
else
J40 () h43)) 0 h39))) fun J9=>
M.load h8 ⟨b5,0,none⟩ fun v10=>
M.slc v10 fun a11 l12 c13=>
M.idx x0 x0L 0 fun a14 j15=>
M.load h8 (Addr.add a14 (j15*1)) fun v16=>
M.slc v16 fun a17 l18 c19=>
(bif ((l12:Int) != (l18:Int)) then
J9 true h8
else
M.load h8 ⟨b5,0,none⟩ fun v20=>
M.slc v20 fun a21 l22 c23=>
F1 a21 l22 c23 ⟨b5,0,none⟩ h8 fun b24 h25=>
J9 b24 h25))
def matrix_Apply:=matrix_Apply.g matrix_Matrix_Good slices_ContainsFuncstring_string_matrix_Apply_1 gf_Scale words_Xor
def matrix_Apply.L (F:type_of% matrix_Apply):LT
 | [.slice x0 x0L x0C,.slice x1 x1L x1C]=>fun Q h=>F x0 x0L x0C x1 x1L x1C h fun a101 l102 c103 n104 h105=>Q (.tuple #[.slice a101 l102 c103,.int .i64 n104]) h105
 | _=>fun _ _=>False
def matrix_Apply.ann:Ann:=⟨lookN [(3,[(14,.bool)])],lookN [(15,[])],lookN [(122,[(38,.int .i64)]),(62670,[(52,.int .i64)])]⟩
theorem matrix_Apply.geq (F0) (F1) (F2) (F3):∀ l,OkL (evF Tryz.prog (envOf [(179,WL (matrix_Matrix_Good.L F0)),(79,WL (slices_ContainsFuncstring_string_matrix_Apply_1.L F1)),(135,WL (gf_Scale.L F2)),(134,WL (words_Xor.L F3))]) Tryz.f141 matrix_Apply.ann) l (matrix_Apply.L (matrix_Apply.g F0 F1 F2 F3) l):=by
 intro l; unfold matrix_Apply.L; split; exact .inr (by intros; kernel_rfl); exact .inl rfl
theorem matrix_Apply.good:FnGood Tryz.prog 141 (WL (matrix_Apply.L matrix_Apply)):=.ofL mixed (.cons matrix_Matrix_Good.good (.cons slices_ContainsFuncstring_string_matrix_Apply_1.good (.cons gf_Scale.good (.cons words_Xor.good .nil)))) Tryz.func141 Tryz.call141 (matrix_Apply.geq matrix_Matrix_Good slices_ContainsFuncstring_string_matrix_Apply_1 gf_Scale words_Xor)
def stripe_Whole.g (F0:type_of% stripe_may) (F1:type_of% stripe_Shelf_get) (F2:type_of% rs_Check) (x0:Option Addr) (x0L x0C:Nat) (x1:Int) (h:H) (Q:Bool→H→Prop):Prop:=
M.val (IntKind.wrap .i64 ((x0L:Int)-2)) fun z2=>
F0 z2 h fun b3 h4=>
(bif (!b3) then
Q false h4
else
M.join (α:=(Option Addr × Nat × Nat)) (fun d49 h50=>
F2 d49.1 d49.2.1 d49.2.2 h50 fun b51 h52=>
Q b51 h52) fun J5=>
M.loop (α:=(Option Addr × Nat × Nat) × Int) (fun J6 d7 h8=>
(bif (decide (d7.2<(x0L:Int))) then
M.idx x0 x0L d7.2 fun a9 j10=>
M.load h8 ((Addr.add a9 (j10*6)).add 0) fun v11=>
M.ptr v11 fun p12=>
M.load h8 ((Addr.add a9 (j10*6)).add 1) fun v13=>
M.int .i64 v13 fun n14=>
M.load h8 ((Addr.add a9 (j10*6)).add 2) fun v15=>
M.int .i64 v15 fun n16=>
M.load h8 ((Addr.add a9 (j10*6)).add 3) fun v17=>
M.str v17 fun s18=>
M.load h8 ((Addr.add a9 (j10*6)).add 4) fun v19=>
M.str v19 fun s20=>
M.load h8 ((Addr.add a9 (j10*6)).add 5) fun v21=>
M.bool v21 fun b22=>
M.new h8 (.cells #[.pointer none,.int .i64 0,.int .i64 0,.string ByteArray.empty,.string ByteArray.empty,.bool false] 85) fun b23 h24=>
M.req (Array.size (#[.pointer p12,.int .i64 n14,.int .i64 n16,.string s18,.string s20,.bool b22]:Array Value)=6) (M.puts h24 ⟨b23,0,none⟩ [.pointer p12,.int .i64 n14,.int .i64 n16,.string s18,.string s20,.bool b22] fun h25=>
M.load h25 (Addr.add ⟨b23,0,none⟩ 0) fun v26=>
M.ptr v26 fun p27=>
M.load h25 (Addr.add ⟨b23,0,none⟩ 1) fun v28=>
M.int .i64 v28 fun n29=>
M.load h25 (Addr.add ⟨b23,0,none⟩ 2) fun v30=>
M.int .i64 v30 fun n31=>
M.load h25 (Addr.add ⟨b23,0,none⟩ 3) fun v32=>
M.str v32 fun s33=>
M.load h25 (Addr.add ⟨b23,0,none⟩ 4) fun v34=>
M.str v34 fun s35=>
M.load h25 (Addr.add ⟨b23,0,none⟩ 5) fun v36=>
M.bool v36 fun b37=>
F1 p27 n29 n31 s33 s35 b37 x1 h25 fun s38 n39 h40=>
(bif (n39 != 0) then
Q false h40
else
M.new h40 (.cells #[.string s38] 9) fun b41 h42=>
M.cellsOf h42 (some ⟨b41,0,none⟩) (1*1) fun cs47=>
M.app h42 9 1 16 [.string ByteArray.empty] d7.1.1 d7.1.2.1 d7.1.2.2 1 cs47 fun a43 l44 c45 h46=>
M.val (IntKind.wrap .i64 (d7.2+1)) fun z48=>
J6 ((a43,l44,c45),z48) h46))
else
J5 (d7.1.1,d7.1.2.1,d7.1.2.2) h8)) ((none,0,0),0) h4)
def stripe_Whole:=stripe_Whole.g stripe_may stripe_Shelf_get rs_Check
def stripe_Whole.L (F:type_of% stripe_Whole):LT
 | [.slice x0 x0L x0C,.int .i64 x1]=>fun Q h=>F x0 x0L x0C x1 h fun b55 h56=>Q (.bool b55) h56
 | _=>fun _ _=>False
def stripe_Whole.ann:Ann:=⟨lookN [],lookN [(15,[(5,.slc)])],lookN [(122,[(5,.slc),(17,.int .i64)])]⟩
theorem stripe_Whole.geq (F0) (F1) (F2):∀ l,OkL (evF Tryz.prog (envOf [(78,WL (stripe_may.L F0)),(84,WL (stripe_Shelf_get.L F1)),(86,WL (rs_Check.L F2))]) Tryz.f38 stripe_Whole.ann) l (stripe_Whole.L (stripe_Whole.g F0 F1 F2) l):=by
 intro l; unfold stripe_Whole.L; split; exact .inr (by intros; kernel_rfl); exact .inl rfl
theorem stripe_Whole.good:FnGood Tryz.prog 38 (WL (stripe_Whole.L stripe_Whole)):=.ofL mixed (.cons stripe_may.good (.cons stripe_Shelf_get.good (.cons rs_Check.good .nil))) Tryz.func38 Tryz.call38 (stripe_Whole.geq stripe_may stripe_Shelf_get rs_Check)
def rs_Decode.g (F0:type_of% rs_may) (F1:type_of% rs_generator) (F2:type_of% rs_shape) (F3:type_of% matrix_Invert) (F4:type_of% matrix_Apply) (x0:Option Addr) (x0L x0C:Nat) (x1:Option Addr) (x1L x1C:Nat) (h:H) (Q:Option Addr→Nat→Nat→Int→H→Prop):Prop:=
M.val (IntKind.wrap .i64 ((x0L:Int)-2)) fun z5=>
M.join (α:=Bool) (fun d9 h10=>
(bif d9 then
Q none 0 0 2 h10
else
F1 z5 h10 fun a11 l12 c13 h14=>
M.join (α:=(Option Addr × Nat × Nat) × (Option Addr × Nat × Nat)) (fun d78 h79=>
(bif (decide (((d78.2.2.1:Nat):Int)<z5)) then
Q none 0 0 24 h79
else
F2 d78.2.1 d78.2.2.1 d78.2.2.2 h79 fun n80 h81=>
(bif (n80 != 0) then
Q none 0 0 n80 h81
else
M.sub d78.1.1 d78.1.2.2 1 0 z5 fun a82 l83 c84=>
F3 a82 l83 c84 h81 fun a85 l86 c87 n88 h89=>
M.sub d78.2.1 d78.2.2.2 1 0 z5 fun a90 l91 c92=>
F4 a85 l86 c87 a90 l91 c92 h89 fun a93 l94 c95 n96 h97=>
F4 a11 l12 c13 a93 l94 c95 h97 fun a98 l99 c100 n101 h102=>
Q a98 l99 c100 0 h102))) fun J15=>
M.loop (α:=(Option Addr × Nat × Nat) × (Option Addr × Nat × Nat) × Int) (fun J16 d17 h18=>
(bif (decide (d17.2.2<(x0L:Int))) then
M.idx x0 x0L d17.2.2 fun a19 j20=>
M.load h18 (Addr.add a19 (j20*1)) fun v21=>
M.str v21 fun s22=>
M.idx x1 x1L d17.2.2 fun a23 j24=>
M.load h18 (Addr.add a23 (j24*1)) fun v25=>
M.bool v25 fun b26=>
(bif b26 then
M.join (α:=(Option Addr × Nat × Nat) × (Option Addr × Nat × Nat)) (fun d74 h75=>
M.val (IntKind.wrap .i64 (d17.2.2+1)) fun z76=>
J16 ((d74.1.1,d74.1.2.1,d74.1.2.2),(d74.2.1,d74.2.2.1,d74.2.2.2),z76) h75) fun J27=>
M.idx a11 l12 d17.2.2 fun a28 j29=>
M.load h18 (Addr.add a28 (j29*1)) fun v30=>
M.slc v30 fun a31 l32 c33=>
(M.new h18 (.cells #[.string s22] 9) fun b34 h35=>
M.still h18 (Addr.add a28 (j29*1)) 1 h35 (
(M.cellsOf h35 (some ⟨b34,0,none⟩) (1*1) fun cs40=>
M.app h35 9 1 16 [.string ByteArray.empty] d17.2.1.1 d17.2.1.2.1 d17.2.1.2.2 1 cs40 fun a36 l37 c38 h39=>
M.still h18 (Addr.add a28 (j29*1)) 1 h39 (
M.new h39 (.cells #[.slice a31 l32 c33] 29) fun b41 h42=>
M.cellsOf h42 (some ⟨b41,0,none⟩) (1*1) fun cs47=>
M.app h42 29 1 24 [.slice none 0 0] d17.1.1 d17.1.2.1 d17.1.2.2 1 cs47 fun a43 l44 c45 h46=>
J27 ((a43,l44,c45),(a36,l37,c38)) h46)) ∧
(M.new h35 (.cells #[.slice a31 l32 c33] 29) fun b48 h49=>
M.cellsOf h49 (some ⟨b34,0,none⟩) (1*1) fun cs54=>
M.app h49 9 1 16 [.string ByteArray.empty] d17.2.1.1 d17.2.1.2.1 d17.2.1.2.2 1 cs54 fun a50 l51 c52 h53=>
M.still h18 (Addr.add a28 (j29*1)) 1 h53 (
M.cellsOf h53 (some ⟨b48,0,none⟩) (1*1) fun cs59=>
M.app h53 29 1 24 [.slice none 0 0] d17.1.1 d17.1.2.1 d17.1.2.2 1 cs59 fun a55 l56 c57 h58=>
J27 ((a55,l56,c57),(a50,l51,c52)) h58)))) ∧
(M.new h18 (.cells #[.slice a31 l32 c33] 29) fun b60 h61=>
M.new h61 (.cells #[.string s22] 9) fun b62 h63=>
M.still h18 (Addr.add a28 (j29*1)) 1 h63 (
M.cellsOf h63 (some ⟨b62,0,none⟩) (1*1) fun cs68=>
M.app h63 9 1 16 [.string ByteArray.empty] d17.2.1.1 d17.2.1.2.1 d17.2.1.2.2 1 cs68 fun a64 l65 c66 h67=>
M.still h18 (Addr.add a28 (j29*1)) 1 h67 (
M.cellsOf h67 (some ⟨b60,0,none⟩) (1*1) fun cs73=>
M.app h67 29 1 24 [.slice none 0 0] d17.1.1 d17.1.2.1 d17.1.2.2 1 cs73 fun a69 l70 c71 h72=>
J27 ((a69,l70,c71),(a64,l65,c66)) h72)))
else
M.val (IntKind.wrap .i64 (d17.2.2+1)) fun z77=>
J16 ((d17.1.1,d17.1.2.1,d17.1.2.2),(d17.2.1.1,d17.2.1.2.1,d17.2.1.2.2),z77) h18)
else
J15 ((d17.1.1,d17.1.2.1,d17.1.2.2),(d17.2.1.1,d17.2.1.2.1,d17.2.1.2.2)) h18)) ((none,0,0),(none,0,0),0) h14)) fun J6=>
F0 z5 h fun b7 h8=>
(bif (!b7) then
J6 true h8
else
J6 ((x1L:Int) != (x0L:Int)) h8)
def rs_Decode:=rs_Decode.g rs_may rs_generator rs_shape matrix_Invert matrix_Apply
def rs_Decode.L (F:type_of% rs_Decode):LT
 | [.slice x0 x0L x0C,.slice x1 x1L x1C]=>fun Q h=>F x0 x0L x0C x1 x1L x1C h fun a108 l109 c110 n111 h112=>Q (.tuple #[.slice a108 l109 c110,.int .i64 n111]) h112
 | _=>fun _ _=>False
def rs_Decode.ann:Ann:=⟨lookN [(2,[(31,.bool)]),(11,[(7,.slc),(8,.slc)])],lookN [(127,[(7,.slc),(8,.slc)])],lookN [(1018,[(7,.slc),(8,.slc),(36,.int .i64)])]⟩
theorem rs_Decode.geq (F0) (F1) (F2) (F3) (F4):∀ l,OkL (evF Tryz.prog (envOf [(132,WL (rs_may.L F0)),(139,WL (rs_generator.L F1)),(133,WL (rs_shape.L F2)),(140,WL (matrix_Invert.L F3)),(141,WL (matrix_Apply.L F4))]) Tryz.f85 rs_Decode.ann) l (rs_Decode.L (rs_Decode.g F0 F1 F2 F3 F4) l):=by
 intro l; unfold rs_Decode.L; split; exact .inr (by intros; kernel_rfl); exact .inl rfl
theorem rs_Decode.good:FnGood Tryz.prog 85 (WL (rs_Decode.L rs_Decode)):=.ofL mixed (.cons rs_may.good (.cons rs_generator.good (.cons rs_shape.good (.cons matrix_Invert.good (.cons matrix_Apply.good .nil))))) Tryz.func85 Tryz.call85 (rs_Decode.geq rs_may rs_generator rs_shape matrix_Invert matrix_Apply)
end Go.Proofs.YthegnmanjdlmjaaGreatDoor

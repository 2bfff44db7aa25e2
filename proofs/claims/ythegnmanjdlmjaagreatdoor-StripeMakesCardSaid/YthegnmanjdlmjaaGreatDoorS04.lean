/- The shallow forms of the functions of this seat, printed by a program of mine, each checked by the kernel against the given code. -/
import Derived.Test.YthegnmanjdlmjaaGreatDoorS03
set_option linter.unusedSimpArgs false
set_option linter.unusedVariables false
namespace Go.Proofs.YthegnmanjdlmjaaGreatDoor
open Go.Sh
def slab_Slab_checked.g (F0:type_of% slab_Slab_good) (F1:type_of% slab_Slab_may) (x0_0:Option Addr) (x0_1 x0_2:Int) (x0_3:ByteArray) (x1:Option Addr) (x1L x1C:Nat) (h:H) (Q:Int→H→Prop):Prop:=
M.new h (.cells #[.pointer x0_0,.int .i64 x0_1,.int .i64 x0_2,.string x0_3] 37) fun b2 h3=>
M.load h3 (Addr.add ⟨b2,0,none⟩ 0) fun v4=>
M.ptr v4 fun p5=>
M.load h3 (Addr.add ⟨b2,0,none⟩ 1) fun v6=>
M.int .i64 v6 fun n7=>
M.load h3 (Addr.add ⟨b2,0,none⟩ 2) fun v8=>
M.int .i64 v8 fun n9=>
M.load h3 (Addr.add ⟨b2,0,none⟩ 3) fun v10=>
M.str v10 fun s11=>
F0 p5 n7 n9 s11 h3 fun b12 h13=>
(bif (!b12) then
Q 4 h13
else
M.loop (α:=Int) (fun J14 d15 h16=>
(bif (decide (d15<(x1L:Int))) then
M.idx x1 x1L d15 fun a17 j18=>
M.load h16 ((Addr.add a17 (j18*2)).add 0) fun v19=>
M.int .i64 v19 fun n20=>
M.load h16 ((Addr.add a17 (j18*2)).add 1) fun v21=>
M.str v21 fun s22=>
M.new h16 (.cells #[.int .i64 0,.string ByteArray.empty] 45) fun b23 h24=>
M.req (Array.size (#[.int .i64 n20,.string s22]:Array Value)=2) (M.puts h24 ⟨b23,0,none⟩ [.int .i64 n20,.string s22] fun h25=>
M.load h25 (Addr.add ⟨b2,0,none⟩ 0) fun v26=>
M.ptr v26 fun p27=>
M.load h25 (Addr.add ⟨b2,0,none⟩ 1) fun v28=>
M.int .i64 v28 fun n29=>
M.load h25 (Addr.add ⟨b2,0,none⟩ 2) fun v30=>
M.int .i64 v30 fun n31=>
M.load h25 (Addr.add ⟨b2,0,none⟩ 3) fun v32=>
M.str v32 fun s33=>
M.load h25 (Addr.add ⟨b23,0,none⟩ 0) fun v34=>
M.int .i64 v34 fun n35=>
F1 p27 n29 n31 s33 n35 h25 fun n36 h37=>
(bif (n36 != 0) then
Q n36 h37
else
M.load h37 (Addr.add ⟨b23,0,none⟩ 1) fun v38=>
M.str v38 fun s39=>
(bif (decide ((ByteArray.size s39:Int) > 2032)) then
Q 5 h37
else
M.val (IntKind.wrap .i64 (d15+1)) fun z40=>
J14 z40 h37)))
else
Q 0 h16)) 0 h13)
def slab_Slab_checked:=slab_Slab_checked.g slab_Slab_good slab_Slab_may
def slab_Slab_checked.L (F:type_of% slab_Slab_checked):LT
 | [.agg ⟨[.pointer x0_0,.int .i64 x0_1,.int .i64 x0_2,.string x0_3]⟩,.slice x1 x1L x1C]=>fun Q h=>F x0_0 x0_1 x0_2 x0_3 x1 x1L x1C h fun n43 h44=>Q (.int .i64 n43) h44
 | _=>fun _ _=>False
def slab_Slab_checked.ann:Ann:=⟨lookN [],lookN [],lookN [(58,[(13,.int .i64)])]⟩
theorem slab_Slab_checked.geq (F0) (F1):∀ l,OkL (evF Tryz.prog (envOf [(53,WL (slab_Slab_good.L F0)),(44,WL (slab_Slab_may.L F1))]) Tryz.f47 slab_Slab_checked.ann) l (slab_Slab_checked.L (slab_Slab_checked.g F0 F1) l):=by
 intro l; unfold slab_Slab_checked.L; split; exact .inr (by intros; kernel_rfl); exact .inl rfl
theorem slab_Slab_checked.good:FnGood Tryz.prog 47 (WL (slab_Slab_checked.L slab_Slab_checked)):=.ofL mixed (.cons slab_Slab_good.good (.cons slab_Slab_may.good .nil)) Tryz.func47 Tryz.call47 (slab_Slab_checked.geq slab_Slab_good slab_Slab_may)
def bank_Bank_Write.g (F0:type_of% bank_Bank_there) (F1:type_of% bank_Bank_Spend) (F2:type_of% disk_Disk_Write) (x0:Option Addr) (x1 x2:Int) (x3:ByteArray) (h:H) (Q:Int→H→Prop):Prop:=
F0 x0 x1 h fun n2 h3=>
(bif (n2 != 0) then
Q n2 h3
else
F1 x0 h3 fun n4 h5=>
(bif (n4 != 0) then
Q n4 h5
else
M.nn x0 fun a6=>
M.load h5 (Addr.add a6 0) fun v7=>
M.slc v7 fun a8 l9 c10=>
M.idx a8 l9 x1 fun a11 j12=>
M.load h5 (Addr.add a11 (j12*1)) fun v13=>
M.ptr v13 fun p14=>
F2 p14 x2 x3 h5 fun n15 h16=>
Q n15 h16))
def bank_Bank_Write:=bank_Bank_Write.g bank_Bank_there bank_Bank_Spend disk_Disk_Write
def bank_Bank_Write.L (F:type_of% bank_Bank_Write):LT
 | [.pointer x0,.int .i64 x1,.int .i64 x2,.string x3]=>fun Q h=>F x0 x1 x2 x3 h fun n19 h20=>Q (.int .i64 n19) h20
 | _=>fun _ _=>False
theorem bank_Bank_Write.geq (F0) (F1) (F2):∀ l,OkL (evF Tryz.prog (envOf [(108,WL (bank_Bank_there.L F0)),(109,WL (bank_Bank_Spend.L F1)),(110,WL (disk_Disk_Write.L F2))]) Tryz.f54 an0) l (bank_Bank_Write.L (bank_Bank_Write.g F0 F1 F2) l):=by
 intro l; unfold bank_Bank_Write.L; split; exact .inr (by intros; kernel_rfl); exact .inl rfl
theorem bank_Bank_Write.good:FnGood Tryz.prog 54 (WL (bank_Bank_Write.L bank_Bank_Write)):=.ofL mixed (.cons bank_Bank_there.good (.cons bank_Bank_Spend.good (.cons disk_Disk_Write.good .nil))) Tryz.func54 Tryz.call54 (bank_Bank_Write.geq bank_Bank_there bank_Bank_Spend disk_Disk_Write)
def bank_Bank_Flush.g (F0:type_of% bank_Bank_there) (F1:type_of% bank_Bank_Spend) (F2:type_of% disk_Disk_Flush) (x0:Option Addr) (x1:Int) (h:H) (Q:Int→H→Prop):Prop:=
F0 x0 x1 h fun n2 h3=>
(bif (n2 != 0) then
Q n2 h3
else
F1 x0 h3 fun n4 h5=>
(bif (n4 != 0) then
Q n4 h5
else
M.nn x0 fun a6=>
M.load h5 (Addr.add a6 0) fun v7=>
M.slc v7 fun a8 l9 c10=>
M.idx a8 l9 x1 fun a11 j12=>
M.load h5 (Addr.add a11 (j12*1)) fun v13=>
M.ptr v13 fun p14=>
F2 p14 h5 fun n15 h16=>
Q n15 h16))
def bank_Bank_Flush:=bank_Bank_Flush.g bank_Bank_there bank_Bank_Spend disk_Disk_Flush
def bank_Bank_Flush.L (F:type_of% bank_Bank_Flush):LT
 | [.pointer x0,.int .i64 x1]=>fun Q h=>F x0 x1 h fun n19 h20=>Q (.int .i64 n19) h20
 | _=>fun _ _=>False
theorem bank_Bank_Flush.geq (F0) (F1) (F2):∀ l,OkL (evF Tryz.prog (envOf [(108,WL (bank_Bank_there.L F0)),(109,WL (bank_Bank_Spend.L F1)),(111,WL (disk_Disk_Flush.L F2))]) Tryz.f55 an0) l (bank_Bank_Flush.L (bank_Bank_Flush.g F0 F1 F2) l):=by
 intro l; unfold bank_Bank_Flush.L; split; exact .inr (by intros; kernel_rfl); exact .inl rfl
theorem bank_Bank_Flush.good:FnGood Tryz.prog 55 (WL (bank_Bank_Flush.L bank_Bank_Flush)):=.ofL mixed (.cons bank_Bank_there.good (.cons bank_Bank_Spend.good (.cons disk_Disk_Flush.good .nil))) Tryz.func55 Tryz.call55 (bank_Bank_Flush.geq bank_Bank_there bank_Bank_Spend disk_Disk_Flush)
def bank_Bank_Read.g (F0:type_of% bank_Bank_there) (F1:type_of% disk_Disk_Read) (x0:Option Addr) (x1 x2:Int) (h:H) (Q:ByteArray→Int→H→Prop):Prop:=
F0 x0 x1 h fun n3 h4=>
(bif (n3 != 0) then
Q ByteArray.empty n3 h4
else
M.join (α:=Bool) (fun d12 h13=>
(bif d12 then
Q ByteArray.empty 21 h13
else
M.nn x0 fun a14=>
M.load h13 (Addr.add a14 0) fun v15=>
M.slc v15 fun a16 l17 c18=>
M.idx a16 l17 x1 fun a19 j20=>
M.load h13 (Addr.add a19 (j20*1)) fun v21=>
M.ptr v21 fun p22=>
F1 p22 x2 h13 fun s23 n24 h25=>
Q s23 n24 h25)) fun J5=>
M.nn x0 fun a6=>
M.load h4 (Addr.add a6 2) fun v7=>
M.bool v7 fun b8=>
(bif b8 then
M.nn x0 fun a9=>
M.load h4 (Addr.add a9 3) fun v10=>
M.int .i64 v10 fun n11=>
J5 (n11 == 0) h4
else
J5 false h4))
def bank_Bank_Read:=bank_Bank_Read.g bank_Bank_there disk_Disk_Read
def bank_Bank_Read.L (F:type_of% bank_Bank_Read):LT
 | [.pointer x0,.int .i64 x1,.int .i64 x2]=>fun Q h=>F x0 x1 x2 h fun s29 n30 h31=>Q (.tuple #[.string s29,.int .i64 n30]) h31
 | _=>fun _ _=>False
def bank_Bank_Read.ann:Ann:=⟨lookN [(4,[(25,.bool)])],lookN [],lookN []⟩
theorem bank_Bank_Read.geq (F0) (F1):∀ l,OkL (evF Tryz.prog (envOf [(108,WL (bank_Bank_there.L F0)),(112,WL (disk_Disk_Read.L F1))]) Tryz.f56 bank_Bank_Read.ann) l (bank_Bank_Read.L (bank_Bank_Read.g F0 F1) l):=by
 intro l; unfold bank_Bank_Read.L; split; exact .inr (by intros; kernel_rfl); exact .inl rfl
theorem bank_Bank_Read.good:FnGood Tryz.prog 56 (WL (bank_Bank_Read.L bank_Bank_Read)):=.ofL mixed (.cons bank_Bank_there.good (.cons disk_Disk_Read.good .nil)) Tryz.func56 Tryz.call56 (bank_Bank_Read.geq bank_Bank_there disk_Disk_Read)
def ref17_Good.g (F0:type_of% ref12_Depth) (x0_0:Option Addr) (x0_1 x0_2:Int) (x0_3:ByteArray) (h:H) (Q:Bool→H→Prop):Prop:=
M.new h (.cells #[.pointer x0_0,.int .i64 x0_1,.int .i64 x0_2,.string x0_3] 40) fun b2 h3=>
M.load h3 (Addr.add ⟨b2,0,none⟩ 2) fun v4=>
M.int .i64 v4 fun n5=>
F0 n5 h3 fun n6 h7=>
M.join (α:=Bool) (fun d24 h25=>
Q d24 h25) fun J8=>
(bif (decide (n6 > 0)) then
M.load h7 (Addr.add ⟨b2,0,none⟩ 3) fun v9=>
M.str v9 fun s10=>
(bif ((ByteArray.size s10:Int) == 32) then
M.load h7 (Addr.add ⟨b2,0,none⟩ 0) fun v11=>
M.ptr v11 fun p12=>
(bif (!(Option.isNone p12)) then
M.load h7 (Addr.add ⟨b2,0,none⟩ 1) fun v13=>
M.int .i64 v13 fun n14=>
(bif (decide (n14 ≥ 0)) then
M.load h7 (Addr.add ⟨b2,0,none⟩ 1) fun v15=>
M.int .i64 v15 fun n16=>
M.load h7 (Addr.add ⟨b2,0,none⟩ 0) fun v17=>
M.ptr v17 fun p18=>
M.nn p18 fun a19=>
M.load h7 (Addr.add a19 0) fun v20=>
M.slc v20 fun a21 l22 c23=>
J8 (decide (n16<(l22:Int))) h7
else
J8 false h7)
else
J8 false h7)
else
J8 false h7)
else
J8 false h7)
def ref17_Good:=ref17_Good.g ref12_Depth
def codec_Num.g (F0:type_of% words_FromBig) (x0:Int) (h:H) (Q:ByteArray→H→Prop):Prop:=
M.shr0 32 (
M.val (shr .u64 x0 32) fun z2=>
M.val (IntKind.wrap .u32 z2) fun z3=>
M.val (IntKind.wrap .u32 x0) fun z4=>
M.new h (.cells #[.int .u32 z3,.int .u32 z4] 178) fun b5 h6=>
F0 (some ⟨b5,0,none⟩) 2 2 h6 fun s7 h8=>
Q s7 h8)
def codec_Num:=codec_Num.g words_FromBig
def codec_Num.L (F:type_of% codec_Num):LT
 | [.int .u64 x0]=>fun Q h=>F x0 h fun s11 h12=>Q (.string s11) h12
 | _=>fun _ _=>False
theorem codec_Num.geq (F0):∀ l,OkL (evF Tryz.prog (envOf [(122,WL (words_FromBig.L F0))]) Tryz.f97 an0) l (codec_Num.L (codec_Num.g F0) l):=by
 intro l; unfold codec_Num.L; split; exact .inr (by intros; kernel_rfl); exact .inl rfl
theorem codec_Num.good:FnGood Tryz.prog 97 (WL (codec_Num.L codec_Num)):=.ofL mixed (.cons words_FromBig.good .nil) Tryz.func97 Tryz.call97 (codec_Num.geq words_FromBig)
def math_bits_Mul.g (F0:type_of% math_bits_Mul64) (x0 x1:Int) (h:H) (Q:Int→Int→H→Prop):Prop:=
F0 x0 x1 h fun n3 n4 h5=>
Q n3 n4 h5
def math_bits_Mul:=math_bits_Mul.g math_bits_Mul64
def math_bits_Mul.L (F:type_of% math_bits_Mul):LT
 | [.int .u64 x0,.int .u64 x1]=>fun Q h=>F x0 x1 h fun n9 n10 h11=>Q (.tuple #[.int .u64 n9,.int .u64 n10]) h11
 | _=>fun _ _=>False
theorem math_bits_Mul.geq (F0):∀ l,OkL (evF Tryz.prog (envOf [(160,WL (math_bits_Mul64.L F0))]) Tryz.f113 an0) l (math_bits_Mul.L (math_bits_Mul.g F0) l):=by
 intro l; unfold math_bits_Mul.L; split; exact .inr (by intros; kernel_rfl); exact .inl rfl
theorem math_bits_Mul.good:FnGood Tryz.prog 113 (WL (math_bits_Mul.L math_bits_Mul)):=.ofL mixed (.cons math_bits_Mul64.good .nil) Tryz.func113 Tryz.call113 (math_bits_Mul.geq math_bits_Mul64)
def ref10_Read.g (F0:type_of% ref09_Read) (x0:Option Addr) (x1 x2:Int) (h:H) (Q:ByteArray→Int→H→Prop):Prop:=
M.join (α:=Bool) (fun d9 h10=>
(bif d9 then
Q ByteArray.empty 11 h10
else
M.nn x0 fun a11=>
M.load h10 (Addr.add a11 2) fun v12=>
M.int .i64 v12 fun n13=>
(bif (n13 == 0) then
Q ByteArray.empty 21 h10
else
M.nn x0 fun a14=>
M.load h10 (Addr.add a14 0) fun v15=>
M.slc v15 fun a16 l17 c18=>
M.idx a16 l17 x1 fun a19 j20=>
M.load h10 (Addr.add a19 (j20*1)) fun v21=>
M.ptr v21 fun p22=>
F0 p22 x2 h10 fun s23 n24 h25=>
Q s23 n24 h25))) fun J3=>
(bif (decide (x1<0)) then
J3 true h
else
M.nn x0 fun a4=>
M.load h (Addr.add a4 0) fun v5=>
M.slc v5 fun a6 l7 c8=>
J3 (decide (x1 ≥ (l7:Int))) h)
def ref10_Read:=ref10_Read.g ref09_Read
def ref17_With.g (F0:type_of% ref13_Num) (x0_0:Option Addr) (x0_1 x0_2:Int) (x0_3:ByteArray) (x1:Int) (h:H) (Q:ByteArray→H→Prop):Prop:=
M.new h (.cells #[.pointer x0_0,.int .i64 x0_1,.int .i64 x0_2,.string x0_3] 40) fun b2 h3=>
M.load h3 (Addr.add ⟨b2,0,none⟩ 1) fun v4=>
M.int .i64 v4 fun n5=>
M.val (IntKind.wrap .u64 n5) fun z6=>
F0 z6 h3 fun s7 h8=>
M.val (IntKind.wrap .u64 x1) fun z9=>
F0 z9 h8 fun s10 h11=>
M.cat s7 s10 fun s12=>
Q s12 h11
def ref17_With:=ref17_With.g ref13_Num
def ref17_With.L (F:type_of% ref17_With):LT
 | [.agg ⟨[.pointer x0_0,.int .i64 x0_1,.int .i64 x0_2,.string x0_3]⟩,.int .i64 x1]=>fun Q h=>F x0_0 x0_1 x0_2 x0_3 x1 h fun s15 h16=>Q (.string s15) h16
 | _=>fun _ _=>False
def aead_lengths.g (F0:type_of% words_FromLittle) (x0:Option Addr) (x0L x0C:Nat) (h:H) (Q:ByteArray→H→Prop):Prop:=
M.join (α:=(Option Addr × Nat × Nat)) (fun d22 h23=>
F0 d22.1 d22.2.1 d22.2.2 h23 fun s24 h25=>
Q s24 h25) fun J2=>
M.loop (α:=(Option Addr × Nat × Nat) × Int) (fun J3 d4 h5=>
(bif (decide (d4.2<(x0L:Int))) then
M.idx x0 x0L d4.2 fun a6 j7=>
M.load h5 (Addr.add a6 (j7*1)) fun v8=>
M.str v8 fun s9=>
M.val (IntKind.wrap .u64 (ByteArray.size s9:Int)) fun z10=>
M.val (IntKind.wrap .u32 z10) fun z11=>
M.shr0 32 (
M.val (shr .u64 z10 32) fun z12=>
M.val (IntKind.wrap .u32 z12) fun z13=>
M.new h5 (.cells #[.int .u32 z11,.int .u32 z13] 178) fun b14 h15=>
M.cellsOf h15 (some ⟨b14,0,none⟩) (2*1) fun cs20=>
M.app h15 178 1 4 [.int .u32 0] d4.1.1 d4.1.2.1 d4.1.2.2 2 cs20 fun a16 l17 c18 h19=>
M.val (IntKind.wrap .i64 (d4.2+1)) fun z21=>
J3 ((a16,l17,c18),z21) h19)
else
J2 (d4.1.1,d4.1.2.1,d4.1.2.2) h5)) ((none,0,0),0) h
def aead_lengths:=aead_lengths.g words_FromLittle
def aead_lengths.L (F:type_of% aead_lengths):LT
 | [.slice x0 x0L x0C]=>fun Q h=>F x0 x0L x0C h fun s28 h29=>Q (.string s28) h29
 | _=>fun _ _=>False
def aead_lengths.ann:Ann:=⟨lookN [],lookN [(7,[(3,.slc)])],lookN [(58,[(3,.slc),(9,.int .i64)])]⟩
theorem aead_lengths.geq (F0):∀ l,OkL (evF Tryz.prog (envOf [(191,WL (words_FromLittle.L F0))]) Tryz.f153 aead_lengths.ann) l (aead_lengths.L (aead_lengths.g F0) l):=by
 intro l; unfold aead_lengths.L; split; exact .inr (by intros; kernel_rfl); exact .inl rfl
theorem aead_lengths.good:FnGood Tryz.prog 153 (WL (aead_lengths.L aead_lengths)):=.ofL mixed (.cons words_FromLittle.good .nil) Tryz.func153 Tryz.call153 (aead_lengths.geq words_FromLittle)
def words_Right.g (F0:type_of% words_Left) (x0 x1:Int) (h:H) (Q:Int→H→Prop):Prop:=
M.val (IntKind.wrap .u64 x1) fun z2=>
M.nz 32 (
M.val (Int.tmod z2 32) fun z3=>
M.val (IntKind.wrap .i64 z3) fun z4=>
M.val (IntKind.wrap .i64 (32-z4)) fun z5=>
F0 x0 z5 h fun n6 h7=>
Q n6 h7)
def words_Right:=words_Right.g words_Left
def words_Right.L (F:type_of% words_Right):LT
 | [.int .u32 x0,.int .i64 x1]=>fun Q h=>F x0 x1 h fun n10 h11=>Q (.int .u32 n10) h11
 | _=>fun _ _=>False
theorem words_Right.geq (F0):∀ l,OkL (evF Tryz.prog (envOf [(205,WL (words_Left.L F0))]) Tryz.f165 an0) l (words_Right.L (words_Right.g F0) l):=by
 intro l; unfold words_Right.L; split; exact .inr (by intros; kernel_rfl); exact .inl rfl
theorem words_Right.good:FnGood Tryz.prog 165 (WL (words_Right.L words_Right)):=.ofL mixed (.cons words_Left.good .nil) Tryz.func165 Tryz.call165 (words_Right.geq words_Left)
def ref05_padded.g (F0:type_of% ref01_Text) (x0:ByteArray) (h:H) (Q:ByteArray→H→Prop):Prop:=
M.cat x0 (⟨#[128]⟩:ByteArray) fun s2=>
M.s2b h 5 s2 fun a3 l4 c5 h6=>
M.join (α:=(Option Addr × Nat × Nat)) (fun d19 h20=>
M.val (IntKind.wrap .i64 (8*(ByteArray.size x0:Int))) fun z21=>
M.nz 4294967296 (
M.val (IntKind.wrap .i64 (Int.tdiv z21 4294967296)) fun z22=>
M.val (IntKind.wrap .u32 z22) fun z23=>
M.nz 4294967296 (
M.val (Int.tmod z21 4294967296) fun z24=>
M.val (IntKind.wrap .u32 z24) fun z25=>
M.new h20 (.cells #[.int .u32 z23,.int .u32 z25] 178) fun b26 h27=>
F0 (some ⟨b26,0,none⟩) 2 2 true h27 fun s28 h29=>
M.b2s h29 d19.1 d19.2.1 fun s30=>
M.cat s30 s28 fun s31=>
Q s31 h29))) fun J7=>
M.loop (α:=(Option Addr × Nat × Nat)) (fun J8 d9 h10=>
M.nz 64 (
M.val (Int.tmod ((d9.2.1:Nat):Int) 64) fun z11=>
(bif (z11 != 56) then
M.new h10 (.cells #[.int .u8 0] 5) fun b12 h13=>
M.cellsOf h13 (some ⟨b12,0,none⟩) (1*1) fun cs18=>
M.app h13 5 1 1 [.int .u8 0] d9.1 d9.2.1 d9.2.2 1 cs18 fun a14 l15 c16 h17=>
J8 (a14,l15,c16) h17
else
J7 (d9.1,d9.2.1,d9.2.2) h10))) (a3,l4,c5) h6
def ref05_padded:=ref05_padded.g ref01_Text
def ref05_padded.L (F:type_of% ref05_padded):LT
 | [.string x0]=>fun Q h=>F x0 h fun s34 h35=>Q (.string s34) h35
 | _=>fun _ _=>False
def words_Little.g (F0:type_of% words_each_words_Little_1) (x0:ByteArray) (h:H) (Q:Option Addr→Nat→Nat→Int→H→Prop):Prop:=
F0 x0 h fun a5 l6 c7 n8 h9=>
Q a5 l6 c7 n8 h9
def words_Little:=words_Little.g words_each_words_Little_1
def words_Little.L (F:type_of% words_Little):LT
 | [.string x0]=>fun Q h=>F x0 h fun a15 l16 c17 n18 h19=>Q (.tuple #[.slice a15 l16 c17,.int .i64 n18]) h19
 | _=>fun _ _=>False
theorem words_Little.geq (F0):∀ l,OkL (evF Tryz.prog (envOf [(222,WL (words_each_words_Little_1.L F0))]) Tryz.f189 an0) l (words_Little.L (words_Little.g F0) l):=by
 intro l; unfold words_Little.L; split; exact .inr (by intros; kernel_rfl); exact .inl rfl
theorem words_Little.good:FnGood Tryz.prog 189 (WL (words_Little.L words_Little)):=.ofL mixed (.cons words_each_words_Little_1.good .nil) Tryz.func189 Tryz.call189 (words_Little.geq words_each_words_Little_1)
def chacha_quarter.g (F0:type_of% chacha_Quarter) (x0:Option Addr) (x1 x2 x3 x4:Int) (h:H) (Q:H→Prop):Prop:=
M.nn x0 fun a1=>
M.aidx 16 x1 fun j2=>
M.load h (Addr.add a1 (j2*1)) fun v3=>
M.int .u32 v3 fun n4=>
M.nn x0 fun a5=>
M.aidx 16 x2 fun j6=>
M.load h (Addr.add a5 (j6*1)) fun v7=>
M.int .u32 v7 fun n8=>
M.nn x0 fun a9=>
M.aidx 16 x3 fun j10=>
M.load h (Addr.add a9 (j10*1)) fun v11=>
M.int .u32 v11 fun n12=>
M.nn x0 fun a13=>
M.aidx 16 x4 fun j14=>
M.load h (Addr.add a13 (j14*1)) fun v15=>
M.int .u32 v15 fun n16=>
M.nn x0 fun a17=>
M.nn x0 fun a18=>
M.nn x0 fun a19=>
M.nn x0 fun a20=>
F0 n4 n8 n12 n16 h fun n21 n22 n23 n24 h25=>
M.aidx 16 x1 fun j26=>
M.put h25 (Addr.add a17 (j26*1)) (.int .u32 n21) fun h27=>
M.aidx 16 x2 fun j28=>
M.put h27 (Addr.add a18 (j28*1)) (.int .u32 n22) fun h29=>
M.aidx 16 x3 fun j30=>
M.put h29 (Addr.add a19 (j30*1)) (.int .u32 n23) fun h31=>
M.aidx 16 x4 fun j32=>
M.put h31 (Addr.add a20 (j32*1)) (.int .u32 n24) fun h33=>
Q h33
def chacha_quarter:=chacha_quarter.g chacha_Quarter
def chacha_quarter.L (F:type_of% chacha_quarter):LT
 | [.pointer x0,.int .i64 x1,.int .i64 x2,.int .i64 x3,.int .i64 x4]=>fun Q h=>F x0 x1 x2 x3 x4 h fun h35=>Q (.tuple #[]) h35
 | _=>fun _ _=>False
theorem chacha_quarter.geq (F0):∀ l,OkL (evF Tryz.prog (envOf [(224,WL (chacha_Quarter.L F0))]) Tryz.f190 an0) l (chacha_quarter.L (chacha_quarter.g F0) l):=by
 intro l; unfold chacha_quarter.L; split; exact .inr (by intros; kernel_rfl); exact .inl rfl
theorem chacha_quarter.good:FnGood Tryz.prog 190 (WL (chacha_quarter.L chacha_quarter)):=.ofL mixed (.cons chacha_Quarter.good .nil) Tryz.func190 Tryz.call190 (chacha_quarter.geq chacha_Quarter)
def poly_of.g (F0:type_of% words_Little) (x0:ByteArray) (x1:Int) (h:H) (Q:Int→Int→Int→Int→Int→H→Prop):Prop:=
M.new h (.cells #[.int .u64 0,.int .u64 0,.int .u64 0,.int .u64 0,.int .u64 0] 279) fun b6 h7=>
F0 x0 h7 fun a8 l9 c10 n11 h12=>
M.new h12 (.cells #[.int .u64 0,.int .u64 0,.int .u64 0,.int .u64 0] 308) fun b13 h14=>
M.join (α:=Unit) (fun d27 h28=>
M.aidx 4 0 fun j29=>
M.load h28 (Addr.add ⟨b13,0,none⟩ (j29*1)) fun v30=>
M.int .u64 v30 fun n31=>
M.val (bAnd .u64 n31 67108863) fun z32=>
M.aidx 4 0 fun j33=>
M.load h28 (Addr.add ⟨b13,0,none⟩ (j33*1)) fun v34=>
M.int .u64 v34 fun n35=>
M.shr0 26 (
M.val (shr .u64 n35 26) fun z36=>
M.aidx 4 1 fun j37=>
M.load h28 (Addr.add ⟨b13,0,none⟩ (j37*1)) fun v38=>
M.int .u64 v38 fun n39=>
M.shr0 6 (
M.val (shl .u64 n39 6) fun z40=>
M.val (bOr .u64 z36 z40) fun z41=>
M.val (bAnd .u64 z41 67108863) fun z42=>
M.aidx 4 1 fun j43=>
M.load h28 (Addr.add ⟨b13,0,none⟩ (j43*1)) fun v44=>
M.int .u64 v44 fun n45=>
M.shr0 20 (
M.val (shr .u64 n45 20) fun z46=>
M.aidx 4 2 fun j47=>
M.load h28 (Addr.add ⟨b13,0,none⟩ (j47*1)) fun v48=>
M.int .u64 v48 fun n49=>
M.shr0 12 (
M.val (shl .u64 n49 12) fun z50=>
M.val (bOr .u64 z46 z50) fun z51=>
M.val (bAnd .u64 z51 67108863) fun z52=>
M.aidx 4 2 fun j53=>
M.load h28 (Addr.add ⟨b13,0,none⟩ (j53*1)) fun v54=>
M.int .u64 v54 fun n55=>
M.shr0 14 (
M.val (shr .u64 n55 14) fun z56=>
M.aidx 4 3 fun j57=>
M.load h28 (Addr.add ⟨b13,0,none⟩ (j57*1)) fun v58=>
M.int .u64 v58 fun n59=>
M.shr0 18 (
M.val (shl .u64 n59 18) fun z60=>
M.val (bOr .u64 z56 z60) fun z61=>
M.val (bAnd .u64 z61 67108863) fun z62=>
M.aidx 4 3 fun j63=>
M.load h28 (Addr.add ⟨b13,0,none⟩ (j63*1)) fun v64=>
M.int .u64 v64 fun n65=>
M.shr0 8 (
M.val (shr .u64 n65 8) fun z66=>
M.shr0 24 (
M.val (shl .u64 x1 24) fun z67=>
M.val (bOr .u64 z66 z67) fun z68=>
M.req (Array.size (#[.int .u64 z32,.int .u64 z42,.int .u64 z52,.int .u64 z62,.int .u64 z68]:Array Value)=5) (M.puts h28 ⟨b6,0,none⟩ [.int .u64 z32,.int .u64 z42,.int .u64 z52,.int .u64 z62,.int .u64 z68] fun h69=>
M.load h69 (Addr.add ⟨b6,0,none⟩ 0) fun v70=>
M.int .u64 v70 fun n71=>
M.load h69 (Addr.add ⟨b6,0,none⟩ 1) fun v72=>
M.int .u64 v72 fun n73=>
M.load h69 (Addr.add ⟨b6,0,none⟩ 2) fun v74=>
M.int .u64 v74 fun n75=>
M.load h69 (Addr.add ⟨b6,0,none⟩ 3) fun v76=>
M.int .u64 v76 fun n77=>
M.load h69 (Addr.add ⟨b6,0,none⟩ 4) fun v78=>
M.int .u64 v78 fun n79=>
Q n71 n73 n75 n77 n79 h69)))))))))) fun J15=>
M.loop (α:=Int) (fun J16 d17 h18=>
(bif (decide (d17<4)) then
M.idx a8 l9 d17 fun a19 j20=>
M.load h18 (Addr.add a19 (j20*1)) fun v21=>
M.int .u32 v21 fun n22=>
M.val (IntKind.wrap .u64 n22) fun z23=>
M.aidx 4 d17 fun j24=>
M.put h18 (Addr.add ⟨b13,0,none⟩ (j24*1)) (.int .u64 z23) fun h25=>
M.val (IntKind.wrap .i64 (d17+1)) fun z26=>
J16 z26 h25
else
J15 () h18)) 0 h14
def poly_of:=poly_of.g words_Little
def poly_of.L (F:type_of% poly_of):LT
 | [.string x0,.int .u64 x1]=>fun Q h=>F x0 x1 h fun n86 n87 n88 n89 n90 h91=>Q (.agg (#[.int .u64 n86,.int .u64 n87,.int .u64 n88,.int .u64 n89,.int .u64 n90]:Array Value)) h91
 | _=>fun _ _=>False
def poly_of.ann:Ann:=⟨lookN [],lookN [(15,[])],lookN [(122,[(14,.int .i64)])]⟩
theorem poly_of.geq (F0):∀ l,OkL (evF Tryz.prog (envOf [(189,WL (words_Little.L F0))]) Tryz.f193 poly_of.ann) l (poly_of.L (poly_of.g F0) l):=by
 intro l; unfold poly_of.L; split; exact .inr (by intros; kernel_rfl); exact .inl rfl
theorem poly_of.good:FnGood Tryz.prog 193 (WL (poly_of.L poly_of)):=.ofL mixed (.cons words_Little.good .nil) Tryz.func193 Tryz.call193 (poly_of.geq words_Little)
def poly_limbs_times.g (F0:type_of% poly_limbs_carry) (x0:Option Addr) (x1_0 x1_1 x1_2 x1_3 x1_4:Int) (h:H) (Q:H→Prop):Prop:=
M.new h (.cells #[.int .u64 x1_0,.int .u64 x1_1,.int .u64 x1_2,.int .u64 x1_3,.int .u64 x1_4] 279) fun b1 h2=>
M.new h2 (.cells #[.int .u64 0,.int .u64 0,.int .u64 0,.int .u64 0,.int .u64 0] 279) fun b3 h4=>
M.join (α:=Unit) (fun d51 h52=>
F0 (some ⟨b3,0,none⟩) h52 fun h53=>
M.load h53 (Addr.add ⟨b3,0,none⟩ 0) fun v54=>
M.int .u64 v54 fun n55=>
M.load h53 (Addr.add ⟨b3,0,none⟩ 1) fun v56=>
M.int .u64 v56 fun n57=>
M.load h53 (Addr.add ⟨b3,0,none⟩ 2) fun v58=>
M.int .u64 v58 fun n59=>
M.load h53 (Addr.add ⟨b3,0,none⟩ 3) fun v60=>
M.int .u64 v60 fun n61=>
M.load h53 (Addr.add ⟨b3,0,none⟩ 4) fun v62=>
M.int .u64 v62 fun n63=>
M.nn x0 fun a64=>
M.req (Array.size (#[.int .u64 n55,.int .u64 n57,.int .u64 n59,.int .u64 n61,.int .u64 n63]:Array Value)=5) (M.puts h53 a64 [.int .u64 n55,.int .u64 n57,.int .u64 n59,.int .u64 n61,.int .u64 n63] fun h65=>
Q h65)) fun J5=>
M.loop (α:=Int) (fun J6 d7 h8=>
(bif (decide (d7<5)) then
M.nn x0 fun a9=>
M.aidx 5 d7 fun j10=>
M.load h8 (Addr.add a9 (j10*1)) fun v11=>
M.int .u64 v11 fun n12=>
M.load h8 (Addr.add ⟨b1,0,none⟩ 0) fun v13=>
M.int .u64 v13 fun n14=>
M.load h8 (Addr.add ⟨b1,0,none⟩ 1) fun v15=>
M.int .u64 v15 fun n16=>
M.load h8 (Addr.add ⟨b1,0,none⟩ 2) fun v17=>
M.int .u64 v17 fun n18=>
M.load h8 (Addr.add ⟨b1,0,none⟩ 3) fun v19=>
M.int .u64 v19 fun n20=>
M.load h8 (Addr.add ⟨b1,0,none⟩ 4) fun v21=>
M.int .u64 v21 fun n22=>
M.loop (α:=Int) (fun J23 d24 h25=>
(bif (decide (d24<5)) then
M.aidx 5 d24 fun j26=>
M.at (#[.int .u64 n14,.int .u64 n16,.int .u64 n18,.int .u64 n20,.int .u64 n22]:Array Value) (j26*1) fun v27=>
M.int .u64 v27 fun n28=>
M.val (IntKind.wrap .i64 (d7+d24)) fun z29=>
(bif (decide (z29<5)) then
M.val (IntKind.wrap .i64 (d7+d24)) fun z30=>
M.aidx 5 z30 fun j31=>
M.load h25 (Addr.add ⟨b3,0,none⟩ (j31*1)) fun v32=>
M.int .u64 v32 fun n33=>
M.val (IntKind.wrap .u64 (n12*n28)) fun z34=>
M.val (IntKind.wrap .u64 (n33+z34)) fun z35=>
M.aidx 5 z30 fun j36=>
M.put h25 (Addr.add ⟨b3,0,none⟩ (j36*1)) (.int .u64 z35) fun h37=>
M.val (IntKind.wrap .i64 (d24+1)) fun z38=>
J23 z38 h37
else
M.val (IntKind.wrap .i64 (d7+d24)) fun z39=>
M.val (IntKind.wrap .i64 (z39-5)) fun z40=>
M.aidx 5 z40 fun j41=>
M.load h25 (Addr.add ⟨b3,0,none⟩ (j41*1)) fun v42=>
M.int .u64 v42 fun n43=>
M.val (IntKind.wrap .u64 (n12*n28)) fun z44=>
M.val (IntKind.wrap .u64 (z44*5)) fun z45=>
M.val (IntKind.wrap .u64 (n43+z45)) fun z46=>
M.aidx 5 z40 fun j47=>
M.put h25 (Addr.add ⟨b3,0,none⟩ (j47*1)) (.int .u64 z46) fun h48=>
M.val (IntKind.wrap .i64 (d24+1)) fun z49=>
J23 z49 h48)
else
M.val (IntKind.wrap .i64 (d7+1)) fun z50=>
J6 z50 h25)) 0 h8
else
J5 () h8)) 0 h4
def poly_limbs_times:=poly_limbs_times.g poly_limbs_carry
def poly_limbs_times.L (F:type_of% poly_limbs_times):LT
 | [.pointer x0,.agg ⟨[.int .u64 x1_0,.int .u64 x1_1,.int .u64 x1_2,.int .u64 x1_3,.int .u64 x1_4]⟩]=>fun Q h=>F x0 x1_0 x1_1 x1_2 x1_3 x1_4 h fun h67=>Q (.tuple #[]) h67
 | _=>fun _ _=>False
def poly_limbs_times.ann:Ann:=⟨lookN [],lookN [(7,[])],lookN [(58,[(10,.int .i64)]),(14950,[(17,.int .i64)])]⟩
theorem poly_limbs_times.geq (F0):∀ l,OkL (evF Tryz.prog (envOf [(225,WL (poly_limbs_carry.L F0))]) Tryz.f194 poly_limbs_times.ann) l (poly_limbs_times.L (poly_limbs_times.g F0) l):=by
 intro l; unfold poly_limbs_times.L; split; exact .inr (by intros; kernel_rfl); exact .inl rfl
theorem poly_limbs_times.good:FnGood Tryz.prog 194 (WL (poly_limbs_times.L poly_limbs_times)):=.ofL mixed (.cons poly_limbs_carry.good .nil) Tryz.func194 Tryz.call194 (poly_limbs_times.geq poly_limbs_carry)
def poly_limbs_least.g (F0:type_of% poly_limbs_carry) (x0:Option Addr) (h:H) (Q:H→Prop):Prop:=
F0 x0 h fun h1=>
F0 x0 h1 fun h2=>
M.nn x0 fun a3=>
M.load h2 (a3.add 0) fun v4=>
M.int .u64 v4 fun n5=>
M.load h2 (a3.add 1) fun v6=>
M.int .u64 v6 fun n7=>
M.load h2 (a3.add 2) fun v8=>
M.int .u64 v8 fun n9=>
M.load h2 (a3.add 3) fun v10=>
M.int .u64 v10 fun n11=>
M.load h2 (a3.add 4) fun v12=>
M.int .u64 v12 fun n13=>
M.new h2 (.cells #[.int .u64 0,.int .u64 0,.int .u64 0,.int .u64 0,.int .u64 0] 279) fun b14 h15=>
M.req (Array.size (#[.int .u64 n5,.int .u64 n7,.int .u64 n9,.int .u64 n11,.int .u64 n13]:Array Value)=5) (M.puts h15 ⟨b14,0,none⟩ [.int .u64 n5,.int .u64 n7,.int .u64 n9,.int .u64 n11,.int .u64 n13] fun h16=>
M.aidx 5 0 fun j17=>
M.load h16 (Addr.add ⟨b14,0,none⟩ (j17*1)) fun v18=>
M.int .u64 v18 fun n19=>
M.val (IntKind.wrap .u64 (n19+5)) fun z20=>
M.aidx 5 0 fun j21=>
M.put h16 (Addr.add ⟨b14,0,none⟩ (j21*1)) (.int .u64 z20) fun h22=>
M.join (α:=Unit) (fun d45 h46=>
M.aidx 5 4 fun j47=>
M.load h46 (Addr.add ⟨b14,0,none⟩ (j47*1)) fun v48=>
M.int .u64 v48 fun n49=>
M.shr0 26 (
M.val (shr .u64 n49 26) fun z50=>
(bif (z50 != 0) then
M.aidx 5 4 fun j51=>
M.load h46 (Addr.add ⟨b14,0,none⟩ (j51*1)) fun v52=>
M.int .u64 v52 fun n53=>
M.val (bAnd .u64 n53 67108863) fun z54=>
M.aidx 5 4 fun j55=>
M.put h46 (Addr.add ⟨b14,0,none⟩ (j55*1)) (.int .u64 z54) fun h56=>
M.load h56 (Addr.add ⟨b14,0,none⟩ 0) fun v57=>
M.int .u64 v57 fun n58=>
M.load h56 (Addr.add ⟨b14,0,none⟩ 1) fun v59=>
M.int .u64 v59 fun n60=>
M.load h56 (Addr.add ⟨b14,0,none⟩ 2) fun v61=>
M.int .u64 v61 fun n62=>
M.load h56 (Addr.add ⟨b14,0,none⟩ 3) fun v63=>
M.int .u64 v63 fun n64=>
M.load h56 (Addr.add ⟨b14,0,none⟩ 4) fun v65=>
M.int .u64 v65 fun n66=>
M.nn x0 fun a67=>
M.req (Array.size (#[.int .u64 n58,.int .u64 n60,.int .u64 n62,.int .u64 n64,.int .u64 n66]:Array Value)=5) (M.puts h56 a67 [.int .u64 n58,.int .u64 n60,.int .u64 n62,.int .u64 n64,.int .u64 n66] fun h68=>
Q h68)
else
Q h46))) fun J23=>
M.loop (α:=Int) (fun J24 d25 h26=>
(bif (decide (d25<4)) then
M.val (IntKind.wrap .i64 (d25+1)) fun z27=>
M.aidx 5 z27 fun j28=>
M.load h26 (Addr.add ⟨b14,0,none⟩ (j28*1)) fun v29=>
M.int .u64 v29 fun n30=>
M.aidx 5 d25 fun j31=>
M.load h26 (Addr.add ⟨b14,0,none⟩ (j31*1)) fun v32=>
M.int .u64 v32 fun n33=>
M.shr0 26 (
M.val (shr .u64 n33 26) fun z34=>
M.val (IntKind.wrap .u64 (n30+z34)) fun z35=>
M.aidx 5 z27 fun j36=>
M.put h26 (Addr.add ⟨b14,0,none⟩ (j36*1)) (.int .u64 z35) fun h37=>
M.aidx 5 d25 fun j38=>
M.load h37 (Addr.add ⟨b14,0,none⟩ (j38*1)) fun v39=>
M.int .u64 v39 fun n40=>
M.val (bAnd .u64 n40 67108863) fun z41=>
M.aidx 5 d25 fun j42=>
M.put h37 (Addr.add ⟨b14,0,none⟩ (j42*1)) (.int .u64 z41) fun h43=>
M.val (IntKind.wrap .i64 (d25+1)) fun z44=>
J24 z44 h43)
else
J23 () h26)) 0 h22)
def poly_limbs_least:=poly_limbs_least.g poly_limbs_carry
def poly_limbs_least.L (F:type_of% poly_limbs_least):LT
 | [.pointer x0]=>fun Q h=>F x0 h fun h70=>Q (.tuple #[]) h70
 | _=>fun _ _=>False
def poly_limbs_least.ann:Ann:=⟨lookN [],lookN [(31,[])],lookN [(250,[(15,.int .i64)])]⟩
theorem poly_limbs_least.geq (F0):∀ l,OkL (evF Tryz.prog (envOf [(225,WL (poly_limbs_carry.L F0))]) Tryz.f195 poly_limbs_least.ann) l (poly_limbs_least.L (poly_limbs_least.g F0) l):=by
 intro l; unfold poly_limbs_least.L; split; exact .inr (by intros; kernel_rfl); exact .inl rfl
theorem poly_limbs_least.good:FnGood Tryz.prog 195 (WL (poly_limbs_least.L poly_limbs_least)):=.ofL mixed (.cons poly_limbs_carry.good .nil) Tryz.func195 Tryz.call195 (poly_limbs_least.geq poly_limbs_carry)
def poly_limbs_plus.g (F0:type_of% words_Little) (F1:type_of% words_FromLittle) (x0_0 x0_1 x0_2 x0_3 x0_4:Int) (x1:ByteArray) (h:H) (Q:ByteArray→H→Prop):Prop:=
M.new h (.cells #[.int .u64 x0_0,.int .u64 x0_1,.int .u64 x0_2,.int .u64 x0_3,.int .u64 x0_4] 279) fun b2 h3=>
F0 x1 h3 fun a4 l5 c6 n7 h8=>
M.aidx 5 0 fun j9=>
M.load h8 (Addr.add ⟨b2,0,none⟩ (j9*1)) fun v10=>
M.int .u64 v10 fun n11=>
M.aidx 5 1 fun j12=>
M.load h8 (Addr.add ⟨b2,0,none⟩ (j12*1)) fun v13=>
M.int .u64 v13 fun n14=>
M.shr0 26 (
M.val (shl .u64 n14 26) fun z15=>
M.val (bOr .u64 n11 z15) fun z16=>
M.aidx 5 1 fun j17=>
M.load h8 (Addr.add ⟨b2,0,none⟩ (j17*1)) fun v18=>
M.int .u64 v18 fun n19=>
M.shr0 6 (
M.val (shr .u64 n19 6) fun z20=>
M.aidx 5 2 fun j21=>
M.load h8 (Addr.add ⟨b2,0,none⟩ (j21*1)) fun v22=>
M.int .u64 v22 fun n23=>
M.shr0 20 (
M.val (shl .u64 n23 20) fun z24=>
M.val (bOr .u64 z20 z24) fun z25=>
M.aidx 5 2 fun j26=>
M.load h8 (Addr.add ⟨b2,0,none⟩ (j26*1)) fun v27=>
M.int .u64 v27 fun n28=>
M.shr0 12 (
M.val (shr .u64 n28 12) fun z29=>
M.aidx 5 3 fun j30=>
M.load h8 (Addr.add ⟨b2,0,none⟩ (j30*1)) fun v31=>
M.int .u64 v31 fun n32=>
M.shr0 14 (
M.val (shl .u64 n32 14) fun z33=>
M.val (bOr .u64 z29 z33) fun z34=>
M.aidx 5 3 fun j35=>
M.load h8 (Addr.add ⟨b2,0,none⟩ (j35*1)) fun v36=>
M.int .u64 v36 fun n37=>
M.shr0 18 (
M.val (shr .u64 n37 18) fun z38=>
M.aidx 5 4 fun j39=>
M.load h8 (Addr.add ⟨b2,0,none⟩ (j39*1)) fun v40=>
M.int .u64 v40 fun n41=>
M.shr0 8 (
M.val (shl .u64 n41 8) fun z42=>
M.val (bOr .u64 z38 z42) fun z43=>
M.new h8 (.cells #[.int .u64 0,.int .u64 0,.int .u64 0,.int .u64 0] 308) fun b44 h45=>
M.req (Array.size (#[.int .u64 z16,.int .u64 z25,.int .u64 z34,.int .u64 z43]:Array Value)=4) (M.puts h45 ⟨b44,0,none⟩ [.int .u64 z16,.int .u64 z25,.int .u64 z34,.int .u64 z43] fun h46=>
M.mk h46 178 [.int .u32 0] 4 4 4 fun a47 l48 c49 h50=>
M.join (α:=Unit) (fun d72 h73=>
F1 a47 l48 c49 h73 fun s74 h75=>
Q s74 h75) fun J51=>
M.loop (α:=Int × Int) (fun J52 d53 h54=>
(bif (decide (d53.2<4)) then
M.aidx 4 d53.2 fun j55=>
M.load h54 (Addr.add ⟨b44,0,none⟩ (j55*1)) fun v56=>
M.int .u64 v56 fun n57=>
M.val (bAnd .u64 n57 4294967295) fun z58=>
M.idx a4 l5 d53.2 fun a59 j60=>
M.load h54 (Addr.add a59 (j60*1)) fun v61=>
M.int .u32 v61 fun n62=>
M.val (IntKind.wrap .u64 n62) fun z63=>
M.still h54 (Addr.add ⟨b44,0,none⟩ (j55*1)) 1 h54 (
M.val (IntKind.wrap .u64 (z58+z63)) fun z64=>
M.val (IntKind.wrap .u64 (d53.1+z64)) fun z65=>
M.val (IntKind.wrap .u32 z65) fun z66=>
M.idx a47 l48 d53.2 fun a67 j68=>
M.put h54 (Addr.add a67 (j68*1)) (.int .u32 z66) fun h69=>
M.shr0 32 (
M.val (shr .u64 z65 32) fun z70=>
M.val (IntKind.wrap .i64 (d53.2+1)) fun z71=>
J52 (z70,z71) h69))
else
J51 () h54)) (0,0) h50))))))))
def poly_limbs_plus:=poly_limbs_plus.g words_Little words_FromLittle
def poly_limbs_plus.L (F:type_of% poly_limbs_plus):LT
 | [.agg ⟨[.int .u64 x0_0,.int .u64 x0_1,.int .u64 x0_2,.int .u64 x0_3,.int .u64 x0_4]⟩,.string x1]=>fun Q h=>F x0_0 x0_1 x0_2 x0_3 x0_4 x1 h fun s78 h79=>Q (.string s78) h79
 | _=>fun _ _=>False
def poly_limbs_plus.ann:Ann:=⟨lookN [],lookN [(31,[])],lookN [(250,[(9,.int .u64),(45,.int .i64)])]⟩
theorem poly_limbs_plus.geq (F0) (F1):∀ l,OkL (evF Tryz.prog (envOf [(189,WL (words_Little.L F0)),(191,WL (words_FromLittle.L F1))]) Tryz.f196 poly_limbs_plus.ann) l (poly_limbs_plus.L (poly_limbs_plus.g F0 F1) l):=by
 intro l; unfold poly_limbs_plus.L; split; exact .inr (by intros; kernel_rfl); exact .inl rfl
theorem poly_limbs_plus.good:FnGood Tryz.prog 196 (WL (poly_limbs_plus.L poly_limbs_plus)):=.ofL mixed (.cons words_Little.good (.cons words_FromLittle.good .nil)) Tryz.func196 Tryz.call196 (poly_limbs_plus.geq words_Little words_FromLittle)
def words_Big.g (F0:type_of% words_each_words_Big_1) (x0:ByteArray) (h:H) (Q:Option Addr→Nat→Nat→Int→H→Prop):Prop:=
F0 x0 h fun a5 l6 c7 n8 h9=>
Q a5 l6 c7 n8 h9
def words_Big:=words_Big.g words_each_words_Big_1
def words_Big.L (F:type_of% words_Big):LT
 | [.string x0]=>fun Q h=>F x0 h fun a15 l16 c17 n18 h19=>Q (.tuple #[.slice a15 l16 c17,.int .i64 n18]) h19
 | _=>fun _ _=>False
theorem words_Big.geq (F0):∀ l,OkL (evF Tryz.prog (envOf [(222,WL (words_each_words_Big_1.L F0))]) Tryz.f204 an0) l (words_Big.L (words_Big.g F0) l):=by
 intro l; unfold words_Big.L; split; exact .inr (by intros; kernel_rfl); exact .inl rfl
theorem words_Big.good:FnGood Tryz.prog 204 (WL (words_Big.L words_Big)):=.ofL mixed (.cons words_each_words_Big_1.good .nil) Tryz.func204 Tryz.call204 (words_Big.geq words_each_words_Big_1)
def ref01_Xor.g (F0:type_of% ref01_unlike) (x0 x1:ByteArray) (h:H) (Q:ByteArray→H→Prop):Prop:=
M.join (α:=(Option Addr × Nat × Nat)) (fun d21 h22=>
M.b2s h22 d21.1 d21.2.1 fun s23=>
Q s23 h22) fun J2=>
M.loop (α:=(Option Addr × Nat × Nat) × Int) (fun J3 d4 h5=>
M.join (α:=Bool) (fun d7 h8=>
(bif d7 then
M.byte x0 d4.2 fun n9=>
M.byte x1 d4.2 fun n10=>
F0 n9 n10 h8 fun n11 h12=>
M.new h12 (.cells #[.int .u8 n11] 5) fun b13 h14=>
M.cellsOf h14 (some ⟨b13,0,none⟩) (1*1) fun cs19=>
M.app h14 5 1 1 [.int .u8 0] d4.1.1 d4.1.2.1 d4.1.2.2 1 cs19 fun a15 l16 c17 h18=>
M.val (IntKind.wrap .i64 (d4.2+1)) fun z20=>
J3 ((a15,l16,c17),z20) h18
else
J2 (d4.1.1,d4.1.2.1,d4.1.2.2) h8)) fun J6=>
(bif (decide (d4.2<(ByteArray.size x0:Int))) then
J6 (decide (d4.2<(ByteArray.size x1:Int))) h5
else
J6 false h5)) ((none,0,0),0) h
def ref01_Xor:=ref01_Xor.g ref01_unlike
def ref01_Xor.L (F:type_of% ref01_Xor):LT
 | [.string x0,.string x1]=>fun Q h=>F x0 x1 h fun s26 h27=>Q (.string s26) h27
 | _=>fun _ _=>False
def ref01_Xor.ann:Ann:=⟨lookN [(3,[(17,.bool)])],lookN [(7,[(5,.slc)])],lookN [(58,[(5,.slc),(6,.int .i64)])]⟩
theorem ref01_Xor.geq (F0):∀ l,OkL (evF Tryz.prog (envOf [(242,WL (ref01_unlike.L F0))]) Tryz.f211 ref01_Xor.ann) l (ref01_Xor.L (ref01_Xor.g F0) l):=by
 intro l; unfold ref01_Xor.L; split; exact .inr (by intros; kernel_rfl); exact .inl rfl
theorem ref01_Xor.good:FnGood Tryz.prog 211 (WL (ref01_Xor.L ref01_Xor)):=.ofL mixed (.cons ref01_unlike.good .nil) Tryz.func211 Tryz.call211 (ref01_Xor.geq ref01_unlike)
def ref05_moved.g (F0:type_of% ref01_Right) (x0 x1 x2 x3:Int) (h:H) (Q:Int→H→Prop):Prop:=
F0 x0 x1 h fun n2 h3=>
F0 x0 x2 h3 fun n4 h5=>
M.val (bXor .u32 n2 n4) fun z6=>
M.nz x3 (
M.val (IntKind.wrap .u32 (Int.tdiv x0 x3)) fun z7=>
M.val (bXor .u32 z6 z7) fun z8=>
Q z8 h5)
def ref05_moved:=ref05_moved.g ref01_Right
def ref05_turned.g (F0:type_of% ref01_Right) (x0 x1 x2 x3:Int) (h:H) (Q:Int→H→Prop):Prop:=
F0 x0 x1 h fun n2 h3=>
F0 x0 x2 h3 fun n4 h5=>
F0 x0 x3 h5 fun n6 h7=>
M.val (bXor .u32 n2 n4) fun z8=>
M.val (bXor .u32 z8 n6) fun z9=>
Q z9 h7
def ref05_turned:=ref05_turned.g ref01_Right
def ref06_Quarter.g (F0:type_of% ref01_Left) (x0 x1 x2 x3:Int) (h:H) (Q:Int→Int→Int→Int→H→Prop):Prop:=
M.new h (.cells #[.int .u32 0,.int .u32 0,.int .u32 0,.int .u32 0] 332) fun b5 h6=>
M.val (IntKind.wrap .u32 (x0+x1)) fun z7=>
M.val (bXor .u32 x3 z7) fun z8=>
F0 z8 16 h6 fun n9 h10=>
M.val (IntKind.wrap .u32 (x2+n9)) fun z11=>
M.val (bXor .u32 x1 z11) fun z12=>
F0 z12 12 h10 fun n13 h14=>
M.val (IntKind.wrap .u32 (z7+n13)) fun z15=>
M.val (bXor .u32 n9 z15) fun z16=>
F0 z16 8 h14 fun n17 h18=>
M.val (IntKind.wrap .u32 (z11+n17)) fun z19=>
M.val (bXor .u32 n13 z19) fun z20=>
F0 z20 7 h18 fun n21 h22=>
M.req (Array.size (#[.int .u32 z15,.int .u32 n21,.int .u32 z19,.int .u32 n17]:Array Value)=4) (M.puts h22 ⟨b5,0,none⟩ [.int .u32 z15,.int .u32 n21,.int .u32 z19,.int .u32 n17] fun h23=>
M.load h23 (Addr.add ⟨b5,0,none⟩ 0) fun v24=>
M.int .u32 v24 fun n25=>
M.load h23 (Addr.add ⟨b5,0,none⟩ 1) fun v26=>
M.int .u32 v26 fun n27=>
M.load h23 (Addr.add ⟨b5,0,none⟩ 2) fun v28=>
M.int .u32 v28 fun n29=>
M.load h23 (Addr.add ⟨b5,0,none⟩ 3) fun v30=>
M.int .u32 v30 fun n31=>
Q n25 n27 n29 n31 h23)
def ref06_Quarter:=ref06_Quarter.g ref01_Left
def ref07_less.g (F0:type_of% ref07_below) (x0:Array Value) (h:H) (Q:Array Value→H→Prop):Prop:=
M.new h (.cells x0 323) fun b2 h3=>
M.new h3 (.cells (Array.replicate 17 ((.int .i64 0):Value)) 323) fun b4 h5=>
M.loop (α:=Int) (fun J6 d7 h8=>
(bif (decide (d7<64)) then
M.join (α:=Unit) (fun d37 h38=>
M.val (IntKind.wrap .i64 (d7+1)) fun z39=>
J6 z39 h38) fun J9=>
M.row h8 ⟨b2,0,none⟩ 17 fun cs10=>
F0 (List.toArray cs10) h8 fun b11 h12=>
(bif b11 then
M.row h12 ⟨b2,0,none⟩ 17 fun cs13=>
M.req (Array.size (List.toArray cs13)=17) (M.puts h12 ⟨b4,0,none⟩ (Array.toList (List.toArray cs13)) fun h14=>
M.row h14 ⟨b4,0,none⟩ 17 fun cs15=>
Q (List.toArray cs15) h14)
else
M.loop (α:=Int × Int) (fun J16 d17 h18=>
(bif (decide (d17.2<17)) then
M.join (α:=Int) (fun d20 h21=>
M.join (α:=Int) (fun d23 h24=>
M.aidx 17 d17.2 fun j25=>
M.load h24 (Addr.add ⟨b2,0,none⟩ (j25*1)) fun v26=>
M.int .i64 v26 fun n27=>
M.val (IntKind.wrap .i64 (n27-d23)) fun z28=>
M.val (IntKind.wrap .i64 (z28-d17.1)) fun z29=>
M.join (α:=Int × Int) (fun d32 h33=>
M.aidx 17 d17.2 fun j34=>
M.put h33 (Addr.add ⟨b2,0,none⟩ (j34*1)) (.int .i64 d32.2) fun h35=>
M.val (IntKind.wrap .i64 (d17.2+1)) fun z36=>
J16 (d32.1,z36) h35) fun J30=>
(bif (decide (z29<0)) then
M.val (IntKind.wrap .i64 (z29+256)) fun z31=>
J30 (1,z31) h24
else
J30 (0,z29) h24)) fun J22=>
(bif (d17.2 == 16) then
J22 3 h21
else
J22 d20 h21)) fun J19=>
(bif (d17.2 == 0) then
J19 251 h18
else
J19 255 h18)
else
J9 () h18)) (0,0) h12)
else
M.row h8 ⟨b2,0,none⟩ 17 fun cs40=>
M.req (Array.size (List.toArray cs40)=17) (M.puts h8 ⟨b4,0,none⟩ (Array.toList (List.toArray cs40)) fun h41=>
M.row h41 ⟨b4,0,none⟩ 17 fun cs42=>
Q (List.toArray cs42) h41))) 0 h5
def ref07_less:=ref07_less.g ref07_below
def slab_Slab_Apply.g (F0:type_of% slab_Slab_good) (F1:type_of% bank_Bank_Write) (F2:type_of% bank_Bank_Flush) (x0_0:Option Addr) (x0_1 x0_2:Int) (x0_3:ByteArray) (x1:Option Addr) (x1L x1C:Nat) (h:H) (Q:Int→H→Prop):Prop:=
M.new h (.cells #[.pointer x0_0,.int .i64 x0_1,.int .i64 x0_2,.string x0_3] 37) fun b2 h3=>
M.load h3 (Addr.add ⟨b2,0,none⟩ 0) fun v4=>
M.ptr v4 fun p5=>
M.load h3 (Addr.add ⟨b2,0,none⟩ 1) fun v6=>
M.int .i64 v6 fun n7=>
M.load h3 (Addr.add ⟨b2,0,none⟩ 2) fun v8=>
M.int .i64 v8 fun n9=>
M.load h3 (Addr.add ⟨b2,0,none⟩ 3) fun v10=>
M.str v10 fun s11=>
F0 p5 n7 n9 s11 h3 fun b12 h13=>
(bif (!b12) then
Q 4 h13
else
M.join (α:=Unit) (fun d38 h39=>
M.load h39 (Addr.add ⟨b2,0,none⟩ 0) fun v40=>
M.ptr v40 fun p41=>
M.load h39 (Addr.add ⟨b2,0,none⟩ 1) fun v42=>
M.int .i64 v42 fun n43=>
F2 p41 n43 h39 fun n44 h45=>
Q n44 h45) fun J14=>
M.loop (α:=Int) (fun J15 d16 h17=>
(bif (decide (d16<(x1L:Int))) then
M.idx x1 x1L d16 fun a18 j19=>
M.load h17 ((Addr.add a18 (j19*2)).add 0) fun v20=>
M.int .i64 v20 fun n21=>
M.load h17 ((Addr.add a18 (j19*2)).add 1) fun v22=>
M.str v22 fun s23=>
M.new h17 (.cells #[.int .i64 0,.string ByteArray.empty] 116) fun b24 h25=>
M.req (Array.size (#[.int .i64 n21,.string s23]:Array Value)=2) (M.puts h25 ⟨b24,0,none⟩ [.int .i64 n21,.string s23] fun h26=>
M.load h26 (Addr.add ⟨b2,0,none⟩ 0) fun v27=>
M.ptr v27 fun p28=>
M.load h26 (Addr.add ⟨b2,0,none⟩ 1) fun v29=>
M.int .i64 v29 fun n30=>
M.load h26 (Addr.add ⟨b24,0,none⟩ 0) fun v31=>
M.int .i64 v31 fun n32=>
M.load h26 (Addr.add ⟨b24,0,none⟩ 1) fun v33=>
M.str v33 fun s34=>
F1 p28 n30 n32 s34 h26 fun n35 h36=>
(bif (n35 != 0) then
Q n35 h36
else
M.val (IntKind.wrap .i64 (d16+1)) fun z37=>
J15 z37 h36))
else
J14 () h17)) 0 h13)
def slab_Slab_Apply:=slab_Slab_Apply.g slab_Slab_good bank_Bank_Write bank_Bank_Flush
def slab_Slab_Apply.L (F:type_of% slab_Slab_Apply):LT
 | [.agg ⟨[.pointer x0_0,.int .i64 x0_1,.int .i64 x0_2,.string x0_3]⟩,.slice x1 x1L x1C]=>fun Q h=>F x0_0 x0_1 x0_2 x0_3 x1 x1L x1C h fun n48 h49=>Q (.int .i64 n48) h49
 | _=>fun _ _=>False
def slab_Slab_Apply.ann:Ann:=⟨lookN [],lookN [(7,[])],lookN [(58,[(13,.int .i64)])]⟩
theorem slab_Slab_Apply.geq (F0) (F1) (F2):∀ l,OkL (evF Tryz.prog (envOf [(53,WL (slab_Slab_good.L F0)),(54,WL (bank_Bank_Write.L F1)),(55,WL (bank_Bank_Flush.L F2))]) Tryz.f16 slab_Slab_Apply.ann) l (slab_Slab_Apply.L (slab_Slab_Apply.g F0 F1 F2) l):=by
 intro l; unfold slab_Slab_Apply.L; split; exact .inr (by intros; kernel_rfl); exact .inl rfl
theorem slab_Slab_Apply.good:FnGood Tryz.prog 16 (WL (slab_Slab_Apply.L slab_Slab_Apply)):=.ofL mixed (.cons slab_Slab_good.good (.cons bank_Bank_Write.good (.cons bank_Bank_Flush.good .nil))) Tryz.func16 Tryz.call16 (slab_Slab_Apply.geq slab_Slab_good bank_Bank_Write bank_Bank_Flush)
def slab_Slab_with.g (F0:type_of% codec_Num) (x0_0:Option Addr) (x0_1 x0_2:Int) (x0_3:ByteArray) (x1:Int) (h:H) (Q:ByteArray→H→Prop):Prop:=
M.new h (.cells #[.pointer x0_0,.int .i64 x0_1,.int .i64 x0_2,.string x0_3] 37) fun b2 h3=>
M.load h3 (Addr.add ⟨b2,0,none⟩ 1) fun v4=>
M.int .i64 v4 fun n5=>
M.val (IntKind.wrap .u64 n5) fun z6=>
F0 z6 h3 fun s7 h8=>
M.val (IntKind.wrap .u64 x1) fun z9=>
F0 z9 h8 fun s10 h11=>
M.cat s7 s10 fun s12=>
Q s12 h11
def slab_Slab_with:=slab_Slab_with.g codec_Num
def slab_Slab_with.L (F:type_of% slab_Slab_with):LT
 | [.agg ⟨[.pointer x0_0,.int .i64 x0_1,.int .i64 x0_2,.string x0_3]⟩,.int .i64 x1]=>fun Q h=>F x0_0 x0_1 x0_2 x0_3 x1 h fun s15 h16=>Q (.string s15) h16
 | _=>fun _ _=>False
theorem slab_Slab_with.geq (F0):∀ l,OkL (evF Tryz.prog (envOf [(97,WL (codec_Num.L F0))]) Tryz.f46 an0) l (slab_Slab_with.L (slab_Slab_with.g F0) l):=by
 intro l; unfold slab_Slab_with.L; split; exact .inr (by intros; kernel_rfl); exact .inl rfl
theorem slab_Slab_with.good:FnGood Tryz.prog 46 (WL (slab_Slab_with.L slab_Slab_with)):=.ofL mixed (.cons codec_Num.good .nil) Tryz.func46 Tryz.call46 (slab_Slab_with.geq codec_Num)
def slices_Repeatstring_string.g (F0:type_of% math_bits_Mul) (x0:Option Addr) (x0L x0C:Nat) (x1:Int) (h:H) (Q:Option Addr→Nat→Nat→H→Prop):Prop:=
M.join (α:=Unit) (fun d5 h6=>
M.val (IntKind.wrap .u64 (x0L:Int)) fun z7=>
M.val (IntKind.wrap .u64 x1) fun z8=>
F0 z7 z8 h6 fun n9 n10 h11=>
M.join (α:=Unit) (fun d16 h17=>
M.val (IntKind.wrap .i64 n10) fun z18=>
M.mk h17 9 [.string ByteArray.empty] 16 z18 z18 fun a19 l20 c21 h22=>
M.cellsOf h22 x0 ((min x0L l20)*1) fun cs24=>
M.copy h22 a19 cs24 fun h23=>
M.loop (α:=Int) (fun J25 d26 h27=>
(bif (decide (d26<(l20:Int))) then
M.sub a19 c21 1 d26 (l20:Int) fun a28 l29 c30=>
M.sub a19 c21 1 0 d26 fun a31 l32 c33=>
M.cellsOf h27 a31 ((min l32 l29)*1) fun cs35=>
M.copy h27 a28 cs35 fun h34=>
M.val (IntKind.wrap .i64 (d26+(((min l32 l29):Nat):Int))) fun z36=>
J25 z36 h34
else
Q a19 l20 c21 h27)) (((min x0L l20):Nat):Int) h23) fun J12=>
M.join (α:=Bool) (fun d14 h15=>
(bif d14 then
False
else
J12 () h15)) fun J13=>
(bif (decide (n9 > 0)) then
J13 true h11
else
J13 (decide (n10 > 9223372036854775807)) h11)) fun J4=>
(bif (decide (x1<0)) then
False
else
J4 () h)
def slices_Repeatstring_string:=slices_Repeatstring_string.g math_bits_Mul
def slices_Repeatstring_string.L (F:type_of% slices_Repeatstring_string):LT
 | [.slice x0 x0L x0C,.int .i64 x1]=>fun Q h=>F x0 x0L x0C x1 h fun a41 l42 c43 h44=>Q (.slice a41 l42 c43) h44
 | _=>fun _ _=>False
def slices_Repeatstring_string.ann:Ann:=⟨lookN [(4,[(26,.bool)])],lookN [(3,[]),(15,[])],lookN [(508,[(8,.int .i64)])]⟩
theorem slices_Repeatstring_string.geq (F0):∀ l,OkL (evF Tryz.prog (envOf [(113,WL (math_bits_Mul.L F0))]) Tryz.f61 slices_Repeatstring_string.ann) l (slices_Repeatstring_string.L (slices_Repeatstring_string.g F0) l):=by
 intro l; unfold slices_Repeatstring_string.L; split; exact .inr (by intros; kernel_rfl); exact .inl rfl
theorem slices_Repeatstring_string.good:FnGood Tryz.prog 61 (WL (slices_Repeatstring_string.L slices_Repeatstring_string)):=.ofL mixed (.cons math_bits_Mul.good .nil) Tryz.func61 Tryz.call61 (slices_Repeatstring_string.geq math_bits_Mul)
def chacha_stream.g (F0:type_of% words_Little) (F1:type_of% chacha_quarter) (F2:type_of% words_FromLittle) (x0 x1:ByteArray) (x2:Int) (h:H) (Q:ByteArray→H→Prop):Prop:=
M.cat (⟨#[101,120,112,97,110,100,32,51,50,45,98,121,116,101,32,107]⟩:ByteArray) x0 fun s2=>
F0 s2 h fun a3 l4 c5 n6 h7=>
F0 x1 h7 fun a8 l9 c10 n11 h12=>
M.new h12 (.cells #[.int .u32 0,.int .u32 0,.int .u32 0,.int .u32 0,.int .u32 0,.int .u32 0,.int .u32 0,.int .u32 0,.int .u32 0,.int .u32 0,.int .u32 0,.int .u32 0,.int .u32 0,.int .u32 0,.int .u32 0,.int .u32 0] 274) fun b13 h14=>
M.sub (some ⟨b13,0,none⟩) 16 1 0 ((16:Nat):Int) fun a15 l16 c17=>
M.new h14 (.cells #[.int .u32 x2] 178) fun b18 h19=>
M.cellsOf h19 (some ⟨b18,0,none⟩) (1*1) fun cs24=>
M.app h19 178 1 4 [.int .u32 0] a3 l4 c5 1 cs24 fun a20 l21 c22 h23=>
M.cellsOf h23 a8 (l9*1) fun cs29=>
M.app h23 178 1 4 [.int .u32 0] a20 l21 c22 l9 cs29 fun a25 l26 c27 h28=>
M.cellsOf h28 a25 ((min l26 l16)*1) fun cs31=>
M.copy h28 a15 cs31 fun h30=>
M.row h30 ⟨b13,0,none⟩ 16 fun cs32=>
M.new h30 (.cells #[.int .u32 0,.int .u32 0,.int .u32 0,.int .u32 0,.int .u32 0,.int .u32 0,.int .u32 0,.int .u32 0,.int .u32 0,.int .u32 0,.int .u32 0,.int .u32 0,.int .u32 0,.int .u32 0,.int .u32 0,.int .u32 0] 274) fun b33 h34=>
M.req (Array.size (List.toArray cs32)=16) (M.puts h34 ⟨b33,0,none⟩ (Array.toList (List.toArray cs32)) fun h35=>
M.join (α:=Unit) (fun d66 h67=>
M.join (α:=Unit) (fun d82 h83=>
M.sub (some ⟨b33,0,none⟩) 16 1 0 ((16:Nat):Int) fun a84 l85 c86=>
F2 a84 l85 c86 h83 fun s87 h88=>
Q s87 h88) fun J68=>
M.loop (α:=Int) (fun J69 d70 h71=>
(bif (decide (d70<16)) then
M.aidx 16 d70 fun j72=>
M.load h71 (Addr.add ⟨b33,0,none⟩ (j72*1)) fun v73=>
M.int .u32 v73 fun n74=>
M.aidx 16 d70 fun j75=>
M.load h71 (Addr.add ⟨b13,0,none⟩ (j75*1)) fun v76=>
M.int .u32 v76 fun n77=>
M.val (IntKind.wrap .u32 (n74+n77)) fun z78=>
M.aidx 16 d70 fun j79=>
M.put h71 (Addr.add ⟨b33,0,none⟩ (j79*1)) (.int .u32 z78) fun h80=>
M.val (IntKind.wrap .i64 (d70+1)) fun z81=>
J69 z81 h80
else
J68 () h71)) 0 h67) fun J36=>
M.loop (α:=Int) (fun J37 d38 h39=>
(bif (decide (d38<10)) then
M.join (α:=Unit) (fun d49 h50=>
M.loop (α:=Int) (fun J51 d52 h53=>
(bif (decide (d52<4)) then
M.val (IntKind.wrap .i64 (d52+1)) fun z54=>
M.nz 4 (
M.val (Int.tmod z54 4) fun z55=>
M.val (IntKind.wrap .i64 (4+z55)) fun z56=>
M.val (IntKind.wrap .i64 (d52+2)) fun z57=>
M.nz 4 (
M.val (Int.tmod z57 4) fun z58=>
M.val (IntKind.wrap .i64 (8+z58)) fun z59=>
M.val (IntKind.wrap .i64 (d52+3)) fun z60=>
M.nz 4 (
M.val (Int.tmod z60 4) fun z61=>
M.val (IntKind.wrap .i64 (12+z61)) fun z62=>
F1 (some ⟨b33,0,none⟩) d52 z56 z59 z62 h53 fun h63=>
M.val (IntKind.wrap .i64 (d52+1)) fun z64=>
J51 z64 h63)))
else
M.val (IntKind.wrap .i64 (d38+1)) fun z65=>
J37 z65 h53)) 0 h50) fun J40=>
M.loop (α:=Int) (fun J41 d42 h43=>
(bif (decide (d42<4)) then
M.val (IntKind.wrap .i64 (d42+4)) fun z44=>
M.val (IntKind.wrap .i64 (d42+8)) fun z45=>
M.val (IntKind.wrap .i64 (d42+12)) fun z46=>
F1 (some ⟨b33,0,none⟩) d42 z44 z45 z46 h43 fun h47=>
M.val (IntKind.wrap .i64 (d42+1)) fun z48=>
J41 z48 h47
else
J40 () h43)) 0 h39
else
J36 () h39)) 0 h35)
def chacha_stream:=chacha_stream.g words_Little chacha_quarter words_FromLittle
def chacha_stream.L (F:type_of% chacha_stream):LT
 | [.string x0,.string x1,.int .u32 x2]=>fun Q h=>F x0 x1 x2 h fun s91 h92=>Q (.string s91) h92
 | _=>fun _ _=>False
def chacha_stream.ann:Ann:=⟨lookN [],lookN [(127,[]),(255,[]),(32588,[])],lookN [(1018,[(36,.int .i64)]),(2042,[(69,.int .i64)]),(260706,[(38,.int .i64)]),(260710,[(50,.int .i64)])]⟩
theorem chacha_stream.geq (F0) (F1) (F2):∀ l,OkL (evF Tryz.prog (envOf [(189,WL (words_Little.L F0)),(190,WL (chacha_quarter.L F1)),(191,WL (words_FromLittle.L F2))]) Tryz.f149 chacha_stream.ann) l (chacha_stream.L (chacha_stream.g F0 F1 F2) l):=by
 intro l; unfold chacha_stream.L; split; exact .inr (by intros; kernel_rfl); exact .inl rfl
theorem chacha_stream.good:FnGood Tryz.prog 149 (WL (chacha_stream.L chacha_stream)):=.ofL mixed (.cons words_Little.good (.cons chacha_quarter.good (.cons words_FromLittle.good .nil))) Tryz.func149 Tryz.call149 (chacha_stream.geq words_Little chacha_quarter words_FromLittle)
def chacha_Block.g (F0:type_of% chacha_shape) (F1:type_of% chacha_stream) (x0 x1:ByteArray) (x2:Int) (h:H) (Q:ByteArray→Int→H→Prop):Prop:=
F0 x0 x1 h fun b3 h4=>
(bif (!b3) then
Q ByteArray.empty 7 h4
else
F1 x0 x1 x2 h4 fun s5 h6=>
Q s5 0 h6)
def chacha_Block:=chacha_Block.g chacha_shape chacha_stream
def chacha_Block.L (F:type_of% chacha_Block):LT
 | [.string x0,.string x1,.int .u32 x2]=>fun Q h=>F x0 x1 x2 h fun s10 n11 h12=>Q (.tuple #[.string s10,.int .i64 n11]) h12
 | _=>fun _ _=>False
theorem chacha_Block.geq (F0) (F1):∀ l,OkL (evF Tryz.prog (envOf [(148,WL (chacha_shape.L F0)),(149,WL (chacha_stream.L F1))]) Tryz.f150 an0) l (chacha_Block.L (chacha_Block.g F0 F1) l):=by
 intro l; unfold chacha_Block.L; split; exact .inr (by intros; kernel_rfl); exact .inl rfl
theorem chacha_Block.good:FnGood Tryz.prog 150 (WL (chacha_Block.L chacha_Block)):=.ofL mixed (.cons chacha_shape.good (.cons chacha_stream.good .nil)) Tryz.func150 Tryz.call150 (chacha_Block.geq chacha_shape chacha_stream)
def poly_Sum.g (F0:type_of% poly_Clamp) (F1:type_of% poly_of) (F2:type_of% poly_limbs_times) (F3:type_of% poly_limbs_least) (F4:type_of% poly_limbs_plus) (x0 x1:ByteArray) (h:H) (Q:ByteArray→Int→H→Prop):Prop:=
(bif ((ByteArray.size x0:Int) != 32) then
Q ByteArray.empty 7 h
else
(bif (decide ((ByteArray.size x1:Int) > 65536)) then
Q ByteArray.empty 5 h
else
M.ssub x0 0 16 fun s3=>
F0 s3 h fun s4 n5 h6=>
F1 s4 0 h6 fun n7 n8 n9 n10 n11 h12=>
M.new h12 (.cells #[.int .u64 0,.int .u64 0,.int .u64 0,.int .u64 0,.int .u64 0] 279) fun b13 h14=>
M.req (Array.size (#[.int .u64 n7,.int .u64 n8,.int .u64 n9,.int .u64 n10,.int .u64 n11]:Array Value)=5) (M.puts h14 ⟨b13,0,none⟩ [.int .u64 n7,.int .u64 n8,.int .u64 n9,.int .u64 n10,.int .u64 n11] fun h15=>
M.new h15 (.cells #[.int .u64 0,.int .u64 0,.int .u64 0,.int .u64 0,.int .u64 0] 279) fun b16 h17=>
M.join (α:=Unit) (fun d81 h82=>
F3 (some ⟨b16,0,none⟩) h82 fun h83=>
M.load h83 (Addr.add ⟨b16,0,none⟩ 0) fun v84=>
M.int .u64 v84 fun n85=>
M.load h83 (Addr.add ⟨b16,0,none⟩ 1) fun v86=>
M.int .u64 v86 fun n87=>
M.load h83 (Addr.add ⟨b16,0,none⟩ 2) fun v88=>
M.int .u64 v88 fun n89=>
M.load h83 (Addr.add ⟨b16,0,none⟩ 3) fun v90=>
M.int .u64 v90 fun n91=>
M.load h83 (Addr.add ⟨b16,0,none⟩ 4) fun v92=>
M.int .u64 v92 fun n93=>
M.ssub x0 16 (ByteArray.size x0:Int) fun s94=>
F4 n85 n87 n89 n91 n93 s94 h83 fun s95 h96=>
Q s95 0 h96) fun J18=>
M.loop (α:=ByteArray) (fun J19 d20 h21=>
(bif (decide ((ByteArray.size d20:Int) > 0)) then
M.new h21 (.cells (Array.replicate 17 ((.int .u8 0):Value)) 281) fun b22 h23=>
M.sub (some ⟨b22,0,none⟩) 17 1 0 ((17:Nat):Int) fun a24 l25 c26=>
M.ssub d20 0 (mn (ByteArray.size d20:Int) 16) fun s27=>
M.copy h23 a24 (bytesOf (ByteArray.extract s27 0 (min (ByteArray.size s27) l25))) fun h28=>
M.aidx 17 (mn (ByteArray.size d20:Int) 16) fun j29=>
M.put h28 (Addr.add ⟨b22,0,none⟩ (j29*1)) (.int .u8 1) fun h30=>
M.ssub d20 (mn (ByteArray.size d20:Int) 16) (ByteArray.size d20:Int) fun s31=>
M.join (α:=(Int × Int × Int × Int × Int) × Int) (fun d55 h56=>
M.loop (α:=Int) (fun J57 d58 h59=>
(bif (decide (d58<5)) then
M.aidx 5 d58 fun j60=>
M.at (#[.int .u64 d55.1.1,.int .u64 d55.1.2.1,.int .u64 d55.1.2.2.1,.int .u64 d55.1.2.2.2.1,.int .u64 d55.1.2.2.2.2]:Array Value) (j60*1) fun v61=>
M.int .u64 v61 fun n62=>
M.aidx 5 d58 fun j63=>
M.load h59 (Addr.add ⟨b16,0,none⟩ (j63*1)) fun v64=>
M.int .u64 v64 fun n65=>
M.val (IntKind.wrap .u64 (n65+n62)) fun z66=>
M.aidx 5 d58 fun j67=>
M.put h59 (Addr.add ⟨b16,0,none⟩ (j67*1)) (.int .u64 z66) fun h68=>
M.val (IntKind.wrap .i64 (d58+1)) fun z69=>
J57 z69 h68
else
M.load h59 (Addr.add ⟨b13,0,none⟩ 0) fun v70=>
M.int .u64 v70 fun n71=>
M.load h59 (Addr.add ⟨b13,0,none⟩ 1) fun v72=>
M.int .u64 v72 fun n73=>
M.load h59 (Addr.add ⟨b13,0,none⟩ 2) fun v74=>
M.int .u64 v74 fun n75=>
M.load h59 (Addr.add ⟨b13,0,none⟩ 3) fun v76=>
M.int .u64 v76 fun n77=>
M.load h59 (Addr.add ⟨b13,0,none⟩ 4) fun v78=>
M.int .u64 v78 fun n79=>
F2 (some ⟨b16,0,none⟩) n71 n73 n75 n77 n79 h59 fun h80=>
J19 s31 h80)) d55.2 h56) fun J32=>
M.sub (some ⟨b22,0,none⟩) 17 1 0 16 fun a33 l34 c35=>
M.aidx 17 16 fun j36=>
M.load h30 (Addr.add ⟨b22,0,none⟩ (j36*1)) fun v37=>
M.int .u8 v37 fun n38=>
(M.b2s h30 a33 l34 fun s39=>
M.still h30 (Addr.add ⟨b22,0,none⟩ (j36*1)) 1 h30 (
M.val (IntKind.wrap .u64 n38) fun z40=>
F1 s39 z40 h30 fun n41 n42 n43 n44 n45 h46=>
J32 ((n41,n42,n43,n44,n45),0) h46)) ∧
(M.val (IntKind.wrap .u64 n38) fun z47=>
M.b2s h30 a33 l34 fun s48=>
M.still h30 (Addr.add ⟨b22,0,none⟩ (j36*1)) 1 h30 (
F1 s48 z47 h30 fun n49 n50 n51 n52 n53 h54=>
J32 ((n49,n50,n51,n52,n53),0) h54))
else
J18 () h21)) x1 h17)))
def poly_Sum:=poly_Sum.g poly_Clamp poly_of poly_limbs_times poly_limbs_least poly_limbs_plus
def poly_Sum.L (F:type_of% poly_Sum):LT
 | [.string x0,.string x1]=>fun Q h=>F x0 x1 h fun s100 n101 h102=>Q (.tuple #[.string s100,.int .i64 n101]) h102
 | _=>fun _ _=>False
def poly_Sum.ann:Ann:=⟨lookN [(14,[(51,.agt [.int .u64,.int .u64,.int .u64,.int .u64,.int .u64]),(52,.int .i64)])],lookN [(63,[])],lookN [(252,[(1,.str)]),(516858,[(52,.int .i64)])]⟩
theorem poly_Sum.geq (F0) (F1) (F2) (F3) (F4):∀ l,OkL (evF Tryz.prog (envOf [(192,WL (poly_Clamp.L F0)),(193,WL (poly_of.L F1)),(194,WL (poly_limbs_times.L F2)),(195,WL (poly_limbs_least.L F3)),(196,WL (poly_limbs_plus.L F4))]) Tryz.f151 poly_Sum.ann) l (poly_Sum.L (poly_Sum.g F0 F1 F2 F3 F4) l):=by
 intro l; unfold poly_Sum.L; split; exact .inr (by intros; kernel_rfl); exact .inl rfl
theorem poly_Sum.good:FnGood Tryz.prog 151 (WL (poly_Sum.L poly_Sum)):=.ofL mixed (.cons poly_Clamp.good (.cons poly_of.good (.cons poly_limbs_times.good (.cons poly_limbs_least.good (.cons poly_limbs_plus.good .nil))))) Tryz.func151 Tryz.call151 (poly_Sum.geq poly_Clamp poly_of poly_limbs_times poly_limbs_least poly_limbs_plus)
def sha_schedule.g (F0:type_of% words_Big) (F1:type_of% words_Right) (x0:ByteArray) (h:H) (Q:Array Value→H→Prop):Prop:=
M.new h (.cells (Array.replicate 64 ((.int .u32 0):Value)) 251) fun b2 h3=>
M.new h3 (.cells (Array.replicate 64 ((.int .u32 0):Value)) 251) fun b4 h5=>
F0 x0 h5 fun a6 l7 c8 n9 h10=>
M.sub (some ⟨b4,0,none⟩) 64 1 0 ((64:Nat):Int) fun a11 l12 c13=>
M.cellsOf h10 a6 ((min l7 l12)*1) fun cs15=>
M.copy h10 a11 cs15 fun h14=>
M.loop (α:=Int) (fun J16 d17 h18=>
(bif (decide (d17<64)) then
M.val (IntKind.wrap .i64 (d17-15)) fun z19=>
M.aidx 64 z19 fun j20=>
M.load h18 (Addr.add ⟨b4,0,none⟩ (j20*1)) fun v21=>
M.int .u32 v21 fun n22=>
M.val (IntKind.wrap .i64 (d17-2)) fun z23=>
M.aidx 64 z23 fun j24=>
M.load h18 (Addr.add ⟨b4,0,none⟩ (j24*1)) fun v25=>
M.int .u32 v25 fun n26=>
F1 n22 7 h18 fun n27 h28=>
F1 n22 18 h28 fun n29 h30=>
M.val (bXor .u32 n27 n29) fun z31=>
M.shr0 3 (
M.val (shr .u32 n22 3) fun z32=>
M.val (bXor .u32 z31 z32) fun z33=>
F1 n26 17 h30 fun n34 h35=>
F1 n26 19 h35 fun n36 h37=>
M.val (bXor .u32 n34 n36) fun z38=>
M.shr0 10 (
M.val (shr .u32 n26 10) fun z39=>
M.val (bXor .u32 z38 z39) fun z40=>
M.val (IntKind.wrap .i64 (d17-16)) fun z41=>
M.aidx 64 z41 fun j42=>
M.load h37 (Addr.add ⟨b4,0,none⟩ (j42*1)) fun v43=>
M.int .u32 v43 fun n44=>
M.val (IntKind.wrap .u32 (n44+z33)) fun z45=>
M.val (IntKind.wrap .i64 (d17-7)) fun z46=>
M.aidx 64 z46 fun j47=>
M.load h37 (Addr.add ⟨b4,0,none⟩ (j47*1)) fun v48=>
M.int .u32 v48 fun n49=>
M.val (IntKind.wrap .u32 (z45+n49)) fun z50=>
M.val (IntKind.wrap .u32 (z50+z40)) fun z51=>
M.aidx 64 d17 fun j52=>
M.put h37 (Addr.add ⟨b4,0,none⟩ (j52*1)) (.int .u32 z51) fun h53=>
M.val (IntKind.wrap .i64 (d17+1)) fun z54=>
J16 z54 h53))
else
M.row h18 ⟨b4,0,none⟩ 64 fun cs55=>
M.req (Array.size (List.toArray cs55)=64) (M.puts h18 ⟨b2,0,none⟩ (Array.toList (List.toArray cs55)) fun h56=>
M.row h56 ⟨b2,0,none⟩ 64 fun cs57=>
Q (List.toArray cs57) h56))) 16 h14
def sha_schedule:=sha_schedule.g words_Big words_Right
def sha_schedule.L (F:type_of% sha_schedule):LT
 | [.string x0]=>fun Q h=>F x0 h fun cs60 h61=>Q (.agg cs60) h61
 | _=>fun _ _=>False
def sha_schedule.ann:Ann:=⟨lookN [],lookN [],lookN [(250,[(6,.int .i64)])]⟩
theorem sha_schedule.geq (F0) (F1):∀ l,OkL (evF Tryz.prog (envOf [(204,WL (words_Big.L F0)),(165,WL (words_Right.L F1))]) Tryz.f164 sha_schedule.ann) l (sha_schedule.L (sha_schedule.g F0 F1) l):=by
 intro l; unfold sha_schedule.L; split; exact .inr (by intros; kernel_rfl); exact .inl rfl
theorem sha_schedule.good:FnGood Tryz.prog 164 (WL (sha_schedule.L sha_schedule)):=.ofL mixed (.cons words_Big.good (.cons words_Right.good .nil)) Tryz.func164 Tryz.call164 (sha_schedule.geq words_Big words_Right)
def ref05_block.g (F0:type_of% ref01_Words) (F1:type_of% ref05_moved) (F2:type_of% ref05_turned) (F3:type_of% ref05_pick) (F4:type_of% ref05_most) (x0_0 x0_1 x0_2 x0_3 x0_4 x0_5 x0_6 x0_7:Int) (x1:ByteArray) (h:H) (Q:Int→Int→Int→Int→Int→Int→Int→Int→H→Prop):Prop:=
M.new h (.cells #[.int .u32 x0_0,.int .u32 x0_1,.int .u32 x0_2,.int .u32 x0_3,.int .u32 x0_4,.int .u32 x0_5,.int .u32 x0_6,.int .u32 x0_7] 204) fun b9 h10=>
M.new h10 (.cells #[.int .u32 0,.int .u32 0,.int .u32 0,.int .u32 0,.int .u32 0,.int .u32 0,.int .u32 0,.int .u32 0] 204) fun b11 h12=>
F0 x1 true h12 fun a13 l14 c15 n16 h17=>
M.join (α:=(Option Addr × Nat × Nat)) (fun d57 h58=>
M.aidx 8 0 fun j59=>
M.load h58 (Addr.add ⟨b9,0,none⟩ (j59*1)) fun v60=>
M.int .u32 v60 fun n61=>
M.aidx 8 1 fun j62=>
M.load h58 (Addr.add ⟨b9,0,none⟩ (j62*1)) fun v63=>
M.int .u32 v63 fun n64=>
M.aidx 8 2 fun j65=>
M.load h58 (Addr.add ⟨b9,0,none⟩ (j65*1)) fun v66=>
M.int .u32 v66 fun n67=>
M.aidx 8 3 fun j68=>
M.load h58 (Addr.add ⟨b9,0,none⟩ (j68*1)) fun v69=>
M.int .u32 v69 fun n70=>
M.aidx 8 4 fun j71=>
M.load h58 (Addr.add ⟨b9,0,none⟩ (j71*1)) fun v72=>
M.int .u32 v72 fun n73=>
M.aidx 8 5 fun j74=>
M.load h58 (Addr.add ⟨b9,0,none⟩ (j74*1)) fun v75=>
M.int .u32 v75 fun n76=>
M.aidx 8 6 fun j77=>
M.load h58 (Addr.add ⟨b9,0,none⟩ (j77*1)) fun v78=>
M.int .u32 v78 fun n79=>
M.aidx 8 7 fun j80=>
M.load h58 (Addr.add ⟨b9,0,none⟩ (j80*1)) fun v81=>
M.int .u32 v81 fun n82=>
M.join (α:=Int × Int × Int × Int × Int × Int × Int × Int) (fun d110 h111=>
M.aidx 8 0 fun j112=>
M.load h111 (Addr.add ⟨b9,0,none⟩ (j112*1)) fun v113=>
M.int .u32 v113 fun n114=>
M.val (IntKind.wrap .u32 (n114+d110.1)) fun z115=>
M.aidx 8 1 fun j116=>
M.load h111 (Addr.add ⟨b9,0,none⟩ (j116*1)) fun v117=>
M.int .u32 v117 fun n118=>
M.val (IntKind.wrap .u32 (n118+d110.2.1)) fun z119=>
M.aidx 8 2 fun j120=>
M.load h111 (Addr.add ⟨b9,0,none⟩ (j120*1)) fun v121=>
M.int .u32 v121 fun n122=>
M.val (IntKind.wrap .u32 (n122+d110.2.2.1)) fun z123=>
M.aidx 8 3 fun j124=>
M.load h111 (Addr.add ⟨b9,0,none⟩ (j124*1)) fun v125=>
M.int .u32 v125 fun n126=>
M.val (IntKind.wrap .u32 (n126+d110.2.2.2.1)) fun z127=>
M.aidx 8 4 fun j128=>
M.load h111 (Addr.add ⟨b9,0,none⟩ (j128*1)) fun v129=>
M.int .u32 v129 fun n130=>
M.val (IntKind.wrap .u32 (n130+d110.2.2.2.2.1)) fun z131=>
M.aidx 8 5 fun j132=>
M.load h111 (Addr.add ⟨b9,0,none⟩ (j132*1)) fun v133=>
M.int .u32 v133 fun n134=>
M.val (IntKind.wrap .u32 (n134+d110.2.2.2.2.2.1)) fun z135=>
M.aidx 8 6 fun j136=>
M.load h111 (Addr.add ⟨b9,0,none⟩ (j136*1)) fun v137=>
M.int .u32 v137 fun n138=>
M.val (IntKind.wrap .u32 (n138+d110.2.2.2.2.2.2.1)) fun z139=>
M.aidx 8 7 fun j140=>
M.load h111 (Addr.add ⟨b9,0,none⟩ (j140*1)) fun v141=>
M.int .u32 v141 fun n142=>
M.val (IntKind.wrap .u32 (n142+d110.2.2.2.2.2.2.2)) fun z143=>
M.req (Array.size (#[.int .u32 z115,.int .u32 z119,.int .u32 z123,.int .u32 z127,.int .u32 z131,.int .u32 z135,.int .u32 z139,.int .u32 z143]:Array Value)=8) (M.puts h111 ⟨b11,0,none⟩ [.int .u32 z115,.int .u32 z119,.int .u32 z123,.int .u32 z127,.int .u32 z131,.int .u32 z135,.int .u32 z139,.int .u32 z143] fun h144=>
M.load h144 (Addr.add ⟨b11,0,none⟩ 0) fun v145=>
M.int .u32 v145 fun n146=>
M.load h144 (Addr.add ⟨b11,0,none⟩ 1) fun v147=>
M.int .u32 v147 fun n148=>
M.load h144 (Addr.add ⟨b11,0,none⟩ 2) fun v149=>
M.int .u32 v149 fun n150=>
M.load h144 (Addr.add ⟨b11,0,none⟩ 3) fun v151=>
M.int .u32 v151 fun n152=>
M.load h144 (Addr.add ⟨b11,0,none⟩ 4) fun v153=>
M.int .u32 v153 fun n154=>
M.load h144 (Addr.add ⟨b11,0,none⟩ 5) fun v155=>
M.int .u32 v155 fun n156=>
M.load h144 (Addr.add ⟨b11,0,none⟩ 6) fun v157=>
M.int .u32 v157 fun n158=>
M.load h144 (Addr.add ⟨b11,0,none⟩ 7) fun v159=>
M.int .u32 v159 fun n160=>
Q n146 n148 n150 n152 n154 n156 n158 n160 h144)) fun J83=>
M.loop (α:=Int × Int × Int × Int × Int × Int × Int × Int × Int) (fun J84 d85 h86=>
(bif (decide (d85.2.2.2.2.2.2.2.2<64)) then
F2 d85.2.2.2.2.1 6 11 25 h86 fun n87 h88=>
F2 d85.1 2 13 22 h88 fun n89 h90=>
F3 d85.2.2.2.2.1 d85.2.2.2.2.2.1 d85.2.2.2.2.2.2.1 h90 fun n91 h92=>
F4 d85.1 d85.2.1 d85.2.2.1 h92 fun n93 h94=>
M.val (IntKind.wrap .u32 (d85.2.2.2.2.2.2.2.1+n87)) fun z95=>
M.val (IntKind.wrap .u32 (z95+n91)) fun z96=>
M.aidx 64 d85.2.2.2.2.2.2.2.2 fun j97=>
M.load h94 (Addr.add ⟨3,0,none⟩ (j97*1)) fun v98=>
M.int .u32 v98 fun n99=>
M.val (IntKind.wrap .u32 (z96+n99)) fun z100=>
M.idx d57.1 d57.2.1 d85.2.2.2.2.2.2.2.2 fun a101 j102=>
M.load h94 (Addr.add a101 (j102*1)) fun v103=>
M.int .u32 v103 fun n104=>
M.val (IntKind.wrap .u32 (z100+n104)) fun z105=>
M.val (IntKind.wrap .u32 (n89+n93)) fun z106=>
M.val (IntKind.wrap .u32 (d85.2.2.2.1+z105)) fun z107=>
M.val (IntKind.wrap .u32 (z105+z106)) fun z108=>
M.val (IntKind.wrap .i64 (d85.2.2.2.2.2.2.2.2+1)) fun z109=>
J84 (z108,d85.1,d85.2.1,d85.2.2.1,z107,d85.2.2.2.2.1,d85.2.2.2.2.2.1,d85.2.2.2.2.2.2.1,z109) h94
else
J83 (d85.1,d85.2.1,d85.2.2.1,d85.2.2.2.1,d85.2.2.2.2.1,d85.2.2.2.2.2.1,d85.2.2.2.2.2.2.1,d85.2.2.2.2.2.2.2.1) h86)) (n61,n64,n67,n70,n73,n76,n79,n82,0) h58) fun J18=>
M.loop (α:=(Option Addr × Nat × Nat) × Int) (fun J19 d20 h21=>
(bif (decide (d20.2<64)) then
M.val (IntKind.wrap .i64 (d20.2-15)) fun z22=>
M.idx d20.1.1 d20.1.2.1 z22 fun a23 j24=>
M.load h21 (Addr.add a23 (j24*1)) fun v25=>
M.int .u32 v25 fun n26=>
F1 n26 7 18 8 h21 fun n27 h28=>
M.val (IntKind.wrap .i64 (d20.2-2)) fun z29=>
M.idx d20.1.1 d20.1.2.1 z29 fun a30 j31=>
M.load h28 (Addr.add a30 (j31*1)) fun v32=>
M.int .u32 v32 fun n33=>
F1 n33 17 19 1024 h28 fun n34 h35=>
M.val (IntKind.wrap .i64 (d20.2-7)) fun z36=>
M.idx d20.1.1 d20.1.2.1 z36 fun a37 j38=>
M.load h35 (Addr.add a37 (j38*1)) fun v39=>
M.int .u32 v39 fun n40=>
M.val (IntKind.wrap .u32 (n34+n40)) fun z41=>
M.val (IntKind.wrap .u32 (z41+n27)) fun z42=>
M.val (IntKind.wrap .i64 (d20.2-16)) fun z43=>
M.idx d20.1.1 d20.1.2.1 z43 fun a44 j45=>
M.load h35 (Addr.add a44 (j45*1)) fun v46=>
M.int .u32 v46 fun n47=>
M.val (IntKind.wrap .u32 (z42+n47)) fun z48=>
M.new h35 (.cells #[.int .u32 z48] 178) fun b49 h50=>
M.cellsOf h50 (some ⟨b49,0,none⟩) (1*1) fun cs55=>
M.app h50 178 1 4 [.int .u32 0] d20.1.1 d20.1.2.1 d20.1.2.2 1 cs55 fun a51 l52 c53 h54=>
M.val (IntKind.wrap .i64 (d20.2+1)) fun z56=>
J19 ((a51,l52,c53),z56) h54
else
J18 (d20.1.1,d20.1.2.1,d20.1.2.2) h21)) ((a13,l14,c15),16) h17
def ref05_block:=ref05_block.g ref01_Words ref05_moved ref05_turned ref05_pick ref05_most
def ref06_quarter.g (F0:type_of% ref06_Quarter) (x0:Array Value) (x1 x2 x3 x4:Int) (h:H) (Q:Array Value→H→Prop):Prop:=
M.new h (.cells x0 274) fun b2 h3=>
M.new h3 (.cells #[.int .u32 0,.int .u32 0,.int .u32 0,.int .u32 0,.int .u32 0,.int .u32 0,.int .u32 0,.int .u32 0,.int .u32 0,.int .u32 0,.int .u32 0,.int .u32 0,.int .u32 0,.int .u32 0,.int .u32 0,.int .u32 0] 274) fun b4 h5=>
M.join (α:=Addr) (fun d35 h36=>
M.aidx 4 0 fun j37=>
M.load h36 (Addr.add d35 (j37*1)) fun v38=>
M.int .u32 v38 fun n39=>
M.aidx 16 x1 fun j40=>
M.put h36 (Addr.add ⟨b2,0,none⟩ (j40*1)) (.int .u32 n39) fun h41=>
M.aidx 4 1 fun j42=>
M.load h41 (Addr.add d35 (j42*1)) fun v43=>
M.int .u32 v43 fun n44=>
M.aidx 16 x2 fun j45=>
M.put h41 (Addr.add ⟨b2,0,none⟩ (j45*1)) (.int .u32 n44) fun h46=>
M.aidx 4 2 fun j47=>
M.load h46 (Addr.add d35 (j47*1)) fun v48=>
M.int .u32 v48 fun n49=>
M.aidx 16 x3 fun j50=>
M.put h46 (Addr.add ⟨b2,0,none⟩ (j50*1)) (.int .u32 n49) fun h51=>
M.aidx 4 3 fun j52=>
M.load h51 (Addr.add d35 (j52*1)) fun v53=>
M.int .u32 v53 fun n54=>
M.aidx 16 x4 fun j55=>
M.put h51 (Addr.add ⟨b2,0,none⟩ (j55*1)) (.int .u32 n54) fun h56=>
M.row h56 ⟨b2,0,none⟩ 16 fun cs57=>
M.req (Array.size (List.toArray cs57)=16) (M.puts h56 ⟨b4,0,none⟩ (Array.toList (List.toArray cs57)) fun h58=>
M.row h58 ⟨b4,0,none⟩ 16 fun cs59=>
Q (List.toArray cs59) h58)) fun J6=>
M.aidx 16 x1 fun j7=>
M.load h5 (Addr.add ⟨b2,0,none⟩ (j7*1)) fun v8=>
M.int .u32 v8 fun n9=>
M.aidx 16 x2 fun j10=>
M.load h5 (Addr.add ⟨b2,0,none⟩ (j10*1)) fun v11=>
M.int .u32 v11 fun n12=>
M.aidx 16 x3 fun j13=>
M.load h5 (Addr.add ⟨b2,0,none⟩ (j13*1)) fun v14=>
M.int .u32 v14 fun n15=>
M.aidx 16 x4 fun j16=>
M.load h5 (Addr.add ⟨b2,0,none⟩ (j16*1)) fun v17=>
M.int .u32 v17 fun n18=>
(F0 n9 n12 n15 n18 h5 fun n19 n20 n21 n22 h23=>
M.new h23 (.cells #[.int .u32 0,.int .u32 0,.int .u32 0,.int .u32 0] 332) fun b24 h25=>
M.still h5 (Addr.add ⟨b2,0,none⟩ (j16*1)) 1 h25 (
M.still h5 (Addr.add ⟨b2,0,none⟩ (j13*1)) 1 h25 (
M.still h5 (Addr.add ⟨b2,0,none⟩ (j10*1)) 1 h25 (
M.still h5 (Addr.add ⟨b2,0,none⟩ (j7*1)) 1 h25 (
M.req (Array.size (#[.int .u32 n19,.int .u32 n20,.int .u32 n21,.int .u32 n22]:Array Value)=4) (M.puts h25 ⟨b24,0,none⟩ [.int .u32 n19,.int .u32 n20,.int .u32 n21,.int .u32 n22] fun h26=>
J6 ⟨b24,0,none⟩ h26)))))) ∧
(M.new h5 (.cells #[.int .u32 0,.int .u32 0,.int .u32 0,.int .u32 0] 332) fun b27 h28=>
M.still h5 (Addr.add ⟨b2,0,none⟩ (j16*1)) 1 h28 (
M.still h5 (Addr.add ⟨b2,0,none⟩ (j13*1)) 1 h28 (
M.still h5 (Addr.add ⟨b2,0,none⟩ (j10*1)) 1 h28 (
M.still h5 (Addr.add ⟨b2,0,none⟩ (j7*1)) 1 h28 (
F0 n9 n12 n15 n18 h28 fun n29 n30 n31 n32 h33=>
M.req (Array.size (#[.int .u32 n29,.int .u32 n30,.int .u32 n31,.int .u32 n32]:Array Value)=4) (M.puts h33 ⟨b27,0,none⟩ [.int .u32 n29,.int .u32 n30,.int .u32 n31,.int .u32 n32] fun h34=>
J6 ⟨b27,0,none⟩ h34))))))
def ref06_quarter:=ref06_quarter.g ref06_Quarter
def ref07_sum.g (F0:type_of% ref07_less) (x0 x1:Array Value) (h:H) (Q:Array Value→H→Prop):Prop:=
M.new h (.cells x0 323) fun b2 h3=>
M.new h3 (.cells x1 323) fun b4 h5=>
M.new h5 (.cells (Array.replicate 17 ((.int .i64 0):Value)) 323) fun b6 h7=>
M.join (α:=Unit) (fun d25 h26=>
M.row h26 ⟨b2,0,none⟩ 17 fun cs27=>
F0 (List.toArray cs27) h26 fun cs28 h29=>
M.req (Array.size cs28=17) (M.puts h29 ⟨b6,0,none⟩ (Array.toList cs28) fun h30=>
M.row h30 ⟨b6,0,none⟩ 17 fun cs31=>
Q (List.toArray cs31) h30)) fun J8=>
M.loop (α:=Int × Int) (fun J9 d10 h11=>
(bif (decide (d10.2<17)) then
M.aidx 17 d10.2 fun j12=>
M.load h11 (Addr.add ⟨b2,0,none⟩ (j12*1)) fun v13=>
M.int .i64 v13 fun n14=>
M.val (IntKind.wrap .i64 (d10.1+n14)) fun z15=>
M.aidx 17 d10.2 fun j16=>
M.load h11 (Addr.add ⟨b4,0,none⟩ (j16*1)) fun v17=>
M.int .i64 v17 fun n18=>
M.val (IntKind.wrap .i64 (z15+n18)) fun z19=>
M.nz 256 (
M.val (Int.tmod z19 256) fun z20=>
M.aidx 17 d10.2 fun j21=>
M.put h11 (Addr.add ⟨b2,0,none⟩ (j21*1)) (.int .i64 z20) fun h22=>
M.nz 256 (
M.val (IntKind.wrap .i64 (Int.tdiv z19 256)) fun z23=>
M.val (IntKind.wrap .i64 (d10.2+1)) fun z24=>
J9 (z23,z24) h22))
else
J8 () h11)) (0,0) h7
def ref07_sum:=ref07_sum.g ref07_less
def ref07_product.g (F0:type_of% ref07_sum) (x0 x1:Array Value) (h:H) (Q:Array Value→H→Prop):Prop:=
M.new h (.cells x0 323) fun b2 h3=>
M.new h3 (.cells x1 323) fun b4 h5=>
M.new h5 (.cells (Array.replicate 17 ((.int .i64 0):Value)) 323) fun b6 h7=>
M.new h7 (.cells (Array.replicate 17 ((.int .i64 0):Value)) 323) fun b8 h9=>
M.loop (α:=Int) (fun J10 d11 h12=>
(bif (decide (d11 ≥ 0)) then
M.join (α:=Unit) (fun d37 h38=>
M.val (IntKind.wrap .i64 (d11-1)) fun z39=>
J10 z39 h38) fun J13=>
M.loop (α:=Int × Int) (fun J14 d15 h16=>
(bif (decide (d15.2<8)) then
M.row h16 ⟨b8,0,none⟩ 17 fun cs17=>
M.row h16 ⟨b8,0,none⟩ 17 fun cs18=>
F0 (List.toArray cs17) (List.toArray cs18) h16 fun cs19 h20=>
M.req (Array.size cs19=17) (M.puts h20 ⟨b8,0,none⟩ (Array.toList cs19) fun h21=>
M.join (α:=Unit) (fun d33 h34=>
M.nz 2 (
M.val (IntKind.wrap .i64 (Int.tdiv d15.1 2)) fun z35=>
M.val (IntKind.wrap .i64 (d15.2+1)) fun z36=>
J14 (z35,z36) h34)) fun J22=>
M.aidx 17 d11 fun j23=>
M.load h21 (Addr.add ⟨b4,0,none⟩ (j23*1)) fun v24=>
M.int .i64 v24 fun n25=>
M.nz d15.1 (
M.val (IntKind.wrap .i64 (Int.tdiv n25 d15.1)) fun z26=>
M.nz 2 (
M.val (Int.tmod z26 2) fun z27=>
(bif (z27 == 1) then
M.row h21 ⟨b8,0,none⟩ 17 fun cs28=>
M.row h21 ⟨b2,0,none⟩ 17 fun cs29=>
F0 (List.toArray cs28) (List.toArray cs29) h21 fun cs30 h31=>
M.req (Array.size cs30=17) (M.puts h31 ⟨b8,0,none⟩ (Array.toList cs30) fun h32=>
J22 () h32)
else
J22 () h21))))
else
J13 () h16)) (128,0) h12
else
M.row h12 ⟨b8,0,none⟩ 17 fun cs40=>
M.req (Array.size (List.toArray cs40)=17) (M.puts h12 ⟨b6,0,none⟩ (Array.toList (List.toArray cs40)) fun h41=>
M.row h41 ⟨b6,0,none⟩ 17 fun cs42=>
Q (List.toArray cs42) h41))) 16 h9
def ref07_product:=ref07_product.g ref07_sum
def slices_IndexFuncdisk_write_disk_write_disk_Disk_Tamper_1.g (F0:type_of% disk_Disk_Tamper_1) (x0:Option Addr) (x0L x0C:Nat) (x1_0:Addr) (h:H) (Q:Int→H→Prop):Prop:=
M.loop (α:=Int) (fun J2 d3 h4=>
(bif (decide (d3<(x0L:Int))) then
M.idx x0 x0L d3 fun a5 j6=>
M.load h4 ((Addr.add a5 (j6*2)).add 0) fun v7=>
M.int .i64 v7 fun n8=>
M.load h4 ((Addr.add a5 (j6*2)).add 1) fun v9=>
M.str v9 fun s10=>
F0 n8 s10 x1_0 h4 fun b11 h12=>
(bif b11 then
Q d3 h12
else
M.val (IntKind.wrap .i64 (d3+1)) fun z13=>
J2 z13 h12)
else
Q (-1) h4)) 0 h
def slices_IndexFuncdisk_write_disk_write_disk_Disk_Tamper_1:=slices_IndexFuncdisk_write_disk_write_disk_Disk_Tamper_1.g disk_Disk_Tamper_1
def slices_IndexFuncdisk_write_disk_write_disk_Disk_Tamper_1.L (F:type_of% slices_IndexFuncdisk_write_disk_write_disk_Disk_Tamper_1):LT
 | [.slice x0 x0L x0C,.func (.func 65) ⟨[]⟩ ⟨[.pointer (some x1_0)]⟩]=>fun Q h=>F x0 x0L x0C x1_0 h fun n16 h17=>Q (.int .i64 n16) h17
 | _=>fun _ _=>False
def slices_IndexFuncdisk_write_disk_write_disk_Disk_Tamper_1.ann:Ann:=⟨lookN [],lookN [],lookN [(26,[(8,.int .i64)])]⟩
theorem slices_IndexFuncdisk_write_disk_write_disk_Disk_Tamper_1.geq (F0):∀ l,OkL (evF Tryz.prog (envOf [(65,WL (disk_Disk_Tamper_1.L F0))]) Tryz.f120 slices_IndexFuncdisk_write_disk_write_disk_Disk_Tamper_1.ann) l (slices_IndexFuncdisk_write_disk_write_disk_Disk_Tamper_1.L (slices_IndexFuncdisk_write_disk_write_disk_Disk_Tamper_1.g F0) l):=by
 intro l; unfold slices_IndexFuncdisk_write_disk_write_disk_Disk_Tamper_1.L; split; exact .inr (by intros; kernel_rfl); exact .inl rfl
theorem slices_IndexFuncdisk_write_disk_write_disk_Disk_Tamper_1.good:FnGood Tryz.prog 120 (WL (slices_IndexFuncdisk_write_disk_write_disk_Disk_Tamper_1.L slices_IndexFuncdisk_write_disk_write_disk_Disk_Tamper_1)):=.ofL mixed (.cons disk_Disk_Tamper_1.good .nil) Tryz.func120 Tryz.call120 (slices_IndexFuncdisk_write_disk_write_disk_Disk_Tamper_1.geq disk_Disk_Tamper_1)
def chacha_Crypt.g (F0:type_of% chacha_shape) (F1:type_of% chacha_stream) (F2:type_of% words_Xor) (x0 x1:ByteArray) (x2:Int) (x3:ByteArray) (h:H) (Q:ByteArray→Int→H→Prop):Prop:=
F0 x0 x1 h fun b3 h4=>
(bif (!b3) then
Q ByteArray.empty 7 h4
else
(bif (decide ((ByteArray.size x3:Int) > 65536)) then
Q ByteArray.empty 5 h4
else
M.mk h4 5 [.int .u8 0] 1 0 (ByteArray.size x3:Int) fun a5 l6 c7 h8=>
M.join (α:=(Option Addr × Nat × Nat)) (fun d24 h25=>
M.b2s h25 d24.1 d24.2.1 fun s26=>
Q s26 0 h25) fun J9=>
M.loop (α:=Int × ByteArray × (Option Addr × Nat × Nat)) (fun J10 d11 h12=>
(bif (decide ((ByteArray.size d11.2.1:Int) > 0)) then
M.ssub d11.2.1 0 (mn (ByteArray.size d11.2.1:Int) 64) fun s13=>
F1 x0 x1 d11.1 h12 fun s14 h15=>
F2 s13 s14 h15 fun s16 h17=>
M.app h17 5 1 1 [.int .u8 0] d11.2.2.1 d11.2.2.2.1 d11.2.2.2.2 (ByteArray.size s16) (bytesOf s16) fun a18 l19 c20 h21=>
M.ssub d11.2.1 (mn (ByteArray.size d11.2.1:Int) 64) (ByteArray.size d11.2.1:Int) fun s22=>
M.val (IntKind.wrap .u32 (d11.1+1)) fun z23=>
J10 (z23,s22,(a18,l19,c20)) h21
else
J9 (d11.2.2.1,d11.2.2.2.1,d11.2.2.2.2) h12)) (x2,x3,(a5,l6,c7)) h8))
def chacha_Crypt:=chacha_Crypt.g chacha_shape chacha_stream words_Xor
def chacha_Crypt.L (F:type_of% chacha_Crypt):LT
 | [.string x0,.string x1,.int .u32 x2,.string x3]=>fun Q h=>F x0 x1 x2 x3 h fun s30 n31 h32=>Q (.tuple #[.string s30,.int .i64 n31]) h32
 | _=>fun _ _=>False
def chacha_Crypt.ann:Ann:=⟨lookN [],lookN [(15,[(10,.slc)])],lookN [(60,[(2,.int .u32),(3,.str),(10,.slc)])]⟩
theorem chacha_Crypt.geq (F0) (F1) (F2):∀ l,OkL (evF Tryz.prog (envOf [(148,WL (chacha_shape.L F0)),(149,WL (chacha_stream.L F1)),(134,WL (words_Xor.L F2))]) Tryz.f95 chacha_Crypt.ann) l (chacha_Crypt.L (chacha_Crypt.g F0 F1 F2) l):=by
 intro l; unfold chacha_Crypt.L; split; exact .inr (by intros; kernel_rfl); exact .inl rfl
theorem chacha_Crypt.good:FnGood Tryz.prog 95 (WL (chacha_Crypt.L chacha_Crypt)):=.ofL mixed (.cons chacha_shape.good (.cons chacha_stream.good (.cons words_Xor.good .nil))) Tryz.func95 Tryz.call95 (chacha_Crypt.geq chacha_shape chacha_stream words_Xor)
def aead_tag.g (F0:type_of% chacha_Block) (F1:type_of% aead_pad) (F2:type_of% aead_lengths) (F3:type_of% poly_Sum) (x0 x1 x2 x3:ByteArray) (h:H) (Q:ByteArray→H→Prop):Prop:=
F0 x0 x1 0 h fun s2 n3 h4=>
M.join (α:=ByteArray) (fun d44 h45=>
Q d44 h45) fun J5=>
M.ssub s2 0 32 fun s6=>
(F1 x2 h4 fun s7 h8=>
(F1 x3 h8 fun s9 h10=>
M.cat s7 s9 fun s11=>
M.new h10 (.cells #[.string x2,.string x3] 9) fun b12 h13=>
F2 (some ⟨b12,0,none⟩) 2 2 h13 fun s14 h15=>
M.cat s11 s14 fun s16=>
F3 s6 s16 h15 fun s17 n18 h19=>
J5 s17 h19) ∧
(M.new h8 (.cells #[.string x2,.string x3] 9) fun b20 h21=>
F1 x3 h21 fun s22 h23=>
M.cat s7 s22 fun s24=>
F2 (some ⟨b20,0,none⟩) 2 2 h23 fun s25 h26=>
M.cat s24 s25 fun s27=>
F3 s6 s27 h26 fun s28 n29 h30=>
J5 s28 h30)) ∧
(M.new h4 (.cells #[.string x2,.string x3] 9) fun b31 h32=>
F1 x2 h32 fun s33 h34=>
F1 x3 h34 fun s35 h36=>
M.cat s33 s35 fun s37=>
F2 (some ⟨b31,0,none⟩) 2 2 h36 fun s38 h39=>
M.cat s37 s38 fun s40=>
F3 s6 s40 h39 fun s41 n42 h43=>
J5 s41 h43)
def aead_tag:=aead_tag.g chacha_Block aead_pad aead_lengths poly_Sum
def aead_tag.L (F:type_of% aead_tag):LT
 | [.string x0,.string x1,.string x2,.string x3]=>fun Q h=>F x0 x1 x2 x3 h fun s48 h49=>Q (.string s48) h49
 | _=>fun _ _=>False
def aead_tag.ann:Ann:=⟨lookN [(2,[(11,.str)])],lookN [],lookN []⟩
theorem aead_tag.geq (F0) (F1) (F2) (F3):∀ l,OkL (evF Tryz.prog (envOf [(150,WL (chacha_Block.L F0)),(152,WL (aead_pad.L F1)),(153,WL (aead_lengths.L F2)),(151,WL (poly_Sum.L F3))]) Tryz.f96 aead_tag.ann) l (aead_tag.L (aead_tag.g F0 F1 F2 F3) l):=by
 intro l; unfold aead_tag.L; split; exact .inr (by intros; kernel_rfl); exact .inl rfl
theorem aead_tag.good:FnGood Tryz.prog 96 (WL (aead_tag.L aead_tag)):=.ofL mixed (.cons chacha_Block.good (.cons aead_pad.good (.cons aead_lengths.good (.cons poly_Sum.good .nil)))) Tryz.func96 Tryz.call96 (aead_tag.geq chacha_Block aead_pad aead_lengths poly_Sum)
end Go.Proofs.YthegnmanjdlmjaaGreatDoor

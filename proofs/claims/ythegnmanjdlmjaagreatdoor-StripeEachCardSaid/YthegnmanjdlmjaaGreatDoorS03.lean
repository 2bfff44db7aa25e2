/- The shallow forms of the functions of this seat, printed by a program of mine, each checked by the kernel against the given code. -/
import Derived.Test.YthegnmanjdlmjaaGreatDoorS01
import Derived.Test.YthegnmanjdlmjaaGreatDoorProg
import Derived.Test.YthegnmanjdlmjaaGreatDoorS02
set_option linter.unusedSimpArgs false
set_option linter.unusedVariables false
namespace Go.Proofs.YthegnmanjdlmjaaGreatDoor
open Go.Sh
def bank_Bank_Steps (x0:Option Addr) (h:H) (Q:Int→H→Prop):Prop:=
(bif (Option.isNone x0) then
Q 0 h
else
M.nn x0 fun a2=>
M.load h (Addr.add a2 1) fun v3=>
M.int .i64 v3 fun n4=>
Q n4 h)
def bank_Bank_Steps.L (F:type_of% bank_Bank_Steps):LT
 | [.pointer x0]=>fun Q h=>F x0 h fun n7 h8=>Q (.int .i64 n7) h8
 | _=>fun _ _=>False
def bank_Bank_Disk (x0:Option Addr) (x1:Int) (h:H) (Q:Option Addr→H→Prop):Prop:=
M.join (α:=Bool) (fun d8 h9=>
(bif d8 then
Q none h9
else
M.nn x0 fun a10=>
M.load h9 (Addr.add a10 0) fun v11=>
M.slc v11 fun a12 l13 c14=>
M.idx a12 l13 x1 fun a15 j16=>
M.load h9 (Addr.add a15 (j16*1)) fun v17=>
M.ptr v17 fun p18=>
Q p18 h9)) fun J2=>
(bif (Option.isNone x0) then
J2 true h
else
(bif (decide (x1<0)) then
J2 true h
else
M.nn x0 fun a3=>
M.load h (Addr.add a3 0) fun v4=>
M.slc v4 fun a5 l6 c7=>
J2 (decide (x1 ≥ (l6:Int))) h))
def bank_Bank_Disk.L (F:type_of% bank_Bank_Disk):LT
 | [.pointer x0,.int .i64 x1]=>fun Q h=>F x0 x1 h fun p21 h22=>Q (.pointer p21) h22
 | _=>fun _ _=>False
def bank_Bank_Disk.ann:Ann:=⟨lookN [(1,[(19,.bool)])],lookN [],lookN []⟩
theorem bank_Bank_Disk.geq:∀ l,OkL (evF Tryz.prog (envOf []) Tryz.f22 bank_Bank_Disk.ann) l (bank_Bank_Disk.L bank_Bank_Disk l):=by
 intro l; unfold bank_Bank_Disk.L; split; exact .inr (by intros; kernel_rfl); exact .inl rfl
theorem bank_Bank_Disk.good:FnGood Tryz.prog 22 (WL (bank_Bank_Disk.L bank_Bank_Disk)):=.ofL mixed .nil Tryz.func22 Tryz.call22 (bank_Bank_Disk.geq)
def law17_sized (x0:Int) (h:H) (Q:Int→H→Prop):Prop:=
M.join (α:=Bool) (fun d3 h4=>
(bif d3 then
M.nz 4 (
M.val (Int.tmod x0 4) fun z5=>
M.shr0 z5 (
M.val (shl .i64 2 z5) fun z6=>
Q z6 h4))
else
Q x0 h4)) fun J2=>
(bif (decide (x0 ≥ 0)) then
J2 (decide (x0<20)) h
else
J2 false h)
def law17_sized.L (F:type_of% law17_sized):LT
 | [.int .i64 x0]=>fun Q h=>F x0 h fun n9 h10=>Q (.int .i64 n9) h10
 | _=>fun _ _=>False
def law17_sameWrites (x0:Option Addr) (x0L x0C:Nat) (x1:Option Addr) (x1L x1C:Nat) (h:H) (Q:Bool→H→Prop):Prop:=
(bif ((x0L:Int) != (x1L:Int)) then
Q false h
else
M.loop (α:=Int) (fun J2 d3 h4=>
(bif (decide (d3<(x0L:Int))) then
M.join (α:=Bool) (fun d22 h23=>
(bif d22 then
Q false h23
else
M.val (IntKind.wrap .i64 (d3+1)) fun z24=>
J2 z24 h23)) fun J5=>
M.idx x0 x0L d3 fun a6 j7=>
M.load h4 (Addr.add (Addr.add a6 (j7*2)) 0) fun v8=>
M.int .i64 v8 fun n9=>
M.idx x1 x1L d3 fun a10 j11=>
M.load h4 (Addr.add (Addr.add a10 (j11*2)) 0) fun v12=>
M.int .i64 v12 fun n13=>
(bif (n9 != n13) then
J5 true h4
else
M.idx x0 x0L d3 fun a14 j15=>
M.load h4 (Addr.add (Addr.add a14 (j15*2)) 1) fun v16=>
M.str v16 fun s17=>
M.idx x1 x1L d3 fun a18 j19=>
M.load h4 (Addr.add (Addr.add a18 (j19*2)) 1) fun v20=>
M.str v20 fun s21=>
J5 (!strEq s17 s21) h4)
else
Q true h4)) 0 h)
def law17_sameWrites.L (F:type_of% law17_sameWrites):LT
 | [.slice x0 x0L x0C,.slice x1 x1L x1C]=>fun Q h=>F x0 x0L x0C x1 x1L x1C h fun b27 h28=>Q (.bool b27) h28
 | _=>fun _ _=>False
def slab_Slab_good.g (F0:type_of% tree_Path) (F1:type_of% bank_Bank_Disk) (x0_0:Option Addr) (x0_1 x0_2:Int) (x0_3:ByteArray) (h:H) (Q:Bool→H→Prop):Prop:=
M.new h (.cells #[.pointer x0_0,.int .i64 x0_1,.int .i64 x0_2,.string x0_3] 37) fun b2 h3=>
M.load h3 (Addr.add ⟨b2,0,none⟩ 2) fun v4=>
M.int .i64 v4 fun n5=>
F0 n5 0 h3 fun a6 l7 c8 n9 h10=>
M.join (α:=Bool) (fun d20 h21=>
Q d20 h21) fun J11=>
(bif (n9 == 0) then
M.load h10 (Addr.add ⟨b2,0,none⟩ 3) fun v12=>
M.str v12 fun s13=>
(bif ((ByteArray.size s13:Int) == 32) then
M.load h10 (Addr.add ⟨b2,0,none⟩ 0) fun v14=>
M.ptr v14 fun p15=>
M.load h10 (Addr.add ⟨b2,0,none⟩ 1) fun v16=>
M.int .i64 v16 fun n17=>
F1 p15 n17 h10 fun p18 h19=>
J11 (!(Option.isNone p18)) h19
else
J11 false h10)
else
J11 false h10)
def slab_Slab_good:=slab_Slab_good.g tree_Path bank_Bank_Disk
def slab_Slab_good.L (F:type_of% slab_Slab_good):LT
 | [.agg ⟨[.pointer x0_0,.int .i64 x0_1,.int .i64 x0_2,.string x0_3]⟩]=>fun Q h=>F x0_0 x0_1 x0_2 x0_3 h fun b24 h25=>Q (.bool b24) h25
 | _=>fun _ _=>False
def slab_Slab_good.ann:Ann:=⟨lookN [(2,[(2,.bool)])],lookN [],lookN []⟩
theorem slab_Slab_good.geq (F0) (F1):∀ l,OkL (evF Tryz.prog (envOf [(51,WL (tree_Path.L F0)),(22,WL (bank_Bank_Disk.L F1))]) Tryz.f53 slab_Slab_good.ann) l (slab_Slab_good.L (slab_Slab_good.g F0 F1) l):=by
 intro l; unfold slab_Slab_good.L; split; exact .inr (by intros; kernel_rfl); exact .inl rfl
theorem slab_Slab_good.good:FnGood Tryz.prog 53 (WL (slab_Slab_good.L slab_Slab_good)):=.ofL mixed (.cons tree_Path.good (.cons bank_Bank_Disk.good .nil)) Tryz.func53 Tryz.call53 (slab_Slab_good.geq tree_Path bank_Bank_Disk)
def disk_New (x0:Int) (h:H) (Q:Option Addr→H→Prop):Prop:=
M.join (α:=Addr) (fun d23 h24=>
Q (some d23) h24) fun J2=>
(M.mk h 9 [.string ByteArray.empty] 16 (mx 1 (mn x0 512)) (mx 1 (mn x0 512)) fun a3 l4 c5 h6=>
M.mk h6 9 [.string ByteArray.empty] 16 (mx 1 (mn x0 512)) (mx 1 (mn x0 512)) fun a7 l8 c9 h10=>
M.new h10 (.cells #[.slice a3 l4 c5,.slice a7 l8 c9,.slice none 0 0,.bool false] 127) fun b11 h12=>
J2 ⟨b11,0,none⟩ h12) ∧
(M.mk h 9 [.string ByteArray.empty] 16 (mx 1 (mn x0 512)) (mx 1 (mn x0 512)) fun a13 l14 c15 h16=>
M.mk h16 9 [.string ByteArray.empty] 16 (mx 1 (mn x0 512)) (mx 1 (mn x0 512)) fun a17 l18 c19 h20=>
M.new h20 (.cells #[.slice a17 l18 c19,.slice a13 l14 c15,.slice none 0 0,.bool false] 127) fun b21 h22=>
J2 ⟨b21,0,none⟩ h22)
def disk_New.L (F:type_of% disk_New):LT
 | [.int .i64 x0]=>fun Q h=>F x0 h fun p27 h28=>Q (.pointer p27) h28
 | _=>fun _ _=>False
def disk_New.ann:Ann:=⟨lookN [(2,[(2,.adr)])],lookN [],lookN []⟩
theorem disk_New.geq:∀ l,OkL (evF Tryz.prog (envOf []) Tryz.f59 disk_New.ann) l (disk_New.L disk_New l):=by
 intro l; unfold disk_New.L; split; exact .inr (by intros; kernel_rfl); exact .inl rfl
theorem disk_New.good:FnGood Tryz.prog 59 (WL (disk_New.L disk_New)):=.ofL mixed .nil Tryz.func59 Tryz.call59 (disk_New.geq)
def disk_Disk_usable (x0:Option Addr) (x1:Int) (h:H) (Q:Int→H→Prop):Prop:=
(bif (Option.isNone x0) then
Q 1 h
else
M.nn x0 fun a2=>
M.load h (Addr.add a2 3) fun v3=>
M.bool v3 fun b4=>
(bif b4 then
Q 20 h
else
M.join (α:=Bool) (fun d11 h12=>
(bif d11 then
Q 2 h12
else
Q 0 h12)) fun J5=>
(bif (decide (x1<0)) then
J5 true h
else
M.nn x0 fun a6=>
M.load h (Addr.add a6 1) fun v7=>
M.slc v7 fun a8 l9 c10=>
J5 (decide (x1 ≥ (l9:Int))) h)))
def disk_Disk_usable.L (F:type_of% disk_Disk_usable):LT
 | [.pointer x0,.int .i64 x1]=>fun Q h=>F x0 x1 h fun n15 h16=>Q (.int .i64 n15) h16
 | _=>fun _ _=>False
def disk_Disk_usable.ann:Ann:=⟨lookN [(5,[(13,.bool)])],lookN [],lookN []⟩
theorem disk_Disk_usable.geq:∀ l,OkL (evF Tryz.prog (envOf []) Tryz.f62 disk_Disk_usable.ann) l (disk_Disk_usable.L disk_Disk_usable l):=by
 intro l; unfold disk_Disk_usable.L; split; exact .inr (by intros; kernel_rfl); exact .inl rfl
theorem disk_Disk_usable.good:FnGood Tryz.prog 62 (WL (disk_Disk_usable.L disk_Disk_usable)):=.ofL mixed .nil Tryz.func62 Tryz.call62 (disk_Disk_usable.geq)
def slices_Clonestring_string (x0:Option Addr) (x0L x0C:Nat) (h:H) (Q:Option Addr→Nat→Nat→H→Prop):Prop:=
(bif (Option.isNone x0) then
Q none 0 0 h
else
M.new h (.cells #[] 9) fun b4 h5=>
M.cellsOf h5 x0 (x0L*1) fun cs10=>
M.app h5 9 1 16 [.string ByteArray.empty] (some ⟨b4,0,none⟩) 0 0 x0L cs10 fun a6 l7 c8 h9=>
Q a6 l7 c8 h9)
def slices_Clonestring_string.L (F:type_of% slices_Clonestring_string):LT
 | [.slice x0 x0L x0C]=>fun Q h=>F x0 x0L x0C h fun a15 l16 c17 h18=>Q (.slice a15 l16 c17) h18
 | _=>fun _ _=>False
theorem slices_Clonestring_string.geq:∀ l,OkL (evF Tryz.prog (envOf []) Tryz.f63 an0) l (slices_Clonestring_string.L slices_Clonestring_string l):=by
 intro l; unfold slices_Clonestring_string.L; split; exact .inr (by intros; kernel_rfl); exact .inl rfl
theorem slices_Clonestring_string.good:FnGood Tryz.prog 63 (WL (slices_Clonestring_string.L slices_Clonestring_string)):=.ofL mixed .nil Tryz.func63 Tryz.call63 (slices_Clonestring_string.geq)
def disk_Disk_Tamper_1 (x0_0:Int) (x0_1:ByteArray) (a1:Addr) (h:H) (Q:Bool→H→Prop):Prop:=
M.new h (.cells #[.int .i64 x0_0,.string x0_1] 131) fun b3 h4=>
M.load h4 (Addr.add ⟨b3,0,none⟩ 0) fun v5=>
M.int .i64 v5 fun n6=>
M.load h4 a1 fun v7=>
M.int .i64 v7 fun n8=>
Q (n6 == n8) h4
def disk_Disk_Tamper_1.L (F:type_of% disk_Disk_Tamper_1):LT
 | [.agg ⟨[.int .i64 x0_0,.string x0_1]⟩,.pointer (some a1)]=>fun Q h=>F x0_0 x0_1 a1 h fun b11 h12=>Q (.bool b11) h12
 | _=>fun _ _=>False
theorem disk_Disk_Tamper_1.geq:∀ l,OkL (evF Tryz.prog (envOf []) Tryz.f65 an0) l (disk_Disk_Tamper_1.L disk_Disk_Tamper_1 l):=by
 intro l; unfold disk_Disk_Tamper_1.L; split; exact .inr (by intros; kernel_rfl); exact .inl rfl
theorem disk_Disk_Tamper_1.good:FnGood Tryz.prog 65 (WL (disk_Disk_Tamper_1.L disk_Disk_Tamper_1)):=.ofL mixed .nil Tryz.func65 Tryz.call65 (disk_Disk_Tamper_1.geq)
def sha_New  (h:H) (Q:Option Addr→H→Prop):Prop:=
M.load h (Addr.add ⟨0,0,none⟩ 0) fun v2=>
M.int .u32 v2 fun n3=>
M.load h (Addr.add ⟨0,0,none⟩ 1) fun v4=>
M.int .u32 v4 fun n5=>
M.load h (Addr.add ⟨0,0,none⟩ 2) fun v6=>
M.int .u32 v6 fun n7=>
M.load h (Addr.add ⟨0,0,none⟩ 3) fun v8=>
M.int .u32 v8 fun n9=>
M.load h (Addr.add ⟨0,0,none⟩ 4) fun v10=>
M.int .u32 v10 fun n11=>
M.load h (Addr.add ⟨0,0,none⟩ 5) fun v12=>
M.int .u32 v12 fun n13=>
M.load h (Addr.add ⟨0,0,none⟩ 6) fun v14=>
M.int .u32 v14 fun n15=>
M.load h (Addr.add ⟨0,0,none⟩ 7) fun v16=>
M.int .u32 v16 fun n17=>
M.new h (.cells #[.int .u32 n3,.int .u32 n5,.int .u32 n7,.int .u32 n9,.int .u32 n11,.int .u32 n13,.int .u32 n15,.int .u32 n17,.string ByteArray.empty,.int .i64 0] 206) fun b18 h19=>
Q (some ⟨b18,0,none⟩) h19
def sha_New.L (F:type_of% sha_New):LT
 | []=>fun Q h=>F  h fun p22 h23=>Q (.pointer p22) h23
 | _=>fun _ _=>False
theorem sha_New.geq:∀ l,OkL (evF Tryz.prog (envOf []) Tryz.f66 an0) l (sha_New.L sha_New l):=by
 intro l; unfold sha_New.L; split; exact .inr (by intros; kernel_rfl); exact .inl rfl
theorem sha_New.good:FnGood Tryz.prog 66 (WL (sha_New.L sha_New)):=.ofL mixed .nil Tryz.func66 Tryz.call66 (sha_New.geq)
def ref09_Tamper (x0:Option Addr) (x1:Int) (x2:ByteArray) (h:H) (Q:Bool→H→Prop):Prop:=
M.join (α:=Bool) (fun d11 h12=>
(bif d11 then
Q false h12
else
M.join (α:=(Option Addr × Nat × Nat)) (fun d53 h54=>
M.nn x0 fun a55=>
M.put h54 (Addr.add a55 1) (.slice d53.1 d53.2.1 d53.2.2) fun h56=>
M.nn x0 fun a57=>
M.load h56 (Addr.add a57 0) fun v58=>
M.slc v58 fun a59 l60 c61=>
M.idx a59 l60 x1 fun a62 j63=>
M.put h56 (Addr.add a62 (j63*1)) (.string x2) fun h64=>
Q true h64) fun J13=>
M.loop (α:=(Option Addr × Nat × Nat) × Int) (fun J14 d15 h16=>
M.nn x0 fun a17=>
M.load h16 (Addr.add a17 1) fun v18=>
M.slc v18 fun a19 l20 c21=>
(bif (decide (d15.2<(l20:Int))) then
M.join (α:=(Option Addr × Nat × Nat)) (fun d50 h51=>
M.val (IntKind.wrap .i64 (d15.2+1)) fun z52=>
J14 ((d50.1,d50.2.1,d50.2.2),z52) h51) fun J22=>
M.nn x0 fun a23=>
M.load h16 (Addr.add a23 1) fun v24=>
M.slc v24 fun a25 l26 c27=>
M.idx a25 l26 d15.2 fun a28 j29=>
M.load h16 (Addr.add (Addr.add a28 (j29*2)) 0) fun v30=>
M.int .i64 v30 fun n31=>
(bif (n31 != x1) then
M.nn x0 fun a32=>
M.load h16 (Addr.add a32 1) fun v33=>
M.slc v33 fun a34 l35 c36=>
M.idx a34 l35 d15.2 fun a37 j38=>
M.load h16 ((Addr.add a37 (j38*2)).add 0) fun v39=>
M.int .i64 v39 fun n40=>
M.load h16 ((Addr.add a37 (j38*2)).add 1) fun v41=>
M.str v41 fun s42=>
M.new h16 (.cells #[.int .i64 n40,.string s42] 214) fun b43 h44=>
M.cellsOf h44 (some ⟨b43,0,none⟩) (1*2) fun cs49=>
M.app h44 214 2 24 [.int .i64 0,.string ByteArray.empty] d15.1.1 d15.1.2.1 d15.1.2.2 1 cs49 fun a45 l46 c47 h48=>
J22 (a45,l46,c47) h48
else
J22 (d15.1.1,d15.1.2.1,d15.1.2.2) h16)
else
J13 (d15.1.1,d15.1.2.1,d15.1.2.2) h16)) ((none,0,0),0) h12)) fun J2=>
M.nn x0 fun a3=>
M.load h (Addr.add a3 2) fun v4=>
M.bool v4 fun b5=>
(bif b5 then
J2 true h
else
(bif (decide (x1<0)) then
J2 true h
else
M.nn x0 fun a6=>
M.load h (Addr.add a6 0) fun v7=>
M.slc v7 fun a8 l9 c10=>
(bif (decide (x1 ≥ (l9:Int))) then
J2 true h
else
J2 (decide ((ByteArray.size x2:Int) > 2048)) h)))
def ref09_Tamper.L (F:type_of% ref09_Tamper):LT
 | [.pointer x0,.int .i64 x1,.string x2]=>fun Q h=>F x0 x1 x2 h fun b67 h68=>Q (.bool b67) h68
 | _=>fun _ _=>False
def ref09_Tamper.ann:Ann:=⟨lookN [(1,[(30,.bool)])],lookN [(15,[(7,.slc)]),(489,[(7,.slc)])],lookN [(122,[(7,.slc),(8,.int .i64)])]⟩
theorem ref09_Tamper.geq:∀ l,OkL (evF Tryz.prog (envOf []) Tryz.f71 ref09_Tamper.ann) l (ref09_Tamper.L ref09_Tamper l):=by
 intro l; unfold ref09_Tamper.L; split; exact .inr (by intros; kernel_rfl); exact .inl rfl
theorem ref09_Tamper.good:FnGood Tryz.prog 71 (WL (ref09_Tamper.L ref09_Tamper)):=.ofL mixed .nil Tryz.func71 Tryz.call71 (ref09_Tamper.geq)
def ref09_New (x0:Int) (h:H) (Q:Option Addr→H→Prop):Prop:=
M.join (α:=Int) (fun d3 h4=>
M.join (α:=Int) (fun d6 h7=>
M.mk h7 9 [.string ByteArray.empty] 16 d6 d6 fun a8 l9 c10 h11=>
M.new h11 (.cells #[.slice a8 l9 c10,.slice none 0 0,.bool false] 212) fun b12 h13=>
Q (some ⟨b12,0,none⟩) h13) fun J5=>
(bif (decide (d3 > 512)) then
J5 512 h4
else
J5 d3 h4)) fun J2=>
(bif (decide (x0<1)) then
J2 1 h
else
J2 x0 h)
def ref09_New.L (F:type_of% ref09_New):LT
 | [.int .i64 x0]=>fun Q h=>F x0 h fun p16 h17=>Q (.pointer p16) h17
 | _=>fun _ _=>False
def ref09_New.ann:Ann:=⟨lookN [],lookN [(3,[(0,.int .i64)]),(7,[(0,.int .i64)])],lookN []⟩
theorem ref09_New.geq:∀ l,OkL (evF Tryz.prog (envOf []) Tryz.f88 ref09_New.ann) l (ref09_New.L ref09_New l):=by
 intro l; unfold ref09_New.L; split; exact .inr (by intros; kernel_rfl); exact .inl rfl
theorem ref09_New.good:FnGood Tryz.prog 88 (WL (ref09_New.L ref09_New)):=.ofL mixed .nil Tryz.func88 Tryz.call88 (ref09_New.geq)
def aead_shape (x0 x1:ByteArray) (h:H) (Q:Bool→H→Prop):Prop:=
M.join (α:=Bool) (fun d3 h4=>
Q d3 h4) fun J2=>
(bif ((ByteArray.size x0:Int) == 32) then
J2 ((ByteArray.size x1:Int) == 12) h
else
J2 false h)
def aead_shape.L (F:type_of% aead_shape):LT
 | [.string x0,.string x1]=>fun Q h=>F x0 x1 h fun b7 h8=>Q (.bool b7) h8
 | _=>fun _ _=>False
def aead_shape.ann:Ann:=⟨lookN [(1,[(4,.bool)])],lookN [],lookN []⟩
theorem aead_shape.geq:∀ l,OkL (evF Tryz.prog (envOf []) Tryz.f94 aead_shape.ann) l (aead_shape.L aead_shape l):=by
 intro l; unfold aead_shape.L; split; exact .inr (by intros; kernel_rfl); exact .inl rfl
theorem aead_shape.good:FnGood Tryz.prog 94 (WL (aead_shape.L aead_shape)):=.ofL mixed .nil Tryz.func94 Tryz.call94 (aead_shape.geq)
def tree_leaves.g (F0:type_of% tree_depth) (x0:Int) (h:H) (Q:Int→H→Prop):Prop:=
M.join (α:=Bool) (fun d5 h6=>
(bif d5 then
Q 0 h6
else
M.shr0 x0 (
M.val (shl .i64 1 x0) fun z7=>
Q z7 h6))) fun J2=>
(bif (decide (x0<1)) then
J2 true h
else
F0 16 h fun n3 h4=>
J2 (decide (x0 > n3)) h4)
def tree_leaves:=tree_leaves.g tree_depth
def tree_leaves.L (F:type_of% tree_leaves):LT
 | [.int .i64 x0]=>fun Q h=>F x0 h fun n10 h11=>Q (.int .i64 n10) h11
 | _=>fun _ _=>False
def tree_leaves.ann:Ann:=⟨lookN [(1,[(9,.bool)])],lookN [],lookN []⟩
theorem tree_leaves.geq (F0):∀ l,OkL (evF Tryz.prog (envOf [(103,WL (tree_depth.L F0))]) Tryz.f99 tree_leaves.ann) l (tree_leaves.L (tree_leaves.g F0) l):=by
 intro l; unfold tree_leaves.L; split; exact .inr (by intros; kernel_rfl); exact .inl rfl
theorem tree_leaves.good:FnGood Tryz.prog 99 (WL (tree_leaves.L tree_leaves)):=.ofL mixed (.cons tree_depth.good .nil) Tryz.func99 Tryz.call99 (tree_leaves.geq tree_depth)
def tree_second (x0 x1 x2:Int) (h:H) (Q:Bool→H→Prop):Prop:=
M.val (IntKind.wrap .i64 (x1-1)) fun z2=>
M.val (IntKind.wrap .i64 (z2-x2)) fun z3=>
M.shr0 z3 (
M.val (shr .i64 x0 z3) fun z4=>
M.val (bAnd .i64 z4 1) fun z5=>
Q (z5 == 1) h)
def tree_second.L (F:type_of% tree_second):LT
 | [.int .i64 x0,.int .i64 x1,.int .i64 x2]=>fun Q h=>F x0 x1 x2 h fun b8 h9=>Q (.bool b8) h9
 | _=>fun _ _=>False
theorem tree_second.geq:∀ l,OkL (evF Tryz.prog (envOf []) Tryz.f100 an0) l (tree_second.L tree_second l):=by
 intro l; unfold tree_second.L; split; exact .inr (by intros; kernel_rfl); exact .inl rfl
theorem tree_second.good:FnGood Tryz.prog 100 (WL (tree_second.L tree_second)):=.ofL mixed .nil Tryz.func100 Tryz.call100 (tree_second.geq)
def tree_half (x0:ByteArray) (x1:Bool) (h:H) (Q:ByteArray→H→Prop):Prop:=
(bif x1 then
M.ssub x0 32 (ByteArray.size x0:Int) fun s2=>
Q s2 h
else
M.ssub x0 0 32 fun s3=>
Q s3 h)
def tree_half.L (F:type_of% tree_half):LT
 | [.string x0,.bool x1]=>fun Q h=>F x0 x1 h fun s6 h7=>Q (.string s6) h7
 | _=>fun _ _=>False
theorem tree_half.geq:∀ l,OkL (evF Tryz.prog (envOf []) Tryz.f101 an0) l (tree_half.L tree_half l):=by
 intro l; unfold tree_half.L; split; exact .inr (by intros; kernel_rfl); exact .inl rfl
theorem tree_half.good:FnGood Tryz.prog 101 (WL (tree_half.L tree_half)):=.ofL mixed .nil Tryz.func101 Tryz.call101 (tree_half.geq)
def bank_Bank_there.g (F0:type_of% bank_Bank_Disk) (x0:Option Addr) (x1:Int) (h:H) (Q:Int→H→Prop):Prop:=
(bif (Option.isNone x0) then
Q 1 h
else
F0 x0 x1 h fun p2 h3=>
(bif (Option.isNone p2) then
Q 11 h3
else
Q 0 h3))
def bank_Bank_there:=bank_Bank_there.g bank_Bank_Disk
def bank_Bank_there.L (F:type_of% bank_Bank_there):LT
 | [.pointer x0,.int .i64 x1]=>fun Q h=>F x0 x1 h fun n6 h7=>Q (.int .i64 n6) h7
 | _=>fun _ _=>False
theorem bank_Bank_there.geq (F0):∀ l,OkL (evF Tryz.prog (envOf [(22,WL (bank_Bank_Disk.L F0))]) Tryz.f108 an0) l (bank_Bank_there.L (bank_Bank_there.g F0) l):=by
 intro l; unfold bank_Bank_there.L; split; exact .inr (by intros; kernel_rfl); exact .inl rfl
theorem bank_Bank_there.good:FnGood Tryz.prog 108 (WL (bank_Bank_there.L bank_Bank_there)):=.ofL mixed (.cons bank_Bank_Disk.good .nil) Tryz.func108 Tryz.call108 (bank_Bank_there.geq bank_Bank_Disk)
def bank_Bank_Spend (x0:Option Addr) (h:H) (Q:Int→H→Prop):Prop:=
M.join (α:=Unit) (fun d21 h22=>
M.nn x0 fun a23=>
M.load h22 (Addr.add a23 1) fun v24=>
M.int .i64 v24 fun n25=>
M.val (IntKind.wrap .i64 (n25+1)) fun z26=>
M.nn x0 fun a27=>
M.put h22 (Addr.add a27 1) (.int .i64 z26) fun h28=>
Q 0 h28) fun J2=>
(bif (Option.isNone x0) then
Q 1 h
else
M.join (α:=Bool) (fun d10 h11=>
(bif d10 then
Q 21 h11
else
M.nn x0 fun a12=>
M.load h11 (Addr.add a12 2) fun v13=>
M.bool v13 fun b14=>
(bif b14 then
M.nn x0 fun a15=>
M.load h11 (Addr.add a15 3) fun v16=>
M.int .i64 v16 fun n17=>
M.val (IntKind.wrap .i64 (n17-1)) fun z18=>
M.nn x0 fun a19=>
M.put h11 (Addr.add a19 3) (.int .i64 z18) fun h20=>
J2 () h20
else
J2 () h11))) fun J3=>
M.nn x0 fun a4=>
M.load h (Addr.add a4 2) fun v5=>
M.bool v5 fun b6=>
(bif b6 then
M.nn x0 fun a7=>
M.load h (Addr.add a7 3) fun v8=>
M.int .i64 v8 fun n9=>
J3 (n9 == 0) h
else
J3 false h))
def bank_Bank_Spend.L (F:type_of% bank_Bank_Spend):LT
 | [.pointer x0]=>fun Q h=>F x0 h fun n31 h32=>Q (.int .i64 n31) h32
 | _=>fun _ _=>False
def bank_Bank_Spend.ann:Ann:=⟨lookN [(3,[(6,.bool)])],lookN [(3,[])],lookN []⟩
theorem bank_Bank_Spend.geq:∀ l,OkL (evF Tryz.prog (envOf []) Tryz.f109 bank_Bank_Spend.ann) l (bank_Bank_Spend.L bank_Bank_Spend l):=by
 intro l; unfold bank_Bank_Spend.L; split; exact .inr (by intros; kernel_rfl); exact .inl rfl
theorem bank_Bank_Spend.good:FnGood Tryz.prog 109 (WL (bank_Bank_Spend.L bank_Bank_Spend)):=.ofL mixed .nil Tryz.func109 Tryz.call109 (bank_Bank_Spend.geq)
def disk_Disk_Write.g (F0:type_of% disk_Disk_usable) (x0:Option Addr) (x1:Int) (x2:ByteArray) (h:H) (Q:Int→H→Prop):Prop:=
F0 x0 x1 h fun n2 h3=>
(bif (n2 != 0) then
Q n2 h3
else
(bif (decide ((ByteArray.size x2:Int) > 2048)) then
Q 5 h3
else
M.nn x0 fun a4=>
M.load h3 (Addr.add a4 1) fun v5=>
M.slc v5 fun a6 l7 c8=>
M.idx a6 l7 x1 fun a9 j10=>
M.put h3 (Addr.add a9 (j10*1)) (.string x2) fun h11=>
M.nn x0 fun a12=>
M.load h11 (Addr.add a12 2) fun v13=>
M.slc v13 fun a14 l15 c16=>
M.new h11 (.cells #[.int .i64 x1,.string x2] 131) fun b17 h18=>
M.cellsOf h18 (some ⟨b17,0,none⟩) (1*2) fun cs23=>
M.app h18 131 2 24 [.int .i64 0,.string ByteArray.empty] a14 l15 c16 1 cs23 fun a19 l20 c21 h22=>
M.nn x0 fun a24=>
M.put h22 (Addr.add a24 2) (.slice a19 l20 c21) fun h25=>
Q 0 h25))
def disk_Disk_Write:=disk_Disk_Write.g disk_Disk_usable
def disk_Disk_Write.L (F:type_of% disk_Disk_Write):LT
 | [.pointer x0,.int .i64 x1,.string x2]=>fun Q h=>F x0 x1 x2 h fun n28 h29=>Q (.int .i64 n28) h29
 | _=>fun _ _=>False
theorem disk_Disk_Write.geq (F0):∀ l,OkL (evF Tryz.prog (envOf [(62,WL (disk_Disk_usable.L F0))]) Tryz.f110 an0) l (disk_Disk_Write.L (disk_Disk_Write.g F0) l):=by
 intro l; unfold disk_Disk_Write.L; split; exact .inr (by intros; kernel_rfl); exact .inl rfl
theorem disk_Disk_Write.good:FnGood Tryz.prog 110 (WL (disk_Disk_Write.L disk_Disk_Write)):=.ofL mixed (.cons disk_Disk_usable.good .nil) Tryz.func110 Tryz.call110 (disk_Disk_Write.geq disk_Disk_usable)
def disk_Disk_Flush.g (F0:type_of% disk_Disk_usable) (x0:Option Addr) (h:H) (Q:Int→H→Prop):Prop:=
F0 x0 0 h fun n2 h3=>
(bif (n2 != 0) then
Q n2 h3
else
M.nn x0 fun a4=>
M.load h3 (Addr.add a4 0) fun v5=>
M.slc v5 fun a6 l7 c8=>
M.nn x0 fun a9=>
M.load h3 (Addr.add a9 1) fun v10=>
M.slc v10 fun a11 l12 c13=>
M.cellsOf h3 a11 ((min l12 l7)*1) fun cs15=>
M.copy h3 a6 cs15 fun h14=>
M.nn x0 fun a16=>
M.put h14 (Addr.add a16 2) (.slice none 0 0) fun h17=>
Q 0 h17)
def disk_Disk_Flush:=disk_Disk_Flush.g disk_Disk_usable
def disk_Disk_Flush.L (F:type_of% disk_Disk_Flush):LT
 | [.pointer x0]=>fun Q h=>F x0 h fun n20 h21=>Q (.int .i64 n20) h21
 | _=>fun _ _=>False
theorem disk_Disk_Flush.geq (F0):∀ l,OkL (evF Tryz.prog (envOf [(62,WL (disk_Disk_usable.L F0))]) Tryz.f111 an0) l (disk_Disk_Flush.L (disk_Disk_Flush.g F0) l):=by
 intro l; unfold disk_Disk_Flush.L; split; exact .inr (by intros; kernel_rfl); exact .inl rfl
theorem disk_Disk_Flush.good:FnGood Tryz.prog 111 (WL (disk_Disk_Flush.L disk_Disk_Flush)):=.ofL mixed (.cons disk_Disk_usable.good .nil) Tryz.func111 Tryz.call111 (disk_Disk_Flush.geq disk_Disk_usable)
def disk_Disk_Read.g (F0:type_of% disk_Disk_usable) (x0:Option Addr) (x1:Int) (h:H) (Q:ByteArray→Int→H→Prop):Prop:=
F0 x0 x1 h fun n3 h4=>
(bif (n3 != 0) then
Q ByteArray.empty n3 h4
else
M.nn x0 fun a5=>
M.load h4 (Addr.add a5 1) fun v6=>
M.slc v6 fun a7 l8 c9=>
M.idx a7 l8 x1 fun a10 j11=>
M.load h4 (Addr.add a10 (j11*1)) fun v12=>
M.str v12 fun s13=>
Q s13 0 h4)
def disk_Disk_Read:=disk_Disk_Read.g disk_Disk_usable
def disk_Disk_Read.L (F:type_of% disk_Disk_Read):LT
 | [.pointer x0,.int .i64 x1]=>fun Q h=>F x0 x1 h fun s17 n18 h19=>Q (.tuple #[.string s17,.int .i64 n18]) h19
 | _=>fun _ _=>False
theorem disk_Disk_Read.geq (F0):∀ l,OkL (evF Tryz.prog (envOf [(62,WL (disk_Disk_usable.L F0))]) Tryz.f112 an0) l (disk_Disk_Read.L (disk_Disk_Read.g F0) l):=by
 intro l; unfold disk_Disk_Read.L; split; exact .inr (by intros; kernel_rfl); exact .inl rfl
theorem disk_Disk_Read.good:FnGood Tryz.prog 112 (WL (disk_Disk_Read.L disk_Disk_Read)):=.ofL mixed (.cons disk_Disk_usable.good .nil) Tryz.func112 Tryz.call112 (disk_Disk_Read.geq disk_Disk_usable)
def poly_Equal (x0 x1:ByteArray) (h:H) (Q:Bool→H→Prop):Prop:=
(bif ((ByteArray.size x0:Int) != (ByteArray.size x1:Int)) then
Q false h
else
M.join (α:=Int) (fun d11 h12=>
Q (d11 == 0) h12) fun J2=>
M.loop (α:=Int × Int) (fun J3 d4 h5=>
(bif (decide (d4.2<(ByteArray.size x0:Int))) then
M.byte x0 d4.2 fun n6=>
M.byte x1 d4.2 fun n7=>
M.val (bXor .u8 n6 n7) fun z8=>
M.val (bOr .u8 d4.1 z8) fun z9=>
M.val (IntKind.wrap .i64 (d4.2+1)) fun z10=>
J3 (z9,z10) h5
else
J2 d4.1 h5)) (0,0) h)
def poly_Equal.L (F:type_of% poly_Equal):LT
 | [.string x0,.string x1]=>fun Q h=>F x0 x1 h fun b15 h16=>Q (.bool b15) h16
 | _=>fun _ _=>False
def poly_Equal.ann:Ann:=⟨lookN [],lookN [(15,[(5,.int .u8)])],lookN [(122,[(5,.int .u8),(14,.int .i64)])]⟩
theorem poly_Equal.geq:∀ l,OkL (evF Tryz.prog (envOf []) Tryz.f119 poly_Equal.ann) l (poly_Equal.L poly_Equal l):=by
 intro l; unfold poly_Equal.L; split; exact .inr (by intros; kernel_rfl); exact .inl rfl
theorem poly_Equal.good:FnGood Tryz.prog 119 (WL (poly_Equal.L poly_Equal)):=.ofL mixed .nil Tryz.func119 Tryz.call119 (poly_Equal.geq)
def words_FromBig (x0:Option Addr) (x0L x0C:Nat) (h:H) (Q:ByteArray→H→Prop):Prop:=
M.val (IntKind.wrap .i64 (4*(x0L:Int))) fun z2=>
M.mk h 5 [.int .u8 0] 1 0 z2 fun a3 l4 c5 h6=>
M.join (α:=(Option Addr × Nat × Nat)) (fun d30 h31=>
M.b2s h31 d30.1 d30.2.1 fun s32=>
Q s32 h31) fun J7=>
M.loop (α:=(Option Addr × Nat × Nat) × Int) (fun J8 d9 h10=>
(bif (decide (d9.2<(x0L:Int))) then
M.idx x0 x0L d9.2 fun a11 j12=>
M.load h10 (Addr.add a11 (j12*1)) fun v13=>
M.int .u32 v13 fun n14=>
M.shr0 24 (
M.val (shr .u32 n14 24) fun z15=>
M.val (IntKind.wrap .u8 z15) fun z16=>
M.shr0 16 (
M.val (shr .u32 n14 16) fun z17=>
M.val (IntKind.wrap .u8 z17) fun z18=>
M.shr0 8 (
M.val (shr .u32 n14 8) fun z19=>
M.val (IntKind.wrap .u8 z19) fun z20=>
M.val (IntKind.wrap .u8 n14) fun z21=>
M.new h10 (.cells #[.int .u8 z16,.int .u8 z18,.int .u8 z20,.int .u8 z21] 5) fun b22 h23=>
M.cellsOf h23 (some ⟨b22,0,none⟩) (4*1) fun cs28=>
M.app h23 5 1 1 [.int .u8 0] d9.1.1 d9.1.2.1 d9.1.2.2 4 cs28 fun a24 l25 c26 h27=>
M.val (IntKind.wrap .i64 (d9.2+1)) fun z29=>
J8 ((a24,l25,c26),z29) h27)))
else
J7 (d9.1.1,d9.1.2.1,d9.1.2.2) h10)) ((a3,l4,c5),0) h6
def words_FromBig.L (F:type_of% words_FromBig):LT
 | [.slice x0 x0L x0C]=>fun Q h=>F x0 x0L x0C h fun s35 h36=>Q (.string s35) h36
 | _=>fun _ _=>False
def words_FromBig.ann:Ann:=⟨lookN [],lookN [(7,[(3,.slc)])],lookN [(58,[(3,.slc),(12,.int .i64)])]⟩
theorem words_FromBig.geq:∀ l,OkL (evF Tryz.prog (envOf []) Tryz.f122 words_FromBig.ann) l (words_FromBig.L words_FromBig l):=by
 intro l; unfold words_FromBig.L; split; exact .inr (by intros; kernel_rfl); exact .inl rfl
theorem words_FromBig.good:FnGood Tryz.prog 122 (WL (words_FromBig.L words_FromBig)):=.ofL mixed .nil Tryz.func122 Tryz.call122 (words_FromBig.geq)
def words_Xor (x0 x1:ByteArray) (h:H) (Q:ByteArray→H→Prop):Prop:=
M.mk h 5 [.int .u8 0] 1 (mn (ByteArray.size x0:Int) (ByteArray.size x1:Int)) (mn (ByteArray.size x0:Int) (ByteArray.size x1:Int)) fun a2 l3 c4 h5=>
M.join (α:=Unit) (fun d17 h18=>
M.b2s h18 a2 l3 fun s19=>
Q s19 h18) fun J6=>
M.loop (α:=Int) (fun J7 d8 h9=>
(bif (decide (d8<(l3:Int))) then
M.byte x0 d8 fun n10=>
M.byte x1 d8 fun n11=>
M.val (bXor .u8 n10 n11) fun z12=>
M.idx a2 l3 d8 fun a13 j14=>
M.put h9 (Addr.add a13 (j14*1)) (.int .u8 z12) fun h15=>
M.val (IntKind.wrap .i64 (d8+1)) fun z16=>
J7 z16 h15
else
J6 () h9)) 0 h5
def words_Xor.L (F:type_of% words_Xor):LT
 | [.string x0,.string x1]=>fun Q h=>F x0 x1 h fun s22 h23=>Q (.string s22) h23
 | _=>fun _ _=>False
def words_Xor.ann:Ann:=⟨lookN [],lookN [(7,[])],lookN [(58,[(15,.int .i64)])]⟩
theorem words_Xor.geq:∀ l,OkL (evF Tryz.prog (envOf []) Tryz.f134 words_Xor.ann) l (words_Xor.L words_Xor l):=by
 intro l; unfold words_Xor.L; split; exact .inr (by intros; kernel_rfl); exact .inl rfl
theorem words_Xor.good:FnGood Tryz.prog 134 (WL (words_Xor.L words_Xor)):=.ofL mixed .nil Tryz.func134 Tryz.call134 (words_Xor.geq)
def ref12_Depth (x0:Int) (h:H) (Q:Int→H→Prop):Prop:=
(bif (x0 == 2) then
Q 1 h
else
(bif (x0 == 4) then
Q 2 h
else
(bif (x0 == 8) then
Q 3 h
else
(bif (x0 == 16) then
Q 4 h
else
Q 0 h))))
def chacha_shape (x0 x1:ByteArray) (h:H) (Q:Bool→H→Prop):Prop:=
M.join (α:=Bool) (fun d3 h4=>
Q d3 h4) fun J2=>
(bif ((ByteArray.size x0:Int) == 32) then
J2 ((ByteArray.size x1:Int) == 12) h
else
J2 false h)
def chacha_shape.L (F:type_of% chacha_shape):LT
 | [.string x0,.string x1]=>fun Q h=>F x0 x1 h fun b7 h8=>Q (.bool b7) h8
 | _=>fun _ _=>False
def chacha_shape.ann:Ann:=⟨lookN [(1,[(4,.bool)])],lookN [],lookN []⟩
theorem chacha_shape.geq:∀ l,OkL (evF Tryz.prog (envOf []) Tryz.f148 chacha_shape.ann) l (chacha_shape.L chacha_shape l):=by
 intro l; unfold chacha_shape.L; split; exact .inr (by intros; kernel_rfl); exact .inl rfl
theorem chacha_shape.good:FnGood Tryz.prog 148 (WL (chacha_shape.L chacha_shape)):=.ofL mixed .nil Tryz.func148 Tryz.call148 (chacha_shape.geq)
def aead_pad.g (F0:type_of% strings_Repeat) (x0:ByteArray) (h:H) (Q:ByteArray→H→Prop):Prop:=
M.nz 16 (
M.val (Int.tmod (ByteArray.size x0:Int) 16) fun z2=>
M.val (IntKind.wrap .i64 (16-z2)) fun z3=>
M.nz 16 (
M.val (Int.tmod z3 16) fun z4=>
F0 (⟨#[0]⟩:ByteArray) z4 h fun s5 h6=>
M.cat x0 s5 fun s7=>
Q s7 h6))
def aead_pad:=aead_pad.g strings_Repeat
def aead_pad.L (F:type_of% aead_pad):LT
 | [.string x0]=>fun Q h=>F x0 h fun s10 h11=>Q (.string s10) h11
 | _=>fun _ _=>False
theorem aead_pad.geq (F0):∀ l,OkL (evF Tryz.prog (envOf [(57,WL (strings_Repeat.L F0))]) Tryz.f152 an0) l (aead_pad.L (aead_pad.g F0) l):=by
 intro l; unfold aead_pad.L; split; exact .inr (by intros; kernel_rfl); exact .inl rfl
theorem aead_pad.good:FnGood Tryz.prog 152 (WL (aead_pad.L aead_pad)):=.ofL mixed (.cons strings_Repeat.good .nil) Tryz.func152 Tryz.call152 (aead_pad.geq strings_Repeat)
def math_bits_Mul64 (x0 x1:Int) (h:H) (Q:Int→Int→H→Prop):Prop:=
M.val (bAnd .u64 x0 4294967295) fun z3=>
M.shr0 32 (
M.val (shr .u64 x0 32) fun z4=>
M.val (bAnd .u64 x1 4294967295) fun z5=>
M.shr0 32 (
M.val (shr .u64 x1 32) fun z6=>
M.val (IntKind.wrap .u64 (z3*z5)) fun z7=>
M.val (IntKind.wrap .u64 (z4*z5)) fun z8=>
M.shr0 32 (
M.val (shr .u64 z7 32) fun z9=>
M.val (IntKind.wrap .u64 (z8+z9)) fun z10=>
M.val (bAnd .u64 z10 4294967295) fun z11=>
M.shr0 32 (
M.val (shr .u64 z10 32) fun z12=>
M.val (IntKind.wrap .u64 (z3*z6)) fun z13=>
M.val (IntKind.wrap .u64 (z11+z13)) fun z14=>
M.val (IntKind.wrap .u64 (z4*z6)) fun z15=>
M.val (IntKind.wrap .u64 (z15+z12)) fun z16=>
M.shr0 32 (
M.val (shr .u64 z14 32) fun z17=>
M.val (IntKind.wrap .u64 (z16+z17)) fun z18=>
M.val (IntKind.wrap .u64 (x0*x1)) fun z19=>
Q z18 z19 h)))))
def math_bits_Mul64.L (F:type_of% math_bits_Mul64):LT
 | [.int .u64 x0,.int .u64 x1]=>fun Q h=>F x0 x1 h fun n23 n24 h25=>Q (.tuple #[.int .u64 n23,.int .u64 n24]) h25
 | _=>fun _ _=>False
theorem math_bits_Mul64.geq:∀ l,OkL (evF Tryz.prog (envOf []) Tryz.f160 an0) l (math_bits_Mul64.L math_bits_Mul64 l):=by
 intro l; unfold math_bits_Mul64.L; split; exact .inr (by intros; kernel_rfl); exact .inl rfl
theorem math_bits_Mul64.good:FnGood Tryz.prog 160 (WL (math_bits_Mul64.L math_bits_Mul64)):=.ofL mixed .nil Tryz.func160 Tryz.call160 (math_bits_Mul64.geq)
def ref12_Path.g (F0:type_of% ref12_Depth) (x0 x1:Int) (h:H) (Q:Option Addr→Nat→Nat→Int→H→Prop):Prop:=
F0 x0 h fun n5 h6=>
M.join (α:=Bool) (fun d8 h9=>
(bif d8 then
Q none 0 0 2 h9
else
M.mk h9 3 [.int .i64 0] 8 n5 n5 fun a10 l11 c12 h13=>
M.val (IntKind.wrap .i64 (x0+x1)) fun z14=>
M.join (α:=Unit) (fun d25 h26=>
Q a10 l11 c12 0 h26) fun J15=>
M.val (IntKind.wrap .i64 (n5-1)) fun z16=>
M.loop (α:=Int × Int) (fun J17 d18 h19=>
(bif (decide (d18.2 ≥ 0)) then
M.nz 2 (
M.val (IntKind.wrap .i64 (Int.tdiv d18.1 2)) fun z20=>
M.idx a10 l11 d18.2 fun a21 j22=>
M.put h19 (Addr.add a21 (j22*1)) (.int .i64 z20) fun h23=>
M.val (IntKind.wrap .i64 (d18.2-1)) fun z24=>
J17 (z20,z24) h23)
else
J15 () h19)) (z14,z16) h13)) fun J7=>
(bif (n5 == 0) then
J7 true h6
else
(bif (decide (x1<0)) then
J7 true h6
else
J7 (decide (x1 ≥ x0)) h6))
def ref12_Path:=ref12_Path.g ref12_Depth
def ref12_Path.L (F:type_of% ref12_Path):LT
 | [.int .i64 x0,.int .i64 x1]=>fun Q h=>F x0 x1 h fun a32 l33 c34 n35 h36=>Q (.tuple #[.slice a32 l33 c34,.int .i64 n35]) h36
 | _=>fun _ _=>False
def ref09_Read (x0:Option Addr) (x1:Int) (h:H) (Q:ByteArray→Int→H→Prop):Prop:=
M.nn x0 fun a3=>
M.load h (Addr.add a3 2) fun v4=>
M.bool v4 fun b5=>
(bif b5 then
Q ByteArray.empty 20 h
else
M.join (α:=Bool) (fun d12 h13=>
(bif d12 then
Q ByteArray.empty 2 h13
else
M.join (α:=Unit) (fun d43 h44=>
M.nn x0 fun a45=>
M.load h44 (Addr.add a45 0) fun v46=>
M.slc v46 fun a47 l48 c49=>
M.idx a47 l48 x1 fun a50 j51=>
M.load h44 (Addr.add a50 (j51*1)) fun v52=>
M.str v52 fun s53=>
Q s53 0 h44) fun J14=>
M.nn x0 fun a15=>
M.load h13 (Addr.add a15 1) fun v16=>
M.slc v16 fun a17 l18 c19=>
M.val (IntKind.wrap .i64 ((l18:Int)-1)) fun z20=>
M.loop (α:=Int) (fun J21 d22 h23=>
(bif (decide (d22 ≥ 0)) then
M.nn x0 fun a24=>
M.load h23 (Addr.add a24 1) fun v25=>
M.slc v25 fun a26 l27 c28=>
M.idx a26 l27 d22 fun a29 j30=>
M.load h23 (Addr.add (Addr.add a29 (j30*2)) 0) fun v31=>
M.int .i64 v31 fun n32=>
(bif (n32 == x1) then
M.nn x0 fun a33=>
M.load h23 (Addr.add a33 1) fun v34=>
M.slc v34 fun a35 l36 c37=>
M.idx a35 l36 d22 fun a38 j39=>
M.load h23 (Addr.add (Addr.add a38 (j39*2)) 1) fun v40=>
M.str v40 fun s41=>
Q s41 0 h23
else
M.val (IntKind.wrap .i64 (d22-1)) fun z42=>
J21 z42 h23)
else
J14 () h23)) z20 h13)) fun J6=>
(bif (decide (x1<0)) then
J6 true h
else
M.nn x0 fun a7=>
M.load h (Addr.add a7 0) fun v8=>
M.slc v8 fun a9 l10 c11=>
J6 (decide (x1 ≥ (l10:Int))) h))
def ref13_Num (x0:Int) (h:H) (Q:ByteArray→H→Prop):Prop:=
M.new h (.cells #[.int .u8 0,.int .u8 0,.int .u8 0,.int .u8 0,.int .u8 0,.int .u8 0,.int .u8 0,.int .u8 0] 290) fun b2 h3=>
M.join (α:=Unit) (fun d14 h15=>
M.sub (some ⟨b2,0,none⟩) 8 1 0 ((8:Nat):Int) fun a16 l17 c18=>
M.b2s h15 a16 l17 fun s19=>
Q s19 h15) fun J4=>
M.loop (α:=Int × Int) (fun J5 d6 h7=>
(bif (decide (d6.2 ≥ 0)) then
M.nz 256 (
M.val (Int.tmod d6.1 256) fun z8=>
M.val (IntKind.wrap .u8 z8) fun z9=>
M.aidx 8 d6.2 fun j10=>
M.put h7 (Addr.add ⟨b2,0,none⟩ (j10*1)) (.int .u8 z9) fun h11=>
M.nz 256 (
M.val (IntKind.wrap .u64 (Int.tdiv d6.1 256)) fun z12=>
M.val (IntKind.wrap .i64 (d6.2-1)) fun z13=>
J5 (z12,z13) h11))
else
J4 () h7)) (x0,7) h3
def ref01_Text (x0:Option Addr) (x0L x0C:Nat) (x1:Bool) (h:H) (Q:ByteArray→H→Prop):Prop:=
M.join (α:=(Option Addr × Nat × Nat)) (fun d46 h47=>
M.b2s h47 d46.1 d46.2.1 fun s48=>
Q s48 h47) fun J2=>
M.loop (α:=(Option Addr × Nat × Nat) × Int) (fun J3 d4 h5=>
(bif (decide (d4.2<(x0L:Int))) then
M.join (α:=(Option Addr × Nat × Nat)) (fun d43 h44=>
M.val (IntKind.wrap .i64 (d4.2+1)) fun z45=>
J3 ((d43.1,d43.2.1,d43.2.2),z45) h44) fun J6=>
M.new h5 (.cells #[.int .u8 0,.int .u8 0,.int .u8 0,.int .u8 0] 303) fun b7 h8=>
M.idx x0 x0L d4.2 fun a9 j10=>
M.load h8 (Addr.add a9 (j10*1)) fun v11=>
M.int .u32 v11 fun n12=>
M.join (α:=Unit) (fun d27 h28=>
M.loop (α:=(Option Addr × Nat × Nat) × Int) (fun J29 d30 h31=>
(bif (decide (d30.2<4)) then
M.aidx 4 d30.2 fun j32=>
M.load h31 (Addr.add ⟨b7,0,none⟩ (j32*1)) fun v33=>
M.int .u8 v33 fun n34=>
M.new h31 (.cells #[.int .u8 n34] 5) fun b35 h36=>
M.cellsOf h36 (some ⟨b35,0,none⟩) (1*1) fun cs41=>
M.app h36 5 1 1 [.int .u8 0] d30.1.1 d30.1.2.1 d30.1.2.2 1 cs41 fun a37 l38 c39 h40=>
M.val (IntKind.wrap .i64 (d30.2+1)) fun z42=>
J29 ((a37,l38,c39),z42) h40
else
J6 (d30.1.1,d30.1.2.1,d30.1.2.2) h31)) ((d4.1.1,d4.1.2.1,d4.1.2.2),0) h28) fun J13=>
M.loop (α:=Int × Int) (fun J14 d15 h16=>
(bif (decide (d15.2<4)) then
M.join (α:=Int) (fun d19 h20=>
M.nz 256 (
M.val (Int.tmod d15.1 256) fun z21=>
M.val (IntKind.wrap .u8 z21) fun z22=>
M.aidx 4 d19 fun j23=>
M.put h20 (Addr.add ⟨b7,0,none⟩ (j23*1)) (.int .u8 z22) fun h24=>
M.nz 256 (
M.val (IntKind.wrap .u32 (Int.tdiv d15.1 256)) fun z25=>
M.val (IntKind.wrap .i64 (d15.2+1)) fun z26=>
J14 (z25,z26) h24))) fun J17=>
(bif x1 then
M.val (IntKind.wrap .i64 (3-d15.2)) fun z18=>
J17 z18 h16
else
J17 d15.2 h16)
else
J13 () h16)) (n12,0) h8
else
J2 (d4.1.1,d4.1.2.1,d4.1.2.2) h5)) ((none,0,0),0) h
def words_FromLittle (x0:Option Addr) (x0L x0C:Nat) (h:H) (Q:ByteArray→H→Prop):Prop:=
M.val (IntKind.wrap .i64 (4*(x0L:Int))) fun z2=>
M.mk h 5 [.int .u8 0] 1 0 z2 fun a3 l4 c5 h6=>
M.join (α:=(Option Addr × Nat × Nat)) (fun d30 h31=>
M.b2s h31 d30.1 d30.2.1 fun s32=>
Q s32 h31) fun J7=>
M.loop (α:=(Option Addr × Nat × Nat) × Int) (fun J8 d9 h10=>
(bif (decide (d9.2<(x0L:Int))) then
M.idx x0 x0L d9.2 fun a11 j12=>
M.load h10 (Addr.add a11 (j12*1)) fun v13=>
M.int .u32 v13 fun n14=>
M.val (IntKind.wrap .u8 n14) fun z15=>
M.shr0 8 (
M.val (shr .u32 n14 8) fun z16=>
M.val (IntKind.wrap .u8 z16) fun z17=>
M.shr0 16 (
M.val (shr .u32 n14 16) fun z18=>
M.val (IntKind.wrap .u8 z18) fun z19=>
M.shr0 24 (
M.val (shr .u32 n14 24) fun z20=>
M.val (IntKind.wrap .u8 z20) fun z21=>
M.new h10 (.cells #[.int .u8 z15,.int .u8 z17,.int .u8 z19,.int .u8 z21] 5) fun b22 h23=>
M.cellsOf h23 (some ⟨b22,0,none⟩) (4*1) fun cs28=>
M.app h23 5 1 1 [.int .u8 0] d9.1.1 d9.1.2.1 d9.1.2.2 4 cs28 fun a24 l25 c26 h27=>
M.val (IntKind.wrap .i64 (d9.2+1)) fun z29=>
J8 ((a24,l25,c26),z29) h27)))
else
J7 (d9.1.1,d9.1.2.1,d9.1.2.2) h10)) ((a3,l4,c5),0) h6
def words_FromLittle.L (F:type_of% words_FromLittle):LT
 | [.slice x0 x0L x0C]=>fun Q h=>F x0 x0L x0C h fun s35 h36=>Q (.string s35) h36
 | _=>fun _ _=>False
def words_FromLittle.ann:Ann:=⟨lookN [],lookN [(7,[(3,.slc)])],lookN [(58,[(3,.slc),(12,.int .i64)])]⟩
theorem words_FromLittle.geq:∀ l,OkL (evF Tryz.prog (envOf []) Tryz.f191 words_FromLittle.ann) l (words_FromLittle.L words_FromLittle l):=by
 intro l; unfold words_FromLittle.L; split; exact .inr (by intros; kernel_rfl); exact .inl rfl
theorem words_FromLittle.good:FnGood Tryz.prog 191 (WL (words_FromLittle.L words_FromLittle)):=.ofL mixed .nil Tryz.func191 Tryz.call191 (words_FromLittle.geq)
def poly_Clamp (x0:ByteArray) (h:H) (Q:ByteArray→Int→H→Prop):Prop:=
(bif ((ByteArray.size x0:Int) != 16) then
Q ByteArray.empty 7 h
else
M.s2b h 5 x0 fun a3 l4 c5 h6=>
M.join (α:=Unit) (fun d35 h36=>
M.b2s h36 a3 l4 fun s37=>
Q s37 0 h36) fun J7=>
M.loop (α:=Int) (fun J8 d9 h10=>
(bif (decide (d9<(l4:Int))) then
M.nz 4 (
M.val (Int.tmod d9 4) fun z11=>
(bif (z11 == 3) then
M.idx a3 l4 d9 fun a12 j13=>
M.load h10 (Addr.add a12 (j13*1)) fun v14=>
M.int .u8 v14 fun n15=>
M.val (bAnd .u8 n15 15) fun z16=>
M.idx a3 l4 d9 fun a17 j18=>
M.put h10 (Addr.add a17 (j18*1)) (.int .u8 z16) fun h19=>
M.val (IntKind.wrap .i64 (d9+1)) fun z20=>
J8 z20 h19
else
M.join (α:=Bool) (fun d23 h24=>
(bif d23 then
M.idx a3 l4 d9 fun a25 j26=>
M.load h24 (Addr.add a25 (j26*1)) fun v27=>
M.int .u8 v27 fun n28=>
M.val (bAnd .u8 n28 252) fun z29=>
M.idx a3 l4 d9 fun a30 j31=>
M.put h24 (Addr.add a30 (j31*1)) (.int .u8 z29) fun h32=>
M.val (IntKind.wrap .i64 (d9+1)) fun z33=>
J8 z33 h32
else
M.val (IntKind.wrap .i64 (d9+1)) fun z34=>
J8 z34 h24)) fun J21=>
M.nz 4 (
M.val (Int.tmod d9 4) fun z22=>
(bif (z22 == 0) then
J21 (decide (d9 > 0)) h10
else
J21 false h10))))
else
J7 () h10)) 0 h6)
def poly_Clamp.L (F:type_of% poly_Clamp):LT
 | [.string x0]=>fun Q h=>F x0 h fun s41 n42 h43=>Q (.tuple #[.string s41,.int .i64 n42]) h43
 | _=>fun _ _=>False
def poly_Clamp.ann:Ann:=⟨lookN [(9,[(26,.bool)])],lookN [(15,[])],lookN [(122,[(13,.int .i64)])]⟩
theorem poly_Clamp.geq:∀ l,OkL (evF Tryz.prog (envOf []) Tryz.f192 poly_Clamp.ann) l (poly_Clamp.L poly_Clamp l):=by
 intro l; unfold poly_Clamp.L; split; exact .inr (by intros; kernel_rfl); exact .inl rfl
theorem poly_Clamp.good:FnGood Tryz.prog 192 (WL (poly_Clamp.L poly_Clamp)):=.ofL mixed .nil Tryz.func192 Tryz.call192 (poly_Clamp.geq)
def words_Left (x0 x1:Int) (h:H) (Q:Int→H→Prop):Prop:=
M.val (IntKind.wrap .u64 x1) fun z2=>
M.nz 32 (
M.val (Int.tmod z2 32) fun z3=>
M.shr0 z3 (
M.val (shl .u32 x0 z3) fun z4=>
M.val (IntKind.wrap .u64 (32-z3)) fun z5=>
M.shr0 z5 (
M.val (shr .u32 x0 z5) fun z6=>
M.val (bOr .u32 z4 z6) fun z7=>
Q z7 h)))
def words_Left.L (F:type_of% words_Left):LT
 | [.int .u32 x0,.int .i64 x1]=>fun Q h=>F x0 x1 h fun n10 h11=>Q (.int .u32 n10) h11
 | _=>fun _ _=>False
theorem words_Left.geq:∀ l,OkL (evF Tryz.prog (envOf []) Tryz.f205 an0) l (words_Left.L words_Left l):=by
 intro l; unfold words_Left.L; split; exact .inr (by intros; kernel_rfl); exact .inl rfl
theorem words_Left.good:FnGood Tryz.prog 205 (WL (words_Left.L words_Left)):=.ofL mixed .nil Tryz.func205 Tryz.call205 (words_Left.geq)
def ref12_size (x0:Int) (h:H) (Q:Int→H→Prop):Prop:=
(bif (x0 == 1) then
Q 2 h
else
(bif (x0 == 2) then
Q 4 h
else
(bif (x0 == 3) then
Q 8 h
else
(bif (x0 == 4) then
Q 16 h
else
Q 0 h))))
def ref08_fill (x0:Option Addr) (x0L x0C:Nat) (h:H) (Q:Option Addr→Nat→Nat→H→Prop):Prop:=
M.loop (α:=(Option Addr × Nat × Nat)) (fun J4 d5 h6=>
M.nz 16 (
M.val (Int.tmod ((d5.2.1:Nat):Int) 16) fun z7=>
(bif (z7 != 0) then
M.new h6 (.cells #[.int .u8 0] 5) fun b8 h9=>
M.cellsOf h9 (some ⟨b8,0,none⟩) (1*1) fun cs14=>
M.app h9 5 1 1 [.int .u8 0] d5.1 d5.2.1 d5.2.2 1 cs14 fun a10 l11 c12 h13=>
J4 (a10,l11,c12) h13
else
Q d5.1 d5.2.1 d5.2.2 h6))) (x0,x0L,x0C) h
def ref08_size (x0:Option Addr) (x0L x0C:Nat) (x1:Int) (h:H) (Q:Option Addr→Nat→Nat→H→Prop):Prop:=
M.loop (α:=(Option Addr × Nat × Nat) × Int × Int) (fun J4 d5 h6=>
(bif (decide (d5.2.2<8)) then
M.nz 256 (
M.val (Int.tmod d5.2.1 256) fun z7=>
M.val (IntKind.wrap .u8 z7) fun z8=>
M.new h6 (.cells #[.int .u8 z8] 5) fun b9 h10=>
M.cellsOf h10 (some ⟨b9,0,none⟩) (1*1) fun cs15=>
M.app h10 5 1 1 [.int .u8 0] d5.1.1 d5.1.2.1 d5.1.2.2 1 cs15 fun a11 l12 c13 h14=>
M.nz 256 (
M.val (IntKind.wrap .i64 (Int.tdiv d5.2.1 256)) fun z16=>
M.val (IntKind.wrap .i64 (d5.2.2+1)) fun z17=>
J4 ((a11,l12,c13),z16,z17) h14))
else
Q d5.1.1 d5.1.2.1 d5.1.2.2 h6)) ((x0,x0L,x0C),x1,0) h
def ref01_Words (x0:ByteArray) (x1:Bool) (h:H) (Q:Option Addr→Nat→Nat→Int→H→Prop):Prop:=
M.nz 4 (
M.val (Int.tmod (ByteArray.size x0:Int) 4) fun z5=>
(bif (z5 != 0) then
Q none 0 0 7 h
else
M.join (α:=(Option Addr × Nat × Nat)) (fun d38 h39=>
Q d38.1 d38.2.1 d38.2.2 0 h39) fun J6=>
M.loop (α:=(Option Addr × Nat × Nat) × Int) (fun J7 d8 h9=>
(bif (decide (d8.2<(ByteArray.size x0:Int))) then
M.join (α:=(Option Addr × Nat × Nat)) (fun d35 h36=>
M.val (IntKind.wrap .i64 (d8.2+4)) fun z37=>
J7 ((d35.1,d35.2.1,d35.2.2),z37) h36) fun J10=>
M.join (α:=Int) (fun d26 h27=>
M.new h27 (.cells #[.int .u32 d26] 178) fun b28 h29=>
M.cellsOf h29 (some ⟨b28,0,none⟩) (1*1) fun cs34=>
M.app h29 178 1 4 [.int .u32 0] d8.1.1 d8.1.2.1 d8.1.2.2 1 cs34 fun a30 l31 c32 h33=>
J10 (a30,l31,c32) h33) fun J11=>
M.loop (α:=Int × Int) (fun J12 d13 h14=>
(bif (decide (d13.2<4)) then
M.val (IntKind.wrap .i64 (d8.2+3)) fun z15=>
M.val (IntKind.wrap .i64 (z15-d13.2)) fun z16=>
M.join (α:=Int) (fun d19 h20=>
M.val (IntKind.wrap .u32 (256*d13.1)) fun z21=>
M.byte x0 d19 fun n22=>
M.val (IntKind.wrap .u32 n22) fun z23=>
M.val (IntKind.wrap .u32 (z21+z23)) fun z24=>
M.val (IntKind.wrap .i64 (d13.2+1)) fun z25=>
J12 (z24,z25) h20) fun J17=>
(bif x1 then
M.val (IntKind.wrap .i64 (d8.2+d13.2)) fun z18=>
J17 z18 h14
else
J17 z16 h14)
else
J11 d13.1 h14)) (0,0) h9
else
J6 (d8.1.1,d8.1.2.1,d8.1.2.2) h9)) ((none,0,0),0) h))
def ref05_pick (x0 x1 x2:Int) (h:H) (Q:Int→H→Prop):Prop:=
M.val (bAnd .u32 x0 x1) fun z2=>
M.val (IntKind.wrap .u32 (4294967295-x0)) fun z3=>
M.val (bAnd .u32 z3 x2) fun z4=>
M.val (bXor .u32 z2 z4) fun z5=>
Q z5 h
def ref05_most (x0 x1 x2:Int) (h:H) (Q:Int→H→Prop):Prop:=
M.val (bAnd .u32 x0 x1) fun z2=>
M.val (bAnd .u32 x0 x2) fun z3=>
M.val (bXor .u32 z2 z3) fun z4=>
M.val (bAnd .u32 x1 x2) fun z5=>
M.val (bXor .u32 z4 z5) fun z6=>
Q z6 h
def words_Little_1 (x0 x1 x2 x3:Int) (h:H) (Q:Int→H→Prop):Prop:=
M.shr0 8 (
M.val (shl .u32 x1 8) fun z2=>
M.val (bOr .u32 x0 z2) fun z3=>
M.shr0 16 (
M.val (shl .u32 x2 16) fun z4=>
M.val (bOr .u32 z3 z4) fun z5=>
M.shr0 24 (
M.val (shl .u32 x3 24) fun z6=>
M.val (bOr .u32 z5 z6) fun z7=>
Q z7 h)))
def words_Little_1.L (F:type_of% words_Little_1):LT
 | [.int .u32 x0,.int .u32 x1,.int .u32 x2,.int .u32 x3]=>fun Q h=>F x0 x1 x2 x3 h fun n10 h11=>Q (.int .u32 n10) h11
 | _=>fun _ _=>False
theorem words_Little_1.geq:∀ l,OkL (evF Tryz.prog (envOf []) Tryz.f223 an0) l (words_Little_1.L words_Little_1 l):=by
 intro l; unfold words_Little_1.L; split; exact .inr (by intros; kernel_rfl); exact .inl rfl
theorem words_Little_1.good:FnGood Tryz.prog 223 (WL (words_Little_1.L words_Little_1)):=.ofL mixed .nil Tryz.func223 Tryz.call223 (words_Little_1.geq)
def chacha_Quarter.g (F0:type_of% words_Left) (x0 x1 x2 x3:Int) (h:H) (Q:Int→Int→Int→Int→H→Prop):Prop:=
M.join (α:=Int × Int × Int × Int) (fun d32 h33=>
Q d32.1 d32.2.1 d32.2.2.1 d32.2.2.2 h33) fun J5=>
M.loop (α:=Int × Int × Int × Int × Int) (fun J6 d7 h8=>
(bif (decide (d7.2.2.2.2<2)) then
M.aidx 2 d7.2.2.2.2 fun j9=>
M.at (#[.int .i64 16,.int .i64 12,.int .i64 8,.int .i64 7]:Array Value) (j9*2) fun v10=>
M.int .i64 v10 fun n11=>
M.at (#[.int .i64 16,.int .i64 12,.int .i64 8,.int .i64 7]:Array Value) (j9*2+1) fun v12=>
M.int .i64 v12 fun n13=>
M.new h8 (.cells #[.int .i64 0,.int .i64 0] 66) fun b14 h15=>
M.req (Array.size (#[.int .i64 n11,.int .i64 n13]:Array Value)=2) (M.puts h15 ⟨b14,0,none⟩ [.int .i64 n11,.int .i64 n13] fun h16=>
M.val (IntKind.wrap .u32 (d7.1+d7.2.1)) fun z17=>
M.val (bXor .u32 d7.2.2.2.1 z17) fun z18=>
M.aidx 2 0 fun j19=>
M.load h16 (Addr.add ⟨b14,0,none⟩ (j19*1)) fun v20=>
M.int .i64 v20 fun n21=>
F0 z18 n21 h16 fun n22 h23=>
M.val (IntKind.wrap .u32 (d7.2.2.1+n22)) fun z24=>
M.val (bXor .u32 d7.2.1 z24) fun z25=>
M.aidx 2 1 fun j26=>
M.load h23 (Addr.add ⟨b14,0,none⟩ (j26*1)) fun v27=>
M.int .i64 v27 fun n28=>
F0 z25 n28 h23 fun n29 h30=>
M.val (IntKind.wrap .i64 (d7.2.2.2.2+1)) fun z31=>
J6 (z17,n29,z24,n22,z31) h30)
else
J5 (d7.1,d7.2.1,d7.2.2.1,d7.2.2.2.1) h8)) (x0,x1,x2,x3,0) h
def chacha_Quarter:=chacha_Quarter.g words_Left
def chacha_Quarter.L (F:type_of% chacha_Quarter):LT
 | [.int .u32 x0,.int .u32 x1,.int .u32 x2,.int .u32 x3]=>fun Q h=>F x0 x1 x2 x3 h fun n39 n40 n41 n42 h43=>Q (.tuple #[.int .u32 n39,.int .u32 n40,.int .u32 n41,.int .u32 n42]) h43
 | _=>fun _ _=>False
def chacha_Quarter.ann:Ann:=⟨lookN [],lookN [(3,[(0,.int .u32),(1,.int .u32),(2,.int .u32),(3,.int .u32)])],lookN [(26,[(0,.int .u32),(1,.int .u32),(2,.int .u32),(3,.int .u32),(17,.int .i64)])]⟩
theorem chacha_Quarter.geq (F0):∀ l,OkL (evF Tryz.prog (envOf [(205,WL (words_Left.L F0))]) Tryz.f224 chacha_Quarter.ann) l (chacha_Quarter.L (chacha_Quarter.g F0) l):=by
 intro l; unfold chacha_Quarter.L; split; exact .inr (by intros; kernel_rfl); exact .inl rfl
theorem chacha_Quarter.good:FnGood Tryz.prog 224 (WL (chacha_Quarter.L chacha_Quarter)):=.ofL mixed (.cons words_Left.good .nil) Tryz.func224 Tryz.call224 (chacha_Quarter.geq words_Left)
def poly_limbs_carry (x0:Option Addr) (h:H) (Q:H→Prop):Prop:=
M.join (α:=Int) (fun d27 h28=>
M.nn x0 fun a29=>
M.aidx 5 0 fun j30=>
M.load h28 (Addr.add a29 (j30*1)) fun v31=>
M.int .u64 v31 fun n32=>
M.val (IntKind.wrap .u64 (d27*5)) fun z33=>
M.val (IntKind.wrap .u64 (n32+z33)) fun z34=>
M.nn x0 fun a35=>
M.aidx 5 0 fun j36=>
M.put h28 (Addr.add a35 (j36*1)) (.int .u64 z34) fun h37=>
M.nn x0 fun a38=>
M.aidx 5 1 fun j39=>
M.load h37 (Addr.add a38 (j39*1)) fun v40=>
M.int .u64 v40 fun n41=>
M.nn x0 fun a42=>
M.aidx 5 0 fun j43=>
M.load h37 (Addr.add a42 (j43*1)) fun v44=>
M.int .u64 v44 fun n45=>
M.shr0 26 (
M.val (shr .u64 n45 26) fun z46=>
M.val (IntKind.wrap .u64 (n41+z46)) fun z47=>
M.nn x0 fun a48=>
M.aidx 5 1 fun j49=>
M.put h37 (Addr.add a48 (j49*1)) (.int .u64 z47) fun h50=>
M.nn x0 fun a51=>
M.aidx 5 0 fun j52=>
M.load h50 (Addr.add a51 (j52*1)) fun v53=>
M.int .u64 v53 fun n54=>
M.val (bAnd .u64 n54 67108863) fun z55=>
M.nn x0 fun a56=>
M.aidx 5 0 fun j57=>
M.put h50 (Addr.add a56 (j57*1)) (.int .u64 z55) fun h58=>
Q h58)) fun J1=>
M.loop (α:=Int × Int) (fun J2 d3 h4=>
(bif (decide (d3.2<5)) then
M.nn x0 fun a5=>
M.aidx 5 d3.2 fun j6=>
M.load h4 (Addr.add a5 (j6*1)) fun v7=>
M.int .u64 v7 fun n8=>
M.val (IntKind.wrap .u64 (n8+d3.1)) fun z9=>
M.nn x0 fun a10=>
M.aidx 5 d3.2 fun j11=>
M.put h4 (Addr.add a10 (j11*1)) (.int .u64 z9) fun h12=>
M.nn x0 fun a13=>
M.aidx 5 d3.2 fun j14=>
M.load h12 (Addr.add a13 (j14*1)) fun v15=>
M.int .u64 v15 fun n16=>
M.shr0 26 (
M.val (shr .u64 n16 26) fun z17=>
M.nn x0 fun a18=>
M.aidx 5 d3.2 fun j19=>
M.load h12 (Addr.add a18 (j19*1)) fun v20=>
M.int .u64 v20 fun n21=>
M.val (bAnd .u64 n21 67108863) fun z22=>
M.nn x0 fun a23=>
M.aidx 5 d3.2 fun j24=>
M.put h12 (Addr.add a23 (j24*1)) (.int .u64 z22) fun h25=>
M.val (IntKind.wrap .i64 (d3.2+1)) fun z26=>
J2 (z17,z26) h25)
else
J1 d3.1 h4)) (0,0) h
def poly_limbs_carry.L (F:type_of% poly_limbs_carry):LT
 | [.pointer x0]=>fun Q h=>F x0 h fun h60=>Q (.tuple #[]) h60
 | _=>fun _ _=>False
def poly_limbs_carry.ann:Ann:=⟨lookN [],lookN [(3,[(2,.int .u64)])],lookN [(26,[(2,.int .u64),(4,.int .i64)])]⟩
theorem poly_limbs_carry.geq:∀ l,OkL (evF Tryz.prog (envOf []) Tryz.f225 poly_limbs_carry.ann) l (poly_limbs_carry.L poly_limbs_carry l):=by
 intro l; unfold poly_limbs_carry.L; split; exact .inr (by intros; kernel_rfl); exact .inl rfl
theorem poly_limbs_carry.good:FnGood Tryz.prog 225 (WL (poly_limbs_carry.L poly_limbs_carry)):=.ofL mixed .nil Tryz.func225 Tryz.call225 (poly_limbs_carry.geq)
def words_Big_1 (x0 x1 x2 x3:Int) (h:H) (Q:Int→H→Prop):Prop:=
M.shr0 24 (
M.val (shl .u32 x0 24) fun z2=>
M.shr0 16 (
M.val (shl .u32 x1 16) fun z3=>
M.val (bOr .u32 z2 z3) fun z4=>
M.shr0 8 (
M.val (shl .u32 x2 8) fun z5=>
M.val (bOr .u32 z4 z5) fun z6=>
M.val (bOr .u32 z6 x3) fun z7=>
Q z7 h)))
def words_Big_1.L (F:type_of% words_Big_1):LT
 | [.int .u32 x0,.int .u32 x1,.int .u32 x2,.int .u32 x3]=>fun Q h=>F x0 x1 x2 x3 h fun n10 h11=>Q (.int .u32 n10) h11
 | _=>fun _ _=>False
theorem words_Big_1.geq:∀ l,OkL (evF Tryz.prog (envOf []) Tryz.f237 an0) l (words_Big_1.L words_Big_1 l):=by
 intro l; unfold words_Big_1.L; split; exact .inr (by intros; kernel_rfl); exact .inl rfl
theorem words_Big_1.good:FnGood Tryz.prog 237 (WL (words_Big_1.L words_Big_1)):=.ofL mixed .nil Tryz.func237 Tryz.call237 (words_Big_1.geq)
def ref07_Clamp (x0:ByteArray) (h:H) (Q:ByteArray→Int→H→Prop):Prop:=
(bif ((ByteArray.size x0:Int) != 16) then
Q ByteArray.empty 7 h
else
M.s2b h 5 x0 fun a3 l4 c5 h6=>
M.join (α:=Unit) (fun d20 h21=>
M.join (α:=Unit) (fun d40 h41=>
M.b2s h41 a3 l4 fun s42=>
Q s42 0 h41) fun J22=>
M.loop (α:=Int) (fun J23 d24 h25=>
(bif (decide (d24<16)) then
M.idx a3 l4 d24 fun a26 j27=>
M.load h25 (Addr.add a26 (j27*1)) fun v28=>
M.int .u8 v28 fun n29=>
M.idx a3 l4 d24 fun a30 j31=>
M.load h25 (Addr.add a30 (j31*1)) fun v32=>
M.int .u8 v32 fun n33=>
M.nz 4 (
M.val (Int.tmod n33 4) fun z34=>
M.val (IntKind.wrap .u8 (n29-z34)) fun z35=>
M.idx a3 l4 d24 fun a36 j37=>
M.put h25 (Addr.add a36 (j37*1)) (.int .u8 z35) fun h38=>
M.val (IntKind.wrap .i64 (d24+4)) fun z39=>
J23 z39 h38)
else
J22 () h25)) 4 h21) fun J7=>
M.loop (α:=Int) (fun J8 d9 h10=>
(bif (decide (d9<16)) then
M.idx a3 l4 d9 fun a11 j12=>
M.load h10 (Addr.add a11 (j12*1)) fun v13=>
M.int .u8 v13 fun n14=>
M.nz 16 (
M.val (Int.tmod n14 16) fun z15=>
M.idx a3 l4 d9 fun a16 j17=>
M.put h10 (Addr.add a16 (j17*1)) (.int .u8 z15) fun h18=>
M.val (IntKind.wrap .i64 (d9+4)) fun z19=>
J8 z19 h18)
else
J7 () h10)) 3 h6)
def ref01_unlike (x0 x1:Int) (h:H) (Q:Int→H→Prop):Prop:=
M.loop (α:=Int × Int × Int × Int × Int) (fun J2 d3 h4=>
(bif (decide (d3.2.2.2.2<8)) then
M.join (α:=Int) (fun d9 h10=>
M.nz 2 (
M.val (IntKind.wrap .u8 (Int.tdiv d3.1 2)) fun z11=>
M.nz 2 (
M.val (IntKind.wrap .u8 (Int.tdiv d3.2.1 2)) fun z12=>
M.val (IntKind.wrap .u8 (2*d3.2.2.2.1)) fun z13=>
M.val (IntKind.wrap .i64 (d3.2.2.2.2+1)) fun z14=>
J2 (z11,z12,d9,z13,z14) h10))) fun J5=>
M.nz 2 (
M.val (Int.tmod d3.1 2) fun z6=>
M.nz 2 (
M.val (Int.tmod d3.2.1 2) fun z7=>
(bif (z6 != z7) then
M.val (IntKind.wrap .u8 (d3.2.2.1+d3.2.2.2.1)) fun z8=>
J5 z8 h4
else
J5 d3.2.2.1 h4)))
else
Q d3.2.2.1 h4)) (x0,x1,0,1,0) h
def ref01_unlike.L (F:type_of% ref01_unlike):LT
 | [.int .u8 x0,.int .u8 x1]=>fun Q h=>F x0 x1 h fun n17 h18=>Q (.int .u8 n17) h18
 | _=>fun _ _=>False
def ref01_unlike.ann:Ann:=⟨lookN [],lookN [(1956,[(5,.int .u8)])],lookN [(122,[(0,.int .u8),(1,.int .u8),(5,.int .u8),(6,.int .u8),(7,.int .i64)])]⟩
theorem ref01_unlike.geq:∀ l,OkL (evF Tryz.prog (envOf []) Tryz.f242 ref01_unlike.ann) l (ref01_unlike.L ref01_unlike l):=by
 intro l; unfold ref01_unlike.L; split; exact .inr (by intros; kernel_rfl); exact .inl rfl
theorem ref01_unlike.good:FnGood Tryz.prog 242 (WL (ref01_unlike.L ref01_unlike)):=.ofL mixed .nil Tryz.func242 Tryz.call242 (ref01_unlike.geq)
def ref01_Right (x0 x1:Int) (h:H) (Q:Int→H→Prop):Prop:=
M.nz 32 (
M.val (Int.tmod x1 32) fun z2=>
M.join (α:=Int) (fun d5 h6=>
M.loop (α:=Int × Int) (fun J7 d8 h9=>
(bif (decide (d8.2<d5)) then
M.nz 2 (
M.val (Int.tmod d8.1 2) fun z10=>
M.nz 2 (
M.val (IntKind.wrap .u32 (Int.tdiv d8.1 2)) fun z11=>
M.val (IntKind.wrap .u32 (z10*2147483648)) fun z12=>
M.val (IntKind.wrap .u32 (z11+z12)) fun z13=>
M.val (IntKind.wrap .i64 (d8.2+1)) fun z14=>
J7 (z13,z14) h9))
else
Q d8.1 h9)) (x0,0) h6) fun J3=>
(bif (decide (z2<0)) then
M.val (IntKind.wrap .i64 (z2+32)) fun z4=>
J3 z4 h
else
J3 z2 h))
def ref01_Left (x0 x1:Int) (h:H) (Q:Int→H→Prop):Prop:=
M.nz 32 (
M.val (Int.tmod x1 32) fun z2=>
M.join (α:=Int) (fun d5 h6=>
M.loop (α:=Int × Int) (fun J7 d8 h9=>
(bif (decide (d8.2<d5)) then
M.nz 2147483648 (
M.val (IntKind.wrap .u32 (Int.tdiv d8.1 2147483648)) fun z10=>
M.val (IntKind.wrap .u32 (d8.1*2)) fun z11=>
M.val (IntKind.wrap .u32 (z11+z10)) fun z12=>
M.val (IntKind.wrap .i64 (d8.2+1)) fun z13=>
J7 (z12,z13) h9)
else
Q d8.1 h9)) (x0,0) h6) fun J3=>
(bif (decide (z2<0)) then
M.val (IntKind.wrap .i64 (z2+32)) fun z4=>
J3 z4 h
else
J3 z2 h))
def ref07_below (x0:Array Value) (h:H) (Q:Bool→H→Prop):Prop:=
M.new h (.cells x0 323) fun b2 h3=>
M.aidx 17 16 fun j4=>
M.load h3 (Addr.add ⟨b2,0,none⟩ (j4*1)) fun v5=>
M.int .i64 v5 fun n6=>
(bif (n6 != 3) then
M.aidx 17 16 fun j7=>
M.load h3 (Addr.add ⟨b2,0,none⟩ (j7*1)) fun v8=>
M.int .i64 v8 fun n9=>
Q (decide (n9<3)) h3
else
M.join (α:=Unit) (fun d18 h19=>
M.aidx 17 0 fun j20=>
M.load h19 (Addr.add ⟨b2,0,none⟩ (j20*1)) fun v21=>
M.int .i64 v21 fun n22=>
Q (decide (n22<251)) h19) fun J10=>
M.loop (α:=Int) (fun J11 d12 h13=>
(bif (decide (d12 ≥ 1)) then
M.aidx 17 d12 fun j14=>
M.load h13 (Addr.add ⟨b2,0,none⟩ (j14*1)) fun v15=>
M.int .i64 v15 fun n16=>
(bif (n16 != 255) then
Q true h13
else
M.val (IntKind.wrap .i64 (d12-1)) fun z17=>
J11 z17 h13)
else
J10 () h13)) 15 h3)
def words_each_words_Little_1.g (F0:type_of% words_Little_1) (x0:ByteArray) (h:H) (Q:Option Addr→Nat→Nat→Int→H→Prop):Prop:=
M.nz 4 (
M.val (Int.tmod (ByteArray.size x0:Int) 4) fun z5=>
(bif (z5 != 0) then
Q none 0 0 7 h
else
M.nz 4 (
M.val (IntKind.wrap .i64 (Int.tdiv (ByteArray.size x0:Int) 4)) fun z6=>
M.mk h 178 [.int .u32 0] 4 z6 z6 fun a7 l8 c9 h10=>
M.join (α:=Unit) (fun d214 h215=>
Q a7 l8 c9 0 h215) fun J11=>
M.loop (α:=Int) (fun J12 d13 h14=>
(bif (decide (d13<(l8:Int))) then
M.join (α:=Unit) (fun d211 h212=>
M.val (IntKind.wrap .i64 (d13+1)) fun z213=>
J12 z213 h212) fun J15=>
M.val (IntKind.wrap .i64 (4*d13)) fun z16=>
M.byte x0 z16 fun n17=>
M.val (IntKind.wrap .i64 (4*d13)) fun z18=>
M.val (IntKind.wrap .i64 (z18+1)) fun z19=>
M.byte x0 z19 fun n20=>
M.val (IntKind.wrap .i64 (4*d13)) fun z21=>
M.val (IntKind.wrap .i64 (z21+2)) fun z22=>
M.byte x0 z22 fun n23=>
M.val (IntKind.wrap .i64 (4*d13)) fun z24=>
M.val (IntKind.wrap .i64 (z24+3)) fun z25=>
M.byte x0 z25 fun n26=>
(M.val (IntKind.wrap .u32 n17) fun z27=>
(M.val (IntKind.wrap .u32 n20) fun z28=>
(M.val (IntKind.wrap .u32 n23) fun z29=>
M.val (IntKind.wrap .u32 n26) fun z30=>
F0 z27 z28 z29 z30 h14 fun n31 h32=>
M.idx a7 l8 d13 fun a33 j34=>
M.put h32 (Addr.add a33 (j34*1)) (.int .u32 n31) fun h35=>
J15 () h35) ∧
(M.val (IntKind.wrap .u32 n26) fun z36=>
M.val (IntKind.wrap .u32 n23) fun z37=>
F0 z27 z28 z37 z36 h14 fun n38 h39=>
M.idx a7 l8 d13 fun a40 j41=>
M.put h39 (Addr.add a40 (j41*1)) (.int .u32 n38) fun h42=>
J15 () h42)) ∧
(M.val (IntKind.wrap .u32 n23) fun z43=>
(M.val (IntKind.wrap .u32 n20) fun z44=>
M.val (IntKind.wrap .u32 n26) fun z45=>
F0 z27 z44 z43 z45 h14 fun n46 h47=>
M.idx a7 l8 d13 fun a48 j49=>
M.put h47 (Addr.add a48 (j49*1)) (.int .u32 n46) fun h50=>
J15 () h50) ∧
(M.val (IntKind.wrap .u32 n26) fun z51=>
M.val (IntKind.wrap .u32 n20) fun z52=>
F0 z27 z52 z43 z51 h14 fun n53 h54=>
M.idx a7 l8 d13 fun a55 j56=>
M.put h54 (Addr.add a55 (j56*1)) (.int .u32 n53) fun h57=>
J15 () h57)) ∧
(M.val (IntKind.wrap .u32 n26) fun z58=>
(M.val (IntKind.wrap .u32 n20) fun z59=>
M.val (IntKind.wrap .u32 n23) fun z60=>
F0 z27 z59 z60 z58 h14 fun n61 h62=>
M.idx a7 l8 d13 fun a63 j64=>
M.put h62 (Addr.add a63 (j64*1)) (.int .u32 n61) fun h65=>
J15 () h65) ∧
(M.val (IntKind.wrap .u32 n23) fun z66=>
M.val (IntKind.wrap .u32 n20) fun z67=>
F0 z27 z67 z66 z58 h14 fun n68 h69=>
M.idx a7 l8 d13 fun a70 j71=>
M.put h69 (Addr.add a70 (j71*1)) (.int .u32 n68) fun h72=>
J15 () h72))) ∧
(M.val (IntKind.wrap .u32 n20) fun z73=>
(M.val (IntKind.wrap .u32 n17) fun z74=>
(M.val (IntKind.wrap .u32 n23) fun z75=>
M.val (IntKind.wrap .u32 n26) fun z76=>
F0 z74 z73 z75 z76 h14 fun n77 h78=>
M.idx a7 l8 d13 fun a79 j80=>
M.put h78 (Addr.add a79 (j80*1)) (.int .u32 n77) fun h81=>
J15 () h81) ∧
(M.val (IntKind.wrap .u32 n26) fun z82=>
M.val (IntKind.wrap .u32 n23) fun z83=>
F0 z74 z73 z83 z82 h14 fun n84 h85=>
M.idx a7 l8 d13 fun a86 j87=>
M.put h85 (Addr.add a86 (j87*1)) (.int .u32 n84) fun h88=>
J15 () h88)) ∧
(M.val (IntKind.wrap .u32 n23) fun z89=>
(M.val (IntKind.wrap .u32 n17) fun z90=>
M.val (IntKind.wrap .u32 n26) fun z91=>
F0 z90 z73 z89 z91 h14 fun n92 h93=>
M.idx a7 l8 d13 fun a94 j95=>
M.put h93 (Addr.add a94 (j95*1)) (.int .u32 n92) fun h96=>
J15 () h96) ∧
(M.val (IntKind.wrap .u32 n26) fun z97=>
M.val (IntKind.wrap .u32 n17) fun z98=>
F0 z98 z73 z89 z97 h14 fun n99 h100=>
M.idx a7 l8 d13 fun a101 j102=>
M.put h100 (Addr.add a101 (j102*1)) (.int .u32 n99) fun h103=>
J15 () h103)) ∧
(M.val (IntKind.wrap .u32 n26) fun z104=>
(M.val (IntKind.wrap .u32 n17) fun z105=>
M.val (IntKind.wrap .u32 n23) fun z106=>
F0 z105 z73 z106 z104 h14 fun n107 h108=>
M.idx a7 l8 d13 fun a109 j110=>
M.put h108 (Addr.add a109 (j110*1)) (.int .u32 n107) fun h111=>
J15 () h111) ∧
(M.val (IntKind.wrap .u32 n23) fun z112=>
M.val (IntKind.wrap .u32 n17) fun z113=>
F0 z113 z73 z112 z104 h14 fun n114 h115=>
M.idx a7 l8 d13 fun a116 j117=>
M.put h115 (Addr.add a116 (j117*1)) (.int .u32 n114) fun h118=>
J15 () h118))) ∧
(M.val (IntKind.wrap .u32 n23) fun z119=>
(M.val (IntKind.wrap .u32 n17) fun z120=>
(M.val (IntKind.wrap .u32 n20) fun z121=>
M.val (IntKind.wrap .u32 n26) fun z122=>
F0 z120 z121 z119 z122 h14 fun n123 h124=>
M.idx a7 l8 d13 fun a125 j126=>
M.put h124 (Addr.add a125 (j126*1)) (.int .u32 n123) fun h127=>
J15 () h127) ∧
(M.val (IntKind.wrap .u32 n26) fun z128=>
M.val (IntKind.wrap .u32 n20) fun z129=>
F0 z120 z129 z119 z128 h14 fun n130 h131=>
M.idx a7 l8 d13 fun a132 j133=>
M.put h131 (Addr.add a132 (j133*1)) (.int .u32 n130) fun h134=>
J15 () h134)) ∧
(M.val (IntKind.wrap .u32 n20) fun z135=>
(M.val (IntKind.wrap .u32 n17) fun z136=>
M.val (IntKind.wrap .u32 n26) fun z137=>
F0 z136 z135 z119 z137 h14 fun n138 h139=>
M.idx a7 l8 d13 fun a140 j141=>
M.put h139 (Addr.add a140 (j141*1)) (.int .u32 n138) fun h142=>
J15 () h142) ∧
(M.val (IntKind.wrap .u32 n26) fun z143=>
M.val (IntKind.wrap .u32 n17) fun z144=>
F0 z144 z135 z119 z143 h14 fun n145 h146=>
M.idx a7 l8 d13 fun a147 j148=>
M.put h146 (Addr.add a147 (j148*1)) (.int .u32 n145) fun h149=>
J15 () h149)) ∧
(M.val (IntKind.wrap .u32 n26) fun z150=>
(M.val (IntKind.wrap .u32 n17) fun z151=>
M.val (IntKind.wrap .u32 n20) fun z152=>
F0 z151 z152 z119 z150 h14 fun n153 h154=>
M.idx a7 l8 d13 fun a155 j156=>
M.put h154 (Addr.add a155 (j156*1)) (.int .u32 n153) fun h157=>
J15 () h157) ∧
(M.val (IntKind.wrap .u32 n20) fun z158=>
M.val (IntKind.wrap .u32 n17) fun z159=>
F0 z159 z158 z119 z150 h14 fun n160 h161=>
M.idx a7 l8 d13 fun a162 j163=>
M.put h161 (Addr.add a162 (j163*1)) (.int .u32 n160) fun h164=>
J15 () h164))) ∧
(M.val (IntKind.wrap .u32 n26) fun z165=>
(M.val (IntKind.wrap .u32 n17) fun z166=>
(M.val (IntKind.wrap .u32 n20) fun z167=>
M.val (IntKind.wrap .u32 n23) fun z168=>
F0 z166 z167 z168 z165 h14 fun n169 h170=>
M.idx a7 l8 d13 fun a171 j172=>
M.put h170 (Addr.add a171 (j172*1)) (.int .u32 n169) fun h173=>
J15 () h173) ∧
(M.val (IntKind.wrap .u32 n23) fun z174=>
M.val (IntKind.wrap .u32 n20) fun z175=>
F0 z166 z175 z174 z165 h14 fun n176 h177=>
M.idx a7 l8 d13 fun a178 j179=>
M.put h177 (Addr.add a178 (j179*1)) (.int .u32 n176) fun h180=>
J15 () h180)) ∧
(M.val (IntKind.wrap .u32 n20) fun z181=>
(M.val (IntKind.wrap .u32 n17) fun z182=>
M.val (IntKind.wrap .u32 n23) fun z183=>
F0 z182 z181 z183 z165 h14 fun n184 h185=>
M.idx a7 l8 d13 fun a186 j187=>
M.put h185 (Addr.add a186 (j187*1)) (.int .u32 n184) fun h188=>
J15 () h188) ∧
(M.val (IntKind.wrap .u32 n23) fun z189=>
M.val (IntKind.wrap .u32 n17) fun z190=>
F0 z190 z181 z189 z165 h14 fun n191 h192=>
M.idx a7 l8 d13 fun a193 j194=>
M.put h192 (Addr.add a193 (j194*1)) (.int .u32 n191) fun h195=>
J15 () h195)) ∧
(M.val (IntKind.wrap .u32 n23) fun z196=>
(M.val (IntKind.wrap .u32 n17) fun z197=>
M.val (IntKind.wrap .u32 n20) fun z198=>
F0 z197 z198 z196 z165 h14 fun n199 h200=>
M.idx a7 l8 d13 fun a201 j202=>
M.put h200 (Addr.add a201 (j202*1)) (.int .u32 n199) fun h203=>
J15 () h203) ∧
(M.val (IntKind.wrap .u32 n20) fun z204=>
M.val (IntKind.wrap .u32 n17) fun z205=>
F0 z205 z204 z196 z165 h14 fun n206 h207=>
M.idx a7 l8 d13 fun a208 j209=>
M.put h207 (Addr.add a208 (j209*1)) (.int .u32 n206) fun h210=>
J15 () h210)))
else
J11 () h14)) 0 h10)))
def words_each_words_Little_1:=words_each_words_Little_1.g words_Little_1
def words_each_words_Little_1.L (F:type_of% words_each_words_Little_1):LT
 | [.string x0,.func (.func 223) ⟨[]⟩ ⟨[]⟩]=>fun Q h=>F x0 h fun a221 l222 c223 n224 h225=>Q (.tuple #[.slice a221 l222 c223,.int .i64 n224]) h225
 | _=>fun _ _=>False
def words_each_words_Little_1.ann:Ann:=⟨lookN [(7,[])],lookN [(15,[])],lookN [(122,[(18,.int .i64)])]⟩
theorem words_each_words_Little_1.geq (F0):∀ l,OkL (evF Tryz.prog (envOf [(223,WL (words_Little_1.L F0))]) Tryz.f222 words_each_words_Little_1.ann) l (words_each_words_Little_1.L (words_each_words_Little_1.g F0) l):=by
 intro l; unfold words_each_words_Little_1.L; split; exact .inr (by intros; kernel_rfl); exact .inl rfl
theorem words_each_words_Little_1.good:FnGood Tryz.prog 222 (WL (words_each_words_Little_1.L words_each_words_Little_1)):=.ofL mixed (.cons words_Little_1.good .nil) Tryz.func222 Tryz.call222 (words_each_words_Little_1.geq words_Little_1)
def words_each_words_Big_1.g (F0:type_of% words_Big_1) (x0:ByteArray) (h:H) (Q:Option Addr→Nat→Nat→Int→H→Prop):Prop:=
M.nz 4 (
M.val (Int.tmod (ByteArray.size x0:Int) 4) fun z5=>
(bif (z5 != 0) then
Q none 0 0 7 h
else
M.nz 4 (
M.val (IntKind.wrap .i64 (Int.tdiv (ByteArray.size x0:Int) 4)) fun z6=>
M.mk h 178 [.int .u32 0] 4 z6 z6 fun a7 l8 c9 h10=>
M.join (α:=Unit) (fun d214 h215=>
Q a7 l8 c9 0 h215) fun J11=>
M.loop (α:=Int) (fun J12 d13 h14=>
(bif (decide (d13<(l8:Int))) then
M.join (α:=Unit) (fun d211 h212=>
M.val (IntKind.wrap .i64 (d13+1)) fun z213=>
J12 z213 h212) fun J15=>
M.val (IntKind.wrap .i64 (4*d13)) fun z16=>
M.byte x0 z16 fun n17=>
M.val (IntKind.wrap .i64 (4*d13)) fun z18=>
M.val (IntKind.wrap .i64 (z18+1)) fun z19=>
M.byte x0 z19 fun n20=>
M.val (IntKind.wrap .i64 (4*d13)) fun z21=>
M.val (IntKind.wrap .i64 (z21+2)) fun z22=>
M.byte x0 z22 fun n23=>
M.val (IntKind.wrap .i64 (4*d13)) fun z24=>
M.val (IntKind.wrap .i64 (z24+3)) fun z25=>
M.byte x0 z25 fun n26=>
(M.val (IntKind.wrap .u32 n17) fun z27=>
(M.val (IntKind.wrap .u32 n20) fun z28=>
(M.val (IntKind.wrap .u32 n23) fun z29=>
M.val (IntKind.wrap .u32 n26) fun z30=>
F0 z27 z28 z29 z30 h14 fun n31 h32=>
M.idx a7 l8 d13 fun a33 j34=>
M.put h32 (Addr.add a33 (j34*1)) (.int .u32 n31) fun h35=>
J15 () h35) ∧
(M.val (IntKind.wrap .u32 n26) fun z36=>
M.val (IntKind.wrap .u32 n23) fun z37=>
F0 z27 z28 z37 z36 h14 fun n38 h39=>
M.idx a7 l8 d13 fun a40 j41=>
M.put h39 (Addr.add a40 (j41*1)) (.int .u32 n38) fun h42=>
J15 () h42)) ∧
(M.val (IntKind.wrap .u32 n23) fun z43=>
(M.val (IntKind.wrap .u32 n20) fun z44=>
M.val (IntKind.wrap .u32 n26) fun z45=>
F0 z27 z44 z43 z45 h14 fun n46 h47=>
M.idx a7 l8 d13 fun a48 j49=>
M.put h47 (Addr.add a48 (j49*1)) (.int .u32 n46) fun h50=>
J15 () h50) ∧
(M.val (IntKind.wrap .u32 n26) fun z51=>
M.val (IntKind.wrap .u32 n20) fun z52=>
F0 z27 z52 z43 z51 h14 fun n53 h54=>
M.idx a7 l8 d13 fun a55 j56=>
M.put h54 (Addr.add a55 (j56*1)) (.int .u32 n53) fun h57=>
J15 () h57)) ∧
(M.val (IntKind.wrap .u32 n26) fun z58=>
(M.val (IntKind.wrap .u32 n20) fun z59=>
M.val (IntKind.wrap .u32 n23) fun z60=>
F0 z27 z59 z60 z58 h14 fun n61 h62=>
M.idx a7 l8 d13 fun a63 j64=>
M.put h62 (Addr.add a63 (j64*1)) (.int .u32 n61) fun h65=>
J15 () h65) ∧
(M.val (IntKind.wrap .u32 n23) fun z66=>
M.val (IntKind.wrap .u32 n20) fun z67=>
F0 z27 z67 z66 z58 h14 fun n68 h69=>
M.idx a7 l8 d13 fun a70 j71=>
M.put h69 (Addr.add a70 (j71*1)) (.int .u32 n68) fun h72=>
J15 () h72))) ∧
(M.val (IntKind.wrap .u32 n20) fun z73=>
(M.val (IntKind.wrap .u32 n17) fun z74=>
(M.val (IntKind.wrap .u32 n23) fun z75=>
M.val (IntKind.wrap .u32 n26) fun z76=>
F0 z74 z73 z75 z76 h14 fun n77 h78=>
M.idx a7 l8 d13 fun a79 j80=>
M.put h78 (Addr.add a79 (j80*1)) (.int .u32 n77) fun h81=>
J15 () h81) ∧
(M.val (IntKind.wrap .u32 n26) fun z82=>
M.val (IntKind.wrap .u32 n23) fun z83=>
F0 z74 z73 z83 z82 h14 fun n84 h85=>
M.idx a7 l8 d13 fun a86 j87=>
M.put h85 (Addr.add a86 (j87*1)) (.int .u32 n84) fun h88=>
J15 () h88)) ∧
(M.val (IntKind.wrap .u32 n23) fun z89=>
(M.val (IntKind.wrap .u32 n17) fun z90=>
M.val (IntKind.wrap .u32 n26) fun z91=>
F0 z90 z73 z89 z91 h14 fun n92 h93=>
M.idx a7 l8 d13 fun a94 j95=>
M.put h93 (Addr.add a94 (j95*1)) (.int .u32 n92) fun h96=>
J15 () h96) ∧
(M.val (IntKind.wrap .u32 n26) fun z97=>
M.val (IntKind.wrap .u32 n17) fun z98=>
F0 z98 z73 z89 z97 h14 fun n99 h100=>
M.idx a7 l8 d13 fun a101 j102=>
M.put h100 (Addr.add a101 (j102*1)) (.int .u32 n99) fun h103=>
J15 () h103)) ∧
(M.val (IntKind.wrap .u32 n26) fun z104=>
(M.val (IntKind.wrap .u32 n17) fun z105=>
M.val (IntKind.wrap .u32 n23) fun z106=>
F0 z105 z73 z106 z104 h14 fun n107 h108=>
M.idx a7 l8 d13 fun a109 j110=>
M.put h108 (Addr.add a109 (j110*1)) (.int .u32 n107) fun h111=>
J15 () h111) ∧
(M.val (IntKind.wrap .u32 n23) fun z112=>
M.val (IntKind.wrap .u32 n17) fun z113=>
F0 z113 z73 z112 z104 h14 fun n114 h115=>
M.idx a7 l8 d13 fun a116 j117=>
M.put h115 (Addr.add a116 (j117*1)) (.int .u32 n114) fun h118=>
J15 () h118))) ∧
(M.val (IntKind.wrap .u32 n23) fun z119=>
(M.val (IntKind.wrap .u32 n17) fun z120=>
(M.val (IntKind.wrap .u32 n20) fun z121=>
M.val (IntKind.wrap .u32 n26) fun z122=>
F0 z120 z121 z119 z122 h14 fun n123 h124=>
M.idx a7 l8 d13 fun a125 j126=>
M.put h124 (Addr.add a125 (j126*1)) (.int .u32 n123) fun h127=>
J15 () h127) ∧
(M.val (IntKind.wrap .u32 n26) fun z128=>
M.val (IntKind.wrap .u32 n20) fun z129=>
F0 z120 z129 z119 z128 h14 fun n130 h131=>
M.idx a7 l8 d13 fun a132 j133=>
M.put h131 (Addr.add a132 (j133*1)) (.int .u32 n130) fun h134=>
J15 () h134)) ∧
(M.val (IntKind.wrap .u32 n20) fun z135=>
(M.val (IntKind.wrap .u32 n17) fun z136=>
M.val (IntKind.wrap .u32 n26) fun z137=>
F0 z136 z135 z119 z137 h14 fun n138 h139=>
M.idx a7 l8 d13 fun a140 j141=>
M.put h139 (Addr.add a140 (j141*1)) (.int .u32 n138) fun h142=>
J15 () h142) ∧
(M.val (IntKind.wrap .u32 n26) fun z143=>
M.val (IntKind.wrap .u32 n17) fun z144=>
F0 z144 z135 z119 z143 h14 fun n145 h146=>
M.idx a7 l8 d13 fun a147 j148=>
M.put h146 (Addr.add a147 (j148*1)) (.int .u32 n145) fun h149=>
J15 () h149)) ∧
(M.val (IntKind.wrap .u32 n26) fun z150=>
(M.val (IntKind.wrap .u32 n17) fun z151=>
M.val (IntKind.wrap .u32 n20) fun z152=>
F0 z151 z152 z119 z150 h14 fun n153 h154=>
M.idx a7 l8 d13 fun a155 j156=>
M.put h154 (Addr.add a155 (j156*1)) (.int .u32 n153) fun h157=>
J15 () h157) ∧
(M.val (IntKind.wrap .u32 n20) fun z158=>
M.val (IntKind.wrap .u32 n17) fun z159=>
F0 z159 z158 z119 z150 h14 fun n160 h161=>
M.idx a7 l8 d13 fun a162 j163=>
M.put h161 (Addr.add a162 (j163*1)) (.int .u32 n160) fun h164=>
J15 () h164))) ∧
(M.val (IntKind.wrap .u32 n26) fun z165=>
(M.val (IntKind.wrap .u32 n17) fun z166=>
(M.val (IntKind.wrap .u32 n20) fun z167=>
M.val (IntKind.wrap .u32 n23) fun z168=>
F0 z166 z167 z168 z165 h14 fun n169 h170=>
M.idx a7 l8 d13 fun a171 j172=>
M.put h170 (Addr.add a171 (j172*1)) (.int .u32 n169) fun h173=>
J15 () h173) ∧
(M.val (IntKind.wrap .u32 n23) fun z174=>
M.val (IntKind.wrap .u32 n20) fun z175=>
F0 z166 z175 z174 z165 h14 fun n176 h177=>
M.idx a7 l8 d13 fun a178 j179=>
M.put h177 (Addr.add a178 (j179*1)) (.int .u32 n176) fun h180=>
J15 () h180)) ∧
(M.val (IntKind.wrap .u32 n20) fun z181=>
(M.val (IntKind.wrap .u32 n17) fun z182=>
M.val (IntKind.wrap .u32 n23) fun z183=>
F0 z182 z181 z183 z165 h14 fun n184 h185=>
M.idx a7 l8 d13 fun a186 j187=>
M.put h185 (Addr.add a186 (j187*1)) (.int .u32 n184) fun h188=>
J15 () h188) ∧
(M.val (IntKind.wrap .u32 n23) fun z189=>
M.val (IntKind.wrap .u32 n17) fun z190=>
F0 z190 z181 z189 z165 h14 fun n191 h192=>
M.idx a7 l8 d13 fun a193 j194=>
M.put h192 (Addr.add a193 (j194*1)) (.int .u32 n191) fun h195=>
J15 () h195)) ∧
(M.val (IntKind.wrap .u32 n23) fun z196=>
(M.val (IntKind.wrap .u32 n17) fun z197=>
M.val (IntKind.wrap .u32 n20) fun z198=>
F0 z197 z198 z196 z165 h14 fun n199 h200=>
M.idx a7 l8 d13 fun a201 j202=>
M.put h200 (Addr.add a201 (j202*1)) (.int .u32 n199) fun h203=>
J15 () h203) ∧
(M.val (IntKind.wrap .u32 n20) fun z204=>
M.val (IntKind.wrap .u32 n17) fun z205=>
F0 z205 z204 z196 z165 h14 fun n206 h207=>
M.idx a7 l8 d13 fun a208 j209=>
M.put h207 (Addr.add a208 (j209*1)) (.int .u32 n206) fun h210=>
J15 () h210)))
else
J11 () h14)) 0 h10)))
def words_each_words_Big_1:=words_each_words_Big_1.g words_Big_1
def words_each_words_Big_1.L (F:type_of% words_each_words_Big_1):LT
 | [.string x0,.func (.func 237) ⟨[]⟩ ⟨[]⟩]=>fun Q h=>F x0 h fun a221 l222 c223 n224 h225=>Q (.tuple #[.slice a221 l222 c223,.int .i64 n224]) h225
 | _=>fun _ _=>False
def words_each_words_Big_1.ann:Ann:=⟨lookN [(7,[])],lookN [(15,[])],lookN [(122,[(18,.int .i64)])]⟩
theorem words_each_words_Big_1.geq (F0):∀ l,OkL (evF Tryz.prog (envOf [(237,WL (words_Big_1.L F0))]) Tryz.f222 words_each_words_Big_1.ann) l (words_each_words_Big_1.L (words_each_words_Big_1.g F0) l):=by
 intro l; unfold words_each_words_Big_1.L; split; exact .inr (by intros; kernel_rfl); exact .inl rfl
theorem words_each_words_Big_1.good:FnGood Tryz.prog 222 (WL (words_each_words_Big_1.L words_each_words_Big_1)):=.ofL mixed (.cons words_Big_1.good .nil) Tryz.func222 Tryz.call222 (words_each_words_Big_1.geq words_Big_1)
def bank_New.g (F0:type_of% disk_New) (x0 x1:Int) (h:H) (Q:Option Addr→H→Prop):Prop:=
M.new h (.cells #[.slice none 0 0,.int .i64 0,.bool false,.int .i64 0] 122) fun b2 h3=>
M.loop (α:=Int) (fun J4 d5 h6=>
(bif (decide (d5<(mx 1 (mn x0 12)))) then
M.nn (some ⟨b2,0,none⟩) fun a7=>
M.load h6 (Addr.add a7 0) fun v8=>
M.slc v8 fun a9 l10 c11=>
F0 x1 h6 fun p12 h13=>
M.still h6 (Addr.add a7 0) 1 h13 (
M.new h13 (.cells #[.pointer p12] 59) fun b14 h15=>
M.still h6 (Addr.add a7 0) 1 h15 (
M.cellsOf h15 (some ⟨b14,0,none⟩) (1*1) fun cs20=>
M.app h15 59 1 8 [.pointer none] a9 l10 c11 1 cs20 fun a16 l17 c18 h19=>
M.nn (some ⟨b2,0,none⟩) fun a21=>
M.put h19 (Addr.add a21 0) (.slice a16 l17 c18) fun h22=>
M.val (IntKind.wrap .i64 (d5+1)) fun z23=>
J4 z23 h22))
else
Q (some ⟨b2,0,none⟩) h6)) 0 h3
def bank_New:=bank_New.g disk_New
def bank_New.L (F:type_of% bank_New):LT
 | [.int .i64 x0,.int .i64 x1]=>fun Q h=>F x0 x1 h fun p26 h27=>Q (.pointer p26) h27
 | _=>fun _ _=>False
def bank_New.ann:Ann:=⟨lookN [],lookN [],lookN [(58,[(11,.int .i64)])]⟩
theorem bank_New.geq (F0):∀ l,OkL (evF Tryz.prog (envOf [(59,WL (disk_New.L F0))]) Tryz.f19 bank_New.ann) l (bank_New.L (bank_New.g F0) l):=by
 intro l; unfold bank_New.L; split; exact .inr (by intros; kernel_rfl); exact .inl rfl
theorem bank_New.good:FnGood Tryz.prog 19 (WL (bank_New.L bank_New)):=.ofL mixed (.cons disk_New.good .nil) Tryz.func19 Tryz.call19 (bank_New.geq disk_New)
def disk_Disk_Image.g (F0:type_of% disk_Disk_usable) (F1:type_of% slices_Clonestring_string) (x0:Option Addr) (h:H) (Q:Option Addr→Nat→Nat→H→Prop):Prop:=
F0 x0 0 h fun n4 h5=>
(bif (n4 != 0) then
Q none 0 0 h5
else
M.nn x0 fun a6=>
M.load h5 (Addr.add a6 1) fun v7=>
M.slc v7 fun a8 l9 c10=>
F1 a8 l9 c10 h5 fun a11 l12 c13 h14=>
Q a11 l12 c13 h14)
def disk_Disk_Image:=disk_Disk_Image.g disk_Disk_usable slices_Clonestring_string
def disk_Disk_Image.L (F:type_of% disk_Disk_Image):LT
 | [.pointer x0]=>fun Q h=>F x0 h fun a19 l20 c21 h22=>Q (.slice a19 l20 c21) h22
 | _=>fun _ _=>False
theorem disk_Disk_Image.geq (F0) (F1):∀ l,OkL (evF Tryz.prog (envOf [(62,WL (disk_Disk_usable.L F0)),(63,WL (slices_Clonestring_string.L F1))]) Tryz.f24 an0) l (disk_Disk_Image.L (disk_Disk_Image.g F0 F1) l):=by
 intro l; unfold disk_Disk_Image.L; split; exact .inr (by intros; kernel_rfl); exact .inl rfl
theorem disk_Disk_Image.good:FnGood Tryz.prog 24 (WL (disk_Disk_Image.L disk_Disk_Image)):=.ofL mixed (.cons disk_Disk_usable.good (.cons slices_Clonestring_string.good .nil)) Tryz.func24 Tryz.call24 (disk_Disk_Image.geq disk_Disk_usable slices_Clonestring_string)
def ref10_New.g (F0:type_of% ref09_New) (x0 x1:Int) (h:H) (Q:Option Addr→H→Prop):Prop:=
M.join (α:=Int) (fun d3 h4=>
M.join (α:=Int) (fun d6 h7=>
M.new h7 (.cells #[.slice none 0 0,.int .i64 0,(.int .i64 (-1))] 145) fun b8 h9=>
M.loop (α:=Int) (fun J10 d11 h12=>
(bif (decide (d11<d6)) then
F0 x1 h12 fun p13 h14=>
M.nn (some ⟨b8,0,none⟩) fun a15=>
M.load h14 (Addr.add a15 0) fun v16=>
M.slc v16 fun a17 l18 c19=>
M.new h14 (.cells #[.pointer p13] 142) fun b20 h21=>
M.cellsOf h21 (some ⟨b20,0,none⟩) (1*1) fun cs26=>
M.app h21 142 1 8 [.pointer none] a17 l18 c19 1 cs26 fun a22 l23 c24 h25=>
M.nn (some ⟨b8,0,none⟩) fun a27=>
M.put h25 (Addr.add a27 0) (.slice a22 l23 c24) fun h28=>
M.val (IntKind.wrap .i64 (d11+1)) fun z29=>
J10 z29 h28
else
Q (some ⟨b8,0,none⟩) h12)) 0 h9) fun J5=>
(bif (decide (d3 > 12)) then
J5 12 h4
else
J5 d3 h4)) fun J2=>
(bif (decide (x0<1)) then
J2 1 h
else
J2 x0 h)
def ref10_New:=ref10_New.g ref09_New
def ref10_New.L (F:type_of% ref10_New):LT
 | [.int .i64 x0,.int .i64 x1]=>fun Q h=>F x0 x1 h fun p32 h33=>Q (.pointer p32) h33
 | _=>fun _ _=>False
def ref10_New.ann:Ann:=⟨lookN [],lookN [(3,[(0,.int .i64)]),(7,[(0,.int .i64)])],lookN [(250,[(6,.int .i64)])]⟩
theorem ref10_New.geq (F0):∀ l,OkL (evF Tryz.prog (envOf [(88,WL (ref09_New.L F0))]) Tryz.f40 ref10_New.ann) l (ref10_New.L (ref10_New.g F0) l):=by
 intro l; unfold ref10_New.L; split; exact .inr (by intros; kernel_rfl); exact .inl rfl
theorem ref10_New.good:FnGood Tryz.prog 40 (WL (ref10_New.L ref10_New)):=.ofL mixed (.cons ref09_New.good .nil) Tryz.func40 Tryz.call40 (ref10_New.geq ref09_New)
def slab_Slab_may.g (F0:type_of% slab_Slab_good) (x0_0:Option Addr) (x0_1 x0_2:Int) (x0_3:ByteArray) (x1:Int) (h:H) (Q:Int→H→Prop):Prop:=
M.new h (.cells #[.pointer x0_0,.int .i64 x0_1,.int .i64 x0_2,.string x0_3] 37) fun b2 h3=>
M.load h3 (Addr.add ⟨b2,0,none⟩ 0) fun v4=>
M.ptr v4 fun p5=>
M.load h3 (Addr.add ⟨b2,0,none⟩ 1) fun v6=>
M.int .i64 v6 fun n7=>
M.load h3 (Addr.add ⟨b2,0,none⟩ 2) fun v8=>
M.int .i64 v8 fun n9=>
M.load h3 (Addr.add ⟨b2,0,none⟩ 3) fun v10=>
M.str v10 fun s11=>
F0 p5 n7 n9 s11 h3 fun b12 h13=>
(bif (!b12) then
Q 4 h13
else
M.join (α:=Bool) (fun d17 h18=>
(bif d17 then
Q 2 h18
else
Q 0 h18)) fun J14=>
(bif (decide (x1<0)) then
J14 true h13
else
M.load h13 (Addr.add ⟨b2,0,none⟩ 2) fun v15=>
M.int .i64 v15 fun n16=>
J14 (decide (x1 ≥ n16)) h13))
def slab_Slab_may:=slab_Slab_may.g slab_Slab_good
def slab_Slab_may.L (F:type_of% slab_Slab_may):LT
 | [.agg ⟨[.pointer x0_0,.int .i64 x0_1,.int .i64 x0_2,.string x0_3]⟩,.int .i64 x1]=>fun Q h=>F x0_0 x0_1 x0_2 x0_3 x1 h fun n21 h22=>Q (.int .i64 n21) h22
 | _=>fun _ _=>False
def slab_Slab_may.ann:Ann:=⟨lookN [(3,[(9,.bool)])],lookN [],lookN []⟩
theorem slab_Slab_may.geq (F0):∀ l,OkL (evF Tryz.prog (envOf [(53,WL (slab_Slab_good.L F0))]) Tryz.f44 slab_Slab_may.ann) l (slab_Slab_may.L (slab_Slab_may.g F0) l):=by
 intro l; unfold slab_Slab_may.L; split; exact .inr (by intros; kernel_rfl); exact .inl rfl
theorem slab_Slab_may.good:FnGood Tryz.prog 44 (WL (slab_Slab_may.L slab_Slab_may)):=.ofL mixed (.cons slab_Slab_good.good .nil) Tryz.func44 Tryz.call44 (slab_Slab_may.geq slab_Slab_good)
end Go.Proofs.YthegnmanjdlmjaaGreatDoor

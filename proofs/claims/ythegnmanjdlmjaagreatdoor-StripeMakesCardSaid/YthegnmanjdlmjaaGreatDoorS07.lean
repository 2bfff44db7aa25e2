/- Words of 32 bits as bit vectors: the program's operations, and the document's loops. Words: turned. Words as bytes; and two steps of the little logic. Words to text. Text to words. SHA-256 in plain words. The document's block. Rows: what they are read by. Layer 17's rows: what a claim asks of the program's text, fact by fact. The field of 256 elements in plain words: products of bytes, and their laws. The program's schedule. The document's digest. The document's digest, walked. Reasoning over the shallow form, 6: rules that the kernel takes as equations, not as computing; rows of things. Reasoning over the shallow form, 7: rows of words and bytes, bytes of texts. The program's digest under way: a block more. The program's digest: more bytes, and the digest. The program's digest of a text. Reasoning over the shallow form, 4: maps. Trees of digests: what both texts compute. Trees of digests: ways, and what is followed. Trees of digests: what is put. Trees of digests: what is built. ChaCha20: quarters of a round, in both texts. -/
import Derived.Test.YthegnmanjdlmjaaGreatDoorS01
import Derived.Test.YthegnmanjdlmjaaGreatDoorS06
import Derived.Test.YthegnmanjdlmjaaGreatDoorCards
import Derived.Test.YthegnmanjdlmjaaGreatDoorTie
import Derived.OpenShut
import Derived.Deep.DeepHandedRow
import Derived.Lib.LaidTab
import Derived.Stop.LaidErr
import Derived.Test.YthegnmanjdlmjaaGreatDoorS00
set_option linter.unusedSimpArgs false
set_option linter.unusedVariables false
namespace Go.Sh
open Go.RowKit
abbrev U:=BitVec 32
def ui (x:U):Int:=(x.toNat:Int)
theorem u32_ui (n:Int):IntKind.u32.wrap n=ui (BitVec.ofInt 32 n):=by
 have:IntKind.u32.wrap n=n % 4294967296:=by simp [IntKind.wrap,IntKind.bits,IntKind.signed]
 have h2:((2 ^ 32:Nat):Int)=4294967296:=by decide
 rw [this,ui,BitVec.toNat_ofInt,h2,Int.toNat_of_nonneg (Int.emod_nonneg _ (by omega))]
theorem ofInt_ui (x:U):BitVec.ofInt 32 (ui x)=x:=by
 rw [ui,BitVec.ofInt_natCast]; exact BitVec.eq_of_toNat_eq (by rw [BitVec.toNat_ofNat,Nat.mod_eq_of_lt x.isLt])
theorem wrap_ui (x:U):IntKind.u32.wrap (ui x)=ui x:=by rw [u32_ui,ofInt_ui]
theorem bOr_ui (x y:U):bOr .u32 (ui x) (ui y)=ui (x ||| y):=by
 show IntKind.u32.wrap ((BitVec.ofInt 32 (ui x) ||| BitVec.ofInt 32 (ui y)).toNat)=_
 rw [ofInt_ui,ofInt_ui]; exact wrap_ui _
theorem bAnd_ui (x y:U):bAnd .u32 (ui x) (ui y)=ui (x &&& y):=by
 show IntKind.u32.wrap ((BitVec.ofInt 32 (ui x) &&& BitVec.ofInt 32 (ui y)).toNat)=_
 rw [ofInt_ui,ofInt_ui]; exact wrap_ui _
theorem bXor_ui (x y:U):bXor .u32 (ui x) (ui y)=ui (x ^^^ y):=by
 show IntKind.u32.wrap ((BitVec.ofInt 32 (ui x) ^^^ BitVec.ofInt 32 (ui y)).toNat)=_
 rw [ofInt_ui,ofInt_ui]; exact wrap_ui _
theorem ui_max:IntKind.u32.max=ui (BitVec.allOnes 32):=by decide
theorem bNot_ui (x:U):bNot .u32 (ui x)=ui (~~~x):=by
 show bXor .u32 IntKind.u32.max (ui x)=_
 rw [ui_max,bXor_ui,BitVec.allOnes_xor]
theorem add_ui (x y:U):IntKind.u32.wrap (ui x+ui y)=ui (x+y):=by
 rw [u32_ui,BitVec.ofInt_add,ofInt_ui,ofInt_ui]
theorem shl_ui (x:U) (k:Nat):shl .u32 (ui x) (k:Int)=ui (x <<< k):=by
 unfold shl
 rw [u32_ui]
 congr 1
 apply BitVec.eq_of_toNat_eq
 rw [BitVec.toNat_ofInt,BitVec.toNat_shiftLeft,Nat.shiftLeft_eq]
 have h:((2:Int) ^ min (k:Int).toNat IntKind.u32.bits)=((2 ^ min k 32:Nat):Int):=by push_cast; rfl
 rw [h,ui]
 have:(((x.toNat:Int)*((2 ^ min k 32:Nat):Int)) % ((2 ^ 32:Nat):Int)).toNat=(x.toNat * 2 ^ min k 32) % 2 ^ 32:=by norm_cast
 rw [this]
 by_cases hk:k≤32
 ·rw [Nat.min_eq_left hk]
 ·rw [Nat.min_eq_right (by omega),Nat.mul_mod_left]
  obtain ⟨j,rfl⟩:∃ j,k=j+32:=⟨k-32,by omega⟩
  rw [Nat.pow_add,←Nat.mul_assoc,Nat.mul_mod_left]
theorem shr_ui (x:U) (k:Nat):shr .u32 (ui x) (k:Int)=ui (x >>> k):=by
 unfold shr
 have h:((2:Int) ^ min (k:Int).toNat IntKind.u32.bits)=((2 ^ min k 32:Nat):Int):=by push_cast; rfl
 rw [h,ui,ui,BitVec.toNat_ushiftRight,Nat.shiftRight_eq_div_pow,Int.fdiv_eq_ediv_of_nonneg _ (Int.natCast_nonneg _)]
 norm_cast
 by_cases hk:k≤32
 ·rw [Nat.min_eq_left hk]
 ·have:=x.isLt
  rw [Nat.min_eq_right (by omega),Nat.div_eq_of_lt this,Nat.div_eq_of_lt]
  exact Nat.lt_of_lt_of_le this (Nat.pow_le_pow_right (by omega) (by omega))
theorem rotl_or (x:U) (k:Nat) (hk:k<32):x <<< k ||| x >>> (32-k)=x.rotateLeft k:=by
 rw [BitVec.rotateLeft_def,Nat.mod_eq_of_lt hk]
theorem lsb_rotr (x:U) (k i:Nat) (hi:i<32):(x.rotateRight k).getLsbD i=x.getLsbD ((i+k) % 32):=by
 rw [BitVec.getLsbD_rotateRight]
 have hk:k % 32<32:=Nat.mod_lt _ (by omega)
 by_cases h:i<32-k % 32
 ·rw [decide_eq_true h,cond_true]; congr 1; omega
 ·rw [decide_eq_false h,cond_false,decide_eq_true hi,Bool.true_and]; congr 1; omega
theorem lsb_rotl (x:U) (k i:Nat) (hi:i<32):(x.rotateLeft k).getLsbD i=x.getLsbD ((i+(32-k % 32)) % 32):=by
 rw [BitVec.getLsbD_rotateLeft]
 have hk:k % 32<32:=Nat.mod_lt _ (by omega)
 by_cases h:i<k % 32
 ·rw [decide_eq_true h,cond_true]; congr 1; omega
 ·rw [decide_eq_false h,cond_false,decide_eq_true hi,Bool.true_and]; congr 1; omega
theorem rotl_rotr (x:U) (k:Nat) (hk:k≤32):x.rotateLeft (32-k)=x.rotateRight k:=by
 apply BitVec.eq_of_getLsbD_eq
 intro i hi
 rw [lsb_rotl _ _ _ hi,lsb_rotr _ _ _ hi]
 congr 1; omega
theorem rotr_zero (x:U):x.rotateRight 0=x:=by
 apply BitVec.eq_of_getLsbD_eq
 intro i hi
 rw [lsb_rotr _ _ _ hi]
 congr 1; omega
theorem rotl_zero (x:U):x.rotateLeft 0=x:=by
 apply BitVec.eq_of_getLsbD_eq
 intro i hi
 rw [lsb_rotl _ _ _ hi]
 congr 1; omega
end Go.Sh
namespace Go.Proofs.YthegnmanjdlmjaaGreatDoor
open Go.Sh Go.RowKit
theorem u64_mod32 (n:Int):Int.tmod (IntKind.wrap .u64 n) 32=n % 32:=by
 have h:IntKind.u64.wrap n=n % 18446744073709551616:=by
  rw [IntKind.wrap_u64]
 rw [h,Int.tmod_eq_emod_of_nonneg (Int.emod_nonneg _ (by omega))]
 omega
theorem u64_sub32 (k:Nat) (hk:k≤32):IntKind.wrap .u64 (32-(k:Int))=((32-k:Nat):Int):=by
 have h:∀ n:Int,IntKind.u64.wrap n=n % 18446744073709551616:=fun n=>by
  rw [IntKind.wrap_u64]
 rw [h]; omega
section
variable {x:U} {n:Int} {h:H} {Q:Int→H→Prop}
theorem Left_spec (k:Q (ui (x.rotateLeft (n % 32).toNat)) h):words_Left (ui x) n h Q:=by
 unfold words_Left
 obtain ⟨m,hm,hlt⟩:∃ m:Nat,n % 32=(m:Int)∧m<32:=⟨(n % 32).toNat,by omega,by omega⟩
 have e:(n % 32).toNat=m:=by omega
 rw [e] at k
 refine ⟨by omega,?_⟩
 simp only [M.val,u64_mod32,hm,u64_sub32 m (by omega),shl_ui,shr_ui,bOr_ui,rotl_or x m hlt]
 exact ⟨by omega,by omega,k⟩
theorem Right_spec (k:Q (ui (x.rotateRight (n % 32).toNat)) h):words_Right (ui x) n h Q:=by
 unfold words_Right words_Right.g
 obtain ⟨m,hm,hlt⟩:∃ m:Nat,n % 32=(m:Int)∧m<32:=⟨(n % 32).toNat,by omega,by omega⟩
 have e:(n % 32).toNat=m:=by omega
 rw [e] at k
 refine ⟨by omega,?_⟩
 have w1:IntKind.wrap .i64 (m:Int)=m:=by rw [IntKind.wrap_i64]; omega
 have w2:IntKind.wrap .i64 (32-(m:Int))=32-(m:Int):=by rw [IntKind.wrap_i64]; omega
 simp only [M.val,u64_mod32,hm,w1,w2]
 refine Left_spec ?_
 by_cases h0:m=0
 ·subst h0
  have:((32-((0:Nat):Int)) % 32).toNat=0:=by decide
  rw [this,rotl_zero]
  rwa [rotr_zero] at k
 ·have:((32-(m:Int)) % 32).toNat=32-m:=by omega
  rw [this,rotl_rotr x m (by omega)]
  exact k
end
end Go.Proofs.YthegnmanjdlmjaaGreatDoor
namespace Go.Sh
open Go.RowKit
def byt (x:U) (k:Nat):Int:=((x.toNat / 256 ^ k % 256:Nat):Int)
def wz (big:Bool) (x:U):List Int:=bif big then [byt x 3,byt x 2,byt x 1,byt x 0] else [byt x 0,byt x 1,byt x 2,byt x 3]
def wzs (big:Bool) (us:List U):List Int:=us.flatMap (wz big)
def textOf (big:Bool) (us:List U):ByteArray:=ofBytes (wzs big us)
def uv (x:U):Value:=.int .u32 (ui x)
def uvs (us:List U):List Value:=us.map uv
def bvs (zs:List Int):List Value:=zs.map (Value.int .u8)
theorem wz_len (big:Bool) (x:U):(wz big x).length=4:=by cases big <;> rfl
theorem wzs_len (big:Bool):∀ us:List U,(wzs big us).length=4*us.length
 | []=>rfl
 | x::us=>by rw [wzs,List.flatMap_cons,List.length_append,wz_len,←wzs,wzs_len,List.length_cons]; omega
theorem wzs_app (big:Bool) (us vs:List U):wzs big (us++vs)=wzs big us++wzs big vs:=by simp [wzs]
theorem textOf_size (big:Bool) (us:List U):(textOf big us).size=4*us.length:=by
 rw [←wzs_len big us]; simp [textOf,ofBytes,ByteArray.size]
theorem byt_shr (x:U) (k:Nat):IntKind.wrap .u8 (shr .u32 (ui x) ((8*k:Nat):Int))=byt x k:=by
 have e:(2:Nat) ^ 8=256:=rfl
 rw [shr_ui,IntKind.wrap_u8,ui,BitVec.toNat_ushiftRight,Nat.shiftRight_eq_div_pow,byt,Nat.pow_mul,e]
 exact (Int.natCast_emod _ 256).symm
theorem byt_zero (x:U):IntKind.wrap .u8 (ui x)=byt x 0:=by
 rw [IntKind.wrap_u8,ui,byt,Nat.pow_zero,Nat.div_one]; exact (Int.natCast_emod _ 256).symm
theorem Wd.push {h0 h:H} {L:List Chunk} {e te:TypeId} {size bytes:Nat} {zero:List Value} {a:Option Addr} {l c n:Nat} {xs new:List Value} {K:Option Addr→Nat→Nat→H→Prop} (w:Wd h0 h L) (i:Nat) (hi:L[i]? = some (.sl e size a l c xs))
  (hz:zero.length=size) (hn:new.length=n*size) (hp:∀ v ∈ new,isPlainCell v=true) (hmax:2*(l+n)*bytes≤281474976710656) (hmax2:l+n≤9223372036854775807)
  (k:∀ a' c' h',Wd h0 h' (L.set i (.sl e size a' (l+n) c' (xs++new)))→K a' (l+n) c' h'):
  M.new h (.cells new.toArray te) fun b h1=>M.cellsOf h1 (some ⟨b,0,none⟩) (n*size) fun cs=>M.app h1 e size bytes zero a l c n cs K:=by
 refine M.new_t w fun b h1 hb w1=>?_
 refine M.cellsOf_row hn (fun e=>by simp at e) (fun b' e=>?_) (M.app_w w1 i hi hz hn hp hmax hmax2 k)
 simp only [Option.some.injEq] at e
 subst e
 intro j hj
 rw [addr_add,cell_in hb,Nat.zero_add,List.getElem?_toArray]
theorem Wd.text {h0 h:H} {L:List Chunk} {e:TypeId} {a:Option Addr} {l c:Nat} {zs:List Int} {K:ByteArray→Prop} (w:Wd h0 h L) (i:Nat) (hi:L[i]? = some (.sl e 1 a l c (bvs zs))) (k:K (ofBytes zs)):M.b2s h a l K:=by
 obtain ⟨h1,_,h3,h4⟩:=w.slrow i hi
 refine ⟨fun e=>?_,fun b e=>⟨zs,by simpa [bvs] using h1,h4 b e,k⟩⟩
 have:=(h3 e).1
 simp only [bvs,List.map_eq_nil_iff] at this
 subst this
 exact k
theorem bvs_plain (zs:List Int):∀ v ∈ bvs zs,isPlainCell v=true:=by
 intro v hv; simp only [bvs,List.mem_map] at hv; obtain ⟨_,_,rfl⟩:=hv; rfl
theorem uvs_plain (us:List U):∀ v ∈ uvs us,isPlainCell v=true:=by
 intro v hv; simp only [uvs,List.mem_map] at hv; obtain ⟨_,_,rfl⟩:=hv; rfl
theorem bvs_app (a b:List Int):bvs (a++b)=bvs a++bvs b:=by simp [bvs]
theorem uvs_app (a b:List U):uvs (a++b)=uvs a++uvs b:=by simp [uvs]
theorem uvs_len (a:List U):(uvs a).length=a.length:=by simp [uvs]
theorem bvs_len (a:List Int):(bvs a).length=a.length:=by simp [bvs]
theorem uvs_get (us:List U) (i:Nat) (hi:i<us.length):(uvs us)[i]? = some (.int .u32 (ui us[i])):=by simp [uvs,hi,uv]
def wordZ (big:Bool) (a b c d:Int):U:=BitVec.ofInt 32 (bif big then 256*(256*(256*a+b)+c)+d else 256*(256*(256*d+c)+b)+a)
def wordAt (big:Bool) (s:ByteArray) (i:Nat):U:=wordZ big (byteAt s (4*i)) (byteAt s (4*i+1)) (byteAt s (4*i+2)) (byteAt s (4*i+3))
def wordsOf (big:Bool) (s:ByteArray):List U:=(List.range (s.size / 4)).map (wordAt big s)
theorem wordsOf_len (big:Bool) (s:ByteArray):(wordsOf big s).length=s.size / 4:=by simp [wordsOf]
theorem byteAt_lt (s:ByteArray) (i:Nat):0≤byteAt s i∧byteAt s i<256:=by
 unfold byteAt
 have:=(s.data.toList.getD i 0).toNat_lt
 omega
end Go.Sh
namespace Go.Proofs.YthegnmanjdlmjaaGreatDoor
open Go.Sh Go.RowKit
structure Words (h:H) (a:Option Addr) (l:Nat) (us:List U):Prop where
 len:us.length=l
 small:us.length≤1000000
 none:a=none→l=0
 row:∀ b,a=some b→Sh.rowAt h b (uvs us)
theorem Words.keep {h h':H} {a:Option Addr} {l:Nat} {us:List U} (w:Words h a l us) (k:Keep h h'):Words h' a l us:=⟨w.len,w.small,w.none,fun b e=>k.row (w.row b e)⟩
theorem Words.at_ {h:H} {a:Option Addr} {l:Nat} {us:List U} {i:Int} {K:Addr→Nat→Prop} (w:Words h a l us) (h0:0≤i) (h1:i<l)
  (k:∀ b,(hi:i.toNat<us.length)→h.cell (b.add i.toNat)=some (.int .u32 (ui us[i.toNat]))→K b i.toNat):M.idx a l i K:=by
 have hi:i.toNat<us.length:=by rw [w.len]; omega
 cases a with
 | none=>have:=w.none rfl; omega
 | some b=>
  refine M.idx_of h0 h1 (k b hi ?_)
  rw [w.row b rfl i.toNat (by rw [uvs_len]; omega),uvs_get us _ hi]
section
variable {h:H} {a:Option Addr} {l c:Nat} {us:List U} {Q:ByteArray→H→Prop}
theorem take_wzs (big:Bool) {i:Nat} (hi:i<us.length):wzs big (us.take (i+1))=wzs big (us.take i)++wz big us[i]:=by
 rw [List.take_succ_eq_append_getElem hi,wzs_app]; simp [wzs]
theorem FromBig_spec (wd:Words h a l us) (k:∀ h',Keep h h'→Q (textOf true us) h'):words_FromBig a l c h Q:=by
 unfold words_FromBig
 have hl:=wd.len
 have hsm:=wd.small
 have w1:IntKind.wrap .i64 (4*((l:Nat):Int))=4*(l:Int):=by rw [IntKind.wrap_i64]; omega
 simp only [M.val,w1]
 refine M.mk_sl (size:=1) (Wd.start h) (by omega) (by omega) (by omega) (by omega) rfl fun a1 h1 w=>?_
 refine M.jn ?_
 refine M.loop_of (I:=fun (p:(Option Addr × Nat × Nat) × Int) h'=>0≤p.2∧p.2≤l∧p.1.2.1=4*p.2.toNat∧Wd h h' [.sl 5 1 p.1.1 p.1.2.1 p.1.2.2 (bvs (wzs true (us.take p.2.toNat)))]) (μ:=fun p=>(l-p.2).toNat) ⟨by simp,by simp,rfl,w⟩ ?_
 rintro ⟨⟨a2,l2,c2⟩,i⟩ h2 J ⟨h0,h1',e2,w⟩ hJ
 simp only at h0 h1' e2 w ⊢
 by_cases hlt:i<l
 ·simp only [hlt,decide_true,cond_true]
  refine (wd.keep w.keep).at_ h0 hlt fun b hi hc=>?_
  have w2:IntKind.wrap .i64 (i+1)=i+1:=by rw [IntKind.wrap_i64]; omega
  have e3:=byt_shr us[i.toNat] 3
  have e4:=byt_shr us[i.toNat] 2
  have e5:=byt_shr us[i.toNat] 1
  have e6:=byt_zero us[i.toNat]
  have z3:((8*3:Nat):Int)=24:=rfl
  have z2:((8*2:Nat):Int)=16:=rfl
  have z1:((8*1:Nat):Int)=8:=rfl
  rw [z3] at e3; rw [z2] at e4; rw [z1] at e5
  simp only [addr_add,load_eq,Nat.zero_add,Nat.add_zero,Nat.mul_one,Nat.one_mul,Nat.zero_mul,Nat.reduceAdd,List.setIfInBounds_toArray,List.set_cons_zero,List.set_cons_succ,List.getElem?_toArray,List.getElem?_cons_zero,List.getElem?_cons_succ,some_and,int_eq,bool_eq,str_eq,slc_eq,ptr_eq,nn_eq,M.val,cond_true,cond_false,Bool.not_true,Bool.not_false,hc,w2,e3,e4,e5,e6,M.shr0]
  refine ⟨by omega,by omega,by omega,?_⟩
  refine Wd.push (n:=4) (new:=bvs (wz true us[i.toNat])) w 0 rfl rfl rfl (bvs_plain _) (by omega) (by omega) fun a3 c3 h3 w=>?_
  refine hJ _ _ ⟨by simp only; omega,by simp only; omega,by simp only; omega,?_⟩ (by simp only; omega)
  have:(i+1).toNat=i.toNat+1:=by omega
  simp only [this,take_wzs true hi,bvs_app]
  exact w
 ·simp only [hlt,decide_false,cond_false]
  have e:i.toNat=us.length:=by omega
  rw [e,List.take_length] at w
  exact w.text 0 rfl (k h2 w.keep)
theorem FromLittle_spec (wd:Words h a l us) (k:∀ h',Keep h h'→Q (textOf false us) h'):words_FromLittle a l c h Q:=by
 unfold words_FromLittle
 have hl:=wd.len
 have hsm:=wd.small
 have w1:IntKind.wrap .i64 (4*((l:Nat):Int))=4*(l:Int):=by rw [IntKind.wrap_i64]; omega
 simp only [M.val,w1]
 refine M.mk_sl (size:=1) (Wd.start h) (by omega) (by omega) (by omega) (by omega) rfl fun a1 h1 w=>?_
 refine M.jn ?_
 refine M.loop_of (I:=fun (p:(Option Addr × Nat × Nat) × Int) h'=>0≤p.2∧p.2≤l∧p.1.2.1=4*p.2.toNat∧Wd h h' [.sl 5 1 p.1.1 p.1.2.1 p.1.2.2 (bvs (wzs false (us.take p.2.toNat)))]) (μ:=fun p=>(l-p.2).toNat) ⟨by simp,by simp,rfl,w⟩ ?_
 rintro ⟨⟨a2,l2,c2⟩,i⟩ h2 J ⟨h0,h1',e2,w⟩ hJ
 simp only at h0 h1' e2 w ⊢
 by_cases hlt:i<l
 ·simp only [hlt,decide_true,cond_true]
  refine (wd.keep w.keep).at_ h0 hlt fun b hi hc=>?_
  have w2:IntKind.wrap .i64 (i+1)=i+1:=by rw [IntKind.wrap_i64]; omega
  have e3:=byt_shr us[i.toNat] 3
  have e4:=byt_shr us[i.toNat] 2
  have e5:=byt_shr us[i.toNat] 1
  have e6:=byt_zero us[i.toNat]
  have z3:((8*3:Nat):Int)=24:=rfl
  have z2:((8*2:Nat):Int)=16:=rfl
  have z1:((8*1:Nat):Int)=8:=rfl
  rw [z3] at e3; rw [z2] at e4; rw [z1] at e5
  simp only [addr_add,load_eq,Nat.zero_add,Nat.add_zero,Nat.mul_one,Nat.one_mul,Nat.zero_mul,Nat.reduceAdd,List.setIfInBounds_toArray,List.set_cons_zero,List.set_cons_succ,List.getElem?_toArray,List.getElem?_cons_zero,List.getElem?_cons_succ,some_and,int_eq,bool_eq,str_eq,slc_eq,ptr_eq,nn_eq,M.val,cond_true,cond_false,Bool.not_true,Bool.not_false,hc,w2,e3,e4,e5,e6,M.shr0]
  refine ⟨by omega,by omega,by omega,?_⟩
  refine Wd.push (n:=4) (new:=bvs (wz false us[i.toNat])) w 0 rfl rfl rfl (bvs_plain _) (by omega) (by omega) fun a3 c3 h3 w=>?_
  refine hJ _ _ ⟨by simp only; omega,by simp only; omega,by simp only; omega,?_⟩ (by simp only; omega)
  have:(i+1).toNat=i.toNat+1:=by omega
  simp only [this,take_wzs false hi,bvs_app]
  exact w
 ·simp only [hlt,decide_false,cond_false]
  have e:i.toNat=us.length:=by omega
  rw [e,List.take_length] at w
  exact w.text 0 rfl (k h2 w.keep)
end
end Go.Proofs.YthegnmanjdlmjaaGreatDoor
namespace Go.Proofs.YthegnmanjdlmjaaGreatDoor
open Go.Sh Go.RowKit
theorem or_parts (a b c d:Nat) (ha:a<256) (hb:b<256) (hc:c<256) (hd:d<256):a*2 ^ 24 ||| b*2 ^ 16 ||| c*2 ^ 8 ||| d=256*(256*(256*a+b)+c)+d:=by
 have h1:a*2 ^ 24 ||| b*2 ^ 16=2 ^ 16*(256*a+b):=by
  have:=Nat.two_pow_add_eq_or_of_lt (i:=24) (b:=b*2 ^ 16) (by omega) a
  rw [Nat.mul_comm a,←this]; omega
 have h2:2 ^ 16*(256*a+b) ||| c*2 ^ 8=2 ^ 8*(256*(256*a+b)+c):=by
  rw [←Nat.two_pow_add_eq_or_of_lt (i:=16) (b:=c*2 ^ 8) (by omega)]; omega
 rw [h1,h2,←Nat.two_pow_add_eq_or_of_lt (i:=8) (b:=d) (by omega)]
theorem toNat_byte (a:Int) (h:0≤a∧a<256):(BitVec.ofInt 32 a).toNat=a.toNat:=by
 have h2:((2 ^ 32:Nat):Int)=4294967296:=by decide
 rw [BitVec.toNat_ofInt,h2]; omega
theorem sl_byte (a:Int) (h:0≤a∧a<256) (k:Nat) (hk:k≤24):((BitVec.ofInt 32 a) <<< k).toNat=a.toNat * 2 ^ k:=by
 rw [BitVec.toNat_shiftLeft,Nat.shiftLeft_eq,toNat_byte a h]
 refine Nat.mod_eq_of_lt ?_
 have:2 ^ k≤2 ^ 24:=Nat.pow_le_pow_right (by omega) hk
 calc a.toNat * 2 ^ k≤255*2 ^ 24:=Nat.mul_le_mul (by omega) this
  _ < 2 ^ 32:=by omega
theorem big_eq (a b c d:Int) (ha:0≤a∧a<256) (hb:0≤b∧b<256) (hc:0≤c∧c<256) (hd:0≤d∧d<256):
  (BitVec.ofInt 32 a <<< 24 ||| BitVec.ofInt 32 b <<< 16 ||| BitVec.ofInt 32 c <<< 8 ||| BitVec.ofInt 32 d)=BitVec.ofInt 32 (256*(256*(256*a+b)+c)+d):=by
 apply BitVec.eq_of_toNat_eq
 have h2:((2 ^ 32:Nat):Int)=4294967296:=by decide
 rw [BitVec.toNat_or,BitVec.toNat_or,BitVec.toNat_or,sl_byte a ha 24 (by omega),sl_byte b hb 16 (by omega),sl_byte c hc 8 (by omega),toNat_byte d hd,or_parts _ _ _ _ (by omega) (by omega) (by omega) (by omega),BitVec.toNat_ofInt,h2]
 omega
theorem little_eq (a b c d:Int) (ha:0≤a∧a<256) (hb:0≤b∧b<256) (hc:0≤c∧c<256) (hd:0≤d∧d<256):
  (BitVec.ofInt 32 a ||| BitVec.ofInt 32 b <<< 8 ||| BitVec.ofInt 32 c <<< 16 ||| BitVec.ofInt 32 d <<< 24)=BitVec.ofInt 32 (256*(256*(256*d+c)+b)+a):=by
 rw [←big_eq d c b a hd hc hb ha]
 generalize BitVec.ofInt 32 a=A
 generalize BitVec.ofInt 32 b <<< 8=B
 generalize BitVec.ofInt 32 c <<< 16=C
 generalize BitVec.ofInt 32 d <<< 24=D
 rw [BitVec.or_comm D C,BitVec.or_assoc C D B,BitVec.or_comm D B,←BitVec.or_assoc C B D,BitVec.or_comm C B,BitVec.or_comm _ A,←BitVec.or_assoc,←BitVec.or_assoc]
section
variable {h:H} {a b c d:Int} {Q:Int→H→Prop}
theorem Big_1_spec (ha:0≤a∧a<256) (hb:0≤b∧b<256) (hc:0≤c∧c<256) (hd:0≤d∧d<256) (k:Q (ui (wordZ true a b c d)) h):words_Big_1 (IntKind.wrap .u32 a) (IntKind.wrap .u32 b) (IntKind.wrap .u32 c) (IntKind.wrap .u32 d) h Q:=by
 unfold words_Big_1
 have s24:=fun x=>shl_ui x 24
 have s16:=fun x=>shl_ui x 16
 have s8:=fun x=>shl_ui x 8
 simp only [M.shr0,M.val,u32_ui,show (24:Int)=((24:Nat):Int) from rfl,show (16:Int)=((16:Nat):Int) from rfl,show (8:Int)=((8:Nat):Int) from rfl,shl_ui,bOr_ui,big_eq a b c d ha hb hc hd]
 exact ⟨by omega,by omega,by omega,k⟩
theorem Little_1_spec (ha:0≤a∧a<256) (hb:0≤b∧b<256) (hc:0≤c∧c<256) (hd:0≤d∧d<256) (k:Q (ui (wordZ false a b c d)) h):words_Little_1 (IntKind.wrap .u32 a) (IntKind.wrap .u32 b) (IntKind.wrap .u32 c) (IntKind.wrap .u32 d) h Q:=by
 unfold words_Little_1
 simp only [M.shr0,M.val,u32_ui,show (24:Int)=((24:Nat):Int) from rfl,show (16:Int)=((16:Nat):Int) from rfl,show (8:Int)=((8:Nat):Int) from rfl,shl_ui,bOr_ui,little_eq a b c d ha hb hc hd]
 exact ⟨by omega,by omega,by omega,k⟩
end
theorem fill_set {us:List U} {i n:Nat} (hn:us.length=n) (hi:i<n):(uvs (us.take i)++List.replicate (n-i) (Value.int .u32 0)).set i (.int .u32 (ui (us[i]'(by omega))))=uvs (us.take (i+1))++List.replicate (n-(i+1)) (Value.int .u32 0):=by
 have hl:(uvs (us.take i)).length=i:=by rw [uvs_len,List.length_take]; omega
 obtain ⟨m,hm⟩:∃ m,n-i=m+1:=⟨n-i-1,by omega⟩
 rw [List.set_append_right _ _ (by omega),hl,Nat.sub_self,hm,List.replicate_succ,List.set_cons_zero,List.take_succ_eq_append_getElem (by omega),uvs_app,List.append_assoc]
 congr 2
 have:n-(i+1)=m:=by omega
 rw [this]; rfl
section
variable {h:H} {s:ByteArray} {Q:Option Addr→Nat→Nat→Int→H→Prop}
theorem each_big (hs:s.size≤1000000) (hm:s.size % 4=0) (k:∀ a c h',Wd h h' [.sl 178 1 a (s.size / 4) c (uvs (wordsOf true s))]→Q a (s.size / 4) c 0 h'):words_each_words_Big_1 s h Q:=by
 unfold words_each_words_Big_1 words_each_words_Big_1.g
 refine ⟨by omega,?_⟩
 have e0:(Int.tmod (s.size:Int) 4 != 0)=false:=by
  rw [Int.tmod_eq_emod_of_nonneg (by omega)]
  have:(s.size:Int) % 4=0:=by omega
  rw [this]; rfl
 have e1:IntKind.wrap .i64 (Int.tdiv (s.size:Int) 4)=((s.size / 4:Nat):Int):=by
  rw [Int.tdiv_eq_ediv_of_nonneg (by omega),IntKind.wrap_i64]; omega
 simp only [M.val,e0,cond_false,e1]
 refine ⟨by omega,?_⟩
 refine M.mk_sl (size:=1) (Wd.start h) (by omega) (by omega) (by omega) (by omega) rfl fun a1 h1 w=>?_
 refine M.jn ?_
 obtain ⟨n,hn⟩:∃ n,s.size / 4=n:=⟨_,rfl⟩
 have hN:((s.size / 4:Nat):Int).toNat=n:=by omega
 have hlen:(wordsOf true s).length=n:=by rw [wordsOf_len,hn]
 rw [hN] at w ⊢
 rw [hn] at k
 refine M.loop_of (I:=fun (i:Int) h'=>0≤i∧i≤n∧Wd h h' [.sl 178 1 a1 n n (uvs ((wordsOf true s).take i.toNat)++List.replicate (n-i.toNat) (Value.int .u32 0))]) (μ:=fun i=>(n-i).toNat) ⟨by omega,by omega,by simpa [zerosOf,uvs] using w⟩ ?_
 rintro i h2 J ⟨h0,h1',w⟩ hJ
 by_cases hlt:i<n
 ·simp only [hlt,decide_true,cond_true]
  refine M.jn ?_
  have v0:IntKind.wrap .i64 (4*i)=4*i:=by rw [IntKind.wrap_i64]; omega
  have v1:IntKind.wrap .i64 (4*i+1)=4*i+1:=by rw [IntKind.wrap_i64]; omega
  have v2:IntKind.wrap .i64 (4*i+2)=4*i+2:=by rw [IntKind.wrap_i64]; omega
  have v3:IntKind.wrap .i64 (4*i+3)=4*i+3:=by rw [IntKind.wrap_i64]; omega
  have v4:IntKind.wrap .i64 (i+1)=i+1:=by rw [IntKind.wrap_i64]; omega
  simp only [v0,v1,v2,v3,v4,and_self,M.val]
  refine ⟨by omega,by omega,by omega,by omega,by omega,by omega,by omega,by omega,?_⟩
  refine Big_1_spec (byteAt_lt _ _) (byteAt_lt _ _) (byteAt_lt _ _) (byteAt_lt _ _) ?_
  cases a1 with
  | none=>have:=((w.slrow 0 rfl).2.2.1 rfl).2; omega
  | some ab=>
   refine M.idx_of h0 hlt ?_
   rw [Nat.mul_one]
   refine M.put_sl w 0 rfl rfl (by simp [uvs_len]; omega) fun h3 w=>?_
   have hi:i.toNat<n:=by omega
   have e:wordZ true (byteAt s (4*i).toNat) (byteAt s (4*i+1).toNat) (byteAt s (4*i+2).toNat) (byteAt s (4*i+3).toNat)=(wordsOf true s)[i.toNat]'(by omega):=by
    have q0:(4*i).toNat=4*i.toNat:=by omega
    have q1:(4*i+1).toNat=4*i.toNat+1:=by omega
    have q2:(4*i+2).toNat=4*i.toNat+2:=by omega
    have q3:(4*i+3).toNat=4*i.toNat+3:=by omega
    simp only [q0,q1,q2,q3,wordsOf,List.getElem_map,List.getElem_range]; rfl
   rw [e] at w
   refine hJ _ _ ⟨by omega,by omega,?_⟩ (by omega)
   have e5:(i+1).toNat=i.toNat+1:=by omega
   simp only [List.set_cons_zero,fill_set hlen hi] at w
   rw [e5]
   exact w
 ·simp only [hlt,decide_false,cond_false]
  have:i.toNat=n:=by omega
  rw [this,Nat.sub_self,List.take_of_length_le (by omega),List.replicate_zero,List.append_nil] at w
  exact k a1 n h2 w
theorem each_little (hs:s.size≤1000000) (hm:s.size % 4=0) (k:∀ a c h',Wd h h' [.sl 178 1 a (s.size / 4) c (uvs (wordsOf false s))]→Q a (s.size / 4) c 0 h'):words_each_words_Little_1 s h Q:=by
 unfold words_each_words_Little_1 words_each_words_Little_1.g
 refine ⟨by omega,?_⟩
 have e0:(Int.tmod (s.size:Int) 4 != 0)=false:=by
  rw [Int.tmod_eq_emod_of_nonneg (by omega)]
  have:(s.size:Int) % 4=0:=by omega
  rw [this]; rfl
 have e1:IntKind.wrap .i64 (Int.tdiv (s.size:Int) 4)=((s.size / 4:Nat):Int):=by
  rw [Int.tdiv_eq_ediv_of_nonneg (by omega),IntKind.wrap_i64]; omega
 simp only [M.val,e0,cond_false,e1]
 refine ⟨by omega,?_⟩
 refine M.mk_sl (size:=1) (Wd.start h) (by omega) (by omega) (by omega) (by omega) rfl fun a1 h1 w=>?_
 refine M.jn ?_
 obtain ⟨n,hn⟩:∃ n,s.size / 4=n:=⟨_,rfl⟩
 have hN:((s.size / 4:Nat):Int).toNat=n:=by omega
 have hlen:(wordsOf false s).length=n:=by rw [wordsOf_len,hn]
 rw [hN] at w ⊢
 rw [hn] at k
 refine M.loop_of (I:=fun (i:Int) h'=>0≤i∧i≤n∧Wd h h' [.sl 178 1 a1 n n (uvs ((wordsOf false s).take i.toNat)++List.replicate (n-i.toNat) (Value.int .u32 0))]) (μ:=fun i=>(n-i).toNat) ⟨by omega,by omega,by simpa [zerosOf,uvs] using w⟩ ?_
 rintro i h2 J ⟨h0,h1',w⟩ hJ
 by_cases hlt:i<n
 ·simp only [hlt,decide_true,cond_true]
  refine M.jn ?_
  have v0:IntKind.wrap .i64 (4*i)=4*i:=by rw [IntKind.wrap_i64]; omega
  have v1:IntKind.wrap .i64 (4*i+1)=4*i+1:=by rw [IntKind.wrap_i64]; omega
  have v2:IntKind.wrap .i64 (4*i+2)=4*i+2:=by rw [IntKind.wrap_i64]; omega
  have v3:IntKind.wrap .i64 (4*i+3)=4*i+3:=by rw [IntKind.wrap_i64]; omega
  have v4:IntKind.wrap .i64 (i+1)=i+1:=by rw [IntKind.wrap_i64]; omega
  simp only [v0,v1,v2,v3,v4,and_self,M.val]
  refine ⟨by omega,by omega,by omega,by omega,by omega,by omega,by omega,by omega,?_⟩
  refine Little_1_spec (byteAt_lt _ _) (byteAt_lt _ _) (byteAt_lt _ _) (byteAt_lt _ _) ?_
  cases a1 with
  | none=>have:=((w.slrow 0 rfl).2.2.1 rfl).2; omega
  | some ab=>
   refine M.idx_of h0 hlt ?_
   rw [Nat.mul_one]
   refine M.put_sl w 0 rfl rfl (by simp [uvs_len]; omega) fun h3 w=>?_
   have hi:i.toNat<n:=by omega
   have e:wordZ false (byteAt s (4*i).toNat) (byteAt s (4*i+1).toNat) (byteAt s (4*i+2).toNat) (byteAt s (4*i+3).toNat)=(wordsOf false s)[i.toNat]'(by omega):=by
    have q0:(4*i).toNat=4*i.toNat:=by omega
    have q1:(4*i+1).toNat=4*i.toNat+1:=by omega
    have q2:(4*i+2).toNat=4*i.toNat+2:=by omega
    have q3:(4*i+3).toNat=4*i.toNat+3:=by omega
    simp only [q0,q1,q2,q3,wordsOf,List.getElem_map,List.getElem_range]; rfl
   rw [e] at w
   refine hJ _ _ ⟨by omega,by omega,?_⟩ (by omega)
   have e5:(i+1).toNat=i.toNat+1:=by omega
   simp only [List.set_cons_zero,fill_set hlen hi] at w
   rw [e5]
   exact w
 ·simp only [hlt,decide_false,cond_false]
  have:i.toNat=n:=by omega
  rw [this,Nat.sub_self,List.take_of_length_le (by omega),List.replicate_zero,List.append_nil] at w
  exact k a1 n h2 w
theorem Big_spec (hs:s.size≤1000000) (hm:s.size % 4=0) (k:∀ a c h',Wd h h' [.sl 178 1 a (s.size / 4) c (uvs (wordsOf true s))]→Q a (s.size / 4) c 0 h'):words_Big s h Q:=by
 unfold words_Big words_Big.g
 exact each_big hs hm k
theorem Little_spec (hs:s.size≤1000000) (hm:s.size % 4=0) (k:∀ a c h',Wd h h' [.sl 178 1 a (s.size / 4) c (uvs (wordsOf false s))]→Q a (s.size / 4) c 0 h'):words_Little s h Q:=by
 unfold words_Little words_Little.g
 exact each_little hs hm k
end
end Go.Proofs.YthegnmanjdlmjaaGreatDoor
namespace Go.Sh
open Go.RowKit
def shaK:List U:=[
 0x428a2f98,0x71374491,0xb5c0fbcf,0xe9b5dba5,0x3956c25b,0x59f111f1,0x923f82a4,0xab1c5ed5,
 0xd807aa98,0x12835b01,0x243185be,0x550c7dc3,0x72be5d74,0x80deb1fe,0x9bdc06a7,0xc19bf174,
 0xe49b69c1,0xefbe4786,0x0fc19dc6,0x240ca1cc,0x2de92c6f,0x4a7484aa,0x5cb0a9dc,0x76f988da,
 0x983e5152,0xa831c66d,0xb00327c8,0xbf597fc7,0xc6e00bf3,0xd5a79147,0x06ca6351,0x14292967,
 0x27b70a85,0x2e1b2138,0x4d2c6dfc,0x53380d13,0x650a7354,0x766a0abb,0x81c2c92e,0x92722c85,
 0xa2bfe8a1,0xa81a664b,0xc24b8b70,0xc76c51a3,0xd192e819,0xd6990624,0xf40e3585,0x106aa070,
 0x19a4c116,0x1e376c08,0x2748774c,0x34b0bcb5,0x391c0cb3,0x4ed8aa4a,0x5b9cca4f,0x682e6ff3,
 0x748f82ee,0x78a5636f,0x84c87814,0x8cc70208,0x90befffa,0xa4506ceb,0xbef9a3f7,0xc67178f2]
structure S8 where
 a:U
 b:U
 c:U
 d:U
 e:U
 f:U
 g:U
 i:U
def S8.l (s:S8):List U:=[s.a,s.b,s.c,s.d,s.e,s.f,s.g,s.i]
def S8.first:S8:=⟨0x6a09e667,0xbb67ae85,0x3c6ef372,0xa54ff53a,0x510e527f,0x9b05688c,0x1f83d9ab,0x5be0cd19⟩
def S8.add (s t:S8):S8:=⟨s.a+t.a,s.b+t.b,s.c+t.c,s.d+t.d,s.e+t.e,s.f+t.f,s.g+t.g,s.i+t.i⟩
def turn3 (x:U) (a b c:Nat):U:=x.rotateRight a ^^^ x.rotateRight b ^^^ x.rotateRight c
def turn2 (x:U) (a b c:Nat):U:=x.rotateRight a ^^^ x.rotateRight b ^^^ x >>> c
def shaCh (x y z:U):U:=(x &&& y) ^^^ (~~~x &&& z)
def shaMaj (x y z:U):U:=(x &&& y) ^^^ (x &&& z) ^^^ (y &&& z)
def S8.t1 (s:S8) (k w:U):U:=s.i+turn3 s.e 6 11 25+shaCh s.e s.f s.g+k+w
def S8.t2 (s:S8):U:=turn3 s.a 2 13 22+shaMaj s.a s.b s.c
def S8.rnd (s:S8) (k w:U):S8:=⟨s.t1 k w+s.t2,s.a,s.b,s.c,s.d+s.t1 k w,s.e,s.f,s.g⟩
def at0 (l:List U) (i:Nat):U:=l.getD i 0
def nextW (l:List U):U:=at0 l (l.length-16)+turn2 (at0 l (l.length-15)) 7 18 3+at0 l (l.length-7)+turn2 (at0 l (l.length-2)) 17 19 10
def schedW (l:List U):Nat→List U
 | 0=>l
 | k+1=>schedW l k++[nextW (schedW l k)]
theorem schedW_len (l:List U):∀ k,(schedW l k).length=l.length+k
 | 0=>rfl
 | k+1=>by rw [schedW,List.length_append,schedW_len l k]; rfl
def rnds (ws:List U) (s:S8):Nat→S8
 | 0=>s
 | k+1=>(rnds ws s k).rnd (at0 shaK k) (at0 ws k)
def S8.block (s:S8) (t:ByteArray):S8:=s.add (rnds (schedW (wordsOf true t) 48) s 64)
theorem at0_get (l:List U) (i:Nat) (hi:i<l.length):at0 l i=l[i]:=by simp [at0,hi]
end Go.Sh
namespace Go.Proofs.YthegnmanjdlmjaaGreatDoor
open Go.Sh Go.RowKit
def tzT:List Int:=[0,1,56,2,57,49,28,3,61,58,42,50,38,29,17,4,62,47,59,36,45,43,51,22,53,39,33,30,24,18,12,5,63,55,48,27,60,41,37,16,46,35,44,21,52,32,23,11,54,26,40,15,34,20,31,10,25,14,19,9,13,8,7,6]
structure Tabs (h:H):Prop where
 f0:Sh.rowAt h ⟨0,0,none⟩ (uvs S8.first.l)
 k1:Sh.rowAt h ⟨1,0,none⟩ (uvs shaK)
 tz:Sh.rowAt h ⟨5,0,none⟩ (bvs tzT)
theorem Tabs.keep {h h':H} (t:Tabs h) (k:Keep h h'):Tabs h':=⟨k.row t.f0,k.row t.k1,k.row t.tz⟩
section
variable {h:H} {us:List U} {K:Int→Prop} {i:Int} {n N:Nat} {ad:Addr}
theorem ld_at (hr:Sh.rowAt h ad (uvs us)) (n:Nat) (hn:n<us.length) (k:K (ui (at0 us n))):M.load h (ad.add n) fun v=>M.int .u32 v K:=by
 rw [load_eq,hr n (by rw [uvs_len]; exact hn),uvs_get us n hn]
 simp only [some_and,int_eq,←at0_get us n hn]
 exact k
theorem ld_row (hr:Sh.rowAt h ad (uvs us)) (n:Nat) (hi:i=(n:Int)) (hn:n<N) (hl:us.length=N) (k:K (ui (at0 us n))):M.aidx N i fun j=>M.load h (Addr.add ad (j*1)) fun v=>M.int .u32 v K:=by
 subst hi
 refine ⟨by omega,by omega,?_⟩
 simp only [Int.toNat_natCast,Nat.mul_one]
 exact ld_at hr n (by omega) k
theorem row_blk {b:Nat} {xs:List Value} {e:TypeId} {f:Nat × Nat} (hb:h b=some (.cells xs.toArray e f)):Sh.rowAt h ⟨b,0,none⟩ xs:=by
 intro j hj
 rw [addr_add,cell_in hb,Nat.zero_add,List.getElem?_toArray]
theorem words_of {h0:H} {L:List Chunk} {e:TypeId} {a:Option Addr} {l c:Nat} (w:Wd h0 h L) (i:Nat) (hi:L[i]? = some (.sl e 1 a l c (uvs us))) (sm:us.length≤1000000):Words h a l us:=by
 obtain ⟨h1,_,h3,h4⟩:=w.slrow i hi
 exact ⟨by simpa [uvs_len] using h1,sm,fun e=>(h3 e).2,h4⟩
end
end Go.Proofs.YthegnmanjdlmjaaGreatDoor
namespace Go.Proofs.YthegnmanjdlmjaaGreatDoor
open Go.Sh Go.RowKit Go.ChangeShapes Go.WideShapes Go.ChangeAt
theorem Tryz.own:ownKnob Tryz.prog.godebug=none:=by kernel_rfl
theorem Tryz.laidOut:laidOutB Tryz.prog=true:=by kernel_rfl
theorem row_of_tab {W:World} {name:String} {k:IntKind} {zs:List Int} {g:Nat} (h:Lib.TabIs Tryz.prog W name k zs) (hg:Tryz.prog.globalNamed name=some g):Sh.rowAt (hp W) ⟨g,0,none⟩ (zs.map (Value.int k)):=by
 intro i hi
 rw [List.length_map] at hi
 have:=h.cell hg i hi
 rw [addr_add,Nat.zero_add]
 rw [List.getElem?_map,List.getElem?_eq_getElem hi]
 have e:zs.getD i 0=zs[i]:=by simp [List.getD,hi]
 rw [e] at this
 exact this
theorem g_f0:Tryz.prog.globalNamed "cofferdam/sha.first" = some 0:=by kernel_rfl
theorem g_k1:Tryz.prog.globalNamed "cofferdam/sha.round" = some 1:=by kernel_rfl
theorem g_tz:Tryz.prog.globalNamed "math/bits.deBruijn64tab" = some 5:=by kernel_rfl
def u32s (l:List U):List Int:=l.map ui
theorem l_f0:(Rows.laid_cofferdam_sha_first:DataW Unit)=Lib.tabData .u32 (u32s S8.first.l):=by kernel_rfl
theorem l_k1:(Rows.laid_cofferdam_sha_round:DataW Unit)=Lib.tabData .u32 (u32s shaK):=by kernel_rfl
theorem l_tz:(Rows.laid_math_bits_deBruijn64tab:DataW Unit)=Lib.tabData .u8 tzT:=by kernel_rfl
def tz32:List Int:=[0,1,28,2,29,14,24,3,30,22,20,15,25,17,4,8,31,27,13,23,21,19,16,7,26,12,18,6,11,5,10,9]
theorem u32_row (l:List U):(u32s l).map (Value.int .u32)=uvs l:=by rw [u32s,List.map_map]; rfl
theorem list_of {α:Type} {l:Nat} {R:Nat→α → Prop} (h:∀ i,i<l→∃ x,R i x):∃ xs:List α,xs.length=l∧∀ i x,xs[i]? = some x→R i x:=by
 induction l with
 | zero=>exact ⟨[],rfl,fun i x hx=>by simp at hx⟩
 | succ l ih=>
  obtain ⟨xs,hl,hr⟩:=ih fun i hi=>h i (by omega)
  obtain ⟨y,hy⟩:=h l (by omega)
  refine ⟨xs++[y],by simp [hl],fun i x hx=>?_⟩
  by_cases hi:i<xs.length
  ·rw [List.getElem?_append_left hi] at hx
   exact hr i x hx
  ·rw [List.getElem?_append_right (by omega)] at hx
   have:i-xs.length=0:=by
    have:=(List.getElem?_eq_some_iff.1 hx).1
    simp at this; omega
   rw [this] at hx
   simp only [List.getElem?_cons_zero,Option.some.injEq] at hx
   subst hx
   rw [show i=l by omega]; exact hy
set_option maxRecDepth 100000 in
theorem okWide_int_is {W:World} {base:Nat} {v:Value} (hv:Value.okWide Tryz.prog W .any base 3 v):∃ n,v = .int .i64 n:=by
 obtain ⟨n,rfl,_⟩:=okWide_int Tryz.underlying3 hv
 exact ⟨n,rfl⟩
end Go.Proofs.YthegnmanjdlmjaaGreatDoor
namespace Go.Proofs.YthegnmanjdlmjaaGreatDoor
open Go.Sh Go.RowKit Go.ChangeShapes Go.WideShapes Go.ChangeAt
theorem p3:mapsRowed Tryz.prog=true:=by kernel_rfl
theorem p7:(Tryz.prog.stops == [])=true:=by kernel_rfl
theorem p9:(Tryz.prog.stopKnobs == [])=true:=by kernel_rfl
theorem p22:(Rows.slabQuietRow.plainKeys == Tryz.prog.plainKeys)=true:=by kernel_rfl
theorem p23b:Tryz.prog.stopsHeard=true:=by kernel_rfl
theorem p24:Tryz.prog.mayEnter=true:=by kernel_rfl
theorem p24b:(Rows.slabQuietRow.lifted == Tryz.prog.liftsFinal)=true:=by kernel_rfl
theorem p24c:(Tryz.prog.make == some Rows.slabQuietRow.make)=true:=by kernel_rfl
theorem andt {a b:Bool} (h1:a=true) (h2:b=true):(a && b)=true:=by rw [h1,h2]; rfl
set_option maxRecDepth 100000 in
theorem facts_of {f:FuncId} {fn:Func} {s:ChangeSpec} {c:OpenClaim} (k1:c.wf (OpenSpec.ofChange s)=true) (k4:fn.params.all (Tryz.prog.readableRec ·)=true) (k5:namedTie Tryz.prog c.named s.vars=true) (k6:(c.stops == [])=true) (k8:(c.knobs == [])=true) (k10:(c.inPlace == Tryz.prog.inPlace f)=true) (k11:(c.unfollowed == Tryz.prog.unfollowed f)=true) (k12:(c.recurses == Tryz.prog.recurses f)=true) (k13:(c.named == Tryz.prog.varsNamed f)=true) (k14:(c.maps == (fn.params.toList++s.plain.varTypes Tryz.prog).any (Tryz.prog.mapsRec ·))=true) (k15:(c.ifaces == (fn.params.toList++s.plain.varTypes Tryz.prog).any (Tryz.prog.ifacesRec ·))=true) (k16:(c.mapsOut == Tryz.prog.mapsAmong fn.resultTypes.toList)=true) (k17:(c.loops == (fn.params.toList++s.plain.varTypes Tryz.prog).any (Tryz.prog.loopsFrom ·))=true) (k17b:(c.wideKeys == (fn.params.toList++s.plain.varTypes Tryz.prog++fn.resultTypes.toList).any (Tryz.prog.wideKeysFrom ·))=true) (k18:s.vars.all (Tryz.prog.varReadable ·)=true) (k19:fn.resultTypes.all (fun t=>Tryz.prog.readableRec t && decide (t<Tryz.prog.types.size))=true) (k20:(c.ifacesOut == fn.resultTypes.toList.any (Tryz.prog.ifacesRec ·))=true) (k21:(c.loopsOut == fn.resultTypes.toList.any (Tryz.prog.loopsFrom ·))=true) (e22:c.plainKeys=Rows.slabQuietRow.plainKeys) (k23:c.shortTexts.isNone=true) (e24b:c.lifted=Rows.slabQuietRow.lifted) (e24c:c.make=Rows.slabQuietRow.make) (k25:(c.kinds == (if c.domain.isEmpty then [] else fn.params.toList.map fun t=>match Tryz.prog.underlying t with | some (.int k)=>some k | _=>none))=true) (k26:(c.pinned == c.pinnedBy)=true) (k27:(c.veiled == (fn.params.toList++s.plain.varTypes Tryz.prog++fn.resultTypes.toList).any (Tryz.prog.veiledRec ·))=true) (k28:c.veiledFits Tryz.prog fn.params.toList (fn.params.toList++s.plain.varTypes Tryz.prog++fn.resultTypes.toList)=true):joinedFacts Tryz.prog f fn s c=true:=by
 have k2:=Tryz.laidOut
 have k3:=p3
 have k7:=p7
 have k9:=p9
 have k23b:=p23b
 have k24:=p24
 have k22:=p22
 have k24b:=p24b
 have k24c:=p24c
 rw [←e22] at k22
 rw [←e24b] at k24b
 rw [←e24c] at k24c
 unfold joinedFacts
 exact (andt (andt (andt (andt (andt (andt (andt (andt (andt (andt (andt (andt (andt (andt (andt (andt (andt (andt (andt (andt (andt (andt (andt (andt (andt (andt (andt (andt (andt (andt (andt k1 k2) k3) k4) k5) k6) k7) k8) k9) k10) k11) k12) k13) k14) k15) k16) k17) k17b) k18) k19) k20) k21) k22) k23) k23b) k24) k24b) k24c) k25) k26) k27) k28)
end Go.Proofs.YthegnmanjdlmjaaGreatDoor
namespace Go.Sh
def xt (a:Nat):Nat:=if 255<2*a then (2*a) ^^^ 285 else 2*a
def gl:Nat→Nat→Nat→Nat→Nat
 | 0,_,_,o=>o
 | k+1,x,b,o=>gl k (xt x) (b / 2) (if b % 2=1 then o ^^^ x else o)
def gN (a b:Nat):Nat:=gl 8 a b 0
theorem xlt {a b:Nat} (ha:a<256) (hb:b<256):a ^^^ b<256:=Nat.xor_lt_two_pow (n:=8) ha hb
theorem xt_lt:∀ {a:Nat},a<256→xt a<256:=by
 have:∀ a,a<256→xt a<256:=by decide +kernel
 exact fun {_} h=>this _ h
theorem xt_alt:∀ {a:Nat},a<256→xt a=(2*a) ^^^ (285*(a / 128)):=by
 have:∀ a,a<256→xt a=(2*a) ^^^ (285*(a / 128)):=by decide +kernel
 exact fun {_} h=>this _ h
theorem two_xor (a b:Nat):2*(a ^^^ b)=(2*a) ^^^ (2*b):=by
 have h:=Nat.shiftLeft_xor_distrib (a:=a) (b:=b) (i:=1)
 simpa [Nat.shiftLeft_eq,Nat.mul_comm] using h
theorem xor4 (a b c d:Nat):(a ^^^ b) ^^^ (c ^^^ d)=(a ^^^ c) ^^^ (b ^^^ d):=by
 rw [Nat.xor_assoc,Nat.xor_assoc,←Nat.xor_assoc b c d,Nat.xor_comm b c,Nat.xor_assoc c b d]
theorem xt_xor {a b:Nat} (ha:a<256) (hb:b<256):xt (a ^^^ b)=xt a ^^^ xt b:=by
 rw [xt_alt ha,xt_alt hb,xt_alt (xlt ha hb),two_xor,xor4]
 congr 1
 have h:(a ^^^ b) / 128=(a / 128) ^^^ (b / 128):=by
  have:=Nat.shiftRight_xor_distrib (a:=a) (b:=b) (i:=7)
  simpa [Nat.shiftRight_eq_div_pow] using this
 rw [h]
 have h1:a / 128=0∨a / 128=1:=by omega
 have h2:b / 128=0∨b / 128=1:=by omega
 rcases h1 with h1 | h1 <;> rcases h2 with h2 | h2 <;> rw [h1,h2] <;> decide
theorem gl_lt:∀ (k:Nat) {x b o:Nat},x<256→o<256→gl k x b o<256
 | 0,_,_,_,_,ho=>ho
 | k+1,x,b,o,hx,ho=>by
  unfold gl
  refine gl_lt k (xt_lt hx) ?_
  split
  ·exact xlt ho hx
  ·exact ho
theorem gN_lt {a b:Nat} (ha:a<256):gN a b<256:=gl_lt 8 ha (by decide)
theorem gl_stop:∀ (k x o:Nat),gl k x 0 o=o
 | 0,_,_=>rfl
 | k+1,x,o=>by unfold gl; simpa using gl_stop k (xt x) o
theorem div2_xor (a b:Nat):(a ^^^ b) / 2=(a / 2) ^^^ (b / 2):=by
 have:=Nat.shiftRight_xor_distrib (a:=a) (b:=b) (i:=1)
 simpa [Nat.shiftRight_eq_div_pow] using this
theorem mod2_xor (a b:Nat):(a ^^^ b) % 2=1↔¬(a % 2=1↔b % 2=1):=Nat.xor_mod_two_eq_one
theorem gl_xorB:∀ (k x b c o p:Nat),gl k x (b ^^^ c) (o ^^^ p)=gl k x b o ^^^ gl k x c p
 | 0,_,_,_,_,_=>rfl
 | k+1,x,b,c,o,p=>by
  unfold gl
  rw [div2_xor,←gl_xorB k]
  congr 1
  by_cases h1:b % 2=1 <;> by_cases h2:c % 2=1
  ·rw [if_neg (by rw [mod2_xor]; simp [h1,h2]),if_pos h1,if_pos h2,xor4,Nat.xor_self,Nat.xor_zero]
  ·rw [if_pos (by rw [mod2_xor]; simp [h1,h2]),if_pos h1,if_neg h2,Nat.xor_assoc,Nat.xor_comm p x,←Nat.xor_assoc]
  ·rw [if_pos (by rw [mod2_xor]; simp [h1,h2]),if_neg h1,if_pos h2,Nat.xor_assoc]
  ·rw [if_neg (by rw [mod2_xor]; simp [h1,h2]),if_neg h1,if_neg h2]
theorem gN_xorR (a b c:Nat):gN a (b ^^^ c)=gN a b ^^^ gN a c:=by
 have h:=gl_xorB 8 a b c 0 0
 simpa [gN] using h
theorem gl_xorX:∀ (k:Nat) {x y b o p:Nat},x<256→y<256→gl k (x ^^^ y) b (o ^^^ p)=gl k x b o ^^^ gl k y b p
 | 0,_,_,_,_,_,_,_=>rfl
 | k+1,x,y,b,o,p,hx,hy=>by
  unfold gl
  rw [xt_xor hx hy,←gl_xorX k (xt_lt hx) (xt_lt hy)]
  congr 1
  split
  ·exact xor4 _ _ _ _
  ·rfl
theorem gN_xorL {a b:Nat} (c:Nat) (ha:a<256) (hb:b<256):gN (a ^^^ b) c=gN a c ^^^ gN b c:=by
 have h:=gl_xorX 8 (b:=c) (o:=0) (p:=0) ha hb
 simpa [gN] using h
theorem xt_gl:∀ (k:Nat) {x b o:Nat},x<256→o<256→xt (gl k x b o)=gl k (xt x) b (xt o)
 | 0,_,_,_,_,_=>rfl
 | k+1,x,b,o,hx,ho=>by
  unfold gl
  rw [xt_gl k (xt_lt hx) (by split; exact xlt ho hx; exact ho)]
  congr 1
  split
  ·exact xt_xor ho hx
  ·rfl
theorem gl_cut:∀ (k x b o:Nat),b<2 ^ k→gl (k+1) x b o=gl k x b o
 | 0,x,b,o,hb=>by
  obtain rfl:b=0:=by simpa using hb
  rfl
 | k+1,x,b,o,hb=>by
  show gl (k+1) _ _ _ = gl k _ _ _
  exact gl_cut k _ _ _ (by rw [Nat.pow_succ] at hb; omega)
theorem gN_dbl {a b:Nat} (ha:a<256) (hb:b<128):gN a (2*b)=xt (gN a b):=by
 unfold gN
 rw [gl_cut 7 a b 0 hb,xt_gl 7 ha (by decide)]
 show gl 7 (xt a) (2*b / 2) (if 2*b % 2=1 then 0 ^^^ a else 0)=_
 rw [if_neg (by omega),show 2*b / 2=b by omega]
 rfl
theorem gN_29:∀ a,a<256→gN a 29=xt (gN a 128):=by decide +kernel
theorem gN_xt {a b:Nat} (ha:a<256) (hb:b<256):gN a (xt b)=xt (gN a b):=by
 by_cases h:b<128
 ·rw [xt,if_neg (by omega),gN_dbl ha h]
 ·have e:b=128 ^^^ (b-128):=by
   have:∀ b,b<256→¬ b<128→b=128 ^^^ (b-128):=by decide +kernel
   exact this b hb h
  have e2:xt b=29 ^^^ 2*(b-128):=by
   have:∀ b,b<256→¬ b<128→xt b=29 ^^^ 2*(b-128):=by decide +kernel
   exact this b hb h
  rw [e2,gN_xorR,gN_29 a ha,gN_dbl ha (by omega),←xt_xor (gN_lt ha) (gN_lt ha),←gN_xorR,←e]
theorem gN_zero (a:Nat):gN a 0=0:=gl_stop 8 a 0
theorem gN_gl {a:Nat} (ha:a<256):∀ (k:Nat) {y b o:Nat},y<256→o<256→gN a (gl k y b o)=gl k (gN a y) b (gN a o)
 | 0,_,_,_,_,_=>rfl
 | k+1,y,b,o,hy,ho=>by
  show gN a (gl k (xt y) (b / 2) (if b % 2=1 then o ^^^ y else o))=gl k (xt (gN a y)) (b / 2) (if b % 2=1 then gN a o ^^^ gN a y else gN a o)
  rw [gN_gl ha k (xt_lt hy) (by split; exact xlt ho hy; exact ho),gN_xt ha hy]
  congr 1
  split
  ·exact gN_xorR _ _ _
  ·rfl
theorem gN_assoc {a b:Nat} (x:Nat) (ha:a<256) (hb:b<256):gN a (gN b x)=gN (gN a b) x:=by
 rw [gN.eq_1 b x,gN_gl ha 8 hb (by decide),gN_zero]; rfl
theorem zero_gN (b:Nat):gN 0 b=0:=by
 have:∀ k b,gl k 0 b 0=0:=by
  intro k
  induction k with
  | zero=>exact fun _=>rfl
  | succ k ih=>
   intro b
   show gl k (xt 0) (b / 2) (if b % 2=1 then 0 ^^^ 0 else 0)=0
   rw [Nat.xor_self,ite_self]
   exact ih _
 exact this 8 b
theorem one_gN:∀ {b:Nat},b<256→gN 1 b=b:=by
 have:∀ b,b<256→gN 1 b=b:=by decide +kernel
 exact fun {_} h=>this _ h
end Go.Sh
namespace Go.Proofs.YthegnmanjdlmjaaGreatDoor
open Go.Sh Go.RowKit
theorem at0_app (l m:List U) (i:Nat) (h:i<l.length):at0 (l++m) i=at0 l i:=by
 simp [at0,List.getElem?_append_left h,h]
theorem sched_set (sc:Nat→List U) (ws:List U) (m:Nat) (hm:m<48) (hl:(sc m).length=16+m) (v:U):(uvs (sc m++List.replicate (48-m) 0)).toArray.setIfInBounds (16+m) (.int .u32 (ui v))=(uvs ((sc m++[v])++List.replicate (48-(m+1)) 0)).toArray:=by
 rw [List.setIfInBounds_toArray]
 congr 1
 obtain ⟨q,hq⟩:∃ q,48-m=q+1:=⟨47-m,by omega⟩
 rw [hq,uvs_app,List.set_append_right _ _ (by rw [uvs_len]; omega),uvs_len,hl,Nat.sub_self,List.replicate_succ,show uvs ((0:U)::List.replicate q 0)=uv 0::uvs (List.replicate q 0) from rfl,List.set_cons_zero,show 48-(m+1)=q by omega,uvs_app,uvs_app,List.append_assoc]
 rfl
theorem vin {z:Int} {K:Int→Prop} (k:K z):M.val z K:=k
theorem schedule_spec {h:H} {t:ByteArray} {Q:Array Value→H→Prop} (ht:t.size=64) (k:∀ h',Keep h h'→Q (uvs (schedW (wordsOf true t) 48)).toArray h'):sha_schedule t h Q:=by
 unfold sha_schedule sha_schedule.g
 refine M.new_w (Wd.start h) fun b2 h1 w=>M.new_w w fun b4 h2 w=>?_
 refine Big_spec (by omega) (by omega) fun a6 c8 h3 w'=>?_
 have w:=w.join w'
 clear w'
 have e16:t.size / 4=16:=by omega
 have hl16:(wordsOf true t).length=16:=by rw [wordsOf_len,ht]
 rw [e16] at w ⊢
 generalize wordsOf true t=ws at *
 refine ⟨by omega,by omega,by omega,?_⟩
 obtain ⟨q1,_,q3,q4⟩:=w.slrow 2 rfl
 refine M.cellsOf_row (xs:=uvs ws) (by rw [uvs_len,hl16]; rfl) (fun e=>(q3 e).1) q4 ?_
 refine M.copy_w (vs:=uvs ws) (o:=0) w 1 rfl (uvs_plain _) (by simp [uvs_len,hl16]) fun h4 w=>?_
 obtain ⟨sc,h0,hS,hE⟩:∃ sc:Nat→List U,sc 0=ws∧(∀ n,sc (n+1)=sc n++[nextW (sc n)])∧schedW ws 48=sc 48:=⟨schedW ws,rfl,fun _=>rfl,rfl⟩
 have hlen:∀ m,(sc m).length=16+m:=by
  intro m
  induction m with
  | zero=>rw [h0,hl16]
  | succ m ih=>rw [hS,List.length_append,ih]; rfl
 rw [hE] at k
 refine M.loop_of (I:=fun (i:Int) h'=>∃ m:Nat,m≤48∧i=((16+m:Nat):Int)∧Wd h h' [.blk b2 (.cells (uvs (List.replicate 64 (0:U))).toArray 251),.blk b4 (.cells (uvs (sc m++List.replicate (48-m) 0)).toArray 251),.sl 178 1 a6 16 c8 (uvs ws)]) (μ:=fun i=>(64-i).toNat) ⟨0,by omega,rfl,?_⟩ ?_
 ·have e:splice (Array.replicate 64 (Value.int .u32 0)) 0 (uvs ws)=(uvs (sc 0++List.replicate (48-0) 0)).toArray:=by
   rw [h0]
   apply Array.ext_getElem?
   intro i
   rw [splice_get _ _ _ (by simp [uvs_len,hl16])]
   simp only [List.getElem?_toArray,uvs_app,uvs_len,hl16,Nat.zero_le,true_and,Nat.zero_add,Nat.sub_zero]
   by_cases hi:i<16
   ·rw [if_pos hi,List.getElem?_append_left (by rw [uvs_len]; omega)]
   ·rw [if_neg hi,List.getElem?_append_right (by rw [uvs_len]; omega),uvs_len,hl16]
    have z48:uvs (List.replicate 48 (0:U))=List.replicate 48 (Value.int .u32 0):=by rw [uvs,List.map_replicate]; rfl
    rw [z48,Array.getElem?_replicate,List.getElem?_replicate]
    by_cases h64:i<64
    ·rw [if_pos h64,if_pos (by omega)]
    ·rw [if_neg h64,if_neg (by omega)]
  have e2:(Array.replicate 64 (Value.int .u32 0))=(uvs (List.replicate 64 (0:U))).toArray:=by rfl
  simp only [List.set_cons_succ,List.set_cons_zero,e] at w
  rw [←e2]
  exact w
 rintro i h5 J ⟨m,hm,rfl,w⟩ hJ
 by_cases hlt:m<48
 ·have:((16+m:Nat):Int)<64:=by omega
  simp only [this,decide_true,cond_true]
  have v1:IntKind.wrap .i64 (((16+m:Nat):Int)-15)=((m+1:Nat):Int):=by rw [IntKind.wrap_i64]; omega
  have v2:IntKind.wrap .i64 (((16+m:Nat):Int)-2)=((m+14:Nat):Int):=by rw [IntKind.wrap_i64]; omega
  have v3:IntKind.wrap .i64 (((16+m:Nat):Int)-7)=((m+9:Nat):Int):=by rw [IntKind.wrap_i64]; omega
  have v4:IntKind.wrap .i64 (((16+m:Nat):Int)-16)=((m:Nat):Int):=by rw [IntKind.wrap_i64]; omega
  have v5:IntKind.wrap .i64 (((16+m:Nat):Int)+1)=((16+(m+1):Nat):Int):=by rw [IntKind.wrap_i64]; omega
  have hl:=hlen m
  have r4:=row_blk (w.blk 1 rfl)
  have hr:(sc m++List.replicate (48-m) (0:U)).length=64:=by simp [hl]; omega
  have s3:∀ x:U,shr .u32 (ui x) (3:Int)=ui (x >>> 3):=fun x=>shr_ui x 3
  have s10:∀ x:U,shr .u32 (ui x) (10:Int)=ui (x >>> 10):=fun x=>shr_ui x 10
  refine vin (ld_row r4 (m+1) v1 (by omega) hr ?_)
  refine vin (ld_row r4 (m+14) v2 (by omega) hr ?_)
  refine Right_spec (Right_spec ?_)
  refine vin ⟨by omega,vin (vin ?_)⟩
  refine Right_spec (Right_spec ?_)
  refine vin ⟨by omega,vin (vin (vin ?_))⟩
  refine ld_row r4 m v4 (by omega) hr ?_
  refine vin (vin ?_)
  refine ld_row r4 (m+9) v3 (by omega) hr ?_
  refine vin (vin ?_)
  have en:at0 (sc m++List.replicate (48-m) 0) m+(BitVec.rotateRight (at0 (sc m++List.replicate (48-m) 0) (m+1)) 7 ^^^ BitVec.rotateRight (at0 (sc m++List.replicate (48-m) 0) (m+1)) 18 ^^^ at0 (sc m++List.replicate (48-m) 0) (m+1) >>> 3)+at0 (sc m++List.replicate (48-m) 0) (m+9)+(BitVec.rotateRight (at0 (sc m++List.replicate (48-m) 0) (m+14)) 17 ^^^ BitVec.rotateRight (at0 (sc m++List.replicate (48-m) 0) (m+14)) 19 ^^^ at0 (sc m++List.replicate (48-m) 0) (m+14) >>> 10)=nextW (sc m):=by
   rw [at0_app _ _ _ (by omega),at0_app _ _ _ (by omega),at0_app _ _ _ (by omega),at0_app _ _ _ (by omega)]
   unfold nextW turn2
   rw [hl,show 16+m-16=m by omega,show 16+m-15=m+1 by omega,show 16+m-7=m+9 by omega,show 16+m-2=m+14 by omega]
  refine ⟨by omega,by omega,?_⟩
  show M.put h5 (Addr.add ⟨b4,0,none⟩ (((16+m:Nat):Int).toNat * 1)) _ _
  rw [addr_add,Int.toNat_natCast,Nat.mul_one,Nat.zero_add]
  refine M.put_w w 1 rfl rfl (by simp [uvs_len,hl]; omega) fun h6 w=>?_
  simp only [s3,s10,bXor_ui,add_ui,Int.reduceMod,Int.reduceToNat,en,List.set_cons_succ,List.set_cons_zero,sched_set sc ws m hlt hl,←hS] at w
  show J (IntKind.wrap .i64 (((16+m:Nat):Int)+1)) h6
  rw [v5]
  exact hJ _ _ ⟨m+1,by omega,rfl,w⟩ (by omega)
 ·have hm48:m=48:=by omega
  subst hm48
  have:¬ ((16+48:Nat):Int)<64:=by omega
  simp only [this,decide_false,cond_false]
  have hl:=hlen 48
  rw [Nat.sub_self,List.replicate_zero,List.append_nil] at w
  generalize sc 48=s48 at w k hl
  refine M.row_all (w.blk 1 rfl) (by simp [uvs_len,hl]) ?_
  refine ⟨by simp [uvs_len,hl],?_⟩
  refine M.puts_w0 w 0 rfl (uvs_plain _) (by simp [uvs_len,hl]) fun h6 w=>?_
  refine M.row_all (w.blk 0 rfl) (by simp [uvs_len,hl]) ?_
  exact k h6 w.keep
end Go.Proofs.YthegnmanjdlmjaaGreatDoor
namespace Go.Proofs.YthegnmanjdlmjaaGreatDoor
open Go.Sh Go.RowKit
def padN (n:Nat):Nat:=(119-n % 64) % 64
theorem padN_ok (n:Nat):(n+1+padN n) % 64=56∧padN n<64∧∀ j,j<padN n→(n+1+j) % 64≠56:=by
 unfold padN
 refine ⟨by omega,by omega,fun j hj=>by omega⟩
def zerosT (n:Nat):ByteArray:=ofBytes (List.replicate n 0)
def lenW (n:Nat):List U:=[BitVec.ofNat 32 (8*n / 4294967296),BitVec.ofNat 32 (8*n)]
def padT (n:Nat):ByteArray:=(⟨#[128]⟩++zerosT (padN n))++textOf true (lenW n)
theorem zerosT_size (n:Nat):(zerosT n).size=n:=by
 unfold zerosT ofBytes ByteArray.size
 simp
def foldB (s:S8) (t:ByteArray):Nat→S8
 | 0=>s
 | k+1=>(foldB s t k).block (t.extract (64*k) (64*k+64))
def digestT (s:ByteArray):ByteArray:=textOf true (foldB S8.first (s++padT s.size) ((s.size+(padT s.size).size) / 64)).l
end Go.Proofs.YthegnmanjdlmjaaGreatDoor
namespace Go.Proofs.YthegnmanjdlmjaaGreatDoor
open Go.Sh Go.RowKit
theorem padT_size (n:Nat):(n+(padT n).size) % 64=0∧(padT n).size≤80:=by
 have h1:(padT n).size=1+padN n+8:=by
  rw [padT,ByteArray.size_append,ByteArray.size_append,zerosT_size,textOf_size]; rfl
 obtain ⟨p1,p2,_⟩:=padN_ok n
 rw [h1]; omega
end Go.Proofs.YthegnmanjdlmjaaGreatDoor
namespace Go.Sh
open Go.RowKit
theorem lb {h:H} {b:Nat} {c:Array Value} {e:TypeId} {f:Nat × Nat} (hb:h b=some (.cells c e f)) (o:Nat) (K:Value→Prop):M.load h ⟨b,o,none⟩ K = ∃ v,c[o]? = some v∧K v:=by rw [load_eq,cell_in hb]
theorem lc {h:H} {a:Addr} {v:Value} (hc:h.cell a=some v) (K:Value→Prop):M.load h a K=K v:=by rw [load_eq,hc,some_and]
theorem bs:(∀ a b:Prop,cond true a b=a)∧(∀ a b:Prop,cond false a b=b)
  ∧ (∀ (b o k:Nat),Addr.add ⟨b,o,none⟩ k=⟨b,o+k,none⟩)
  ∧ (∀ (u:Value) (K:Value→Prop),(∃ v,some u=some v∧K v)=K u)
  ∧ (∀ (k:IntKind) (n:Int) (K:Int→Prop),M.int k (.int k n) K=K n)
  ∧ (∀ (b:Bool) (K:Bool→Prop),M.bool (.bool b) K=K b)
  ∧ (∀ (s:ByteArray) (K:ByteArray→Prop),M.str (.string s) K=K s)
  ∧ (∀ (a:Option Addr) (l c:Nat) (K:Option Addr→Nat→Nat→Prop),M.slc (.slice a l c) K=K a l c)
  ∧ (∀ (a:Option Addr) (K:Option Addr→Prop),M.ptr (.pointer a) K=K a)
  ∧ (∀ (a:Addr) (K:Addr→Prop),M.nn (some a) K=K a)
  ∧ (∀ n:Nat,0+n=n)∧(∀ n:Nat,n+0=n)∧(∀ n:Nat,0*n=0)
  ∧ (∀ (l:List Value) (i:Nat) (v:Value),l.toArray.setIfInBounds i v=(l.set i v).toArray)
  ∧ (∀ (l:List Value) (a v:Value),(a::l).set 0 v=v::l)∧(∀ (l:List Value) (a v:Value) (n:Nat),(a::l).set (n+1) v=a::l.set n v)
  ∧ (∀ (l:List Value) (i:Nat),l.toArray[i]? = l[i]?)∧(∀ (l:List Value) (a:Value),(a::l)[0]? = some a)∧(∀ (l:List Value) (a:Value) (n:Nat),(a::l)[n+1]? = l[n]?)
  ∧ (∀ (cs:Array Value) (i:Nat) (K:Value→Prop),M.at cs i K = ∃ v,cs[i]? = some v∧K v)
  ∧ (!true)=false∧(!false)=true∧(∀ (l:List Chunk) (a v:Chunk),(a::l).set 0 v=v::l)∧(∀ (l:List Chunk) (a v:Chunk) (n:Nat),(a::l).set (n+1) v=a::l.set n v)∧(∀ (a:Chunk) (l m:List Chunk),a::l++m=a::(l++m))∧(∀ m:List Chunk,[]++m=m):=
 ⟨fun _ _=>rfl,fun _ _=>rfl,addr_add,some_and,int_eq,bool_eq,str_eq,slc_eq,ptr_eq,nn_eq,Nat.zero_add,Nat.add_zero,Nat.zero_mul,
  fun _ _ _=>List.setIfInBounds_toArray ..,fun _ _ _=>rfl,fun _ _ _ _=>rfl,fun _ _=>by simp,fun _ _=>rfl,fun _ _ _=>rfl,fun _ _ _=>rfl,rfl,rfl,fun _ _ _=>rfl,fun _ _ _ _=>rfl,fun _ _ _=>rfl,fun _=>rfl⟩
theorem ct {c:Bool} {A B:Prop} (h:c=true) (k:A):bif c then A else B:=by subst h; exact k
theorem cf {c:Bool} {A B:Prop} (h:c=false) (k:B):bif c then A else B:=by subst h; exact k
theorem cdt {p:Prop} [Decidable p] {A B:Prop} (h:p) (k:A):bif decide p then A else B:=ct (decide_eq_true h) k
theorem cdf {p:Prop} [Decidable p] {A B:Prop} (h:¬ p) (k:B):bif decide p then A else B:=cf (decide_eq_false h) k
theorem cc {c:Bool} {A B:Prop} (k1:c=true→A) (k2:c=false→B):bif c then A else B:=by
 cases c
 ·exact k2 rfl
 ·exact k1 rfl
theorem cd {p:Prop} [Decidable p] {A B:Prop} (k1:p→A) (k2:¬ p→B):bif decide p then A else B:=cc (fun h=>k1 (of_decide_eq_true h)) fun h=>k2 (of_decide_eq_false h)
theorem i64' {n:Int} (h1 : -9223372036854775808≤n) (h2:n<9223372036854775808):IntKind.wrap .i64 n=n:=by rw [IntKind.wrap_i64]; omega
theorem u64' {n:Int} (h1:0≤n) (h2:n<18446744073709551616):IntKind.wrap .u64 n=n:=by rw [IntKind.wrap_u64]; omega
theorem u8' {n:Int} (h1:0≤n) (h2:n<256):IntKind.wrap .u8 n=n:=by rw [IntKind.wrap_u8]; omega
theorem bl:(∀ (l:List Value),l.drop 0=l)∧(∀ (a:Value) (l:List Value) (n:Nat),(a::l).drop (n+1)=l.drop n)∧(∀ (l:List Value),l.take 0=[])∧(∀ (a:Value) (l:List Value) (n:Nat),(a::l).take (n+1)=a::l.take n)
  ∧ (∀ (c:Array Value) (o:Nat),splice c o []=c)∧(∀ (c:Array Value) (o:Nat) (v:Value) (r:List Value),splice c o (v::r)=splice (c.setIfInBounds o v) (o+1) r)∧(∀ l:List Value,l.toArray.toList=l):=
 ⟨fun _=>rfl,fun _ _ _=>rfl,fun _=>rfl,fun _ _ _=>rfl,fun _ _=>rfl,fun _ _ _ _=>rfl,fun _=>rfl⟩
theorem shr_nat (k:IntKind) (n m:Nat) (hm:m≤k.bits):shr k (n:Int) (m:Int)=((n / 2 ^ m:Nat):Int):=by
 rw [shr,Int.toNat_natCast,Nat.min_eq_left hm,Int.fdiv_eq_ediv_of_nonneg _ (by exact_mod_cast Nat.zero_le _),Int.natCast_ediv]; rfl
theorem szs:(∀ x y:ByteArray,(x++y).size=x.size+y.size)∧IntKind.i64.max=9223372036854775807∧(∀ (a:UInt8) (l:List UInt8),ByteArray.size ⟨(a::l).toArray⟩=l.length+1)∧(∀ l:List UInt8,l.toArray.size=l.length)∧(∀ (x:ByteArray) (i j:Nat),(x.extract i j).size=min j x.size-i)
  ∧ (∀ (a:UInt8) (l:List UInt8),(a::l).length=l.length+1)∧([]:List UInt8).length=0∧(∀ n:Nat,((n:Int)).toNat=n)∧ByteArray.empty.size=0:=
 ⟨fun _ _=>ByteArray.size_append ..,by decide,fun _ _=>rfl,fun _=>rfl,fun _ _ _=>ByteArray.size_extract ..,fun _ _=>rfl,rfl,Int.toNat_natCast,rfl⟩
namespace M
theorem sub_in {b o cap size:Nat} {lo' hi':Int} {K:Option Addr→Nat→Nat→Prop} (lo hi:Nat) (e1:lo'=lo) (e2:hi'=hi) (h1:lo≤hi) (h2:hi≤cap) (h3:lo<cap) (k:K (some ⟨b,o+lo*size,none⟩) (hi-lo) (cap-lo)):M.sub (some ⟨b,o,none⟩) cap size lo' hi' K:=by
 subst e1 e2
 refine ⟨by omega,by omega,by omega,?_⟩
 show K (sliceAddr (some ⟨b,o,none⟩) cap (lo:Int).toNat size) ((hi:Int).toNat-(lo:Int).toNat) (cap-(lo:Int).toNat)
 rw [Int.toNat_natCast,Int.toNat_natCast,sliceAddr,if_neg (by omega),Option.map_some,addr_add]
 exact k
theorem cellsOf_at {h:H} {b o n:Nat} {c:Array Value} {e:TypeId} {f:Nat × Nat} {K:List Value→Prop} (hb:h b=some (.cells c e f)) (ho:o+n≤c.size) (k:K ((c.toList.drop o).take n)):M.cellsOf h (some ⟨b,o,none⟩) n K:=by
 refine ⟨fun e=>by simp at e,fun b' e=>?_⟩
 simp only [Option.some.injEq] at e
 subst e
 refine row_in hb (by rw [List.length_take,List.length_drop,Array.length_toList]; omega) (fun i hi=>?_) k
 rw [List.getElem?_take,if_pos hi,List.getElem?_drop,Array.getElem?_toList]
theorem b2s_at {h:H} {b o n:Nat} {zs:List Int} {e:TypeId} {f:Nat × Nat} {K:ByteArray→Prop} (hb:h b=some (.cells (bvs zs).toArray e f)) (ho:o+n≤zs.length) (k:K (ofBytes ((zs.drop o).take n))):M.b2s h (some ⟨b,o,none⟩) n K:=by
 refine ⟨fun e=>by simp at e,fun b' e=>?_⟩
 simp only [Option.some.injEq] at e
 subst e
 refine ⟨(zs.drop o).take n,by rw [List.length_take,List.length_drop]; omega,fun i hi=>?_,k⟩
 have hi':i<n:=by rw [List.length_map,List.length_take] at hi; omega
 rw [addr_add,cell_in hb,List.getElem?_toArray,bvs,List.getElem?_map,List.getElem?_map,List.getElem?_take,if_pos hi',List.getElem?_drop]
theorem vin {z:Int} {K:Int→Prop} (k:K z):M.val z K:=k
theorem vis {z:Int} {K:Int→Prop} (y:Int) (e:z=y) (k:K y):M.val z K:=by subst e; exact k
theorem iter_s {α:Type} {step:(α → H→Prop)→α → H→Prop} {n:Nat} {d:α} {h:H} (k:step (iter step n) d h):iter step (n+1) d h:=k
theorem times {α:Type} {step:(α → H→Prop)→α → H→Prop} (n:Nat) {d:α} {h:H} (k:iter step n d h):loop step d h:=⟨n,k⟩
end M
structure Enc (α:Type) where
 enc:α → List Value
 sz:Nat
 len:∀ x,(enc x).length=sz
 plain:∀ x,∀ v ∈ enc x,isPlainCell v=true
namespace Enc
variable {α:Type} (E:Enc α)
def row (xs:List α):List Value:=xs.flatMap E.enc
theorem row_cons (x:α) (xs:List α):E.row (x::xs)=E.enc x++E.row xs:=rfl
theorem row_app (xs ys:List α):E.row (xs++ys)=E.row xs++E.row ys:=by simp [row]
theorem row_one (x:α):E.row [x]=E.enc x:=by simp [row]
theorem row_len:∀ xs:List α,(E.row xs).length=xs.length*E.sz
 | []=>by simp [row]
 | x::xs=>by rw [row_cons,List.length_append,E.len,row_len xs,List.length_cons,Nat.succ_mul,Nat.add_comm]
theorem row_plain (xs:List α):∀ v ∈ E.row xs,isPlainCell v=true:=by
 intro v hv
 simp only [row,List.mem_flatMap] at hv
 obtain ⟨x,_,hv⟩:=hv
 exact E.plain x v hv
theorem row_get:∀ (xs:List α) (i k:Nat) (hi:i<xs.length),k<E.sz→(E.row xs)[i*E.sz+k]? = (E.enc xs[i])[k]?
 | x::xs,0,k,_,hk=>by rw [row_cons,Nat.zero_mul,Nat.zero_add,List.getElem?_append_left (by rw [E.len]; exact hk)]; rfl
 | x::xs,i+1,k,hi,hk=>by
  rw [row_cons,List.getElem?_append_right (by rw [E.len,Nat.succ_mul]; omega),E.len]
  have:(i+1)*E.sz+k-E.sz=i*E.sz+k:=by rw [Nat.succ_mul]; omega
  rw [this,row_get xs i k (by simpa using hi) hk]; rfl
theorem row_take (xs:List α) (n:Nat):(E.row xs).take (n*E.sz)=E.row (xs.take n):=by
 by_cases hn:n≤xs.length
 ·have h1:E.row xs=E.row (xs.take n)++E.row (xs.drop n):=by rw [←row_app,List.take_append_drop]
  rw [h1,List.take_append_of_le_length (by rw [row_len]; simp [hn]),List.take_of_length_le (by rw [row_len]; simp [hn])]
 ·rw [List.take_of_length_le (by rw [row_len]; exact Nat.mul_le_mul_right _ (by omega)),List.take_of_length_le (by omega)]
theorem row_rep (n:Nat) (x:α):E.row (List.replicate n x)=zerosOf (E.enc x) n:=by simp [row,zerosOf,List.flatMap]
end Enc
def eS:Enc ByteArray:=⟨fun s=>[.string s],1,fun _=>rfl,by simp [isPlainCell]⟩
def eI:Enc Int:=⟨fun n=>[.int .i64 n],1,fun _=>rfl,by simp [isPlainCell]⟩
def eB:Enc Int:=⟨fun n=>[.int .u8 n],1,fun _=>rfl,by simp [isPlainCell]⟩
def eT:Enc Bool:=⟨fun b=>[.bool b],1,fun _=>rfl,by simp [isPlainCell]⟩
def eU:Enc U:=⟨fun x=>[uv x],1,fun _=>rfl,by simp [isPlainCell,uv]⟩
theorem uvs_row (us:List U):uvs us=eU.row us:=by induction us with | nil=>rfl | cons x r ih=>rw [Enc.row_cons,←ih]; rfl
theorem bvs_row (zs:List Int):bvs zs=eB.row zs:=by induction zs with | nil=>rfl | cons x r ih=>rw [Enc.row_cons,←ih]; rfl
structure Ro {α:Type} (E:Enc α) (h:H) (a:Option Addr) (l:Nat) (xs:List α):Prop where
 len:xs.length=l
 none:a=none→l=0
 row:∀ b,a=some b→Sh.rowAt h b (E.row xs)
section
variable {α:Type} {E:Enc α} {h h':H} {a:Option Addr} {l:Nat} {xs:List α}
theorem Ro.keep (f:Ro E h a l xs) (k:Keep h h'):Ro E h' a l xs:=⟨f.len,f.none,fun b e=>k.row (f.row b e)⟩
theorem Ro.nil:Ro E h .none 0 []:=⟨rfl,fun _=>rfl,fun b e=>by simp at e⟩
theorem Wd.ro {h0:H} {L:List Chunk} {e:TypeId} {c:Nat} (w:Wd h0 h L) (i:Nat) (hi:L[i]? = some (.sl e E.sz a l c (E.row xs))) (hz:0<E.sz):Ro E h a l xs:=by
 obtain ⟨h1,_,h3,h4⟩:=w.slrow i hi
 rw [E.row_len] at h1
 exact ⟨Nat.eq_of_mul_eq_mul_right hz h1,fun e=>(h3 e).2,h4⟩
theorem Ro.at (f:Ro E h a l xs) {i:Int} {K:Addr→Nat→Prop} (h0:0≤i) (h1:i<l)
  (k:∀ b,(hi:i.toNat<xs.length)→(∀ j,j<E.sz→h.cell ((b.add (i.toNat * E.sz)).add j)=(E.enc xs[i.toNat])[j]?)→K b i.toNat):M.idx a l i K:=by
 have hi:i.toNat<xs.length:=by rw [f.len]; omega
 cases a with
 | none=>have:=f.none rfl; omega
 | some b=>
  refine M.idx_of h0 h1 (k b hi fun j hj=>?_)
  rw [add2,f.row b rfl _ (by rw [E.row_len]; exact Nat.lt_of_lt_of_le (Nat.add_lt_add_left hj _) (by rw [←Nat.succ_mul]; exact Nat.mul_le_mul_right _ hi)),E.row_get xs _ _ hi hj]
theorem Ro.at1 (f:Ro E h a l xs) (hz:E.sz=1) {i:Int} {K:Addr→Nat→Prop} (h0:0≤i) (h1:i<l)
  (k:∀ b,(hi:i.toNat<xs.length)→h.cell (b.add i.toNat)=(E.enc xs[i.toNat])[0]? → K b i.toNat):M.idx a l i K:=f.at h0 h1 fun b hi hc=>k b hi (by
  have:=hc 0 (by omega)
  rwa [Addr.add_zero',hz,Nat.mul_one] at this)
end
def sa (xs:List ByteArray) (i:Nat):ByteArray:=xs.getD i ByteArray.empty
def za (xs:List Int) (i:Nat):Int:=xs.getD i 0
theorem sa_get {xs:List ByteArray} {i:Nat} (h:i<xs.length):sa xs i=xs[i]:=by simp [sa,h]
theorem za_get {xs:List Int} {i:Nat} (h:i<xs.length):za xs i=xs[i]:=by simp [za,h]
theorem eI_row (xs:List Int):eI.row xs=xs.map (Value.int .i64):=by induction xs with | nil=>rfl | cons x r ih=>rw [Enc.row_cons,ih]; rfl
theorem eS_row (xs:List ByteArray):eS.row xs=xs.map Value.string:=by induction xs with | nil=>rfl | cons x r ih=>rw [Enc.row_cons,ih]; rfl
theorem row1_set {α:Type} {E:Enc α} (hz:E.sz=1) {x:α} {v:Value} (hv:E.enc x=[v]):∀ (xs:List α) (j:Nat),(E.row xs).set j v=E.row (xs.set j x)
 | [],_=>rfl
 | y::r,0=>by
  obtain ⟨u,hu⟩:∃ u,E.enc y=[u]:=List.length_eq_one_iff.1 (by rw [E.len,hz])
  rw [List.set_cons_zero,Enc.row_cons,Enc.row_cons,hu,hv]; rfl
 | y::r,j+1=>by
  obtain ⟨u,hu⟩:∃ u,E.enc y=[u]:=List.length_eq_one_iff.1 (by rw [E.len,hz])
  rw [List.set_cons_succ,Enc.row_cons,Enc.row_cons,hu,←row1_set hz hv r j]; rfl
section
variable {h0 h:H} {L:List Chunk} {a:Option Addr} {l c:Nat} {z:Int}
theorem Ro.ldS {xs:List ByteArray} {K:ByteArray→Prop} (f:Ro eS h a l xs) (h0:0≤z) (h1:z<l) (k:K (sa xs z.toNat)):M.idx a l z fun b j=>M.load h (Addr.add b (j*1)) fun v=>M.str v K:=by
 refine f.at1 rfl h0 h1 fun b hi hc=>?_
 rw [Nat.mul_one,lc hc,str_eq,←sa_get hi]; exact k
theorem Ro.ldI {xs:List Int} {K:Int→Prop} (f:Ro eI h a l xs) (h0:0≤z) (h1:z<l) (k:K (za xs z.toNat)):M.idx a l z fun b j=>M.load h (Addr.add b (j*1)) fun v=>M.int .i64 v K:=by
 refine f.at1 rfl h0 h1 fun b hi hc=>?_
 rw [Nat.mul_one,lc hc,int_eq,←za_get hi]; exact k
theorem Ro.ldB {xs:List Int} {K:Int→Prop} (f:Ro eB h a l xs) (h0:0≤z) (h1:z<l) (k:K (za xs z.toNat)):M.idx a l z fun b j=>M.load h (Addr.add b (j*1)) fun v=>M.int .u8 v K:=by
 refine f.at1 rfl h0 h1 fun b hi hc=>?_
 rw [Nat.mul_one,lc hc,int_eq,←za_get hi]; exact k
theorem Wd.put1 {α:Type} {E:Enc α} {e:TypeId} {xs:List α} {K:H→Prop} {v:Value} (w:Wd h0 h L) (i:Nat) (hi:L[i]? = some (.sl e 1 a l c (E.row xs))) (hz:E.sz=1) (x:α) (hv:E.enc x=[v]) (z0:0≤z) (z1:z<l)
  (k:∀ h',Wd h0 h' (L.set i (.sl e 1 a l c (E.row (xs.set z.toNat x))))→K h'):M.idx a l z fun b j=>M.put h (Addr.add b (j*1)) v K:=by
 obtain ⟨q1,_,q3,_⟩:=w.slrow i hi
 cases a with
 | none=>have:=(q3 rfl).2; omega
 | some b=>
  refine M.idx_of z0 z1 ?_
  rw [Nat.mul_one]
  refine M.put_sl w i hi (E.plain x v (by rw [hv]; simp)) (by rw [q1,Nat.mul_one]; omega) fun h' w=>k h' ?_
  rwa [row1_set hz hv] at w
end
theorem zs:(∀ n,zerosOf [Value.string ByteArray.empty] n=eS.row (List.replicate n ByteArray.empty))∧(∀ n,zerosOf [Value.int .i64 0] n=eI.row (List.replicate n 0))∧(∀ n,zerosOf [Value.int .u8 0] n=eB.row (List.replicate n 0))∧(∀ n,zerosOf [Value.bool false] n=eT.row (List.replicate n false))
  ∧ (∀ n,zerosOf [Value.int .u32 0] n=eU.row (List.replicate n 0)):=
 ⟨fun n=>(eS.row_rep n _).symm,fun n=>(eI.row_rep n _).symm,fun n=>(eB.row_rep n _).symm,fun n=>(eT.row_rep n _).symm,fun n=>(eU.row_rep n 0).symm⟩
end Go.Sh
namespace Go.Sh
open Go.RowKit
section
variable {h0 h h':H} {L:List Chunk} {a:Option Addr} {l c:Nat} {z:Int} {e:TypeId} {us:List U} {zs:List Int}
theorem Wd.roU (w:Wd h0 h L) (i:Nat) (hi:L[i]? = some (.sl e 1 a l c (uvs us))):Ro eU h a l us:=w.ro i (by rw [←uvs_row]; exact hi) (by decide)
theorem Ro.ldU {xs:List U} {K:Int→Prop} (f:Ro eU h a l xs) (h0:0≤z) (h1:z<l) (k:K (ui (xs.getD z.toNat 0))):M.idx a l z fun b j=>M.load h (Addr.add b (j*1)) fun v=>M.int .u32 v K:=by
 refine f.at1 rfl h0 h1 fun b hi hc=>?_
 have hc':h.cell (b.add z.toNat)=some (.int .u32 (ui (xs[z.toNat]))):=hc
 have:xs.getD z.toNat 0=xs[z.toNat]:=by simp [hi]
 rw [Nat.mul_one,lc hc',int_eq,←this]; exact k
theorem Wd.textB {K:ByteArray→Prop} (w:Wd h0 h L) (i:Nat) (hi:L[i]? = some (.sl e 1 a l c (eB.row zs))) (k:K (ofBytes zs)):M.b2s h a l K:=w.text i (by rw [bvs_row]; exact hi) k
theorem mn_nat (a b:Nat):mn (a:Int) (b:Int)=((min a b:Nat):Int):=by unfold mn; split <;> omega
theorem Ro.atS {xs:List ByteArray} {K:Addr→Nat→Prop} (f:Ro eS h a l xs) (h0:0≤z) (h1:z<l) (k:∀ b,h.cell (b.add z.toNat)=some (.string (sa xs z.toNat))→K b z.toNat):M.idx a l z K:=by
 refine f.at1 rfl h0 h1 fun b hi hc=>k b ?_
 rw [sa_get hi]; exact hc
theorem Ro.of_blk {α:Type} {E:Enc α} {b n:Nat} {c:Array Value} {f:Nat × Nat} {xs:List α} (hb:h b=some (.cells c e f)) (hc:c=(E.row xs).toArray) (hn:xs.length=n):Ro E h (some ⟨b,0,Option.none⟩) n xs:=by
 subst hc hn
 refine ⟨rfl,fun e=>by simp at e,fun b' e=>?_⟩
 simp only [Option.some.injEq] at e
 subst e
 intro i hi
 rw [addr_add,cell_in hb,Nat.zero_add,List.getElem?_toArray]
theorem Wd.cells {size:Nat} {xs:List Value} {K:List Value→Prop} (w:Wd h0 h L) (i:Nat) (hi:L[i]? = some (.sl e size a l c xs)) (k:K xs):M.cellsOf h a (l*size) K:=by
 obtain ⟨q1,_,q3,q4⟩:=w.slrow i hi
 exact M.cellsOf_row q1 (fun e=>(q3 e).1) q4 k
theorem M.new_k {o:Obj} {K:Nat→H→Prop} (w:Wd h0 h L) (k:∀ b h',Keep h h'→Wd h0 h' (L++[.blk b o])→K b h'):M.new h o K:=fun b hb=>k b _ ((Keep.refl h).new hb o) (w.new hb o)
theorem M.still_c {x:Addr} {v:Value} {K:Prop} (k:Keep h h') (hc:h.cell x=some v) (q:K):M.still h x 1 h' K:=by
 refine ⟨fun i hi=>?_,q⟩
 obtain rfl:i=0:=by omega
 rw [Addr.add_zero',hc]; exact k.cell hc
theorem M.copy_all {K:H→Prop} {b:Nat} {c:Array Value} {vs:List Value} (w:Wd h0 h L) (i:Nat) (hi:L[i]? = some (.blk b (.cells c e (0,0)))) (hp:∀ v ∈ vs,isPlainCell v=true) (hn:vs.length=c.size)
  (k:∀ h',Wd h0 h' (L.set i (.blk b (.cells vs.toArray e (0,0))))→K h'):M.copy h (some ⟨b,0,none⟩) vs K:=by
 refine M.copy_w w i hi hp (by omega) fun h' w=>k h' ?_
 rwa [splice_all hn] at w
end
/-! ### Bytes -/
theorem bsz (a:ByteArray):a.size=a.data.toList.length:=Array.length_toList.symm
theorem byteAt_app (a b:ByteArray) (i:Nat):byteAt (a++b) i=if i<a.size then byteAt a i else byteAt b (i-a.size):=by
 unfold byteAt
 rw [ByteArray.data_append,Array.toList_append]
 have e:=bsz a
 split
 ·rw [List.getD_eq_getElem?_getD,List.getD_eq_getElem?_getD,List.getElem?_append_left (by omega)]
 ·rw [List.getD_eq_getElem?_getD,List.getD_eq_getElem?_getD,List.getElem?_append_right (by omega),e]
theorem byteAt_ext (s:ByteArray) (i j k:Nat) (hk:i+k<j) (hj:j≤s.size):byteAt (s.extract i j) k=byteAt s (i+k):=by
 unfold byteAt
 rw [ByteArray.data_extract,Array.toList_extract,List.extract_eq_take_drop,List.getD_eq_getElem?_getD,List.getD_eq_getElem?_getD,List.getElem?_take,if_pos (by omega),List.getElem?_drop]
theorem intsOf' (s:ByteArray):(List.range s.size).map (byteAt s)=s.data.toList.map fun b=>(b.toNat:Int):=by
 apply List.ext_getElem?
 intro i
 rw [List.getElem?_map,List.getElem?_map]
 by_cases hi:i<s.size
 ·have h2:i<s.data.toList.length:=by rw [←bsz]; exact hi
  have h3:s.data.toList.getD i 0=s.data.toList[i]:=by rw [List.getD_eq_getElem?_getD,List.getElem?_eq_getElem h2]; rfl
  rw [List.getElem?_range hi,List.getElem?_eq_getElem h2]
  show some (byteAt s i)=some _
  rw [byteAt,h3]
 ·rw [List.getElem?_eq_none (by rw [List.length_range]; omega),List.getElem?_eq_none (by rw [←bsz]; omega)]; rfl
def byT (n:Nat) (f:Nat→Int):ByteArray:=ofBytes ((List.range n).map f)
theorem byT_size (n:Nat) (f:Nat→Int):(byT n f).size=n:=by simp [byT,ofBytes,ByteArray.size]
theorem byT_congr {n:Nat} {f g:Nat→Int} (h:∀ i,i<n→f i=g i):byT n f=byT n g:=by
 unfold byT
 rw [List.map_congr_left fun i hi=>h i (List.mem_range.1 hi)]
theorem byT_self (s:ByteArray):byT s.size (byteAt s)=s:=by
 unfold byT
 rw [intsOf']
 obtain ⟨d⟩:=s
 have:(fun z:Int=>UInt8.ofNat z.toNat) ∘ (fun b:UInt8=>(b.toNat:Int))=id:=by funext b; simp
 simp [ofBytes,this]
theorem byteAt_byT (n:Nat) (f:Nat→Int) (i:Nat) (hi:i<n) (hf:0≤f i∧f i<256):byteAt (byT n f) i=f i:=by
 unfold byteAt byT ofBytes
 simp only [List.getD_eq_getElem?_getD,List.getElem?_map,List.getElem?_range hi,Option.map_some,Option.getD_some]
 rw [UInt8.toNat_ofNat']; omega
theorem bytesOf_byT (n:Nat) (f:Nat→Int) (hf:∀ i,i<n→0≤f i∧f i<256):bytesOf (byT n f)=bvs ((List.range n).map f):=by
 have h1:=intsOf' (byT n f)
 rw [byT_size] at h1
 rw [bytesOf,bvs]
 have:(byT n f).data.toList.map (fun b=>Value.int .u8 (b.toNat:Int))=((byT n f).data.toList.map fun b=>(b.toNat:Int)).map (Value.int .u8):=by rw [List.map_map]; rfl
 rw [this,←h1,List.map_congr_left fun i hi=>byteAt_byT n f i (List.mem_range.1 hi) (hf i (List.mem_range.1 hi))]
theorem text_eq {s t:ByteArray} (h1:s.size=t.size) (h2:∀ i,i<s.size→byteAt s i=byteAt t i):s=t:=by
 rw [←byT_self s,←byT_self t,←h1]
 exact byT_congr h2
theorem range_app (m n:Nat) (f:Nat→Int):(List.range m).map f++(List.range n).map (fun i=>f (m+i))=(List.range (m+n)).map f:=by
 rw [List.range_add,List.map_append,List.map_map]; rfl
def bx (a b:Int):Int:=bXor .u8 a b
theorem bx_nat {a b:Int} (ha:0≤a∧a<256) (hb:0≤b∧b<256):bx a b=((a.toNat ^^^ b.toNat:Nat):Int):=by
 have e:∀ x:Int,0≤x∧x<256→(BitVec.ofInt 8 x).toNat=x.toNat:=fun x h=>by rw [BitVec.toNat_ofInt]; omega
 have h1:(BitVec.ofInt 8 a ^^^ BitVec.ofInt 8 b).toNat=a.toNat ^^^ b.toNat:=by rw [BitVec.toNat_xor,e a ha,e b hb]
 show IntKind.wrap .u8 ((BitVec.ofInt 8 a ^^^ BitVec.ofInt 8 b).toNat:Int)=_
 have h2:a.toNat ^^^ b.toNat<2 ^ 8:=Nat.xor_lt_two_pow (by omega) (by omega)
 rw [h1,IntKind.wrap_u8]; omega
theorem bx_lt (a b:Int):0≤bx a b∧bx a b<256:=by
 unfold bx bXor
 rw [IntKind.wrap_u8]; omega
end Go.Sh
namespace Go.Proofs.YthegnmanjdlmjaaGreatDoor
open Go.Sh Go.RowKit
def hashO (s:S8) (r:ByteArray) (n:Int):Obj:=.cells #[.int .u32 (ui s.a),.int .u32 (ui s.b),.int .u32 (ui s.c),.int .u32 (ui s.d),.int .u32 (ui s.e),.int .u32 (ui s.f),.int .u32 (ui s.g),.int .u32 (ui s.i),.string r,.int .i64 n] 206 (0,0)
theorem at_row {us:List U} {N:Nat} {i:Int} {K:Int→Prop} (n:Nat) (hi:i=(n:Int)) (hn:n<N) (hl:us.length=N) (k:K (ui (at0 us n))):M.aidx N i fun j=>M.at (List.toArray (uvs us)) (j*1) fun v=>M.int .u32 v K:=by
 subst hi
 refine ⟨by omega,by omega,?_⟩
 refine ⟨.int .u32 (ui (at0 us n)),?_,by show M.int .u32 _ K; rw [int_eq]; exact k⟩
 rw [Int.toNat_natCast,Nat.mul_one,List.getElem?_toArray,uvs_get us n (by omega),at0_get us n (by omega)]
theorem take_spec {h0 h:H} {b:Nat} {s:S8} {r t:ByteArray} {n:Int} {Q:H→Prop} (w:Wd h0 h [.blk b (hashO s r n)]) (ht:t.size=64) (tb:Tabs h0) (k:∀ h',Wd h0 h' [.blk b (hashO (s.block t) r n)]→Q h'):
  sha_Hash_take (some ⟨b,0,none⟩) t h Q:=by
 unfold sha_Hash_take sha_Hash_take.g
 unfold hashO at w
 have hlen:(schedW (wordsOf true t) 48).length=64:=by rw [schedW_len,wordsOf_len,ht]
 have sched:∀ {h:H} {Q:Array Value→H→Prop} (k:∀ h',Keep h h'→Q (uvs (schedW (wordsOf true t) 48)).toArray h'),sha_schedule t h Q:=fun k=>schedule_spec ht k
 have hbk:s.block t=s.add (rnds (schedW (wordsOf true t) 48) s 64):=rfl
 generalize schedW (wordsOf true t) 48=sc at hlen sched hbk
 have hsz:(uvs sc).toArray.size=64:=by rw [List.size_toArray,uvs_len,hlen]
 have hsz2:(uvs sc).toArray.toList.length=(Array.replicate 64 (Value.int .u32 0)).size:=by simpa using hsz
 have hpl:∀ v ∈ (uvs sc).toArray.toList,isPlainCell v=true:=uvs_plain _
 refine M.join_of (fun d h'=>∃ b1 b2,d=(⟨b1,0,none⟩,⟨b2,0,none⟩)∧Wd h0 h' [.blk b (hashO s r n),.blk b1 (.cells (uvs sc).toArray 251),.blk b2 (.cells (uvs s.l).toArray 204)]) (fun J hJ=>?_) ?_
 ·have hs:=w.blk 0 rfl
  simp only [bs,lb (w.blk 0 rfl)]
  refine ⟨?_,?_⟩
  refine sched fun h1 k_=>?_
  have w:=w.keeps k_
  clear k_
  refine M.still_at hs (w.blk 0 rfl) ?_
  refine ⟨?_,?_⟩
  refine M.new_k w fun b3 h2 kk4 w=>?_
  refine M.still_at hs (w.blk 0 rfl) ?_
  refine M.new_k w fun b6 h5 kk7 w=>?_
  refine M.still_at hs (w.blk 0 rfl) ?_
  refine ⟨(by assumption),?_⟩
  refine M.puts_w0 w 1 rfl (by assumption) (by assumption) fun h8 w=>?_
  simp only [bs] at w
  refine M.still_at hs (w.blk 0 rfl) ?_
  refine ⟨(rfl),?_⟩
  refine M.puts_w0 w 2 rfl (by simp [isPlainCell]) (by simp) fun h9 w=>?_
  simp only [bs] at w
  rotate_left
  refine M.new_k w fun b11 h10 kk12 w=>?_
  refine M.still_at hs (w.blk 0 rfl) ?_
  refine M.new_k w fun b14 h13 kk15 w=>?_
  refine M.still_at hs (w.blk 0 rfl) ?_
  refine ⟨(by assumption),?_⟩
  refine M.puts_w0 w 2 rfl (by assumption) (by assumption) fun h16 w=>?_
  simp only [bs] at w
  refine M.still_at hs (w.blk 0 rfl) ?_
  refine ⟨(rfl),?_⟩
  refine M.puts_w0 w 1 rfl (by simp [isPlainCell]) (by simp) fun h17 w=>?_
  simp only [bs] at w
  rotate_left
  refine ⟨?_,?_⟩
  refine M.new_k w fun b19 h18 kk20 w=>?_
  refine M.still_at hs (w.blk 0 rfl) ?_
  refine ⟨?_,?_⟩
  refine sched fun h21 k_=>?_
  have w:=w.keeps k_
  clear k_
  refine M.still_at hs (w.blk 0 rfl) ?_
  refine M.new_k w fun b23 h22 kk24 w=>?_
  refine M.still_at hs (w.blk 0 rfl) ?_
  refine ⟨(by assumption),?_⟩
  refine M.puts_w0 w 1 rfl (by assumption) (by assumption) fun h25 w=>?_
  simp only [bs] at w
  refine M.still_at hs (w.blk 0 rfl) ?_
  refine ⟨(rfl),?_⟩
  refine M.puts_w0 w 2 rfl (by simp [isPlainCell]) (by simp) fun h26 w=>?_
  simp only [bs] at w
  rotate_left
  refine M.new_k w fun b28 h27 kk29 w=>?_
  refine M.still_at hs (w.blk 0 rfl) ?_
  refine sched fun h30 k_=>?_
  have w:=w.keeps k_
  clear k_
  refine M.still_at hs (w.blk 0 rfl) ?_
  refine ⟨(by assumption),?_⟩
  refine M.puts_w0 w 1 rfl (by assumption) (by assumption) fun h31 w=>?_
  simp only [bs] at w
  refine M.still_at hs (w.blk 0 rfl) ?_
  refine ⟨(rfl),?_⟩
  refine M.puts_w0 w 2 rfl (by simp [isPlainCell]) (by simp) fun h32 w=>?_
  simp only [bs] at w
  rotate_left
  refine M.new_k w fun b34 h33 kk35 w=>?_
  refine M.still_at hs (w.blk 0 rfl) ?_
  refine ⟨?_,?_⟩
  refine sched fun h36 k_=>?_
  have w:=w.keeps k_
  clear k_
  refine M.still_at hs (w.blk 0 rfl) ?_
  refine M.new_k w fun b38 h37 kk39 w=>?_
  refine M.still_at hs (w.blk 0 rfl) ?_
  refine ⟨(by assumption),?_⟩
  refine M.puts_w0 w 2 rfl (by assumption) (by assumption) fun h40 w=>?_
  simp only [bs] at w
  refine M.still_at hs (w.blk 0 rfl) ?_
  refine ⟨(rfl),?_⟩
  refine M.puts_w0 w 1 rfl (by simp [isPlainCell]) (by simp) fun h41 w=>?_
  simp only [bs] at w
  rotate_left
  refine M.new_k w fun b43 h42 kk44 w=>?_
  refine M.still_at hs (w.blk 0 rfl) ?_
  refine sched fun h45 k_=>?_
  have w:=w.keeps k_
  clear k_
  refine M.still_at hs (w.blk 0 rfl) ?_
  refine ⟨(by assumption),?_⟩
  refine M.puts_w0 w 2 rfl (by assumption) (by assumption) fun h46 w=>?_
  simp only [bs] at w
  refine M.still_at hs (w.blk 0 rfl) ?_
  refine ⟨(rfl),?_⟩
  refine M.puts_w0 w 1 rfl (by simp [isPlainCell]) (by simp) fun h47 w=>?_
  simp only [bs] at w
  rotate_left
  all_goals first
   | exact hJ _ _ ⟨_,_,rfl,w⟩
   | exact hJ _ _ ⟨_,_,rfl,w.mv (i:=1) rfl⟩
 rintro _ h1 ⟨b1,b2,rfl,w⟩
 obtain ⟨R,hR0,hRs,hR64⟩:∃ R:Nat→S8,R 0=s∧(∀ n,R (n+1)=(R n).rnd (at0 shaK n) (at0 sc n))∧rnds sc s 64=R 64:=⟨rnds sc s,rfl,fun _=>rfl,rfl⟩
 rw [hbk,hR64] at k
 refine M.jn ?_
 refine ⟨uvs shaK,by rw [uvs_len]; rfl,w.keep.row tb.k1,?_⟩
 refine M.loop_of (I:=fun (i:Int) h'=>∃ m:Nat,m≤64∧i=(m:Int)∧Wd h0 h' [.blk b (hashO s r n),.blk b1 (.cells (uvs sc).toArray 251),.blk b2 (.cells (uvs (R m).l).toArray 204)]) (μ:=fun i=>(64-i).toNat) ⟨0,by omega,rfl,by rw [hR0]; exact w⟩ ?_
 rintro i h2 J ⟨m,hm,rfl,w⟩ hJ
 by_cases hlt:m<64
 ·refine cdt (by omega) ?_
  have r1:=row_blk (w.blk 1 rfl)
  have r2:=row_blk (w.blk 2 rfl)
  have hl8:(R m).l.length=8:=rfl
  refine at_row m rfl hlt rfl ?_
  refine ld_row r2 0 rfl (by omega) hl8 ?_
  refine ld_row r2 4 rfl (by omega) hl8 ?_
  refine Right_spec (Right_spec (M.vin (Right_spec (M.vin ?_))))
  refine Right_spec (Right_spec (M.vin (Right_spec (M.vin ?_))))
  refine ld_row r2 7 rfl (by omega) hl8 (M.vin ?_)
  refine ld_row r2 5 rfl (by omega) hl8 (M.vin (M.vin ?_))
  refine ld_row r2 6 rfl (by omega) hl8 (M.vin (M.vin (M.vin (M.vin ?_))))
  refine ld_row r1 m rfl (by omega) (by rw [hlen]) (M.vin ?_)
  refine ld_row r2 1 rfl (by omega) hl8 (M.vin ?_)
  refine ld_row r2 2 rfl (by omega) hl8 (M.vin (M.vin ?_))
  refine ld_row r2 1 rfl (by omega) hl8 ?_
  refine ld_row r2 2 rfl (by omega) hl8 (M.vin (M.vin (M.vin ?_)))
  simp only [bAnd_ui,bXor_ui,add_ui,bNot_ui,Int.reduceMod,Int.reduceToNat]
  have hs:=w.blk 2 rfl
  have v5:IntKind.wrap .i64 ((m:Int)+1)=((m+1:Nat):Int):=by rw [IntKind.wrap_i64]; omega
  have hn:R (m+1)=(R m).rnd (at0 shaK m) (at0 sc m):=hRs m
  generalize R m=q at *
  simp only [uvs,S8.l,List.map,uv] at w
  refine M.sub_in 1 8 rfl rfl (by decide) (by decide) (by decide) ?_
  simp only [Nat.reduceAdd,Nat.reduceMul,Nat.reduceSub]
  refine M.sub_in 0 7 rfl rfl (by decide) (by decide) (by decide) ?_
  simp only [Nat.reduceAdd,Nat.reduceMul,Nat.reduceSub]
  refine M.cellsOf_at (w.blk 2 rfl) (by simp) ?_
  simp only [bl,Nat.min_self]
  refine M.copy_w w 2 rfl (by simp [isPlainCell]) (by simp) fun h3 w=>?_
  simp only [bs,bl] at w
  refine M.vin ?_
  refine ⟨(by omega),(by omega),?_⟩
  simp only [bs,Int.reduceToNat,add_ui,lb (w.blk 2 rfl)]
  refine M.vin ?_
  refine ⟨(by omega),(by omega),?_⟩
  simp only []
  simp only [bs,Int.reduceToNat]
  refine M.put_w w 2 rfl rfl (by simp) fun h5 w=>?_
  simp only [bs] at w
  refine ⟨(by omega),(by omega),?_⟩
  simp only []
  simp only [Nat.reduceMul,Int.reduceToNat]
  refine M.put_w w 2 rfl rfl (by simp) fun h7 w=>?_
  simp only [bs] at w
  refine M.vin ?_
  rw [v5]
  refine hJ _ _ ⟨m+1,by omega,rfl,?_⟩ (by omega)
  rw [hn]
  exact w
 ·refine cdf (by omega) ?_
  obtain rfl:m=64:=by omega
  generalize R 64=q at *
  have hs:=w.blk 2 rfl
  simp only [bs,Nat.reduceAdd,lb hs,uvs,S8.l,List.map,uv]
  refine M.times 9 ?_
  unfold hashO at w
  refine M.iter_s ?_
  refine cdt (by omega) ?_
  refine ⟨(by omega),(by omega),?_⟩
  simp only []
  simp only [bs,Int.reduceToNat,lb (w.blk 0 rfl)]
  refine ⟨(by omega),(by omega),?_⟩
  simp only []
  simp only [bs,Int.reduceToNat,add_ui]
  refine M.vin ?_
  refine ⟨(by omega),(by omega),?_⟩
  simp only []
  simp only [bs,Int.reduceToNat]
  refine M.put_w w 0 rfl rfl (by simp) fun h4 w=>?_
  simp only [bs] at w
  refine M.vis (1) (by decide) ?_
  refine M.iter_s ?_
  refine cdt (by omega) ?_
  refine ⟨(by omega),(by omega),?_⟩
  simp only []
  simp only [bs,Int.reduceToNat,lb (w.blk 0 rfl)]
  refine ⟨(by omega),(by omega),?_⟩
  simp only []
  simp only [bs,Int.reduceToNat,add_ui]
  refine M.vin ?_
  refine ⟨(by omega),(by omega),?_⟩
  simp only []
  simp only [Nat.reduceMul,Int.reduceToNat]
  refine M.put_w w 0 rfl rfl (by simp) fun h6 w=>?_
  simp only [bs] at w
  refine M.vis (2) (by decide) ?_
  refine M.iter_s ?_
  refine cdt (by omega) ?_
  refine ⟨(by omega),(by omega),?_⟩
  simp only []
  simp only [bs,Int.reduceToNat,lb (w.blk 0 rfl)]
  refine ⟨(by omega),(by omega),?_⟩
  simp only []
  simp only [bs,Int.reduceToNat,add_ui]
  refine M.vin ?_
  refine ⟨(by omega),(by omega),?_⟩
  simp only []
  simp only [Nat.reduceMul,Int.reduceToNat]
  refine M.put_w w 0 rfl rfl (by simp) fun h8 w=>?_
  simp only [bs] at w
  refine M.vis (3) (by decide) ?_
  refine M.iter_s ?_
  refine cdt (by omega) ?_
  refine ⟨(by omega),(by omega),?_⟩
  simp only []
  simp only [bs,Int.reduceToNat,lb (w.blk 0 rfl)]
  refine ⟨(by omega),(by omega),?_⟩
  simp only []
  simp only [bs,Int.reduceToNat,add_ui]
  refine M.vin ?_
  refine ⟨(by omega),(by omega),?_⟩
  simp only []
  simp only [Nat.reduceMul,Int.reduceToNat]
  refine M.put_w w 0 rfl rfl (by simp) fun h10 w=>?_
  simp only [bs] at w
  refine M.vis (4) (by decide) ?_
  refine M.iter_s ?_
  refine cdt (by omega) ?_
  refine ⟨(by omega),(by omega),?_⟩
  simp only []
  simp only [bs,Int.reduceToNat,lb (w.blk 0 rfl)]
  refine ⟨(by omega),(by omega),?_⟩
  simp only []
  simp only [bs,Int.reduceToNat,add_ui]
  refine M.vin ?_
  refine ⟨(by omega),(by omega),?_⟩
  simp only []
  simp only [Nat.reduceMul,Int.reduceToNat]
  refine M.put_w w 0 rfl rfl (by simp) fun h12 w=>?_
  simp only [bs] at w
  refine M.vis (5) (by decide) ?_
  refine M.iter_s ?_
  refine cdt (by omega) ?_
  refine ⟨(by omega),(by omega),?_⟩
  simp only []
  simp only [bs,Int.reduceToNat,lb (w.blk 0 rfl)]
  refine ⟨(by omega),(by omega),?_⟩
  simp only []
  simp only [bs,Int.reduceToNat,add_ui]
  refine M.vin ?_
  refine ⟨(by omega),(by omega),?_⟩
  simp only []
  simp only [Nat.reduceMul,Int.reduceToNat]
  refine M.put_w w 0 rfl rfl (by simp) fun h14 w=>?_
  simp only [bs] at w
  refine M.vis (6) (by decide) ?_
  refine M.iter_s ?_
  refine cdt (by omega) ?_
  refine ⟨(by omega),(by omega),?_⟩
  simp only []
  simp only [bs,Int.reduceToNat,lb (w.blk 0 rfl)]
  refine ⟨(by omega),(by omega),?_⟩
  simp only []
  simp only [bs,Int.reduceToNat,add_ui]
  refine M.vin ?_
  refine ⟨(by omega),(by omega),?_⟩
  simp only []
  simp only [Nat.reduceMul,Int.reduceToNat]
  refine M.put_w w 0 rfl rfl (by simp) fun h16 w=>?_
  simp only [bs] at w
  refine M.vis (7) (by decide) ?_
  refine M.iter_s ?_
  refine cdt (by omega) ?_
  refine ⟨(by omega),(by omega),?_⟩
  simp only []
  simp only [bs,Int.reduceToNat,lb (w.blk 0 rfl)]
  refine ⟨(by omega),(by omega),?_⟩
  simp only []
  simp only [bs,Int.reduceToNat,add_ui]
  refine M.vin ?_
  refine ⟨(by omega),(by omega),?_⟩
  simp only []
  simp only [Nat.reduceMul,Int.reduceToNat]
  refine M.put_w w 0 rfl rfl (by simp) fun h18 w=>?_
  simp only [bs] at w
  refine M.vis (8) (by decide) ?_
  refine M.iter_s ?_
  refine cdf (by omega) ?_
  exact k _ (w.drop (i:=1) rfl |>.drop (i:=1) rfl)
end Go.Proofs.YthegnmanjdlmjaaGreatDoor
namespace Go.Proofs.YthegnmanjdlmjaaGreatDoor
open Go.Sh Go.RowKit
theorem ext_left {p q:ByteArray} {i j:Nat} (hj:j≤p.size):(p++q).extract i j=p.extract i j:=by
 rw [ByteArray.extract_append]
 have:j-p.size=0:=by omega
 have e:q.extract (i-p.size) 0=ByteArray.empty:=ByteArray.extract_eq_empty_iff.2 (by simp)
 rw [this,e,ByteArray.append_empty]
theorem ext_split (u:ByteArray) {i:Nat} (hi:i≤u.size):u.extract 0 i++u.extract i u.size=u:=by
 rw [ByteArray.extract_append_extract,Nat.min_eq_left (by omega),Nat.max_eq_right (by omega),ByteArray.extract_zero_size]
theorem foldB_app (s:S8) (p q:ByteArray):∀ k,64*k≤p.size→foldB s (p++q) k=foldB s p k
 | 0,_=>rfl
 | k+1,h=>by rw [foldB,foldB,foldB_app s p q k (by omega),ext_left (by omega)]
theorem foldB_next (s:S8) (p q:ByteArray) (k:Nat) (hp:p.size=64*k) (hq:q.size=64):foldB s (p++q) (k+1)=(foldB s p k).block q:=by
 rw [foldB,foldB_app s p q k (by omega),ByteArray.extract_append_eq_right hp.symm (by omega)]
def Abs (t:ByteArray) (s:S8) (r:ByteArray):Prop:=∃ p j,p.size=64*j∧t=p++r∧s=foldB S8.first p j∧r.size<64
theorem hWrite_spec {h0 h:H} {b:Nat} {s:S8} {r t x:ByteArray} {n:Int} {Q:H→Prop} (w:Wd h0 h [.blk b (hashO s r n)]) (ab:Abs t s r) (hn:n=t.size) (hx:t.size+x.size≤1000000) (tb:Tabs h0)
  (k:∀ h' s' r',Abs (t++x) s' r'→Wd h0 h' [.blk b (hashO s' r' ((t++x).size:Nat))]→Q h'):sha_Hash_Write (some ⟨b,0,none⟩) x h Q:=by
 unfold sha_Hash_Write sha_Hash_Write.g
 obtain ⟨p,j,hp,ht,hs,hr⟩:=ab
 have hsz:t.size=p.size+r.size:=by rw [ht,ByteArray.size_append]
 have hmax:IntKind.i64.max=9223372036854775807:=by decide
 have hv:IntKind.wrap .i64 (n+(x.size:Int))=((t++x).size:Nat):=by rw [IntKind.wrap_i64,ByteArray.size_append]; omega
 unfold hashO at w
 refine cf (rfl) ?_
 simp only [bs,hv,lb (w.blk 0 rfl)]
 refine M.vin ?_
 refine M.put_w w 0 rfl rfl (by simp) fun h1 w=>?_
 simp only [bs] at w
 simp only [bs,lb (w.blk 0 rfl)]
 refine ⟨(by omega),?_⟩
 have w':Wd h0 _ [.blk b (hashO s r ((t++x).size:Nat))]:=w
 refine M.jn ?_
 refine M.loop_of (I:=fun (u:ByteArray) h'=>∃ p j s,p.size=64*j∧t++x=p++u∧s=foldB S8.first p j∧Wd h0 h' [.blk b (hashO s r ((t++x).size:Nat))]) (μ:=fun u=>u.size) ⟨p,j,s,hp,by rw [ht,ByteArray.append_assoc],hs,w'⟩ ?_
 clear w w'
 rintro u h2 J ⟨p,j,s,hp,ht,hs,w⟩ hJ
 have hu:t.size+x.size=p.size+u.size:=by rw [←ByteArray.size_append,ht,ByteArray.size_append]
 by_cases hlt:(u.size:Int) ≥ 64
 ·refine cdt hlt ?_
  have e64:(u.extract (Int.toNat 0) (Int.toNat 64)).size=64:=by rw [ByteArray.size_extract]; simp; omega
  refine ⟨(by omega),(by omega),(by assumption),?_⟩
  refine take_spec w (by assumption) (by assumption) fun h3 w_=>?_
  have w:=w_
  clear w_
  refine ⟨(by omega),(by assumption),(by omega),?_⟩
  refine hJ _ _ ⟨p++u.extract 0 64,j+1,_,?_,?_,?_,w⟩ ?_
  ·rw [ByteArray.size_append,ByteArray.size_extract]; omega
  ·rw [ht,ByteArray.append_assoc]
   congr 1
   exact (ext_split u (by omega)).symm
  ·rw [hs]; exact (foldB_next _ _ _ _ hp e64).symm
  ·rw [ByteArray.size_extract]; simp; omega
 ·refine cdf hlt ?_
  unfold hashO at w
  simp only []
  refine M.put_w w 0 rfl rfl (by simp) fun h3 w=>?_
  simp only [bs] at w
  exact k _ s u ⟨p,j,hp,ht,hs,by omega⟩ w
end Go.Proofs.YthegnmanjdlmjaaGreatDoor
namespace Go.Proofs.YthegnmanjdlmjaaGreatDoor
open Go.Sh Go.RowKit
theorem repeatL_one (n:Nat):Lib.repeatL [(0:UInt8)] n=List.replicate n 0:=by
 induction n with
 | zero=>rfl
 | succ n ih=>rw [Lib.repeatL,ih,List.replicate_succ]; rfl
theorem Rep0_spec {h:H} {n:Int} {Q:ByteArray→H→Prop} (h0:0≤n) (h1:n≤1000000) (k:∀ h',Keep h h'→Q (zerosT n.toNat) h'):strings_Repeat ⟨#[0]⟩ n h Q:=by
 refine ⟨h0,?_,by omega,fun h' k'=>?_⟩
 ·have:(ByteArray.size ⟨#[0]⟩:Int)=1:=rfl
  rw [this]; omega
 ·have e:(⟨(Lib.repeatL (ByteArray.mk #[0]).data.toList n.toNat).toArray⟩:ByteArray)=zerosT n.toNat:=by
   show (⟨(Lib.repeatL [0] n.toNat).toArray⟩:ByteArray)=_
   rw [repeatL_one,zerosT,ofBytes,List.map_replicate]; rfl
  rw [e]; exact k h' k'
theorem words_blk {h:H} {b:Nat} {us:List U} {rest:List Value} {e:TypeId} {f:Nat × Nat} (hb:h b=some (.cells (uvs us++rest).toArray e f)) (hs:us.length≤1000000):Words h (some ⟨b,0,none⟩) us.length us:=by
 refine ⟨rfl,hs,fun e=>by simp at e,fun b' e=>?_⟩
 simp only [Option.some.injEq] at e
 subst e
 intro i hi
 rw [addr_add,cell_in hb,Nat.zero_add,List.getElem?_toArray,List.getElem?_append_left hi]
theorem lenW_len (n:Nat):(lenW n).length=2:=rfl
theorem digest_of {t p r:ByteArray} {s':S8} {r':ByteArray} (ab:Abs (t++padT t.size) s' r'):digestT t=textOf true s'.l:=by
 obtain ⟨q,j,hq,ht,hs,hr⟩:=ab
 obtain ⟨q1,q2⟩:=padT_size t.size
 have h1:t.size+(padT t.size).size=q.size+r'.size:=by rw [←ByteArray.size_append,ht,ByteArray.size_append]
 have h2:r'.size=0:=by omega
 have h3:(t.size+(padT t.size).size) / 64=j:=by omega
 rw [digestT,h3,ht,foldB_app _ _ _ _ (by omega),hs]
theorem hSum_spec {h0 h:H} {b:Nat} {s:S8} {r t:ByteArray} {n:Int} {Q:ByteArray→H→Prop} (w:Wd h0 h [.blk b (hashO s r n)]) (ab:Abs t s r) (hn:n=t.size) (hx:t.size≤900000) (tb:Tabs h0)
  (k:∀ h',Wd h0 h' [.blk b (hashO s r n)]→Q (digestT t) h'):sha_Hash_Sum (some ⟨b,0,none⟩) h Q:=by
 unfold sha_Hash_Sum sha_Hash_Sum.g
 obtain ⟨q1,q2⟩:=padT_size t.size
 have hr:r.size=t.size % 64:=by
  obtain ⟨p,j,hp,ht,hs,hr⟩:=ab
  rw [ht,ByteArray.size_append]; omega
 have hmax:IntKind.i64.max=9223372036854775807:=by decide
 have v1:IntKind.wrap .u64 n=t.size:=by rw [IntKind.wrap_u64]; omega
 have v2:IntKind.wrap .u64 ((t.size:Int)*8)=((8*t.size:Nat):Int):=by rw [IntKind.wrap_u64]; omega
 have v3:IntKind.wrap .i64 (119-(r.size:Int))=((119-t.size % 64:Nat):Int):=by rw [IntKind.wrap_i64]; omega
 have v4:Int.tmod ((119-t.size % 64:Nat):Int) 64=(padN t.size:Int):=by rw [Int.tmod_eq_emod_of_nonneg (by omega),padN]; omega
 have v5:IntKind.wrap .u32 (shr .u64 ((8*t.size:Nat):Int) 32)=ui (BitVec.ofNat 32 (8*t.size / 4294967296)):=by
  have:shr .u64 ((8*t.size:Nat):Int) 32=((8*t.size / 4294967296:Nat):Int):=shr_nat .u64 _ 32 (by decide)
  rw [this,IntKind.wrap_u32,ui,BitVec.toNat_ofNat]; omega
 have v6:IntKind.wrap .u32 ((8*t.size:Nat):Int)=ui (BitVec.ofNat 32 (8*t.size)):=by rw [IntKind.wrap_u32,ui,BitVec.toNat_ofNat]; omega
 have hpn:=(padN_ok t.size).2.1
 unfold hashO at w
 refine cf (rfl) ?_
 simp only [bs,lb (w.blk 0 rfl)]
 refine M.new_w w fun b2 h1 w=>?_
 refine ⟨(rfl),?_⟩
 refine M.puts_w0 w 1 rfl (by simp [isPlainCell]) (by simp) fun h3 w=>?_
 simp only [bs] at w
 simp only [bs,v1,v3,lb (w.blk 0 rfl)]
 refine M.vin ?_
 simp only [v2]
 refine M.vin ?_
 simp only [v6]
 refine M.vin ?_
 refine ⟨(by omega),?_⟩
 simp only [v4]
 refine M.vin ?_
 refine Rep0_spec (by omega) (by omega) fun h4 k_=>?_
 have w:=w.keeps k_
 clear k_
 refine ⟨(by simp only [szs,v1,v2,v3,v4,v5,v6,Int.toNat_natCast,zerosT_size]; omega),?_⟩
 refine ⟨(by omega),?_⟩
 simp only [Int.toNat_natCast]
 refine M.vin ?_
 simp only [v5]
 refine M.vin ?_
 refine M.vin ?_
 refine M.new_w w fun b6 h5 w=>?_
 refine FromBig_spec (words_blk (us:=lenW t.size) (rest:=[]) (w.blk 2 rfl) (by simp [lenW])) fun h7 k_=>?_
 have w:=w.keeps k_
 refine ⟨(by simp only [szs,zerosT_size,textOf_size,lenW_len]; omega),?_⟩
 simp only []
 obtain ⟨hx,k0,k1,wx,wr,back⟩:=w.on (i:=1) rfl
 refine hWrite_spec wx ab hn ?_ (tb.keep k0) fun h8 s' r' ab' w1=>?_
 ·have:((⟨#[128]⟩++zerosT (padN t.size))++textOf true (lenW t.size)).size=(padT t.size).size:=rfl
  omega
 have w:=back _ _ w1
 rw [digest_of (r:=r) (p:=r) ab'] at k
 unfold hashO at w
 refine M.sub_in 0 8 rfl rfl (by decide) (by decide) (by decide) ?_
 simp only [Nat.reduceAdd,Nat.reduceMul,Nat.reduceSub]
 refine FromBig_spec (words_blk (us:=s'.l) (w.blk 1 rfl) (show 8≤1000000 by decide)) fun h7 k_=>?_
 have w:=w.keeps k_
 exact k _ (w.drop (i:=1) rfl |>.drop (i:=1) rfl)
theorem hNew_spec {h:H} {Q:Option Addr→H→Prop} (tb:Tabs h) (k:∀ b h',Wd h h' [.blk b (hashO S8.first ByteArray.empty 0)]→Q (some ⟨b,0,none⟩) h'):sha_New h Q:=by
 unfold sha_New
 have hr:=tb.f0
 refine ld_at hr 0 (by decide) (ld_at hr 1 (by decide) (ld_at hr 2 (by decide) (ld_at hr 3 (by decide) (ld_at hr 4 (by decide) (ld_at hr 5 (by decide) (ld_at hr 6 (by decide) (ld_at hr 7 (by decide) ?_)))))))
 have w:=Wd.start h
 refine M.new_w w fun b2 h1 w=>?_
 exact k _ _ w
theorem sha_spec {h:H} {t:ByteArray} {Q:ByteArray→H→Prop} (hx:t.size≤900000) (tb:Tabs h) (k:∀ h',Keep h h'→Q (digestT t) h'):sha_Sum t h Q:=by
 unfold sha_Sum sha_Sum.g
 refine hNew_spec tb fun b h1 w=>?_
 refine hWrite_spec w (t:=ByteArray.empty) ⟨ByteArray.empty,0,rfl,rfl,rfl,by decide⟩ rfl (by have:ByteArray.empty.size=0:=rfl; omega) tb fun h2 s' r' ab w=>?_
 rw [ByteArray.empty_append] at ab w
 refine hSum_spec w ab rfl hx tb fun h3 w=>?_
 exact k _ w.keep
def kindT (k:UInt8) (t:ByteArray):ByteArray:=digestT (⟨#[k]⟩++t)
section
variable {h:H} {t:ByteArray} {Q:ByteArray→H→Prop}
theorem Leaf_spec (hx:t.size≤800000) (tb:Tabs h) (k:∀ h',Keep h h'→Q (kindT 0 t) h'):sha_Leaf t h Q:=by
 unfold sha_Leaf sha_Leaf.g
 have hz:((⟨#[0]⟩:ByteArray)++t).size=1+t.size:=ByteArray.size_append ..
 have hmax:IntKind.i64.max=9223372036854775807:=by decide
 exact ⟨by rw [←ByteArray.size_append,hz,hmax]; omega,sha_spec (by omega) tb k⟩
theorem Node_spec (hx:t.size≤800000) (tb:Tabs h) (k:∀ h',Keep h h'→Q (kindT 1 t) h'):sha_Node t h Q:=by
 unfold sha_Node sha_Node.g
 have hz:((⟨#[1]⟩:ByteArray)++t).size=1+t.size:=ByteArray.size_append ..
 have hmax:IntKind.i64.max=9223372036854775807:=by decide
 exact ⟨by rw [←ByteArray.size_append,hz,hmax]; omega,sha_spec (by omega) tb k⟩
end
end Go.Proofs.YthegnmanjdlmjaaGreatDoor
namespace Go.Sh
open Go.RowKit Classical
structure Keys (P:Program) (kt:TypeId) (ok:Value→Prop):Prop where
 eq:∀ a b,ok a→ok b→∀ w,(Op.equal kt a b).run P w = .ok (decide (a=b)) w
 now:∀ a b d,ok a→ok b→P.underlying kt=some d→Instr.sameNow d a b=none∨Instr.sameNow d a b=some (decide (a=b))
 chk:∀ a,ok a→∀ e w,(Instr.checkKey e 10000 kt a).run P w = .ok () w
 same:∀ a,ok a→Instr.sameBits 10000 a a=true
 und:∃ d,P.underlying kt=some d
noncomputable def findE (k:Value):List MapEntry→Nat→Option (Nat × Value)
 | [],_=>none
 | e::r,i=>if k=e.key then some (i,e.val) else findE k r (i+1)
section
variable {P:Program} {kt:TypeId} {ok:Value→Prop}
theorem Keys.asking (hK:Keys P kt ok) {k:Value} (hk:ok k):∀ (l:List MapEntry) (i:Nat),(∀ e ∈ l,ok e.key)→∀ w,(Instr.findAsking kt k l i).run P w = .ok (findE k l i) w
 | [],i,_,w=>rfl
 | e::r,i,h,w=>by
  unfold Instr.findAsking findE
  rw [Sem.run_bind,hK.eq k e.key hk (h e (by simp)),Result.andThen_ok]
  by_cases he:k=e.key
  ·simp [he]
  ·simp only [he,decide_false,Bool.false_eq_true,if_false]
   exact hK.asking hk r (i+1) (fun e he=>h e (by simp [he])) w
theorem Keys.nows (hK:Keys P kt ok) {k:Value} (hk:ok k) {d:TypeDesc} (hd:P.underlying kt=some d):∀ (l:List MapEntry) (i:Nat),(∀ e ∈ l,ok e.key)→Instr.findNow d k l i=none∨Instr.findNow d k l i=some (findE k l i)
 | [],i,_=>.inr rfl
 | e::r,i,h=>by
  unfold Instr.findNow findE
  rcases hK.now k e.key d hk (h e (by simp)) hd with hn | hn
  ·rw [hn]; exact .inl rfl
  ·rw [hn]
   by_cases he:k=e.key
   ·simp [he]
   ·simp only [he,decide_false,if_false]
    exact hK.nows hk hd r (i+1) fun e he=>h e (by simp [he])
theorem Keys.at (hK:Keys P kt ok) {k:Value} (hk:ok k) {es:Array MapEntry} (h:∀ e ∈ es.toList,ok e.key):KeyAt P kt es k (findE k es.toList 0):=by
 refine ⟨hK.chk k hk,fun w=>?_⟩
 obtain ⟨d,hd⟩:=hK.und
 unfold Instr.findKey
 rw [Sem.run_bind,run_underlying hd,Result.andThen_ok]
 rcases hK.nows hk hd es.toList 0 h with hn | hn
 ·rw [hn]; exact hK.asking hk es.toList 0 h w
 ·rw [hn]; rfl
def MapIs (ok:Value→Prop) (h:H) (b:Nat) (f:Value→Option Value) (n:Nat):Prop:=
 ∃ es c,h b=some (.map es c)∧(∀ e ∈ es.toList,ok e.key)∧es.size=n∧∀ k i,(findE k es.toList i).map (·.2)=f k
theorem MapIs.keep {h h':H} {b:Nat} {f:Value→Option Value} {n:Nat} (m:MapIs ok h b f n) (k:Keep h h'):MapIs ok h' b f n:=
 let ⟨es,c,hb,r⟩:=m; ⟨es,c,k _ _ hb,r⟩
theorem MapIs.new {h:H} {b c:Nat} (hb:h b=some (.map #[] c)):MapIs ok h b (fun _=>none) 0:=⟨#[],c,hb,by simp,rfl,fun _ _=>rfl⟩
theorem findE_some {k:Value}:∀ {l:List MapEntry} {i j:Nat} {v:Value},findE k l i=some (j,v)→∃ e,i≤j∧l[j-i]? = some e∧e.key=k∧e.val=v
 | [],_,_,_,h=>by simp [findE] at h
 | e::r,i,j,v,h=>by
  unfold findE at h
  split at h
  ·rename_i he
   simp only [Option.some.injEq,Prod.mk.injEq] at h
   obtain ⟨rfl,rfl⟩:=h
   exact ⟨e,Nat.le_refl _,by simp,he.symm,rfl⟩
  ·obtain ⟨e',h1,h2,h3,h4⟩:=findE_some h
   refine ⟨e',by omega,?_,h3,h4⟩
   rw [show j-i=(j-(i+1))+1 by omega,List.getElem?_cons_succ]; exact h2
theorem findE_append {k:Value} {e:MapEntry}:∀ {l:List MapEntry} {i:Nat},(findE k (l++[e]) i).map (·.2)=match (findE k l i).map (·.2) with | some v=>some v | none=>if k=e.key then some e.val else none
 | [],i=>by simp only [List.nil_append,findE]; split <;> simp
 | a::r,i=>by
  simp only [List.cons_append,findE]
  by_cases h:k=a.key
  ·simp [h]
  ·simp only [h,if_false]; exact findE_append
theorem findE_modify {k x v:Value}:∀ {l:List MapEntry} {i j m:Nat} {u:Value},findE k l i=some (j,u)→(findE x (l.modify (j-i) fun e=>{ e with key:=k,val:=v }) m).map (·.2)=if x=k then some v else (findE x l m).map (·.2)
 | [],_,_,_,_,h=>by simp [findE] at h
 | e::r,i,j,m,u,h=>by
  unfold findE at h
  split at h
  ·rename_i he
   simp only [Option.some.injEq,Prod.mk.injEq] at h
   obtain ⟨rfl,rfl⟩:=h
   simp only [Nat.sub_self,List.modify_zero_cons,findE]
   by_cases hx:x=k
   ·simp [hx]
   ·rw [if_neg hx,if_neg hx,if_neg (fun hh=>hx (hh.trans he.symm))]
  ·rename_i he
   obtain ⟨_,h1,_⟩:=findE_some h
   rw [show j-i=(j-(i+1))+1 by omega,List.modify_succ_cons]
   simp only [findE]
   by_cases hx:x=e.key
   ·rw [if_pos hx,if_pos hx,if_neg (fun hh=>he (hh.symm.trans hx))]
   ·rw [if_neg hx,if_neg hx]; exact findE_modify h
theorem lk_of {ty et:TypeId} {h:H} {b:Nat} {f:Value→Option Value} {n:Nat} {k z:Value} {K:Value→H→Prop} (hu:P.underlying ty=some (.map kt et)) (hK:Keys P kt ok) (hz:∀ w,(zeroValue et).run P w = .ok z w)
  (m:MapIs ok h b f n) (hk:ok k) (kk:K ((f k).getD z) h):M.lk P ty (.map (some b)) k h K:=by
 obtain ⟨es,c,hb,hok,hn,hf⟩:=m
 refine ⟨kt,et,es,_,hu,.inr ⟨b,c,rfl,hb⟩,hK.at hk hok,?_⟩
 have:=hf k 0
 cases hfe:findE k es.toList 0 with
 | some p=>
  rw [hfe] at this
  simp only [Option.map_some] at this
  rw [←this] at kk
  exact kk
 | none=>
  rw [hfe] at this
  simp only [Option.map_none] at this
  rw [←this] at kk
  exact ⟨z,hz,kk⟩
theorem lk2_of {ty et:TypeId} {h:H} {b:Nat} {f:Value→Option Value} {n:Nat} {k z:Value} {K:Value→Bool→H→Prop} (hu:P.underlying ty=some (.map kt et)) (hK:Keys P kt ok) (hz:∀ w,(zeroValue et).run P w = .ok z w)
  (m:MapIs ok h b f n) (hk:ok k) (kk:K ((f k).getD z) (f k).isSome h):M.lk2 P ty (.map (some b)) k h K:=by
 obtain ⟨es,c,hb,hok,hn,hf⟩:=m
 refine ⟨kt,et,es,_,hu,.inr ⟨b,c,rfl,hb⟩,hK.at hk hok,?_⟩
 have:=hf k 0
 cases hfe:findE k es.toList 0 with
 | some p=>
  rw [hfe] at this
  simp only [Option.map_some] at this
  rw [←this] at kk
  exact kk
 | none=>
  rw [hfe] at this
  simp only [Option.map_none] at this
  rw [←this] at kk
  exact ⟨z,hz,kk⟩
theorem mput_of {ty et:TypeId} {h:H} {b:Nat} {f:Value→Option Value} {n:Nat} {k v:Value} {K:H→Prop} (hu:P.underlying ty=some (.map kt et)) (hK:Keys P kt ok)
  (m:MapIs ok h b f n) (hk:ok k) (kk:∀ h',But b h h'→MapIs ok h' b (fun x=>if x=k then some v else f x) (if (f k).isSome then n else n+1)→K h'):M.mput P ty (.map (some b)) k v h K:=by
 obtain ⟨es,c,hb,hok,hn,hf⟩:=m
 refine ⟨kt,et,b,es,c,_,hu,rfl,hb,hK.at hk hok,?_⟩
 have h0:=hf k 0
 cases hfe:findE k es.toList 0 with
 | some p=>
  obtain ⟨i,u⟩:=p
  rw [hfe] at h0
  simp only [Option.map_some] at h0
  obtain ⟨e,_,he,hek,_⟩:=findE_some hfe
  rw [Nat.sub_zero] at he
  refine ⟨?_,kk _ (but_upd _ _ _) ⟨_,c,H.upd_self _ _ _,?_,?_,fun x j=>?_⟩⟩
  ·have:es[i]? = some e:=by simpa using he
   rw [this]
   simp only [Option.map_some,Option.getD_some,hek]
   exact hK.same k hk
  ·intro e' he'
   rw [Array.toList_modify] at he'
   rcases List.mem_iff_getElem?.1 he' with ⟨j,hj⟩
   rw [List.getElem?_modify] at hj
   by_cases hij:i=j
   ·subst hij
    rw [he] at hj
    simp only [if_true,Option.map_eq_map,Option.map_some,Option.some.injEq] at hj
    subst hj; exact hk
   ·simp only [hij,if_false] at hj
    cases hg:es.toList[j]? with
    | none=>rw [hg] at hj; simp at hj
    | some a=>
     rw [hg] at hj
     simp only [Option.map_eq_map,Option.map_some,Option.some.injEq] at hj
     have:a=e':=hj
     rw [←this]; exact hok _ (List.mem_of_getElem? hg)
  ·rw [Array.size_modify,←h0]; simpa using hn
  ·have:=findE_modify (x:=x) (v:=v) (m:=j) hfe
   rw [Nat.sub_zero] at this
   rw [Array.toList_modify,this,hf]
 | none=>
  rw [hfe] at h0
  simp only [Option.map_none] at h0
  refine kk _ (but_upd _ _ _) ⟨_,c+1,H.upd_self _ _ _,?_,?_,fun x j=>?_⟩
  ·intro e' he'
   rw [Array.toList_push,List.mem_append] at he'
   rcases he' with he' | he'
   ·exact hok _ he'
   ·simp only [List.mem_singleton] at he'
    subst he'; exact hk
  ·rw [Array.size_push,hn,←h0]; rfl
  ·rw [Array.toList_push,findE_append,hf]
   by_cases hx:x=k
   ·subst hx; rw [←h0]; simp
   ·simp only [hx,if_false]
    cases f x <;> rfl
theorem keys_int {k:IntKind} (hu:P.underlying kt=some (.int k)):Keys P kt (fun v=>∃ n,v = .int k n) where
 eq:=by
  rintro _ _ ⟨a,rfl⟩ ⟨b,rfl⟩ w
  have:(Op.equal kt (.int k a) (.int k b)).run P w = .ok (a == b) w:=run_equalIn_int w 9999 kt k k a b hu
  rw [this]
  congr 1
  by_cases e:a=b <;> simp [e]
 now:=by
  rintro _ _ d ⟨a,rfl⟩ ⟨b,rfl⟩ hd
  rw [hu] at hd
  simp only [Option.some.injEq] at hd
  subst hd
  right
  simp only [Instr.sameNow,if_true,Option.some.injEq]
  by_cases e:a=b <;> simp [e]
 chk:=by
  rintro _ ⟨a,rfl⟩ e w
  unfold Instr.checkKey
  rw [Sem.run_bind,run_underlying hu,Result.andThen_ok]; rfl
 same:=by
  rintro _ ⟨a,rfl⟩
  simp [Instr.sameBits]
 und:=⟨_,hu⟩
theorem bytes_beq (a b:ByteArray):(a == b)=decide (a=b):=by
 rw [beq_toListBytes,ByteArray.toList_eq,ByteArray.toList_eq]
 obtain ⟨⟨x⟩⟩:=a
 obtain ⟨⟨y⟩⟩:=b
 by_cases e:x=y <;> simp [e]
end
end Go.Sh
namespace Go.Proofs.YthegnmanjdlmjaaGreatDoor
open Go.Sh Go.RowKit
def dep (n:Int):Nat:=if n=2 then 1 else if n=4 then 2 else if n=8 then 3 else if n=16 then 4 else 0
def halfB (p:ByteArray) (b:Bool):ByteArray:=bif b then p.extract 32 p.size else p.extract 0 32
def bitT (slot k:Nat):Bool:=decide (slot / 2 ^ k % 2=1)
def nodeT (p:ByteArray):ByteArray:=kindT 1 p
theorem strEq_dec (a b:ByteArray):strEq a b=decide (a=b):=by rw [strEq,←beq_toListBytes,bytes_beq]
def follow (top:ByteArray) (slot:Nat):List ByteArray→ByteArray × Int
 | []=>(top,0)
 | p::r=>if p.size≠64∨nodeT p≠top then (ByteArray.empty,22) else follow (halfB p (bitT slot r.length)) slot r
def putT (slot:Nat) (d:ByteArray):List ByteArray→List ByteArray × ByteArray
 | []=>([],d)
 | p::r=>
  let x:=bif bitT slot r.length then p.extract 0 32++(putT slot d r).2 else (putT slot d r).2++p.extract 32 p.size
  (x::(putT slot d r).1,nodeT x)
theorem putT_len (slot:Nat) (d:ByteArray):∀ ps,(putT slot d ps).1.length=ps.length
 | []=>rfl
 | p::r=>by simp [putT,putT_len slot d r]
section
variable {h:H} {n z:Int} {Q:Int→H→Prop}
theorem refSize_spec {p:Nat} (hp:1≤p∧p≤4) (k:Q ((2 ^ p:Nat):Int) h):ref12_size (p:Int) h Q:=by
 have:p=1∨p=2∨p=3∨p=4:=by omega
 rcases this with rfl | rfl | rfl | rfl <;> exact k
theorem and_pred (n:Int) (h:2≤n∧n≤16):(bAnd .i64 n (n-1) != 0)=decide (dep n=0):=by
 have:∀ m:Fin 17,2≤m.val→(bAnd .i64 ((m.val:Nat):Int) (((m.val:Nat):Int)-1) != 0)=decide (dep ((m.val:Nat):Int)=0):=by decide
 have:=this ⟨n.toNat,by omega⟩ (by simp only; omega)
 simp only [Int.toNat_of_nonneg (show 0≤n by omega)] at this
 exact this
theorem tz_spec {h:H} {n:Int} {Q:Int→H→Prop} (tb:Tabs h) (hn:n=2∨n=4∨n=8∨n=16) (k:Q (dep n) h):math_bits_TrailingZeros n h Q:=by
 unfold math_bits_TrailingZeros math_bits_TrailingZeros.g
 unfold math_bits_TrailingZeros64
 have hc:=tb.tz
 have go:∀ (i:Nat) (hi:i<64) (K:Int→Prop),K (tzT[i]'hi)→M.load h ⟨5,i,none⟩ fun v=>M.int .u8 v K:=by
  intro i hi K k
  have e:=hc i (by rw [bvs_len]; exact hi)
  rw [addr_add,Nat.zero_add] at e
  rw [load_eq,e]
  have:(bvs tzT)[i]? = some (.int .u8 (tzT[i]'hi)):=by
   rw [bvs,List.getElem?_map,List.getElem?_eq_getElem (show i<tzT.length from hi)]; rfl
  rw [this,some_and,int_eq]; exact k
 rcases hn with rfl | rfl | rfl | rfl
 ·refine cf (rfl) ?_
  refine M.vis (18446744073709551614) (by decide) ?_
  refine M.vis (2) (by decide) ?_
  refine M.vis (571740426102707730) (by decide) ?_
  refine ⟨(by omega),?_⟩
  refine M.vis (1) (by decide) ?_
  refine ⟨(by omega),(by omega),?_⟩
  simp only [bs,Nat.reduceMul,Int.reduceToNat]
  exact go 1 (by decide) _ (M.vis 1 (by decide) k)
 ·refine cf (rfl) ?_
  refine M.vis (18446744073709551612) (by decide) ?_
  refine M.vis (4) (by decide) ?_
  refine M.vis (1143480852205415460) (by decide) ?_
  refine ⟨(by omega),?_⟩
  refine M.vis (3) (by decide) ?_
  refine ⟨(by omega),(by omega),?_⟩
  simp only [bs,Nat.reduceMul,Int.reduceToNat]
  exact go 3 (by decide) _ (M.vis 2 (by decide) k)
 ·refine cf (rfl) ?_
  refine M.vis (18446744073709551608) (by decide) ?_
  refine M.vis (8) (by decide) ?_
  refine M.vis (2286961704410830920) (by decide) ?_
  refine ⟨(by omega),?_⟩
  refine M.vis (7) (by decide) ?_
  refine ⟨(by omega),(by omega),?_⟩
  simp only [bs,Nat.reduceMul,Int.reduceToNat]
  exact go 7 (by decide) _ (M.vis 3 (by decide) k)
 ·refine cf (rfl) ?_
  refine M.vis (18446744073709551600) (by decide) ?_
  refine M.vis (16) (by decide) ?_
  refine M.vis (4573923408821661840) (by decide) ?_
  refine ⟨(by omega),?_⟩
  refine M.vis (15) (by decide) ?_
  refine ⟨(by omega),(by omega),?_⟩
  simp only [bs,Nat.reduceMul,Int.reduceToNat]
  exact go 15 (by decide) _ (M.vis 4 (by decide) k)
theorem dep_out {n:Int} (h:n<2∨n > 16):dep n=0:=by
 unfold dep
 rw [if_neg (by omega),if_neg (by omega),if_neg (by omega),if_neg (by omega)]
theorem dep_ne {n:Int} (h:dep n≠0):n=2∨n=4∨n=8∨n=16:=by
 unfold dep at h
 by_cases h1:n=2
 ·exact .inl h1
 by_cases h2:n=4
 ·exact .inr (.inl h2)
 by_cases h3:n=8
 ·exact .inr (.inr (.inl h3))
 by_cases h4:n=16
 ·exact .inr (.inr (.inr h4))
 simp [h1,h2,h3,h4] at h
theorem depth_spec {h:H} {n:Int} {Q:Int→H→Prop} (tb:Tabs h) (k:Q (dep n) h):tree_depth n h Q:=by
 unfold tree_depth tree_depth.g
 refine M.join_of (fun d h'=>d=decide (dep n=0)∧h=h') (fun J hJ=>?_) ?_
 ·refine cd (fun h1=>?_) fun h1=>cd (fun h2=>?_) fun h2=>?_
  ·exact hJ _ _ ⟨by rw [dep_out (.inl h1)]; rfl,rfl⟩
  ·exact hJ _ _ ⟨by rw [dep_out (.inr h2)]; rfl,rfl⟩
  ·have v1:IntKind.wrap .i64 (n-1)=n-1:=i64' (by omega) (by omega)
   refine M.vis _ v1 (M.vin ?_)
   rw [and_pred n (by omega)]
   exact hJ _ _ ⟨rfl,rfl⟩
 rintro _ _ ⟨rfl,rfl⟩
 refine cd (fun e=>?_) fun e=>?_
 ·rw [e] at k; exact k
 ·have hn:=dep_ne e
  refine M.vis n (u64' (by omega) (by omega)) ?_
  exact tz_spec tb hn k
theorem leaves_spec {h:H} {p:Nat} {Q:Int→H→Prop} (tb:Tabs h) (hp:1≤p∧p≤4) (k:Q ((2 ^ p:Nat):Int) h):tree_leaves (p:Int) h Q:=by
 unfold tree_leaves tree_leaves.g
 refine M.jn ?_
 refine cdf (by omega) ?_
 refine depth_spec tb ?_
 have e:decide (((p:Nat):Int) > (dep 16:Nat))=false:=decide_eq_false (by have:dep 16=4:=rfl; omega)
 refine cf e ⟨by omega,?_⟩
 have:p=1∨p=2∨p=3∨p=4:=by omega
 rcases this with rfl | rfl | rfl | rfl <;> exact k
theorem bAnd_one (m:Nat):bAnd .i64 (m:Int) 1=((m % 2:Nat):Int):=by
 have h1:(BitVec.ofInt 64 (m:Int) &&& BitVec.ofInt 64 1).toNat=m % 2:=by
  rw [BitVec.toNat_and,show (BitVec.ofInt 64 1).toNat=1 from rfl,Nat.and_one_is_mod,BitVec.ofInt_natCast,BitVec.toNat_ofNat]; omega
 show IntKind.wrap .i64 ((BitVec.ofInt 64 (m:Int) &&& BitVec.ofInt 64 1).toNat:Int)=_
 rw [h1,IntKind.wrap_i64]; omega
theorem second_spec {h:H} {s p i:Nat} {Q:Bool→H→Prop} (hp:p≤4) (hi:i<p) (k:Q (bitT s (p-1-i)) h):tree_second (s:Int) (p:Int) (i:Int) h Q:=by
 unfold tree_second
 refine M.vis ((p-1:Nat):Int) (by rw [IntKind.wrap_i64]; omega) (M.vis ((p-1-i:Nat):Int) (by rw [IntKind.wrap_i64]; omega) ⟨by omega,M.vis ((s / 2 ^ (p-1-i):Nat):Int) (shr_nat .i64 _ _ (by simp [IntKind.bits]; omega)) (M.vis _ (bAnd_one _) ?_)⟩)
 have:((((s / 2 ^ (p-1-i) % 2:Nat):Int)) == 1)=bitT s (p-1-i):=by
  rw [bitT,Bool.eq_iff_iff,beq_iff_eq,decide_eq_true_iff]; omega
 rw [this]; exact k
theorem half_spec {h:H} {t:ByteArray} {b:Bool} {Q:ByteArray→H→Prop} (ht:t.size=64) (k:Q (halfB t b) h):tree_half t b h Q:=by
 unfold tree_half
 refine cc (fun e=>?_) fun e=>?_
 ·subst e; exact ⟨by omega,by omega,by omega,k⟩
 ·subst e; exact ⟨by omega,by omega,by omega,k⟩
end
end Go.Proofs.YthegnmanjdlmjaaGreatDoor
namespace Go.Proofs.YthegnmanjdlmjaaGreatDoor
open Go.Sh Go.RowKit
theorem set_map_range {α:Type} (d j:Nat) (f:Nat→α) (v:α):((List.range d).map f).set j v=(List.range d).map fun i=>if i=j then v else f i:=by
 apply List.ext_getElem?
 intro i
 rw [List.getElem?_set,List.getElem?_map,List.getElem?_map,List.length_map,List.length_range]
 by_cases hi:i<d
 ·rw [List.getElem?_range hi]
  by_cases hj:j=i
  ·subst hj; simp [hi]
  ·have:¬ i=j:=fun e=>hj e.symm
   simp [hj,this]
 ·rw [List.getElem?_eq_none (by simpa using hi)]
  simp; omega
def pathN (n s:Int):List Int:=(List.range (dep n)).map fun i=>(((n+s).toNat / 2 ^ (dep n-i):Nat):Int)
theorem pathN_len (n s:Int):(pathN n s).length=dep n:=by simp [pathN]
theorem dep_le (n:Int):dep n≤4:=by
 unfold dep
 repeat' split
 all_goals omega
theorem dep_pow {n:Int} (h:dep n≠0):n=((2 ^ dep n:Nat):Int):=by
 rcases dep_ne h with rfl | rfl | rfl | rfl <;> rfl
theorem drop_sa {ps:List ByteArray} {m:Nat} (h:m<ps.length):ps.drop m=sa ps m::ps.drop (m+1):=by rw [sa_get h,←List.drop_eq_getElem_cons h]
theorem follow_step {top:ByteArray} {slot:Nat} {ps:List ByteArray} {m:Nat} (h:m<ps.length):follow top slot (ps.drop m)=if (sa ps m).size≠64∨nodeT (sa ps m)≠top then (ByteArray.empty,22) else follow (halfB (sa ps m) (bitT slot (ps.length-1-m))) slot (ps.drop (m+1)):=by
 rw [drop_sa h,follow,List.length_drop,show ps.length-(m+1)=ps.length-1-m by omega]
theorem follow_end {top:ByteArray} {slot:Nat} {ps:List ByteArray}:follow top slot (ps.drop ps.length)=(top,0):=by rw [List.drop_length]; rfl
section
variable {h:H} {a:Option Addr} {l c:Nat} {ps:List ByteArray} {top:ByteArray} {slot:Nat} {Q:ByteArray→Int→H→Prop}
theorem sa_le {n:Nat} (hz:∀ p ∈ ps,p.size≤n) (m:Nat):(sa ps m).size≤n:=by
 by_cases h:m<ps.length
 ·rw [sa_get h]; exact hz _ (List.getElem_mem h)
 ·have:sa ps m=ByteArray.empty:=by simp [sa,List.getD_eq_getElem?_getD,List.getElem?_eq_none (by omega:ps.length≤m)]
  rw [this]; exact Nat.zero_le _
theorem Follow_spec (f:Ro eS h a l ps) (hl:1≤l∧l≤4) (hs:slot<2 ^ l) (hz:∀ p ∈ ps,p.size≤500000) (tb:Tabs h) (k:∀ h',Keep h h'→Q (follow top slot ps).1 (follow top slot ps).2 h'):tree_Follow top (slot:Int) a l c h Q:=by
 unfold tree_Follow tree_Follow.g
 refine M.jn ?_
 have w:=Wd.start h
 have hlen:=f.len
 refine cdf (by omega) ?_
 refine leaves_spec tb hl ?_
 refine cf (decide_eq_false (by omega)) ?_
 refine M.jn ?_
 refine M.loop_of (I:=fun (p:ByteArray × Int) h'=>∃ m:Nat,m≤l∧p.2=(m:Int)∧follow top slot ps=follow p.1 slot (ps.drop m)∧Wd h h' []) (μ:=fun p=>(l-p.2).toNat) ⟨0,by omega,rfl,rfl,w⟩ ?_
 clear w
 rintro ⟨t,_⟩ h2 J ⟨m,hm,rfl,hf,w⟩ hJ
 simp only at hf ⊢
 by_cases hlt:m<l
 ·refine cdt (by omega) ?_
  rw [follow_step (by omega)] at hf
  have hsz:=sa_le hz m
  refine Ro.ldS (f.keep w.keep) (by omega) (by omega) ?_
  refine M.join_of (fun d h'=>d=decide ((sa ps m).size≠64∨nodeT (sa ps m)≠t)∧Wd h h' []) (fun J2 hJ2=>?_) ?_
  ·rw [Int.toNat_natCast]
   refine cc (fun e=>?_) fun e=>?_
   ·refine hJ2 _ _ ⟨(decide_eq_true (.inl ?_)).symm,w⟩
    rw [bne_iff_ne] at e; omega
   ·rw [bne_eq_false_iff_eq] at e
    refine Node_spec (by omega) (tb.keep w.keep) fun h1 k_=>?_
    have w:=w.keeps k_
    clear k_
    refine hJ2 _ _ ⟨?_,w⟩
    rw [strEq_dec,Bool.eq_iff_iff]
    have:(sa ps m).size=64:=by omega
    simp [this,nodeT]
  clear w
  rintro _ h3 ⟨rfl,w⟩
  by_cases hc:(sa ps m).size≠64∨nodeT (sa ps m)≠t
  ·rw [if_pos hc] at hf
   refine cdt hc ?_
   rw [hf] at k
   exact k _ w.keep
  ·rw [if_neg hc] at hf
   refine cdf hc ?_
   have h64:(sa ps m).size=64:=by omega
   refine second_spec (s:=slot) hl.2 hlt ?_
   rw [Int.toNat_natCast]
   refine half_spec h64 ?_
   refine M.vis ((m+1:Nat):Int) (by rw [IntKind.wrap_i64]; omega) ?_
   refine hJ _ _ ⟨m+1,by omega,rfl,?_,w⟩ (by simp only; omega)
   rw [hf,hlen]
 ·refine cdf (by omega) ?_
  obtain rfl:m=l:=by omega
  rw [←hlen,follow_end] at hf
  rw [hf] at k
  exact k _ w.keep
theorem bit_node {d s k:Nat} (hk:k<d):(2 ^ d+s) / 2 ^ k % 2=s / 2 ^ k % 2:=by
 have:2 ^ d+s=s+2 ^ (d-k)*2 ^ k:=by rw [←Nat.pow_add,Nat.sub_add_cancel (by omega)]; omega
 rw [this,Nat.add_mul_div_right _ _ (Nat.two_pow_pos k)]
 obtain ⟨q,hq⟩:∃ q,d-k=q+1:=⟨d-k-1,by omega⟩
 rw [hq,Nat.pow_succ]; omega
end
end Go.Proofs.YthegnmanjdlmjaaGreatDoor
namespace Go.Proofs.YthegnmanjdlmjaaGreatDoor
open Go.Sh Go.RowKit
theorem kindT_size (k:UInt8) (t:ByteArray):(kindT k t).size=32:=by rw [kindT,digestT,textOf_size]; rfl
theorem nodeT_size (t:ByteArray):(nodeT t).size=32:=kindT_size _ _
def putX (slot:Nat) (d:ByteArray) (p:ByteArray) (r:List ByteArray):ByteArray:=bif bitT slot r.length then p.extract 0 32++(putT slot d r).2 else (putT slot d r).2++p.extract 32 p.size
theorem putT_cons (slot:Nat) (d p:ByteArray) (r:List ByteArray):putT slot d (p::r)=(putX slot d p r::(putT slot d r).1,nodeT (putX slot d p r)):=rfl
theorem putT_size {slot:Nat} {d:ByteArray} (hd:d.size=32):∀ ps,(putT slot d ps).2.size=32
 | []=>hd
 | p::r=>by rw [putT_cons]; exact nodeT_size _
theorem putX_size {slot:Nat} {d p:ByteArray} {r:List ByteArray} (hd:d.size=32) (hp:p.size=64):(putX slot d p r).size=64:=by
 have:=putT_size (slot:=slot) hd r
 unfold putX
 cases bitT slot r.length
 ·rw [cond_false,ByteArray.size_append,ByteArray.size_extract,this,hp]; decide
 ·rw [cond_true,ByteArray.size_append,ByteArray.size_extract,this,hp]; decide
theorem putT_64 {slot:Nat} {d:ByteArray} (hd:d.size=32):∀ ps,(∀ p ∈ ps,p.size=64)→∀ p ∈ (putT slot d ps).1,p.size=64
 | [],_,p,h=>by simp [putT] at h
 | q::r,hz,p,h=>by
  rw [putT_cons,List.mem_cons] at h
  rcases h with rfl | h
  ·exact putX_size hd (hz _ (by simp))
  ·exact putT_64 hd r (fun p hp=>hz p (by simp [hp])) p h
theorem set_rep {xs:List ByteArray} (m:Nat) (x:ByteArray):(List.replicate (m+1) ByteArray.empty++xs).set m x=List.replicate m ByteArray.empty++(x::xs):=by
 rw [List.replicate_succ',List.append_assoc,List.set_append_right _ _ (by simp)]
 simp
section
variable {h:H} {a:Option Addr} {l c:Nat} {ps:List ByteArray} {d:ByteArray} {slot:Nat} {Q:Option Addr→Nat→Nat→ByteArray→Int→H→Prop}
theorem Put_spec (f:Ro eS h a l ps) (hl:1≤l∧l≤4) (hs:slot<2 ^ l) (hz:∀ p ∈ ps,p.size=64) (hd:d.size=32) (tb:Tabs h) (k:∀ a c h',Wd h h' [.sl 9 1 a l c (eS.row (putT slot d ps).1)]→Q a l c (putT slot d ps).2 0 h'):
  tree_Put (slot:Int) a l c d h Q:=by
 unfold tree_Put tree_Put.g
 refine M.jn ?_
 have w:=Wd.start h
 have hlen:=f.len
 refine cdf (by omega) (leaves_spec tb hl (cf (decide_eq_false (by omega)) (cf (by rw [bne_eq_false_iff_eq]; omega) ?_)))
 refine M.mk_sl w (by omega) (by omega) (by omega) (by omega) rfl fun a1 h2 w=>?_
 simp only [zs,Int.toNat_natCast] at w ⊢
 refine M.jn ?_
 refine M.vin ?_
 refine M.loop_of (I:=fun (p:ByteArray × Int) h'=>∃ m:Nat,m≤l∧p.2=(m:Int)-1∧p.1=(putT slot d (ps.drop m)).2∧Wd h h' [.sl 9 1 a1 l l (eS.row (List.replicate m ByteArray.empty++(putT slot d (ps.drop m)).1))]) (μ:=fun p=>(p.2+1).toNat) ⟨l,by omega,?_,?_,?_⟩ ?_
 ·rw [IntKind.wrap_i64]; simp only; omega
 ·rw [←hlen,List.drop_length]; rfl
 ·rw [←hlen,List.drop_length]
  simp only [putT,List.append_nil]
  rw [hlen]; exact w
 clear w
 rintro ⟨_,_⟩ h2 J ⟨m,hm,rfl,rfl,w⟩ hJ
 simp only
 cases m with
 | succ m=>
  refine cdt (by omega) ?_
  have v0:(((m+1:Nat):Int)-1)=(m:Int):=by omega
  have hp:(sa ps m).size=64:=by rw [sa_get (by omega)]; exact hz _ (List.getElem_mem _)
  have h32:=putT_size (slot:=slot) hd (ps.drop (m+1))
  have hx:putT slot d (ps.drop m)=(putX slot d (sa ps m) (ps.drop (m+1))::(putT slot d (ps.drop (m+1))).1,nodeT (putX slot d (sa ps m) (ps.drop (m+1)))):=by rw [drop_sa (by omega),putT_cons]
  have hxs:=putX_size (slot:=slot) (r:=ps.drop (m+1)) hd hp
  have hbit:(ps.drop (m+1)).length=l-1-m:=by rw [List.length_drop]; omega
  rw [v0]
  refine Ro.ldS (f.keep w.keep) (by omega) (by omega) ?_
  simp only [Int.toNat_natCast]
  refine cf (by simp [*]) ?_
  refine M.join_of (fun _ h'=>Wd h h' [.sl 9 1 a1 l l (eS.row (List.replicate m ByteArray.empty++(putT slot d (ps.drop m)).1))]) (fun J2 hJ2=>?_) ?_
  ·refine second_spec (s:=slot) hl.2 (by omega) ?_
   rw [hx] at hJ2
   unfold putX at hJ2
   rw [hbit] at hJ2
   cases hb:bitT slot (l-1-m) <;> rw [hb] at hJ2
   ·refine cf rfl ?_
    refine Ro.ldS (f.keep w.keep) (by omega) (by omega) ?_
    simp only [Int.toNat_natCast]
    refine half_spec (by assumption) ?_
    refine ⟨(by simp [Int.toNat_natCast,halfB,h32]; omega),?_⟩
    simp only [halfB]
    refine w.put1 0 rfl rfl _ rfl (by omega) (by omega) fun h11 w=>?_
    simp only [bs,Int.toNat_natCast] at w
    rw [set_rep] at w
    exact hJ2 _ _ w
   ·refine ct rfl ?_
    refine Ro.ldS (f.keep w.keep) (by omega) (by omega) ?_
    simp only [Int.toNat_natCast]
    refine half_spec (by assumption) ?_
    refine ⟨(by simp [Int.toNat_natCast,halfB,h32]; omega),?_⟩
    simp only [halfB]
    refine w.put1 0 rfl rfl _ rfl (by omega) (by omega) fun h11 w=>?_
    simp only [bs,Int.toNat_natCast] at w
    rw [set_rep] at w
    exact hJ2 _ _ w
  clear w
  rintro _ h3 w
  have hsa:sa (List.replicate m ByteArray.empty++(putT slot d (ps.drop m)).1) m=putX slot d (sa ps m) (ps.drop (m+1)):=by
   rw [hx,sa,List.getD_eq_getElem?_getD,List.getElem?_append_right (by simp)]; simp
  have v1:IntKind.wrap .i64 ((m:Int)-1)=(m:Int)-1:=by rw [IntKind.wrap_i64]; omega
  simp only [v1]
  refine Ro.ldS (w.ro 0 rfl (by decide)) (by omega) (by omega) ?_
  simp only [Int.toNat_natCast,hsa]
  refine Node_spec (by omega) (tb.keep w.keep) fun h8 k_=>?_
  have w:=w.keeps k_
  clear k_
  refine M.vin ?_
  refine hJ _ _ ⟨m,by omega,rfl,?_,w⟩ (by simp only; omega)
  rw [hx]; rfl
 | zero=>
  refine cdf (by omega) ?_
  rw [List.drop_zero] at w ⊢
  exact k _ _ _ w
end
end Go.Proofs.YthegnmanjdlmjaaGreatDoor
namespace Go.Proofs.YthegnmanjdlmjaaGreatDoor
open Go.Sh Go.RowKit
def nodeD (ls:List ByteArray) (i:Nat):ByteArray:=
 if h:ls.length≤i∨i=0 then sa ls (i-ls.length) else nodeT (nodeD ls (2*i)++nodeD ls (2*i+1))
termination_by ls.length-i
decreasing_by all_goals omega
def pairD (ls:List ByteArray) (i:Nat):ByteArray:=nodeD ls (2*i)++nodeD ls (2*i+1)
theorem nodeD_leaf {ls:List ByteArray} {i:Nat} (h:ls.length≤i):nodeD ls i=sa ls (i-ls.length):=by rw [nodeD,dif_pos (.inl h)]
theorem nodeD_in {ls:List ByteArray} {i:Nat} (h0:0<i) (h:i<ls.length):nodeD ls i=nodeT (pairD ls i):=by rw [nodeD,dif_neg (by omega),pairD]
theorem nodeD_size {ls:List ByteArray} (hz:∀ p ∈ ls,p.size=32) {i:Nat} (h0:0<i) (h2:i<2*ls.length):(nodeD ls i).size=32:=by
 by_cases h:i<ls.length
 ·rw [nodeD_in h0 h]; exact nodeT_size _
 ·rw [nodeD_leaf (by omega),sa_get (by omega)]; exact hz _ (List.getElem_mem _)
theorem pairD_size {ls:List ByteArray} (hz:∀ p ∈ ls,p.size=32) {i:Nat} (h0:0<i) (h2:i<ls.length):(pairD ls i).size=64:=by
 rw [pairD,ByteArray.size_append,nodeD_size hz (by omega) (by omega),nodeD_size hz (by omega) (by omega)]
def buildP (ls:List ByteArray):List ByteArray:=(List.range ls.length).map fun j=>if j=0 then ByteArray.empty else pairD ls j
theorem rep_range (n:Nat) (x:ByteArray):List.replicate n x=(List.range n).map fun _=>x:=by
 symm
 rw [List.eq_replicate_iff]
 refine ⟨by simp,fun b hb=>?_⟩
 rw [List.mem_map] at hb
 obtain ⟨_,_,rfl⟩:=hb
 rfl
theorem sa_range {n i:Nat} (f:Nat→ByteArray) (hi:i<n):sa ((List.range n).map f) i=f i:=by rw [sa_get (by simpa using hi)]; simp
theorem map_range_congr {n:Nat} {f g:Nat→ByteArray} (h:∀ i,i<n→f i=g i):(List.range n).map f=(List.range n).map g:=List.map_congr_left fun i hi=>h i (List.mem_range.1 hi)
section
variable {h:H} {a:Option Addr} {l c:Nat} {ls:List ByteArray} {Q:Option Addr→Nat→Nat→ByteArray→Int→H→Prop}
theorem Build_spec (f:Ro eS h a l ls) (hd:dep (l:Int)≠0) (hz:∀ p ∈ ls,p.size=32) (tb:Tabs h) (k:∀ a c h',Wd h h' [.sl 9 1 a l c (eS.row (buildP ls))]→Q a l c (nodeD ls 1) 0 h'):tree_Build a l c h Q:=by
 unfold tree_Build tree_Build.g
 have hlen:=f.len
 have hl:2≤l∧l≤16:=by rcases dep_ne hd with h | h | h | h <;> omega
 have w:=Wd.start h
 refine depth_spec tb (cf (by rw [beq_eq_false_iff_ne]; omega) ?_)
 refine M.vis ((2*l:Nat):Int) (by rw [IntKind.wrap_i64]; omega) ?_
 have hp:∀ m,m<l→(sa ls m).size=32:=fun m hm=>by rw [sa_get (by omega)]; exact hz _ (List.getElem_mem _)
 refine M.mk_sl w (by omega) (by omega) (by omega) (by omega) rfl fun a1 h2 w=>?_
 simp only [zs,Int.toNat_natCast] at w ⊢
 refine M.jn ?_
 rw [rep_range] at w
 refine M.loop_of (I:=fun (i:Int) h'=>∃ m:Nat,m≤l∧i=(m:Int)∧Wd h h' [.sl 9 1 a1 (2*l) (2*l) (eS.row ((List.range (2*l)).map fun j=>if l≤j∧j<l+m then nodeD ls j else ByteArray.empty))]) (μ:=fun i=>(l-i).toNat) ⟨0,by omega,rfl,?_⟩ ?_
 ·rw [map_range_congr (g:=fun _=>ByteArray.empty) fun i hi=>if_neg (by omega)]
  exact w
 clear w
 rintro _ h2 J ⟨m,hm,rfl,w⟩ hJ
 by_cases hlt:m<l
 ·refine cdt (by omega) ?_
  have hpm:=hp m hlt
  have v1:IntKind.wrap .i64 ((l:Int)+m)=((l+m:Nat):Int):=by rw [IntKind.wrap_i64]; omega
  have v2:IntKind.wrap .i64 ((m:Int)+1)=((m+1:Nat):Int):=by rw [IntKind.wrap_i64]; omega
  simp only [v1,v2]
  refine Ro.ldS (f.keep w.keep) (by omega) (by omega) ?_
  simp only [Int.toNat_natCast]
  refine cf (by simp [*]) ?_
  refine M.vin ?_
  refine Ro.ldS (f.keep w.keep) (by omega) (by omega) ?_
  simp only [Int.toNat_natCast]
  refine w.put1 0 rfl rfl _ rfl (by omega) (by omega) fun h17 w=>?_
  simp only [bs,Int.toNat_natCast] at w
  refine M.vin ?_
  refine hJ _ _ ⟨m+1,by omega,rfl,?_⟩ (by omega)
  rw [set_map_range] at w
  rw [map_range_congr (g:=fun j=>if j=l+m then sa ls m else if l≤j∧j<l+m then nodeD ls j else ByteArray.empty) fun i hi=>?_]
  ·exact w
  ·by_cases h1:i=l+m
   ·subst h1
    rw [if_pos (by omega),if_pos rfl,nodeD_leaf (by omega),hlen,Nat.add_sub_cancel_left]
   ·rw [if_neg h1]
    by_cases h2:l≤i∧i<l+m
    ·rw [if_pos h2,if_pos (by omega)]
    ·rw [if_neg h2,if_neg (by omega)]
 refine cdf (by omega) ?_
 obtain rfl:m=l:=by omega
 refine M.mk_sl w (by omega) (by omega) (by omega) (by omega) rfl fun a2 h3 w=>?_
 simp only [zs,Int.toNat_natCast] at w ⊢
 refine M.jn (M.vis ((m-1:Nat):Int) (by rw [IntKind.wrap_i64]; omega) ?_)
 rw [rep_range] at w
 refine M.loop_of (I:=fun (i:Int) h'=>∃ q:Nat,q<m∧i=(q:Int)∧Wd h h' [.sl 9 1 a1 (2*m) (2*m) (eS.row ((List.range (2*m)).map fun j=>if q<j then nodeD ls j else ByteArray.empty)),.sl 9 1 a2 m m (eS.row ((List.range m).map fun j=>if q<j then pairD ls j else ByteArray.empty))]) (μ:=fun i=>i.toNat) ⟨m-1,by omega,rfl,?_⟩ ?_
 ·rw [map_range_congr (g:=fun j=>if m≤j∧j<m+m then nodeD ls j else ByteArray.empty) fun i hi=>?_,map_range_congr (n:=m) (g:=fun _=>ByteArray.empty) fun i hi=>if_neg (by omega)]
  ·exact w
  ·by_cases h1:m≤i
   ·rw [if_pos (by omega),if_pos (by omega)]
   ·rw [if_neg (by omega),if_neg (by omega)]
 clear w hJ J
 rintro _ h3 J ⟨q,hq,rfl,w⟩ hJ
 cases q with
 | succ q=>
  refine cdt (by omega) ?_
  have v1:IntKind.wrap .i64 (2*((q+1:Nat):Int))=((2*(q+1):Nat):Int):=by rw [IntKind.wrap_i64]; omega
  have v2:IntKind.wrap .i64 (((2*(q+1):Nat):Int)+1)=((2*(q+1)+1:Nat):Int):=by rw [IntKind.wrap_i64]; omega
  have v3:IntKind.wrap .i64 (((q+1:Nat):Int)-1)=(q:Int):=by rw [IntKind.wrap_i64]; omega
  have s1:sa ((List.range (2*m)).map fun j=>if q+1<j then nodeD ls j else ByteArray.empty) (2*(q+1))=nodeD ls (2*(q+1)):=by rw [sa_range _ (by omega),if_pos (by omega)]
  have s2:sa ((List.range (2*m)).map fun j=>if q+1<j then nodeD ls j else ByteArray.empty) (2*(q+1)+1)=nodeD ls (2*(q+1)+1):=by rw [sa_range _ (by omega),if_pos (by omega)]
  have z1:=nodeD_size hz (i:=2*(q+1)) (by omega) (by omega)
  have z2:=nodeD_size hz (i:=2*(q+1)+1) (by omega) (by omega)
  have z3:=pairD_size hz (i:=q+1) (by omega) (by omega)
  have ep:nodeD ls (2*(q+1))++nodeD ls (2*(q+1)+1)=pairD ls (q+1):=rfl
  simp only [v1]
  refine M.vin ?_
  refine Ro.ldS (w.ro 0 rfl (by decide)) (by omega) (by omega) ?_
  simp only [Int.toNat_natCast,s1]
  refine M.vin ?_
  simp only [v2]
  refine M.vin ?_
  refine Ro.ldS (w.ro 0 rfl (by decide)) (by omega) (by omega) ?_
  refine ⟨(by simp only [szs,Int.toNat_natCast,v1,v2,s1,s2,ep,set_map_range]; omega),?_⟩
  simp only [Int.toNat_natCast,s2,ep]
  refine w.put1 1 rfl rfl _ rfl (by omega) (by omega) fun h14 w=>?_
  simp only [bs,Int.toNat_natCast,set_map_range] at w
  refine Ro.ldS (w.ro 1 rfl (by decide)) (by omega) (by omega) ?_
  simp only [Int.toNat_natCast]
  have s3:sa ((List.range m).map fun i=>if i=q+1 then pairD ls (q+1) else if q+1<i then pairD ls i else ByteArray.empty) (q+1)=pairD ls (q+1):=by rw [sa_range _ (by omega),if_pos rfl]
  simp only [v3,s3]
  refine Node_spec (by omega) (tb.keep w.keep) fun h4 k_=>?_
  have w:=w.keeps k_
  clear k_
  refine w.put1 0 rfl rfl _ rfl (by omega) (by omega) fun h8 w=>?_
  simp only [bs,Int.toNat_natCast,set_map_range] at w
  refine M.vin ?_
  refine hJ _ _ ⟨q,by omega,rfl,?_⟩ (by omega)
  rw [map_range_congr (g:=fun j=>if j=q+1 then kindT 1 (pairD ls (q+1)) else if q+1<j then nodeD ls j else ByteArray.empty) fun i hi=>?_,map_range_congr (n:=m) (g:=fun i=>if i=q+1 then pairD ls (q+1) else if q+1<i then pairD ls i else ByteArray.empty) fun i hi=>?_]
  ·exact w
  ·by_cases h1:i=q+1
   ·subst h1; rw [if_pos (by omega),if_pos rfl]
   ·rw [if_neg h1]
    by_cases h2:q+1<i
    ·rw [if_pos h2,if_pos (by omega)]
    ·rw [if_neg h2,if_neg (by omega)]
  ·by_cases h1:i=q+1
   ·subst h1; rw [if_pos (by omega),if_pos rfl,nodeD_in (by omega) (by omega)]; rfl
   ·rw [if_neg h1]
    by_cases h2:q+1<i
    ·rw [if_pos h2,if_pos (by omega)]
    ·rw [if_neg h2,if_neg (by omega)]
 | zero=>
  refine cdf (by omega) ?_
  have s1:sa ((List.range (2*m)).map fun j=>if 0<j then nodeD ls j else ByteArray.empty) 1=nodeD ls 1:=by rw [sa_range _ (by omega),if_pos (by omega)]
  have e1:Int.toNat 1=1:=rfl
  simp only []
  refine Ro.ldS (w.ro 0 rfl (by decide)) (by omega) (by omega) ?_
  simp only [e1,s1]
  have e:buildP ls=(List.range m).map fun j=>if 0<j then pairD ls j else ByteArray.empty:=by
   rw [buildP,hlen]
   refine map_range_congr fun i hi=>?_
   by_cases h1:i=0
   ·rw [if_pos h1,if_neg (by omega)]
   ·rw [if_neg h1,if_pos (by omega)]
  refine k _ _ _ ?_
  rw [e]
  exact w.drop (i:=0) rfl
end
end Go.Proofs.YthegnmanjdlmjaaGreatDoor
namespace Go.Proofs.YthegnmanjdlmjaaGreatDoor
open Go.Sh Go.RowKit
def qh (a b c d:U) (m n:Nat):U × U × U × U:=
 let a':=a+b
 let d':=(d ^^^ a').rotateLeft m
 let c':=c+d'
 (a',(b ^^^ c').rotateLeft n,c',d')
def qrt (a b c d:U):U × U × U × U:=
 let q:=qh a b c d 16 12
 qh q.1 q.2.1 q.2.2.1 q.2.2.2 8 7
def qS (s:List U) (a b c d:Nat):List U:=
 let q:=qrt (at0 s a) (at0 s b) (at0 s c) (at0 s d)
 (((s.set a q.1).set b q.2.1).set c q.2.2.1).set d q.2.2.2
theorem qS_len (s:List U) (a b c d:Nat):(qS s a b c d).length=s.length:=by simp [qS]
def dbl (s:List U):List U:=qS (qS (qS (qS (qS (qS (qS (qS s 0 4 8 12) 1 5 9 13) 2 6 10 14) 3 7 11 15) 0 5 10 15) 1 6 11 12) 2 7 8 13) 3 4 9 14
def dblN (s:List U):Nat→List U
 | 0=>s
 | n+1=>dbl (dblN s n)
theorem dbl_len (s:List U):(dbl s).length=s.length:=by simp [dbl,qS_len]
theorem uvs_set (s:List U) (i:Nat) (x:U):(uvs s).toArray.setIfInBounds i (.int .u32 (ui x))=(uvs (s.set i x)).toArray:=by
 rw [List.setIfInBounds_toArray,uvs,uvs,List.map_set]; rfl
section
variable {h0 h:H} {a b c d:U} {s:List U}
theorem Quarter_spec {Q:Int→Int→Int→Int→H→Prop} (k:∀ h',Keep h h'→Q (ui (qrt a b c d).1) (ui (qrt a b c d).2.1) (ui (qrt a b c d).2.2.1) (ui (qrt a b c d).2.2.2) h'):chacha_Quarter (ui a) (ui b) (ui c) (ui d) h Q:=by
 unfold chacha_Quarter chacha_Quarter.g
 refine M.jn (M.times 3 ?_)
 have w:=Wd.start h
 refine M.iter_s ?_
 simp only [add_ui]
 refine cdt (by omega) ?_
 refine ⟨(by omega),(by omega),?_⟩
 simp only [bs,Int.reduceToNat]
 refine M.new_w w fun b2 h1 w=>?_
 refine ⟨(rfl),?_⟩
 refine M.puts_w0 w 0 rfl (by simp [isPlainCell]) (by simp) fun h3 w=>?_
 simp only [bs] at w
 refine M.vin ?_
 simp only [bXor_ui]
 refine M.vin ?_
 refine ⟨(by omega),(by omega),?_⟩
 simp only [bs,Int.reduceToNat,lb (w.blk 0 rfl)]
 refine Left_spec ?_
 simp only [add_ui]
 refine M.vin ?_
 simp only [bXor_ui]
 refine M.vin ?_
 refine ⟨(by omega),(by omega),?_⟩
 simp only [bs,Int.reduceToNat,lb (w.blk 0 rfl)]
 refine Left_spec ?_
 refine M.vis (1) (by decide) ?_
 refine M.iter_s ?_
 simp only [add_ui]
 refine cdt (by omega) ?_
 refine ⟨(by omega),(by omega),?_⟩
 simp only []
 simp only [bs,Int.reduceToNat]
 refine M.new_w w fun b5 h4 w=>?_
 refine ⟨(rfl),?_⟩
 refine M.puts_w0 w 1 rfl (by simp [isPlainCell]) (by simp) fun h6 w=>?_
 simp only [bs] at w
 refine M.vin ?_
 simp only [bXor_ui]
 refine M.vin ?_
 refine ⟨(by omega),(by omega),?_⟩
 simp only [bs,Int.reduceToNat,lb (w.blk 1 rfl)]
 refine Left_spec ?_
 simp only [add_ui]
 refine M.vin ?_
 simp only [bXor_ui]
 refine M.vin ?_
 refine ⟨(by omega),(by omega),?_⟩
 simp only [bs,Int.reduceToNat,lb (w.blk 1 rfl)]
 refine Left_spec ?_
 refine M.vis (2) (by decide) ?_
 refine M.iter_s ?_
 simp only [add_ui]
 refine cdf (by omega) ?_
 exact k _ w.keep
theorem blk_put {L:List Chunk} {bk:Nat} {e:TypeId} {z:Int} {N:Nat} {K:H→Prop} (w:Wd h0 h L) (i:Nat) (hi:L[i]? = some (.blk bk (.cells (uvs s).toArray e (0,0)))) (n:Nat) (hz:z=(n:Int)) (hn:n<N) (hl:s.length=N) (x:U)
  (k:∀ h',Wd h0 h' (L.set i (.blk bk (.cells (uvs (s.set n x)).toArray e (0,0))))→K h'):M.aidx N z fun j=>M.put h (Addr.add ⟨bk,0,none⟩ (j*1)) (.int .u32 (ui x)) K:=by
 subst hz
 refine ⟨by omega,by omega,?_⟩
 show M.put h (Addr.add ⟨bk,0,none⟩ ((n:Int).toNat * 1)) _ K
 rw [Int.toNat_natCast,Nat.mul_one,addr_add,Nat.zero_add]
 refine M.put_w w i hi rfl (by rw [List.size_toArray,uvs_len]; omega) fun h' w=>k h' ?_
 rwa [uvs_set] at w
theorem quarter_spec {bk:Nat} {e:TypeId} {i j k l:Int} {Q:H→Prop} (w:Wd h0 h [.blk bk (.cells (uvs s).toArray e (0,0))]) (hs:s.length=16) (hi:0≤i∧i<16) (hj:0≤j∧j<16) (hk:0≤k∧k<16) (hl:0≤l∧l<16)
  (q:∀ h',Wd h0 h' [.blk bk (.cells (uvs (qS s i.toNat j.toNat k.toNat l.toNat)).toArray e (0,0))]→Q h'):chacha_quarter (some ⟨bk,0,none⟩) i j k l h Q:=by
 unfold chacha_quarter chacha_quarter.g
 have r:=row_blk (w.blk 0 rfl)
 have ei:i=(i.toNat:Int):=by omega
 have ej:j=(j.toNat:Int):=by omega
 have ek:k=(k.toNat:Int):=by omega
 have el:l=(l.toNat:Int):=by omega
 generalize i.toNat=i' at *
 generalize j.toNat=j' at *
 generalize k.toNat=k' at *
 generalize l.toNat=l' at *
 simp only [nn_eq]
 refine ld_row r i' ei (by omega) hs ?_
 refine ld_row r j' ej (by omega) hs ?_
 refine ld_row r k' ek (by omega) hs ?_
 refine ld_row r l' el (by omega) hs ?_
 refine Quarter_spec fun h2 k2=>?_
 have w:=w.keeps k2
 refine blk_put w 0 rfl i' ei (by omega) hs _ fun h3 w=>blk_put w 0 rfl j' ej (by omega) (by simp [hs]) _ fun h4 w=>blk_put w 0 rfl k' ek (by omega) (by simp [hs]) _ fun h5 w=>blk_put w 0 rfl l' el (by omega) (by simp [hs]) _ fun h6 w=>?_
 exact q _ w
end
end Go.Proofs.YthegnmanjdlmjaaGreatDoor

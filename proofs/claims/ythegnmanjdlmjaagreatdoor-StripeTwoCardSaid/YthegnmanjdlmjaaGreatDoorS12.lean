/- ChaCha20: texts, in both texts. Poly1305: numbers in five parts. Poly1305: the program's products, and what is least. Poly1305: what is least. Poly1305: numbers of texts, and texts of numbers. Poly1305: the key's first half, tags compared. Poly1305: the program's tag. ChaCha20-Poly1305: the program's. A disk in plain words: what lasts, what is, what waits. The program's disk, walked: what each function leaves. The program's disk, walked, 2: a new one; tampering. The document's disk, walked: it is the program's disk where what is, is what lasts with the writes laid over it. -/
import Derived.Test.YthegnmanjdlmjaaGreatDoorS11
import Derived.Test.YthegnmanjdlmjaaGreatDoorS01
import Derived.Test.YthegnmanjdlmjaaGreatDoorS06
set_option linter.unusedSimpArgs false
set_option linter.unusedVariables false
namespace Go.Proofs.YthegnmanjdlmjaaGreatDoor
open Go.Sh Go.RowKit
def ksT (key nonce:ByteArray) (c:U) (i:Nat):Int:=byteAt (blockT key nonce (c+BitVec.ofNat 32 (i / 64))) (i % 64)
theorem ksT_lt (key nonce:ByteArray) (c:U) (i:Nat):0≤ksT key nonce c i∧ksT key nonce c i<256:=byteAt_lt _ _
def cryptT (key nonce:ByteArray) (c:U) (s:ByteArray):ByteArray:=byT s.size fun i=>bx (byteAt s i) (ksT key nonce c i)
theorem cryptT_size (key nonce:ByteArray) (c:U) (s:ByteArray):(cryptT key nonce c s).size=s.size:=byT_size _ _
theorem inc_ui (x:U):IntKind.wrap .u32 (ui x+1)=ui (x+1):=add_ui x 1
theorem ksT_at (key nonce:ByteArray) (c:U) (j i:Nat) (hi:i<64):ksT key nonce c (64*j+i)=byteAt (blockT key nonce (c+BitVec.ofNat 32 j)) i:=by
 unfold ksT
 rw [show (64*j+i) / 64=j by omega,show (64*j+i) % 64=i by omega]
theorem ctr_next (c:U) (j:Nat):c+BitVec.ofNat 32 j+1=c+BitVec.ofNat 32 (j+1):=by
 show c+BitVec.ofNat 32 j+BitVec.ofNat 32 1=_
 rw [BitVec.add_assoc,←BitVec.ofNat_add]
section
variable {h:H} {key nonce s:ByteArray} {c:U} {Q:ByteArray→Int→H→Prop}
theorem Crypt_spec (hk:key.size=32) (hn:nonce.size=12) (hs:s.size≤65536) (k:∀ h',Keep h h'→Q (cryptT key nonce c s) 0 h'):chacha_Crypt key nonce (ui c) s h Q:=by
 unfold chacha_Crypt chacha_Crypt.g
 have w:=Wd.start h
 refine shape_spec (by assumption) (by assumption) ?_
 refine cf (rfl) ?_
 refine cdf (by omega) ?_
 refine M.mk_sl w (by omega) (by omega) (by omega) (by omega) rfl fun a1 h2 w=>?_
 simp only [zs,Int.toNat_natCast] at w ⊢
 refine M.jn ?_
 refine M.loop_of (I:=fun (p:Int × ByteArray × (Option Addr × Nat × Nat)) h'=>∃ j m:Nat,m=min (64*j) s.size∧p.1=ui (c+BitVec.ofNat 32 j)∧p.2.1=s.extract m s.size∧p.2.2.2.1=m∧Wd h h' [.sl 5 1 p.2.2.1 p.2.2.2.1 p.2.2.2.2 (bvs ((List.range m).map fun i=>bx (byteAt s i) (ksT key nonce c i)))]) (μ:=fun p=>p.2.1.size) ⟨0,0,by omega,?_,?_,rfl,?_⟩ ?_
 ·simp
 ·exact ByteArray.extract_zero_size.symm
 ·exact w
 clear w
 rintro ⟨_,_,⟨a2,l2,c2⟩⟩ h2 J ⟨j,m,hm,hc,hr,hl,w⟩ hJ
 simp only at hc hr hl w ⊢
 subst hc hr hl
 have hrs:(s.extract l2 s.size).size=s.size-l2:=by rw [ByteArray.size_extract]; omega
 by_cases hlt:l2<s.size
 ·refine cdt (by omega) ?_
  have hl2:l2=64*j:=by omega
  obtain ⟨n,hn'⟩:∃ n,min (s.size-l2) 64=n:=⟨_,rfl⟩
  have e1:mn ((s.extract l2 s.size).size:Int) 64=(n:Int):=by rw [hrs,←hn']; exact mn_nat _ 64
  rw [e1]
  refine ⟨by omega,by omega,by omega,?_⟩
  refine stream_spec hk hn fun h3 k3=>?_
  have w:=w.keeps k3
  refine Xor_spec (by rw [ByteArray.size_extract]; omega) fun h4 k4=>?_
  have w:=w.keeps k4
  have hx:xorT ((s.extract l2 s.size).extract (Int.toNat 0) (n:Int).toNat) (blockT key nonce (c+BitVec.ofNat 32 j))=byT n fun i=>bx (byteAt s (l2+i)) (ksT key nonce c (l2+i)):=by
   rw [xorT,blockT_size,ByteArray.size_extract,Int.toNat_natCast]
   have:min (min n (s.extract l2 s.size).size-Int.toNat 0) 64=n:=by rw [hrs]; show min (min n (s.size-l2)-0) 64=n; omega
   rw [this]
   refine byT_congr fun i hi=>?_
   rw [byteAt_ext _ _ _ _ (by show 0+i<n; omega) (by omega),byteAt_ext _ _ _ _ (by show l2+(0+i)<s.size; omega) (by omega),hl2,ksT_at _ _ _ _ _ (by omega)]
   show bx (byteAt s (64*j+(0+i))) _ = _
   rw [Nat.zero_add]
  rw [hx,byT_size,bytesOf_byT _ _ fun i _=>bx_lt _ _]
  refine M.app_w w 0 rfl rfl (by simp [bvs_len]) (bvs_plain _) (by omega) (by omega) fun a5 c5 h5 w=>?_
  refine ⟨by omega,by omega,by omega,?_⟩
  refine M.vis _ (inc_ui _) ?_
  rw [ctr_next]
  refine hJ _ _ ⟨j+1,l2+n,by omega,rfl,?_,rfl,?_⟩ ?_
  ·show (s.extract l2 s.size).extract (n:Int).toNat ((s.extract l2 s.size).size:Int).toNat=_
   rw [Int.toNat_natCast,Int.toNat_natCast,ByteArray.extract_extract,hrs]
   congr 1; omega
  ·rw [←range_app,bvs_app]; exact w
  ·show ((s.extract l2 s.size).extract (n:Int).toNat ((s.extract l2 s.size).size:Int).toNat).size<(s.extract l2 s.size).size
   rw [Int.toNat_natCast,Int.toNat_natCast,ByteArray.size_extract,hrs]; omega
 ·refine cdf (by omega) ?_
  have:l2=s.size:=by omega
  subst this
  exact w.text 0 rfl (k _ w.keep)
end
theorem byteAt_cryptT {key nonce s:ByteArray} {c:U} {i:Nat} (hi:i<s.size):byteAt (cryptT key nonce c s) i=bx (byteAt s i) (ksT key nonce c i):=byteAt_byT _ _ _ hi (bx_lt _ _)
theorem bx_bx {a b:Int} (ha:0≤a∧a<256) (hb:0≤b∧b<256):bx (bx a b) b=a:=by
 have h:=bx_lt a b
 rw [bx_nat h hb,bx_nat ha hb,Int.toNat_natCast,Nat.xor_assoc,Nat.xor_self,Nat.xor_zero]; omega
theorem cryptT_twice (key nonce:ByteArray) (c:U) (s:ByteArray):cryptT key nonce c (cryptT key nonce c s)=s:=by
 refine text_eq (by rw [cryptT_size,cryptT_size]) fun i hi=>?_
 rw [cryptT_size,cryptT_size] at hi
 rw [byteAt_cryptT (by rw [cryptT_size]; exact hi),byteAt_cryptT hi,bx_bx (byteAt_lt _ _) (ksT_lt _ _ _ _)]
end Go.Proofs.YthegnmanjdlmjaaGreatDoor
namespace Go.Proofs.YthegnmanjdlmjaaGreatDoor
open Go.Sh Go.RowKit
def q64 (n:Nat):Int:=((n % 18446744073709551616:Nat):Int)
theorem q64_lt {n:Nat} (h:n<18446744073709551616):q64 n=n:=by rw [q64,Nat.mod_eq_of_lt h]
theorem add_q (a b:Nat):IntKind.wrap .u64 (q64 a+q64 b)=q64 (a+b):=by
 rw [IntKind.wrap_u64,q64,q64,q64]; omega
theorem add0_q (a:Nat):IntKind.wrap .u64 (0+q64 a)=q64 a:=by
 rw [IntKind.wrap_u64,q64]; omega
theorem addr0_q (a:Nat):IntKind.wrap .u64 (q64 a+0)=q64 a:=by
 rw [IntKind.wrap_u64,q64]; omega
theorem add5_q (a:Nat):IntKind.wrap .u64 (q64 a+5)=q64 (a+5):=by
 rw [IntKind.wrap_u64,q64,q64]; omega
theorem mul5_q (a:Nat):IntKind.wrap .u64 (q64 a*5)=q64 (a*5):=by
 rw [IntKind.wrap_u64,q64,q64]; omega
theorem mul_q (a b:Nat):IntKind.wrap .u64 (q64 a*q64 b)=q64 (a*b):=by
 rw [IntKind.wrap_u64,q64,q64,q64,←Int.natCast_mul]
 have:=Nat.mul_mod a b 18446744073709551616
 generalize a % 18446744073709551616*(b % 18446744073709551616)=x at *
 omega
theorem and_q (a:Nat):bAnd .u64 (q64 a) 67108863=q64 (a % 67108864):=by
 have h1:(BitVec.ofInt 64 (q64 a) &&& BitVec.ofInt 64 67108863).toNat=a % 67108864:=by
  rw [BitVec.toNat_and,show (BitVec.ofInt 64 67108863).toNat=2 ^ 26-1 from rfl,Nat.and_two_pow_sub_one_eq_mod,q64,BitVec.ofInt_natCast,BitVec.toNat_ofNat]; omega
 show IntKind.wrap .u64 ((BitVec.ofInt 64 (q64 a) &&& BitVec.ofInt 64 67108863).toNat:Int)=_
 rw [h1,IntKind.wrap_u64,q64]; omega
theorem and32_q (a:Nat):bAnd .u64 (q64 a) 4294967295=q64 (a % 4294967296):=by
 have h1:(BitVec.ofInt 64 (q64 a) &&& BitVec.ofInt 64 4294967295).toNat=a % 4294967296:=by
  rw [BitVec.toNat_and,show (BitVec.ofInt 64 4294967295).toNat=2 ^ 32-1 from rfl,Nat.and_two_pow_sub_one_eq_mod,q64,BitVec.ofInt_natCast,BitVec.toNat_ofNat]; omega
 show IntKind.wrap .u64 ((BitVec.ofInt 64 (q64 a) &&& BitVec.ofInt 64 4294967295).toNat:Int)=_
 rw [h1,IntKind.wrap_u64,q64]; omega
theorem shr_q (a:Nat):shr .u64 (q64 a) 26=q64 (a % 18446744073709551616 / 67108864):=by
 have h:shr .u64 (q64 a) ((26:Nat):Int)=_:=shr_nat .u64 (a % 18446744073709551616) 26 (by decide)
 refine h.trans ?_
 rw [q64]; omega
theorem shr32_q (a:Nat):shr .u64 (q64 a) 32=q64 (a % 18446744073709551616 / 4294967296):=by
 have h:shr .u64 (q64 a) ((32:Nat):Int)=_:=shr_nat .u64 (a % 18446744073709551616) 32 (by decide)
 refine h.trans ?_
 rw [q64]; omega
structure L5 where
 a:Nat
 b:Nat
 c:Nat
 d:Nat
 e:Nat
namespace L5
def val (x:L5):Nat:=x.a+x.b*67108864+x.c*4503599627370496+x.d*302231454903657293676544+x.e*20282409603651670423947251286016
def o (x:L5):Obj:=.cells #[.int .u64 (q64 x.a),.int .u64 (q64 x.b),.int .u64 (q64 x.c),.int .u64 (q64 x.d),.int .u64 (q64 x.e)] 279 (0,0)
def sh (n:Nat):Nat:=n % 18446744073709551616 / 67108864
def c1 (x:L5):Nat:=sh x.a
def c2 (x:L5):Nat:=sh (x.b+x.c1)
def c3 (x:L5):Nat:=sh (x.c+x.c2)
def c4 (x:L5):Nat:=sh (x.d+x.c3)
def c5 (x:L5):Nat:=sh (x.e+x.c4)
def carry (x:L5):L5:=⟨(x.a % 67108864+x.c5*5) % 67108864,(x.b+x.c1) % 67108864+sh (x.a % 67108864+x.c5*5),(x.c+x.c2) % 67108864,(x.d+x.c3) % 67108864,(x.e+x.c4) % 67108864⟩
def P:Nat:=1361129467683753853853498429727072845819
structure Lt (x:L5) (n:Nat):Prop where
 a:x.a<n
 b:x.b<n
 c:x.c<n
 d:x.d<n
 e:x.e<n
theorem shs (n:Nat) (h:n<18446744073709551616):∃ m,n % 67108864=m∧m<67108864∧n=sh n*67108864+m:=⟨n % 67108864,rfl,Nat.mod_lt _ (by decide),by unfold sh; omega⟩
theorem carry_both {x:L5} (h:x.Lt 4611686018427387904):x.carry.val+x.c5*P=x.val∧x.carry.b<67141632∧x.c5≤68719480832:=by
 obtain ⟨h1,h2,h3,h4,h5⟩:=h
 obtain ⟨m1,e1,l1,s1⟩:=shs x.a (by omega)
 have q1:sh x.a≤68719476736:=by omega
 obtain ⟨m2,e2,l2,s2⟩:=shs (x.b+x.c1) (by simp only [c1]; omega)
 have q2:x.c2≤68719480832:=by simp only [c2,c1] at *; omega
 obtain ⟨m3,e3,l3,s3⟩:=shs (x.c+x.c2) (by omega)
 have q3:x.c3≤68719480832:=by simp only [c3] at *; omega
 obtain ⟨m4,e4,l4,s4⟩:=shs (x.d+x.c3) (by omega)
 have q4:x.c4≤68719480832:=by simp only [c4] at *; omega
 obtain ⟨m5,e5,l5,s5⟩:=shs (x.e+x.c4) (by omega)
 have q5:x.c5≤68719480832:=by simp only [c5] at *; omega
 obtain ⟨m6,e6,l6,s6⟩:=shs (m1+x.c5*5) (by omega)
 have r1:x.c1=sh x.a:=rfl
 have r2:x.c2=sh (x.b+x.c1):=rfl
 have r3:x.c3=sh (x.c+x.c2):=rfl
 have r4:x.c4=sh (x.d+x.c3):=rfl
 have r5:x.c5=sh (x.e+x.c4):=rfl
 rw [←r1] at s1
 rw [←r2] at s2
 rw [←r3] at s3
 rw [←r4] at s4
 rw [←r5] at s5
 simp only [val,carry,P,e1,e2,e3,e4,e5,e6]
 clear r1 r2 r3 r4 r5 e1 e2 e3 e4 e5 e6
 generalize x.c1=c1 at *
 generalize x.c2=c2 at *
 generalize x.c3=c3 at *
 generalize x.c4=c4 at *
 generalize x.c5=c5 at *
 generalize sh (m1+c5*5)=c6 at *
 refine ⟨by omega,by omega,by omega⟩
theorem carry_val {x:L5} (h:x.Lt 4611686018427387904):x.carry.val+x.c5*P=x.val:=(carry_both h).1
theorem carry_lt {x:L5} (h:x.Lt 4611686018427387904):x.carry.Lt 134217728∧x.carry.a<67108864∧x.carry.c<67108864∧x.carry.d<67108864∧x.carry.e<67108864∧x.carry.b<67141632:=by
 have hh:=(carry_both h).2.1
 have ha:x.carry.a<67108864:=Nat.mod_lt _ (by decide)
 have hc:x.carry.c<67108864:=Nat.mod_lt _ (by decide)
 have hd:x.carry.d<67108864:=Nat.mod_lt _ (by decide)
 have he:x.carry.e<67108864:=Nat.mod_lt _ (by decide)
 exact ⟨⟨by omega,by omega,by omega,by omega,by omega⟩,ha,hc,hd,he,hh⟩
theorem Lt.mono {x:L5} {m n:Nat} (h:x.Lt m) (hm:m≤n):x.Lt n:=⟨Nat.lt_of_lt_of_le h.a hm,Nat.lt_of_lt_of_le h.b hm,Nat.lt_of_lt_of_le h.c hm,Nat.lt_of_lt_of_le h.d hm,Nat.lt_of_lt_of_le h.e hm⟩
def mul (x r:L5):L5:=
 ⟨x.a*r.a+x.b*r.e*5+x.c*r.d*5+x.d*r.c*5+x.e*r.b*5,
  x.a*r.b+x.b*r.a+x.c*r.e*5+x.d*r.d*5+x.e*r.c*5,
  x.a*r.c+x.b*r.b+x.c*r.a+x.d*r.e*5+x.e*r.d*5,
  x.a*r.d+x.b*r.c+x.c*r.b+x.d*r.a+x.e*r.e*5,
  x.a*r.e+x.b*r.d+x.c*r.c+x.d*r.b+x.e*r.a⟩
theorem mul_val (x r:L5):∃ k,(x.mul r).val+k*P=x.val*r.val:=by
 refine ⟨x.b*r.e+x.c*r.d+x.d*r.c+x.e*r.b+(x.c*r.e+x.d*r.d+x.e*r.c)*67108864+(x.d*r.e+x.e*r.d)*4503599627370496+x.e*r.e*302231454903657293676544,?_⟩
 have e:x.val*r.val=(x.a*r.a)+(x.a*r.b+x.b*r.a)*67108864+(x.a*r.c+x.b*r.b+x.c*r.a)*4503599627370496+(x.a*r.d+x.b*r.c+x.c*r.b+x.d*r.a)*302231454903657293676544+(x.a*r.e+x.b*r.d+x.c*r.c+x.d*r.b+x.e*r.a)*20282409603651670423947251286016
   + (x.b*r.e+x.c*r.d+x.d*r.c+x.e*r.b)*1361129467683753853853498429727072845824+(x.c*r.e+x.d*r.d+x.e*r.c)*91343852333181432387730302044767688728495783936+(x.d*r.e+x.e*r.d)*6129982163463555433433388108601236734474956488734408704+x.e*r.e*411376139330301510538742295639337626245683966408394965837152256:=by
  simp only [val]
  generalize x.a=a1
  generalize x.b=a2
  generalize x.c=a3
  generalize x.d=a4
  generalize x.e=a5
  generalize r.a=b1
  generalize r.b=b2
  generalize r.c=b3
  generalize r.d=b4
  generalize r.e=b5
  grind
 rw [e]
 simp only [mul,val,P]
 generalize x.a*r.a=p00
 generalize x.a*r.b=p01
 generalize x.a*r.c=p02
 generalize x.a*r.d=p03
 generalize x.a*r.e=p04
 generalize x.b*r.a=p10
 generalize x.b*r.b=p11
 generalize x.b*r.c=p12
 generalize x.b*r.d=p13
 generalize x.b*r.e=p14
 generalize x.c*r.a=p20
 generalize x.c*r.b=p21
 generalize x.c*r.c=p22
 generalize x.c*r.d=p23
 generalize x.c*r.e=p24
 generalize x.d*r.a=p30
 generalize x.d*r.b=p31
 generalize x.d*r.c=p32
 generalize x.d*r.d=p33
 generalize x.d*r.e=p34
 generalize x.e*r.a=p40
 generalize x.e*r.b=p41
 generalize x.e*r.c=p42
 generalize x.e*r.d=p43
 generalize x.e*r.e=p44
 omega
end L5
section
variable {h0 h:H} {b:Nat} {x r:L5} {Q:H→Prop}
theorem carry_spec (w:Wd h0 h [.blk b x.o]) (k:∀ h',Wd h0 h' [.blk b x.carry.o]→Q h'):poly_limbs_carry (some ⟨b,0,none⟩) h Q:=by
 unfold poly_limbs_carry
 unfold L5.o at w
 refine M.jn (M.times 6 ?_)
 refine M.iter_s ?_
 simp only []
 refine cdt (by omega) ?_
 simp only [bs,lb (w.blk 0 rfl)]
 refine ⟨(by omega),(by omega),?_⟩
 simp only []
 simp only [bs,Int.reduceToNat,addr0_q]
 refine M.vin ?_
 refine ⟨(by omega),(by omega),?_⟩
 simp only []
 simp only [bs,Int.reduceToNat]
 refine M.put_w w 0 rfl rfl (by simp) fun h2 w=>?_
 simp only [bs] at w
 refine ⟨(by omega),(by omega),?_⟩
 simp only [bs,Int.reduceToNat,shr_q,lb (w.blk 0 rfl)]
 refine ⟨(by omega),?_⟩
 refine M.vin ?_
 refine ⟨(by omega),(by omega),?_⟩
 simp only []
 simp only [bs,Int.reduceToNat,and_q]
 refine M.vin ?_
 refine ⟨(by omega),(by omega),?_⟩
 simp only []
 simp only [bs,Int.reduceToNat]
 refine M.put_w w 0 rfl rfl (by simp) fun h4 w=>?_
 simp only [bs] at w
 refine M.vis (1) (by decide) ?_
 refine M.iter_s ?_
 simp only [mul5_q]
 refine cdt (by omega) ?_
 refine ⟨(by omega),(by omega),?_⟩
 simp only [bs,Int.reduceToNat,add_q,lb (w.blk 0 rfl)]
 refine M.vin ?_
 refine ⟨(by omega),(by omega),?_⟩
 simp only []
 simp only [Nat.reduceMul,Int.reduceToNat]
 refine M.put_w w 0 rfl rfl (by simp) fun h6 w=>?_
 simp only [bs] at w
 refine ⟨(by omega),(by omega),?_⟩
 simp only [bs,Int.reduceToNat,shr_q,lb (w.blk 0 rfl)]
 refine ⟨(by omega),?_⟩
 refine M.vin ?_
 refine ⟨(by omega),(by omega),?_⟩
 simp only []
 simp only [bs,Int.reduceToNat,and_q]
 refine M.vin ?_
 refine ⟨(by omega),(by omega),?_⟩
 simp only []
 simp only [Nat.reduceMul,Int.reduceToNat]
 refine M.put_w w 0 rfl rfl (by simp) fun h8 w=>?_
 simp only [bs] at w
 refine M.vis (2) (by decide) ?_
 refine M.iter_s ?_
 simp only [mul5_q]
 refine cdt (by omega) ?_
 refine ⟨(by omega),(by omega),?_⟩
 simp only [bs,Int.reduceToNat,add_q,lb (w.blk 0 rfl)]
 refine M.vin ?_
 refine ⟨(by omega),(by omega),?_⟩
 simp only []
 simp only [Nat.reduceMul,Int.reduceToNat]
 refine M.put_w w 0 rfl rfl (by simp) fun h10 w=>?_
 simp only [bs] at w
 refine ⟨(by omega),(by omega),?_⟩
 simp only [bs,Int.reduceToNat,shr_q,lb (w.blk 0 rfl)]
 refine ⟨(by omega),?_⟩
 refine M.vin ?_
 refine ⟨(by omega),(by omega),?_⟩
 simp only []
 simp only [bs,Int.reduceToNat,and_q]
 refine M.vin ?_
 refine ⟨(by omega),(by omega),?_⟩
 simp only []
 simp only [Nat.reduceMul,Int.reduceToNat]
 refine M.put_w w 0 rfl rfl (by simp) fun h12 w=>?_
 simp only [bs] at w
 refine M.vis (3) (by decide) ?_
 refine M.iter_s ?_
 simp only [mul5_q]
 refine cdt (by omega) ?_
 refine ⟨(by omega),(by omega),?_⟩
 simp only [bs,Int.reduceToNat,add_q,lb (w.blk 0 rfl)]
 refine M.vin ?_
 refine ⟨(by omega),(by omega),?_⟩
 simp only []
 simp only [Nat.reduceMul,Int.reduceToNat]
 refine M.put_w w 0 rfl rfl (by simp) fun h14 w=>?_
 simp only [bs] at w
 refine ⟨(by omega),(by omega),?_⟩
 simp only [bs,Int.reduceToNat,shr_q,lb (w.blk 0 rfl)]
 refine ⟨(by omega),?_⟩
 refine M.vin ?_
 refine ⟨(by omega),(by omega),?_⟩
 simp only []
 simp only [bs,Int.reduceToNat,and_q]
 refine M.vin ?_
 refine ⟨(by omega),(by omega),?_⟩
 simp only []
 simp only [Nat.reduceMul,Int.reduceToNat]
 refine M.put_w w 0 rfl rfl (by simp) fun h16 w=>?_
 simp only [bs] at w
 refine M.vis (4) (by decide) ?_
 refine M.iter_s ?_
 simp only [mul5_q]
 refine cdt (by omega) ?_
 refine ⟨(by omega),(by omega),?_⟩
 simp only [bs,Int.reduceToNat,add_q,lb (w.blk 0 rfl)]
 refine M.vin ?_
 refine ⟨(by omega),(by omega),?_⟩
 simp only []
 simp only [Nat.reduceMul,Int.reduceToNat]
 refine M.put_w w 0 rfl rfl (by simp) fun h18 w=>?_
 simp only [bs] at w
 refine ⟨(by omega),(by omega),?_⟩
 simp only [bs,Int.reduceToNat,shr_q,lb (w.blk 0 rfl)]
 refine ⟨(by omega),?_⟩
 refine M.vin ?_
 refine ⟨(by omega),(by omega),?_⟩
 simp only []
 simp only [bs,Int.reduceToNat,and_q]
 refine M.vin ?_
 refine ⟨(by omega),(by omega),?_⟩
 simp only []
 simp only [Nat.reduceMul,Int.reduceToNat]
 refine M.put_w w 0 rfl rfl (by simp) fun h20 w=>?_
 simp only [bs] at w
 refine M.vis (5) (by decide) ?_
 refine M.iter_s ?_
 simp only [mul5_q]
 refine cdf (by omega) ?_
 refine ⟨(by omega),(by omega),?_⟩
 simp only [bs,Int.reduceToNat,lb (w.blk 0 rfl)]
 refine M.vin ?_
 simp only [add_q]
 refine M.vin ?_
 refine ⟨(by omega),(by omega),?_⟩
 simp only []
 simp only [bs,Int.reduceToNat]
 refine M.put_w w 0 rfl rfl (by simp) fun h22 w=>?_
 simp only [bs] at w
 refine ⟨(by omega),(by omega),?_⟩
 simp only [bs,Int.reduceToNat,lb (w.blk 0 rfl)]
 refine ⟨(by omega),(by omega),?_⟩
 simp only []
 simp only [bs,Int.reduceToNat,shr_q]
 refine ⟨(by omega),?_⟩
 refine M.vin ?_
 simp only [add_q]
 refine M.vin ?_
 refine ⟨(by omega),(by omega),?_⟩
 simp only []
 simp only [Nat.reduceMul,Int.reduceToNat]
 refine M.put_w w 0 rfl rfl (by simp) fun h24 w=>?_
 simp only [bs] at w
 refine ⟨(by omega),(by omega),?_⟩
 simp only [bs,Int.reduceToNat,and_q,lb (w.blk 0 rfl)]
 refine M.vin ?_
 refine ⟨(by omega),(by omega),?_⟩
 simp only []
 simp only [bs,Int.reduceToNat]
 refine M.put_w w 0 rfl rfl (by simp) fun h26 w=>?_
 simp only [bs] at w
 exact k _ w
end
end Go.Proofs.YthegnmanjdlmjaaGreatDoor
namespace Go.Proofs.YthegnmanjdlmjaaGreatDoor
open Go.Sh Go.RowKit
section
variable {h0 h:H} {b:Nat} {x r:L5} {Q:H→Prop}
theorem times_spec (w:Wd h0 h [.blk b x.o]) (k:∀ h',Wd h0 h' [.blk b (x.mul r).carry.o]→Q h'):poly_limbs_times (some ⟨b,0,none⟩) (q64 r.a) (q64 r.b) (q64 r.c) (q64 r.d) (q64 r.e) h Q:=by
 unfold poly_limbs_times poly_limbs_times.g
 unfold L5.o at w
 refine M.new_w w fun b2 h1 w=>?_
 refine M.new_w w fun b4 h3 w=>?_
 refine M.jn (M.times 6 ?_)
 refine M.iter_s ?_
 refine cdt (by decide) ?_
 simp only [bs,lb (w.blk 0 rfl),lb (w.blk 1 rfl)]
 refine ⟨(by omega),(by omega),?_⟩
 simp only []
 simp only [bs,Int.reduceToNat]
 refine M.times 6 ?_
 refine M.iter_s ?_
 refine cdt (by omega) ?_
 refine ⟨(by omega),(by omega),?_⟩
 simp only []
 simp only [bs,Int.reduceToNat,mul_q,lb (w.blk 2 rfl)]
 refine M.vis (0) (by decide) ?_
 refine cdt (by omega) ?_
 refine M.vis (0) (by decide) ?_
 refine ⟨(by omega),(by omega),?_⟩
 simp only []
 simp only [bs,Int.reduceToNat]
 refine M.vin ?_
 simp only [add0_q]
 refine M.vin ?_
 refine ⟨(by omega),(by omega),?_⟩
 simp only []
 simp only [bs,Int.reduceToNat]
 refine M.put_w w 2 rfl rfl (by simp) fun h4 w=>?_
 simp only [bs] at w
 refine M.vis (1) (by decide) ?_
 refine M.iter_s ?_
 refine cdt (by omega) ?_
 refine ⟨(by omega),(by omega),?_⟩
 simp only []
 simp only [bs,Int.reduceToNat,mul_q,lb (w.blk 2 rfl)]
 refine M.vis (1) (by decide) ?_
 refine cdt (by omega) ?_
 refine M.vis (1) (by decide) ?_
 refine ⟨(by omega),(by omega),?_⟩
 simp only []
 simp only [bs,Int.reduceToNat]
 refine M.vin ?_
 simp only [add0_q]
 refine M.vin ?_
 refine ⟨(by omega),(by omega),?_⟩
 simp only []
 simp only [Nat.reduceMul,Int.reduceToNat]
 refine M.put_w w 2 rfl rfl (by simp) fun h6 w=>?_
 simp only [bs] at w
 refine M.vis (2) (by decide) ?_
 refine M.iter_s ?_
 refine cdt (by omega) ?_
 refine ⟨(by omega),(by omega),?_⟩
 simp only []
 simp only [bs,Int.reduceToNat,mul_q,lb (w.blk 2 rfl)]
 refine M.vis (2) (by decide) ?_
 refine cdt (by omega) ?_
 refine M.vis (2) (by decide) ?_
 refine ⟨(by omega),(by omega),?_⟩
 simp only []
 simp only [bs,Int.reduceToNat]
 refine M.vin ?_
 simp only [add0_q]
 refine M.vin ?_
 refine ⟨(by omega),(by omega),?_⟩
 simp only []
 simp only [Nat.reduceMul,Int.reduceToNat]
 refine M.put_w w 2 rfl rfl (by simp) fun h8 w=>?_
 simp only [bs] at w
 refine M.vis (3) (by decide) ?_
 refine M.iter_s ?_
 refine cdt (by omega) ?_
 refine ⟨(by omega),(by omega),?_⟩
 simp only []
 simp only [bs,Int.reduceToNat,mul_q,lb (w.blk 2 rfl)]
 refine M.vis (3) (by decide) ?_
 refine cdt (by omega) ?_
 refine M.vis (3) (by decide) ?_
 refine ⟨(by omega),(by omega),?_⟩
 simp only []
 simp only [bs,Int.reduceToNat]
 refine M.vin ?_
 simp only [add0_q]
 refine M.vin ?_
 refine ⟨(by omega),(by omega),?_⟩
 simp only []
 simp only [Nat.reduceMul,Int.reduceToNat]
 refine M.put_w w 2 rfl rfl (by simp) fun h10 w=>?_
 simp only [bs] at w
 refine M.vis (4) (by decide) ?_
 refine M.iter_s ?_
 refine cdt (by omega) ?_
 refine ⟨(by omega),(by omega),?_⟩
 simp only []
 simp only [bs,Int.reduceToNat,mul_q,lb (w.blk 2 rfl)]
 refine M.vis (4) (by decide) ?_
 refine cdt (by omega) ?_
 refine M.vis (4) (by decide) ?_
 refine ⟨(by omega),(by omega),?_⟩
 simp only []
 simp only [bs,Int.reduceToNat]
 refine M.vin ?_
 simp only [add0_q]
 refine M.vin ?_
 refine ⟨(by omega),(by omega),?_⟩
 simp only []
 simp only [Nat.reduceMul,Int.reduceToNat]
 refine M.put_w w 2 rfl rfl (by simp) fun h12 w=>?_
 simp only [bs] at w
 refine M.vis (5) (by decide) ?_
 refine M.iter_s ?_
 refine cdf (by omega) ?_
 refine M.vis (1) (by decide) ?_
 refine M.iter_s ?_
 refine cdt (by omega) ?_
 refine ⟨(by omega),(by omega),?_⟩
 simp only [bs,Int.reduceToNat,lb (w.blk 0 rfl),lb (w.blk 1 rfl)]
 refine M.times 6 ?_
 refine M.iter_s ?_
 refine cdt (by omega) ?_
 refine ⟨(by omega),(by omega),?_⟩
 simp only []
 simp only [bs,Int.reduceToNat,mul_q,lb (w.blk 2 rfl)]
 refine M.vis (1) (by decide) ?_
 refine cdt (by omega) ?_
 refine M.vis (1) (by decide) ?_
 refine ⟨(by omega),(by omega),?_⟩
 simp only []
 simp only [bs,Int.reduceToNat]
 refine M.vin ?_
 simp only [add_q]
 refine M.vin ?_
 refine ⟨(by omega),(by omega),?_⟩
 simp only []
 simp only [Nat.reduceMul,Int.reduceToNat]
 refine M.put_w w 2 rfl rfl (by simp) fun h5 w=>?_
 simp only [bs] at w
 refine M.vis (1) (by decide) ?_
 refine M.iter_s ?_
 refine cdt (by omega) ?_
 refine ⟨(by omega),(by omega),?_⟩
 simp only []
 simp only [bs,Int.reduceToNat,mul_q,lb (w.blk 2 rfl)]
 refine M.vis (2) (by decide) ?_
 refine cdt (by omega) ?_
 refine M.vis (2) (by decide) ?_
 refine ⟨(by omega),(by omega),?_⟩
 simp only []
 simp only [bs,Int.reduceToNat]
 refine M.vin ?_
 simp only [add_q]
 refine M.vin ?_
 refine ⟨(by omega),(by omega),?_⟩
 simp only []
 simp only [Nat.reduceMul,Int.reduceToNat]
 refine M.put_w w 2 rfl rfl (by simp) fun h9 w=>?_
 simp only [bs] at w
 refine M.vis (2) (by decide) ?_
 refine M.iter_s ?_
 refine cdt (by omega) ?_
 refine ⟨(by omega),(by omega),?_⟩
 simp only []
 simp only [bs,Int.reduceToNat,mul_q,lb (w.blk 2 rfl)]
 refine M.vis (3) (by decide) ?_
 refine cdt (by omega) ?_
 refine M.vis (3) (by decide) ?_
 refine ⟨(by omega),(by omega),?_⟩
 simp only []
 simp only [bs,Int.reduceToNat]
 refine M.vin ?_
 simp only [add_q]
 refine M.vin ?_
 refine ⟨(by omega),(by omega),?_⟩
 simp only []
 simp only [Nat.reduceMul,Int.reduceToNat]
 refine M.put_w w 2 rfl rfl (by simp) fun h13 w=>?_
 simp only [bs] at w
 refine M.vis (3) (by decide) ?_
 refine M.iter_s ?_
 refine cdt (by omega) ?_
 refine ⟨(by omega),(by omega),?_⟩
 simp only []
 simp only [bs,Int.reduceToNat,mul_q,lb (w.blk 2 rfl)]
 refine M.vis (4) (by decide) ?_
 refine cdt (by omega) ?_
 refine M.vis (4) (by decide) ?_
 refine ⟨(by omega),(by omega),?_⟩
 simp only []
 simp only [bs,Int.reduceToNat]
 refine M.vin ?_
 simp only [add_q]
 refine M.vin ?_
 refine ⟨(by omega),(by omega),?_⟩
 simp only []
 simp only [Nat.reduceMul,Int.reduceToNat]
 refine M.put_w w 2 rfl rfl (by simp) fun h15 w=>?_
 simp only [bs] at w
 refine M.vis (4) (by decide) ?_
 refine M.iter_s ?_
 refine cdt (by omega) ?_
 refine ⟨(by omega),(by omega),?_⟩
 simp only []
 simp only [bs,Int.reduceToNat,mul_q,lb (w.blk 2 rfl)]
 refine M.vis (5) (by decide) ?_
 refine cdf (by omega) ?_
 refine M.vis (5) (by decide) ?_
 refine M.vis (0) (by decide) ?_
 refine ⟨(by omega),(by omega),?_⟩
 simp only []
 simp only [bs,Int.reduceToNat]
 refine M.vin ?_
 simp only [mul5_q]
 refine M.vin ?_
 simp only [add_q]
 refine M.vin ?_
 refine ⟨(by omega),(by omega),?_⟩
 simp only []
 simp only [bs,Int.reduceToNat]
 refine M.put_w w 2 rfl rfl (by simp) fun h17 w=>?_
 simp only [bs] at w
 refine M.vis (5) (by decide) ?_
 refine M.iter_s ?_
 refine cdf (by omega) ?_
 refine M.vis (2) (by decide) ?_
 refine M.iter_s ?_
 refine cdt (by omega) ?_
 refine ⟨(by omega),(by omega),?_⟩
 simp only [bs,Int.reduceToNat,lb (w.blk 0 rfl),lb (w.blk 1 rfl)]
 refine M.times 6 ?_
 refine M.iter_s ?_
 refine cdt (by omega) ?_
 refine ⟨(by omega),(by omega),?_⟩
 simp only []
 simp only [bs,Int.reduceToNat,mul_q,lb (w.blk 2 rfl)]
 refine M.vis (2) (by decide) ?_
 refine cdt (by omega) ?_
 refine M.vis (2) (by decide) ?_
 refine ⟨(by omega),(by omega),?_⟩
 simp only []
 simp only [bs,Int.reduceToNat]
 refine M.vin ?_
 simp only [add_q]
 refine M.vin ?_
 refine ⟨(by omega),(by omega),?_⟩
 simp only []
 simp only [Nat.reduceMul,Int.reduceToNat]
 refine M.put_w w 2 rfl rfl (by simp) fun h7 w=>?_
 simp only [bs] at w
 refine M.vis (1) (by decide) ?_
 refine M.iter_s ?_
 refine cdt (by omega) ?_
 refine ⟨(by omega),(by omega),?_⟩
 simp only []
 simp only [bs,Int.reduceToNat,mul_q,lb (w.blk 2 rfl)]
 refine M.vis (3) (by decide) ?_
 refine cdt (by omega) ?_
 refine M.vis (3) (by decide) ?_
 refine ⟨(by omega),(by omega),?_⟩
 simp only []
 simp only [bs,Int.reduceToNat]
 refine M.vin ?_
 simp only [add_q]
 refine M.vin ?_
 refine ⟨(by omega),(by omega),?_⟩
 simp only []
 simp only [Nat.reduceMul,Int.reduceToNat]
 refine M.put_w w 2 rfl rfl (by simp) fun h14 w=>?_
 simp only [bs] at w
 refine M.vis (2) (by decide) ?_
 refine M.iter_s ?_
 refine cdt (by omega) ?_
 refine ⟨(by omega),(by omega),?_⟩
 simp only []
 simp only [bs,Int.reduceToNat,mul_q,lb (w.blk 2 rfl)]
 refine M.vis (4) (by decide) ?_
 refine cdt (by omega) ?_
 refine M.vis (4) (by decide) ?_
 refine ⟨(by omega),(by omega),?_⟩
 simp only []
 simp only [bs,Int.reduceToNat]
 refine M.vin ?_
 simp only [add_q]
 refine M.vin ?_
 refine ⟨(by omega),(by omega),?_⟩
 simp only []
 simp only [Nat.reduceMul,Int.reduceToNat]
 refine M.put_w w 2 rfl rfl (by simp) fun h18 w=>?_
 simp only [bs] at w
 refine M.vis (3) (by decide) ?_
 refine M.iter_s ?_
 refine cdt (by omega) ?_
 refine ⟨(by omega),(by omega),?_⟩
 simp only []
 simp only [bs,Int.reduceToNat,mul_q,lb (w.blk 2 rfl)]
 refine M.vis (5) (by decide) ?_
 refine cdf (by omega) ?_
 refine M.vis (5) (by decide) ?_
 refine M.vis (0) (by decide) ?_
 refine ⟨(by omega),(by omega),?_⟩
 simp only []
 simp only [bs,Int.reduceToNat]
 refine M.vin ?_
 simp only [mul5_q]
 refine M.vin ?_
 simp only [add_q]
 refine M.vin ?_
 refine ⟨(by omega),(by omega),?_⟩
 simp only []
 simp only [bs,Int.reduceToNat]
 refine M.put_w w 2 rfl rfl (by simp) fun h20 w=>?_
 simp only [bs] at w
 refine M.vis (4) (by decide) ?_
 refine M.iter_s ?_
 refine cdt (by omega) ?_
 refine ⟨(by omega),(by omega),?_⟩
 simp only []
 simp only [bs,Int.reduceToNat,mul_q,lb (w.blk 2 rfl)]
 refine M.vis (6) (by decide) ?_
 refine cdf (by omega) ?_
 refine M.vis (6) (by decide) ?_
 refine M.vis (1) (by decide) ?_
 refine ⟨(by omega),(by omega),?_⟩
 simp only []
 simp only [bs,Int.reduceToNat]
 refine M.vin ?_
 simp only [mul5_q]
 refine M.vin ?_
 simp only [add_q]
 refine M.vin ?_
 refine ⟨(by omega),(by omega),?_⟩
 simp only []
 simp only [Nat.reduceMul,Int.reduceToNat]
 refine M.put_w w 2 rfl rfl (by simp) fun h22 w=>?_
 simp only [bs] at w
 refine M.vis (5) (by decide) ?_
 refine M.iter_s ?_
 refine cdf (by omega) ?_
 refine M.vis (3) (by decide) ?_
 refine M.iter_s ?_
 refine cdt (by omega) ?_
 refine ⟨(by omega),(by omega),?_⟩
 simp only [bs,Int.reduceToNat,lb (w.blk 0 rfl),lb (w.blk 1 rfl)]
 refine M.times 6 ?_
 refine M.iter_s ?_
 refine cdt (by omega) ?_
 refine ⟨(by omega),(by omega),?_⟩
 simp only []
 simp only [bs,Int.reduceToNat,mul_q,lb (w.blk 2 rfl)]
 refine M.vis (3) (by decide) ?_
 refine cdt (by omega) ?_
 refine M.vis (3) (by decide) ?_
 refine ⟨(by omega),(by omega),?_⟩
 simp only []
 simp only [bs,Int.reduceToNat]
 refine M.vin ?_
 simp only [add_q]
 refine M.vin ?_
 refine ⟨(by omega),(by omega),?_⟩
 simp only []
 simp only [Nat.reduceMul,Int.reduceToNat]
 refine M.put_w w 2 rfl rfl (by simp) fun h11 w=>?_
 simp only [bs] at w
 refine M.vis (1) (by decide) ?_
 refine M.iter_s ?_
 refine cdt (by omega) ?_
 refine ⟨(by omega),(by omega),?_⟩
 simp only []
 simp only [bs,Int.reduceToNat,mul_q,lb (w.blk 2 rfl)]
 refine M.vis (4) (by decide) ?_
 refine cdt (by omega) ?_
 refine M.vis (4) (by decide) ?_
 refine ⟨(by omega),(by omega),?_⟩
 simp only []
 simp only [bs,Int.reduceToNat]
 refine M.vin ?_
 simp only [add_q]
 refine M.vin ?_
 refine ⟨(by omega),(by omega),?_⟩
 simp only []
 simp only [Nat.reduceMul,Int.reduceToNat]
 refine M.put_w w 2 rfl rfl (by simp) fun h19 w=>?_
 simp only [bs] at w
 refine M.vis (2) (by decide) ?_
 refine M.iter_s ?_
 refine cdt (by omega) ?_
 refine ⟨(by omega),(by omega),?_⟩
 simp only []
 simp only [bs,Int.reduceToNat,mul_q,lb (w.blk 2 rfl)]
 refine M.vis (5) (by decide) ?_
 refine cdf (by omega) ?_
 refine M.vis (5) (by decide) ?_
 refine M.vis (0) (by decide) ?_
 refine ⟨(by omega),(by omega),?_⟩
 simp only []
 simp only [bs,Int.reduceToNat]
 refine M.vin ?_
 simp only [mul5_q]
 refine M.vin ?_
 simp only [add_q]
 refine M.vin ?_
 refine ⟨(by omega),(by omega),?_⟩
 simp only []
 simp only [bs,Int.reduceToNat]
 refine M.put_w w 2 rfl rfl (by simp) fun h23 w=>?_
 simp only [bs] at w
 refine M.vis (3) (by decide) ?_
 refine M.iter_s ?_
 refine cdt (by omega) ?_
 refine ⟨(by omega),(by omega),?_⟩
 simp only []
 simp only [bs,Int.reduceToNat,mul_q,lb (w.blk 2 rfl)]
 refine M.vis (6) (by decide) ?_
 refine cdf (by omega) ?_
 refine M.vis (6) (by decide) ?_
 refine M.vis (1) (by decide) ?_
 refine ⟨(by omega),(by omega),?_⟩
 simp only []
 simp only [bs,Int.reduceToNat]
 refine M.vin ?_
 simp only [mul5_q]
 refine M.vin ?_
 simp only [add_q]
 refine M.vin ?_
 refine ⟨(by omega),(by omega),?_⟩
 simp only []
 simp only [Nat.reduceMul,Int.reduceToNat]
 refine M.put_w w 2 rfl rfl (by simp) fun h25 w=>?_
 simp only [bs] at w
 refine M.vis (4) (by decide) ?_
 refine M.iter_s ?_
 refine cdt (by omega) ?_
 refine ⟨(by omega),(by omega),?_⟩
 simp only []
 simp only [bs,Int.reduceToNat,mul_q,lb (w.blk 2 rfl)]
 refine M.vis (7) (by decide) ?_
 refine cdf (by omega) ?_
 refine M.vis (7) (by decide) ?_
 refine M.vis (2) (by decide) ?_
 refine ⟨(by omega),(by omega),?_⟩
 simp only []
 simp only [bs,Int.reduceToNat]
 refine M.vin ?_
 simp only [mul5_q]
 refine M.vin ?_
 simp only [add_q]
 refine M.vin ?_
 refine ⟨(by omega),(by omega),?_⟩
 simp only []
 simp only [Nat.reduceMul,Int.reduceToNat]
 refine M.put_w w 2 rfl rfl (by simp) fun h27 w=>?_
 simp only [bs] at w
 refine M.vis (5) (by decide) ?_
 refine M.iter_s ?_
 refine cdf (by omega) ?_
 refine M.vis (4) (by decide) ?_
 refine M.iter_s ?_
 refine cdt (by omega) ?_
 refine ⟨(by omega),(by omega),?_⟩
 simp only [bs,Int.reduceToNat,lb (w.blk 0 rfl),lb (w.blk 1 rfl)]
 refine M.times 6 ?_
 refine M.iter_s ?_
 refine cdt (by omega) ?_
 refine ⟨(by omega),(by omega),?_⟩
 simp only []
 simp only [bs,Int.reduceToNat,mul_q,lb (w.blk 2 rfl)]
 refine M.vis (4) (by decide) ?_
 refine cdt (by omega) ?_
 refine M.vis (4) (by decide) ?_
 refine ⟨(by omega),(by omega),?_⟩
 simp only []
 simp only [bs,Int.reduceToNat]
 refine M.vin ?_
 simp only [add_q]
 refine M.vin ?_
 refine ⟨(by omega),(by omega),?_⟩
 simp only []
 simp only [Nat.reduceMul,Int.reduceToNat]
 refine M.put_w w 2 rfl rfl (by simp) fun h16 w=>?_
 simp only [bs] at w
 refine M.vis (1) (by decide) ?_
 refine M.iter_s ?_
 refine cdt (by omega) ?_
 refine ⟨(by omega),(by omega),?_⟩
 simp only []
 simp only [bs,Int.reduceToNat,mul_q,lb (w.blk 2 rfl)]
 refine M.vis (5) (by decide) ?_
 refine cdf (by omega) ?_
 refine M.vis (5) (by decide) ?_
 refine M.vis (0) (by decide) ?_
 refine ⟨(by omega),(by omega),?_⟩
 simp only []
 simp only [bs,Int.reduceToNat]
 refine M.vin ?_
 simp only [mul5_q]
 refine M.vin ?_
 simp only [add_q]
 refine M.vin ?_
 refine ⟨(by omega),(by omega),?_⟩
 simp only []
 simp only [bs,Int.reduceToNat]
 refine M.put_w w 2 rfl rfl (by simp) fun h24 w=>?_
 simp only [bs] at w
 refine M.vis (2) (by decide) ?_
 refine M.iter_s ?_
 refine cdt (by omega) ?_
 refine ⟨(by omega),(by omega),?_⟩
 simp only []
 simp only [bs,Int.reduceToNat,mul_q,lb (w.blk 2 rfl)]
 refine M.vis (6) (by decide) ?_
 refine cdf (by omega) ?_
 refine M.vis (6) (by decide) ?_
 refine M.vis (1) (by decide) ?_
 refine ⟨(by omega),(by omega),?_⟩
 simp only []
 simp only [bs,Int.reduceToNat]
 refine M.vin ?_
 simp only [mul5_q]
 refine M.vin ?_
 simp only [add_q]
 refine M.vin ?_
 refine ⟨(by omega),(by omega),?_⟩
 simp only []
 simp only [Nat.reduceMul,Int.reduceToNat]
 refine M.put_w w 2 rfl rfl (by simp) fun h28 w=>?_
 simp only [bs] at w
 refine M.vis (3) (by decide) ?_
 refine M.iter_s ?_
 refine cdt (by omega) ?_
 refine ⟨(by omega),(by omega),?_⟩
 simp only []
 simp only [bs,Int.reduceToNat,mul_q,lb (w.blk 2 rfl)]
 refine M.vis (7) (by decide) ?_
 refine cdf (by omega) ?_
 refine M.vis (7) (by decide) ?_
 refine M.vis (2) (by decide) ?_
 refine ⟨(by omega),(by omega),?_⟩
 simp only []
 simp only [bs,Int.reduceToNat]
 refine M.vin ?_
 simp only [mul5_q]
 refine M.vin ?_
 simp only [add_q]
 refine M.vin ?_
 refine ⟨(by omega),(by omega),?_⟩
 simp only []
 simp only [Nat.reduceMul,Int.reduceToNat]
 refine M.put_w w 2 rfl rfl (by simp) fun h30 w=>?_
 simp only [bs] at w
 refine M.vis (4) (by decide) ?_
 refine M.iter_s ?_
 refine cdt (by omega) ?_
 refine ⟨(by omega),(by omega),?_⟩
 simp only []
 simp only [bs,Int.reduceToNat,mul_q,lb (w.blk 2 rfl)]
 refine M.vis (8) (by decide) ?_
 refine cdf (by omega) ?_
 refine M.vis (8) (by decide) ?_
 refine M.vis (3) (by decide) ?_
 refine ⟨(by omega),(by omega),?_⟩
 simp only []
 simp only [bs,Int.reduceToNat]
 refine M.vin ?_
 simp only [mul5_q]
 refine M.vin ?_
 simp only [add_q]
 refine M.vin ?_
 refine ⟨(by omega),(by omega),?_⟩
 simp only []
 simp only [Nat.reduceMul,Int.reduceToNat]
 refine M.put_w w 2 rfl rfl (by simp) fun h32 w=>?_
 simp only [bs] at w
 refine M.vis (5) (by decide) ?_
 refine M.iter_s ?_
 refine cdf (by omega) ?_
 refine M.vis (5) (by decide) ?_
 refine M.iter_s ?_
 refine cdf (by omega) ?_
 have w:Wd h0 _ [.blk b x.o,_,.blk b4 (x.mul r).o]:=w
 obtain ⟨hx,k0,k1,wx,wr,back⟩:=w.on (i:=2) rfl
 refine carry_spec wx fun h9 w1=>?_
 have w:=back _ _ w1
 generalize (x.mul r).carry=y at *
 unfold L5.o at w
 simp only [bs,lb (w.blk 2 rfl)]
 refine ⟨(rfl),?_⟩
 refine M.puts_w0 w 0 rfl (by simp [isPlainCell]) (by simp) fun h2 w=>?_
 simp only [bs] at w
 exact k _ ((w.drop (i:=1) rfl).drop (i:=1) rfl)
end
end Go.Proofs.YthegnmanjdlmjaaGreatDoor
namespace Go.Proofs.YthegnmanjdlmjaaGreatDoor
open Go.Sh Go.RowKit
namespace L5
theorem two_lt {x:L5} (h:x.Lt 4611686018427387904):x.carry.carry.Lt 67108864:=by
 obtain ⟨k,ka,kc,kd,ke,kb⟩:=carry_lt h
 generalize x.carry=y at *
 have ha:y.carry.a<67108864:=Nat.mod_lt _ (by decide)
 have hc:y.carry.c<67108864:=Nat.mod_lt _ (by decide)
 have hd:y.carry.d<67108864:=Nat.mod_lt _ (by decide)
 have he:y.carry.e<67108864:=Nat.mod_lt _ (by decide)
 refine ⟨ha,?_,hc,hd,he⟩
 obtain ⟨m1,e1,l1,s1⟩:=shs y.a (by omega)
 have r1:y.c1=sh y.a:=rfl
 have r2:y.c2=sh (y.b+y.c1):=rfl
 have r3:y.c3=sh (y.c+y.c2):=rfl
 have r4:y.c4=sh (y.d+y.c3):=rfl
 have r5:y.c5=sh (y.e+y.c4):=rfl
 rw [←r1] at s1
 obtain ⟨m2,e2,l2,s2⟩:=shs (y.b+y.c1) (by omega)
 rw [←r2] at s2
 obtain ⟨m3,e3,l3,s3⟩:=shs (y.c+y.c2) (by omega)
 rw [←r3] at s3
 obtain ⟨m4,e4,l4,s4⟩:=shs (y.d+y.c3) (by omega)
 rw [←r4] at s4
 obtain ⟨m5,e5,l5,s5⟩:=shs (y.e+y.c4) (by omega)
 rw [←r5] at s5
 obtain ⟨m6,e6,l6,s6⟩:=shs (m1+y.c5*5) (by omega)
 simp only [carry,e1,e2]
 clear r1 r2 r3 r4 r5 e1 e2 e3 e4 e5 e6
 generalize y.c1=c1 at *
 generalize y.c2=c2 at *
 generalize y.c3=c3 at *
 generalize y.c4=c4 at *
 generalize y.c5=c5 at *
 generalize sh (m1+c5*5)=c6 at *
 omega
theorem two_val {x:L5} (h:x.Lt 4611686018427387904):x.carry.carry.val % P=x.val % P:=by
 have h1:=carry_val h
 have h2:=carry_val ((carry_lt h).1.mono (by decide:134217728≤4611686018427387904))
 rw [←h1,←h2,Nat.add_mul_mod_self_right,Nat.add_mul_mod_self_right]
def five (z:L5):L5:=
 ⟨(z.a+5) % 67108864,(z.b+sh (z.a+5)) % 67108864,(z.c+sh (z.b+sh (z.a+5))) % 67108864,(z.d+sh (z.c+sh (z.b+sh (z.a+5)))) % 67108864,z.e+sh (z.d+sh (z.c+sh (z.b+sh (z.a+5))))⟩
def cut (z:L5):L5:={ z with e:=z.e % 67108864 }
theorem five_val {z:L5} (h:z.Lt 67108864):z.five.val=z.val+5∧z.five.e<134217728∧z.five.cut.Lt 67108864:=by
 obtain ⟨h1,h2,h3,h4,h5⟩:=h
 obtain ⟨m1,e1,l1,s1⟩:=shs (z.a+5) (by omega)
 obtain ⟨m2,e2,l2,s2⟩:=shs (z.b+sh (z.a+5)) (by omega)
 obtain ⟨m3,e3,l3,s3⟩:=shs (z.c+sh (z.b+sh (z.a+5))) (by omega)
 obtain ⟨m4,e4,l4,s4⟩:=shs (z.d+sh (z.c+sh (z.b+sh (z.a+5)))) (by omega)
 refine ⟨?_,?_,⟨Nat.mod_lt _ (by decide),Nat.mod_lt _ (by decide),Nat.mod_lt _ (by decide),Nat.mod_lt _ (by decide),Nat.mod_lt _ (by decide)⟩⟩
 ·simp only [five,val,e1,e2,e3,e4]
  omega
 ·simp only [five]
  omega
theorem least_ge {z:L5} (h:z.Lt 67108864) (hs:sh z.five.e≠0):z.five.cut.val=z.val % P:=by
 obtain ⟨f1,f2,_⟩:=five_val h
 obtain ⟨m,e,l,s⟩:=shs z.five.e (by omega)
 have hv:z.five.cut.val+1361129467683753853853498429727072845824=z.val+5:=by
  rw [←f1]
  simp only [cut,val,e]
  omega
 have hz:z.val<1361129467683753853853498429727072845824:=by
  obtain ⟨h1,h2,h3,h4,h5⟩:=h
  simp only [val]; omega
 have:z.val=z.five.cut.val+P:=by simp only [P]; omega
 rw [this,Nat.add_mod_right,Nat.mod_eq_of_lt (by simp only [P] at *; omega)]
theorem least_lt {z:L5} (h:z.Lt 67108864) (hs:sh z.five.e=0):z.val=z.val % P:=by
 obtain ⟨f1,f2,f3⟩:=five_val h
 obtain ⟨m,e,l,s⟩:=shs z.five.e (by omega)
 have hb:z.five.val<1361129467683753853853498429727072845824:=by
  have a1:=f3.a
  have a2:=f3.b
  have a3:=f3.c
  have a4:=f3.d
  simp only [cut] at a1 a2 a3 a4
  simp only [val]; omega
 rw [Nat.mod_eq_of_lt (by simp only [P]; omega)]
end L5
section
variable {h0 h:H} {b:Nat} {x:L5} {Q:H→Prop}
theorem least_spec (w:Wd h0 h [.blk b x.o]) (hx:x.Lt 4611686018427387904) (k:∀ h' (y:L5),y.Lt 67108864→y.val=x.val % L5.P→Wd h0 h' [.blk b y.o]→Q h'):poly_limbs_least (some ⟨b,0,none⟩) h Q:=by
 unfold poly_limbs_least poly_limbs_least.g
 refine carry_spec w fun h1 w=>carry_spec w fun h2 w=>?_
 have hz:=L5.two_lt hx
 have hv:=L5.two_val hx
 generalize x.carry.carry=z at *
 unfold L5.o at w
 simp only [bs,lb (w.blk 0 rfl)]
 refine M.new_w w fun b4 h3 w=>?_
 refine ⟨(rfl),?_⟩
 refine M.puts_w0 w 1 rfl (by simp [isPlainCell]) (by simp) fun h5 w=>?_
 simp only [bs] at w
 refine ⟨(by omega),(by omega),?_⟩
 simp only [bs,Int.reduceToNat,add5_q,lb (w.blk 1 rfl)]
 refine M.vin ?_
 refine ⟨(by omega),(by omega),?_⟩
 simp only []
 simp only [bs,Int.reduceToNat]
 refine M.put_w w 1 rfl rfl (by simp) fun h7 w=>?_
 simp only [bs] at w
 refine M.jn (M.times 5 ?_)
 refine M.iter_s ?_
 refine cdt (by omega) ?_
 refine M.vis (1) (by decide) ?_
 refine ⟨(by omega),(by omega),?_⟩
 simp only [bs,Int.reduceToNat,lb (w.blk 1 rfl)]
 refine ⟨(by omega),(by omega),?_⟩
 simp only []
 simp only [bs,Int.reduceToNat,shr_q]
 refine ⟨(by omega),?_⟩
 refine M.vin ?_
 simp only [add_q]
 refine M.vin ?_
 refine ⟨(by omega),(by omega),?_⟩
 simp only []
 simp only [Nat.reduceMul,Int.reduceToNat]
 refine M.put_w w 1 rfl rfl (by simp) fun h6 w=>?_
 simp only [bs] at w
 refine ⟨(by omega),(by omega),?_⟩
 simp only [bs,Int.reduceToNat,and_q,lb (w.blk 1 rfl)]
 refine M.vin ?_
 refine ⟨(by omega),(by omega),?_⟩
 simp only []
 simp only [bs,Int.reduceToNat]
 refine M.put_w w 1 rfl rfl (by simp) fun h9 w=>?_
 simp only [bs] at w
 refine M.vis (1) (by decide) ?_
 refine M.iter_s ?_
 refine cdt (by omega) ?_
 refine M.vis (2) (by decide) ?_
 refine ⟨(by omega),(by omega),?_⟩
 simp only [bs,Int.reduceToNat,lb (w.blk 1 rfl)]
 refine ⟨(by omega),(by omega),?_⟩
 simp only []
 simp only [bs,Int.reduceToNat,shr_q]
 refine ⟨(by omega),?_⟩
 refine M.vin ?_
 simp only [add_q]
 refine M.vin ?_
 refine ⟨(by omega),(by omega),?_⟩
 simp only []
 simp only [Nat.reduceMul,Int.reduceToNat]
 refine M.put_w w 1 rfl rfl (by simp) fun h11 w=>?_
 simp only [bs] at w
 refine ⟨(by omega),(by omega),?_⟩
 simp only [bs,Int.reduceToNat,and_q,lb (w.blk 1 rfl)]
 refine M.vin ?_
 refine ⟨(by omega),(by omega),?_⟩
 simp only []
 simp only [Nat.reduceMul,Int.reduceToNat]
 refine M.put_w w 1 rfl rfl (by simp) fun h13 w=>?_
 simp only [bs] at w
 refine M.vis (2) (by decide) ?_
 refine M.iter_s ?_
 refine cdt (by omega) ?_
 refine M.vis (3) (by decide) ?_
 refine ⟨(by omega),(by omega),?_⟩
 simp only [bs,Int.reduceToNat,lb (w.blk 1 rfl)]
 refine ⟨(by omega),(by omega),?_⟩
 simp only []
 simp only [bs,Int.reduceToNat,shr_q]
 refine ⟨(by omega),?_⟩
 refine M.vin ?_
 simp only [add_q]
 refine M.vin ?_
 refine ⟨(by omega),(by omega),?_⟩
 simp only []
 simp only [Nat.reduceMul,Int.reduceToNat]
 refine M.put_w w 1 rfl rfl (by simp) fun h15 w=>?_
 simp only [bs] at w
 refine ⟨(by omega),(by omega),?_⟩
 simp only [bs,Int.reduceToNat,and_q,lb (w.blk 1 rfl)]
 refine M.vin ?_
 refine ⟨(by omega),(by omega),?_⟩
 simp only []
 simp only [Nat.reduceMul,Int.reduceToNat]
 refine M.put_w w 1 rfl rfl (by simp) fun h17 w=>?_
 simp only [bs] at w
 refine M.vis (3) (by decide) ?_
 refine M.iter_s ?_
 refine cdt (by omega) ?_
 refine M.vis (4) (by decide) ?_
 refine ⟨(by omega),(by omega),?_⟩
 simp only [bs,Int.reduceToNat,lb (w.blk 1 rfl)]
 refine ⟨(by omega),(by omega),?_⟩
 simp only []
 simp only [bs,Int.reduceToNat,shr_q]
 refine ⟨(by omega),?_⟩
 refine M.vin ?_
 simp only [add_q]
 refine M.vin ?_
 refine ⟨(by omega),(by omega),?_⟩
 simp only []
 simp only [Nat.reduceMul,Int.reduceToNat]
 refine M.put_w w 1 rfl rfl (by simp) fun h19 w=>?_
 simp only [bs] at w
 refine ⟨(by omega),(by omega),?_⟩
 simp only [bs,Int.reduceToNat,and_q,lb (w.blk 1 rfl)]
 refine M.vin ?_
 refine ⟨(by omega),(by omega),?_⟩
 simp only []
 simp only [Nat.reduceMul,Int.reduceToNat]
 refine M.put_w w 1 rfl rfl (by simp) fun h21 w=>?_
 simp only [bs] at w
 refine M.vis (4) (by decide) ?_
 refine M.iter_s ?_
 refine cdf (by omega) ?_
 refine ⟨(by omega),(by omega),?_⟩
 simp only [bs,Int.reduceToNat,shr_q,lb (w.blk 1 rfl)]
 refine ⟨(by omega),?_⟩
 refine M.vin ?_
 by_cases hs:L5.sh z.five.e=0
 ·refine cf (show (q64 (L5.sh z.five.e) != 0)=false by rw [hs]; rfl) ?_
  exact k _ z hz (by rw [←hv]; exact L5.least_lt hz hs) (w.drop (i:=1) rfl)
 ·refine ct (show (q64 (L5.sh z.five.e) != 0)=true by
   have:L5.sh z.five.e<18446744073709551616:=by unfold L5.sh; omega
   rw [q64_lt this,bne_iff_ne]; omega) ?_
  refine ⟨(by omega),(by omega),?_⟩
  simp only []
  simp only [bs,Int.reduceToNat,and_q]
  refine M.vin ?_
  refine ⟨(by omega),(by omega),?_⟩
  simp only []
  simp only [Nat.reduceMul,Int.reduceToNat]
  refine M.put_w w 1 rfl rfl (by simp) fun h8 w=>?_
  simp only [bs] at w
  simp only [bs,lb (w.blk 1 rfl)]
  refine ⟨(rfl),?_⟩
  refine M.puts_w0 w 0 rfl (by simp [isPlainCell]) (by simp) fun h10 w=>?_
  simp only [bs] at w
  exact k _ z.five.cut (L5.five_val hz).2.2 (by rw [←hv]; exact L5.least_ge hz hs) (w.drop (i:=1) rfl)
end
end Go.Proofs.YthegnmanjdlmjaaGreatDoor
namespace Go.Proofs.YthegnmanjdlmjaaGreatDoor
open Go.Sh Go.RowKit
def leN (s:ByteArray):Nat→Nat
 | 0=>0
 | n+1=>leN s n+(byteAt s n).toNat * 256 ^ n
def leT (n:Nat):ByteArray:=byT 16 fun i=>((n / 256 ^ i % 256:Nat):Int)
theorem word_nat (s:ByteArray) (i:Nat):(wordAt false s i).toNat=(byteAt s (4*i)).toNat+(byteAt s (4*i+1)).toNat * 256+(byteAt s (4*i+2)).toNat * 65536+(byteAt s (4*i+3)).toNat * 16777216:=by
 have h0:=byteAt_lt s (4*i)
 have h1:=byteAt_lt s (4*i+1)
 have h2:=byteAt_lt s (4*i+2)
 have h3:=byteAt_lt s (4*i+3)
 unfold wordAt wordZ
 rw [cond_false,BitVec.toNat_ofInt]
 omega
theorem at0_words (s:ByteArray) (i:Nat) (h:i<s.size / 4):at0 (wordsOf false s) i=wordAt false s i:=by
 rw [at0_get _ _ (by rw [wordsOf_len]; exact h)]; simp [wordsOf]
theorem leN16 (s:ByteArray) (h:s.size=16):leN s 16=(at0 (wordsOf false s) 0).toNat+(at0 (wordsOf false s) 1).toNat * 4294967296+(at0 (wordsOf false s) 2).toNat * 18446744073709551616+(at0 (wordsOf false s) 3).toNat * 79228162514264337593543950336:=by
 rw [at0_words _ _ (by omega),at0_words _ _ (by omega),at0_words _ _ (by omega),at0_words _ _ (by omega),word_nat,word_nat,word_nat,word_nat]
 simp only [leN,Nat.reduceMul,Nat.reduceAdd,Nat.reducePow]
 omega
theorem wrapU_q (x:U):IntKind.wrap .u64 (ui x)=q64 x.toNat:=by
 have:=x.isLt
 rw [IntKind.wrap_u64,ui,q64]; omega
theorem wrap32_q (n:Nat):IntKind.wrap .u32 (q64 n)=ui (BitVec.ofNat 32 n):=by
 rw [IntKind.wrap_u32,ui,q64,BitVec.toNat_ofNat]; omega
theorem shr_qk (n k:Nat) (hk:k≤64):shr .u64 (q64 n) (k:Int)=q64 (n % 18446744073709551616 / 2 ^ k):=by
 have h:shr .u64 (q64 n) (k:Int)=_:=shr_nat .u64 (n % 18446744073709551616) k hk
 refine h.trans ?_
 have:=Nat.div_le_self (n % 18446744073709551616) (2 ^ k)
 rw [q64_lt (by omega)]
theorem shl_qk (n k:Nat) (hk:k≤64):shl .u64 (q64 n) (k:Int)=q64 (n*2 ^ k):=by
 rw [shl,Int.toNat_natCast,show IntKind.bits .u64=64 from rfl,Nat.min_eq_left hk,q64,q64]
 have e:(((n % 18446744073709551616:Nat):Int)*2 ^ k)=((n % 18446744073709551616*2 ^ k:Nat):Int):=by
  rw [Int.natCast_mul,Int.natCast_pow]; rfl
 rw [e,IntKind.wrap_u64]
 have:=Nat.mod_mul_mod n (2 ^ k) 18446744073709551616
 omega
theorem or_q {a c:Nat} (k:Nat) (ha:a<2 ^ k) (h1:a<18446744073709551616) (h2:c*2 ^ k<18446744073709551616):bOr .u64 (q64 a) (q64 (c*2 ^ k))=q64 (a+c*2 ^ k):=by
 rw [q64_lt h1,q64_lt h2]
 have e:∀ n:Nat,n<18446744073709551616→(BitVec.ofInt 64 (n:Int)).toNat=n:=fun n h=>by rw [BitVec.ofInt_natCast,BitVec.toNat_ofNat,Nat.mod_eq_of_lt h]
 have h3:(BitVec.ofInt 64 (a:Int) ||| BitVec.ofInt 64 ((c*2 ^ k:Nat):Int)).toNat=a+c*2 ^ k:=by
  rw [BitVec.toNat_or,e a h1,e _ h2,Nat.or_comm,Nat.mul_comm c,←Nat.two_pow_add_eq_or_of_lt ha]; omega
 show IntKind.wrap .u64 ((BitVec.ofInt 64 (a:Int) ||| BitVec.ofInt 64 ((c*2 ^ k:Nat):Int)).toNat:Int)=_
 rw [h3,IntKind.wrap_u64,q64]; omega
section
variable {h:H} {s:ByteArray}
theorem of_spec {ab:Nat} {Q:Int→Int→Int→Int→Int→H→Prop} (hs:s.size=16) (hab:ab≤1) (k:∀ h' (y:L5),y.Lt 67108864→y.val=leN s 16+ab*340282366920938463463374607431768211456→Keep h h'→Q (q64 y.a) (q64 y.b) (q64 y.c) (q64 y.d) (q64 y.e) h'):poly_of s (q64 ab) h Q:=by
 unfold poly_of poly_of.g
 refine M.new_w (Wd.start h) fun b1 h1 w=>?_
 refine Little_spec (by omega) (by omega) fun a2 c2 h2 w'=>?_
 have w:=w.join w'
 clear w'
 rw [hs] at w ⊢
 have hN:=leN16 s hs
 have hl:(wordsOf false s).length=4:=by rw [wordsOf_len,hs]
 have h4:wordsOf false s=[at0 (wordsOf false s) 0,at0 (wordsOf false s) 1,at0 (wordsOf false s) 2,at0 (wordsOf false s) 3]:=by
  generalize wordsOf false s=l at hl
  match l,hl with
  | [a,b,c,d],_=>rfl
 rw [h4] at w
 generalize at0 (wordsOf false s) 0=x0 at *
 generalize at0 (wordsOf false s) 1=x1 at *
 generalize at0 (wordsOf false s) 2=x2 at *
 generalize at0 (wordsOf false s) 3=x3 at *
 clear h4
 simp only [Nat.reduceDiv] at w ⊢
 refine M.new_w w fun b4 h3 w=>?_
 refine M.jn (M.times 5 ?_)
 have g0:[x0,x1,x2,x3].getD (Int.toNat 0) 0=x0:=rfl
 have g1:[x0,x1,x2,x3].getD (Int.toNat 1) 0=x1:=rfl
 have g2:[x0,x1,x2,x3].getD (Int.toNat 2) 0=x2:=rfl
 have g3:[x0,x1,x2,x3].getD (Int.toNat 3) 0=x3:=rfl
 have l0:=x0.isLt
 have l1:=x1.isLt
 have l2:=x2.isLt
 have l3:=x3.isLt
 have s26:=fun n=>shr_qk n 26 (by decide)
 have s20:=fun n=>shr_qk n 20 (by decide)
 have s14:=fun n=>shr_qk n 14 (by decide)
 have s8:=fun n=>shr_qk n 8 (by decide)
 have t6:=fun n=>shl_qk n 6 (by decide)
 have t12:=fun n=>shl_qk n 12 (by decide)
 have t18:=fun n=>shl_qk n 18 (by decide)
 have t24:=fun n=>shl_qk n 24 (by decide)
 have o1:=or_q (a:=x0.toNat % 18446744073709551616 / 2 ^ 26) (c:=x1.toNat) 6 (by omega) (by omega) (by omega)
 have o2:=or_q (a:=x1.toNat % 18446744073709551616 / 2 ^ 20) (c:=x2.toNat) 12 (by omega) (by omega) (by omega)
 have o3:=or_q (a:=x2.toNat % 18446744073709551616 / 2 ^ 14) (c:=x3.toNat) 18 (by omega) (by omega) (by omega)
 have o4:=or_q (a:=x3.toNat % 18446744073709551616 / 2 ^ 8) (c:=ab) 24 (by omega) (by omega) (by omega)
 simp only [Int.reduceNatCast,Int.cast_ofNat_Int] at s26 s20 s14 s8 t6 t12 t18 t24
 refine M.iter_s ?_
 simp only [t24]
 refine cdt (by omega) ?_
 refine Ro.ldU (w.roU 1 rfl) (by omega) (by omega) ?_
 simp only [g0,wrapU_q]
 refine M.vin ?_
 refine ⟨(by omega),(by omega),?_⟩
 simp only []
 simp only [bs,Int.reduceToNat]
 refine M.put_w w 2 rfl rfl (by simp) fun h6 w=>?_
 simp only [bs] at w
 refine M.vis (1) (by decide) ?_
 refine M.iter_s ?_
 refine cdt (by omega) ?_
 refine Ro.ldU (w.roU 1 rfl) (by omega) (by omega) ?_
 simp only [g1,wrapU_q]
 refine M.vin ?_
 refine ⟨(by omega),(by omega),?_⟩
 simp only []
 simp only [Nat.reduceMul,Int.reduceToNat]
 refine M.put_w w 2 rfl rfl (by simp) fun h11 w=>?_
 simp only [bs] at w
 refine M.vis (2) (by decide) ?_
 refine M.iter_s ?_
 refine cdt (by omega) ?_
 refine Ro.ldU (w.roU 1 rfl) (by omega) (by omega) ?_
 simp only [g2,wrapU_q]
 refine M.vin ?_
 refine ⟨(by omega),(by omega),?_⟩
 simp only []
 simp only [Nat.reduceMul,Int.reduceToNat]
 refine M.put_w w 2 rfl rfl (by simp) fun h16 w=>?_
 simp only [bs] at w
 refine M.vis (3) (by decide) ?_
 refine M.iter_s ?_
 refine cdt (by omega) ?_
 refine Ro.ldU (w.roU 1 rfl) (by omega) (by omega) ?_
 simp only [g3,wrapU_q]
 refine M.vin ?_
 refine ⟨(by omega),(by omega),?_⟩
 simp only []
 simp only [Nat.reduceMul,Int.reduceToNat]
 refine M.put_w w 2 rfl rfl (by simp) fun h21 w=>?_
 simp only [bs] at w
 refine M.vis (4) (by decide) ?_
 refine M.iter_s ?_
 refine cdf (by omega) ?_
 refine ⟨(by omega),(by omega),?_⟩
 simp only [bs,Int.reduceToNat,and_q,lb (w.blk 2 rfl)]
 refine M.vin ?_
 refine ⟨(by omega),(by omega),?_⟩
 simp only []
 simp only [bs,Int.reduceToNat,s26]
 refine ⟨(by omega),?_⟩
 refine M.vin ?_
 refine ⟨(by omega),(by omega),?_⟩
 simp only []
 simp only [bs,Int.reduceToNat,t6]
 refine ⟨(by omega),?_⟩
 refine M.vin ?_
 simp only [o1]
 refine M.vin ?_
 simp only [and_q]
 refine M.vin ?_
 refine ⟨(by omega),(by omega),?_⟩
 simp only []
 simp only [bs,Int.reduceToNat,s20]
 refine ⟨(by omega),?_⟩
 refine M.vin ?_
 refine ⟨(by omega),(by omega),?_⟩
 simp only []
 simp only [bs,Int.reduceToNat,t12]
 refine ⟨(by omega),?_⟩
 refine M.vin ?_
 simp only [o2]
 refine M.vin ?_
 simp only [and_q]
 refine M.vin ?_
 refine ⟨(by omega),(by omega),?_⟩
 simp only []
 simp only [bs,Int.reduceToNat,s14]
 refine ⟨(by omega),?_⟩
 refine M.vin ?_
 refine ⟨(by omega),(by omega),?_⟩
 simp only []
 simp only [bs,Int.reduceToNat,t18]
 refine ⟨(by omega),?_⟩
 refine M.vin ?_
 simp only [o3]
 refine M.vin ?_
 simp only [and_q]
 refine M.vin ?_
 refine ⟨(by omega),(by omega),?_⟩
 simp only []
 simp only [bs,Int.reduceToNat,s8]
 refine ⟨(by omega),?_⟩
 refine M.vin ?_
 refine ⟨(by omega),?_⟩
 refine M.vin ?_
 simp only [o4]
 refine M.vin ?_
 refine ⟨(rfl),?_⟩
 refine M.puts_w0 w 0 rfl (by simp [isPlainCell]) (by simp) fun h22 w=>?_
 simp only [bs] at w
 simp only [bs,lb (w.blk 0 rfl)]
 refine k _ ⟨x0.toNat % 67108864,(x0.toNat % 18446744073709551616 / 2 ^ 26+x1.toNat * 2 ^ 6) % 67108864,(x1.toNat % 18446744073709551616 / 2 ^ 20+x2.toNat * 2 ^ 12) % 67108864,(x2.toNat % 18446744073709551616 / 2 ^ 14+x3.toNat * 2 ^ 18) % 67108864,x3.toNat % 18446744073709551616 / 2 ^ 8+ab*2 ^ 24⟩ ⟨by simp only; omega,by simp only; omega,by simp only; omega,by simp only; omega,by simp only; omega⟩ ?_ w.keep
 rw [hN]
 simp only [L5.val]
 omega
theorem digs (n:Nat):leT n=textOf false [BitVec.ofNat 32 n,BitVec.ofNat 32 (n / 4294967296),BitVec.ofNat 32 (n / 18446744073709551616),BitVec.ofNat 32 (n / 79228162514264337593543950336)]:=by
 unfold leT byT textOf
 congr 1
 simp only [wzs,List.flatMap_cons,List.flatMap_nil,wz,cond_false,byt,BitVec.toNat_ofNat,List.range,List.range.loop,List.map_cons,List.map_nil,List.cons_append,List.nil_append,List.append_nil,Nat.reducePow]
 simp only [List.cons.injEq,and_true]
 refine ⟨by omega,by omega,by omega,by omega,by omega,by omega,by omega,by omega,by omega,by omega,by omega,by omega,by omega,by omega,by omega,by omega⟩
theorem plus_spec {x:L5} {Q:ByteArray→H→Prop} (hs:s.size=16) (hx:x.Lt 67108864) (k:∀ h',Keep h h'→Q (leT (x.val+leN s 16)) h'):poly_limbs_plus (q64 x.a) (q64 x.b) (q64 x.c) (q64 x.d) (q64 x.e) s h Q:=by
 unfold poly_limbs_plus poly_limbs_plus.g
 obtain ⟨h1,h2,h3,h4,h5⟩:=hx
 refine M.new_w (Wd.start h) fun b1 h1 w=>?_
 refine Little_spec (by omega) (by omega) fun a2 c2 h2 w'=>?_
 have w:=w.join w'
 clear w'
 rw [hs] at w ⊢
 have hN:=leN16 s hs
 have hl:(wordsOf false s).length=4:=by rw [wordsOf_len,hs]
 have hl4:wordsOf false s=[at0 (wordsOf false s) 0,at0 (wordsOf false s) 1,at0 (wordsOf false s) 2,at0 (wordsOf false s) 3]:=by
  generalize wordsOf false s=l at hl
  match l,hl with
  | [a,b,c,d],_=>rfl
 rw [hl4] at w
 generalize at0 (wordsOf false s) 0=x0 at *
 generalize at0 (wordsOf false s) 1=x1 at *
 generalize at0 (wordsOf false s) 2=x2 at *
 generalize at0 (wordsOf false s) 3=x3 at *
 clear hl4
 simp only [Nat.reduceDiv] at w ⊢
 have g0:[x0,x1,x2,x3].getD (Int.toNat 0) 0=x0:=rfl
 have g1:[x0,x1,x2,x3].getD (Int.toNat 1) 0=x1:=rfl
 have g2:[x0,x1,x2,x3].getD (Int.toNat 2) 0=x2:=rfl
 have g3:[x0,x1,x2,x3].getD (Int.toNat 3) 0=x3:=rfl
 have l0:=x0.isLt
 have l1:=x1.isLt
 have l2:=x2.isLt
 have l3:=x3.isLt
 have t26:=fun n=>shl_qk n 26 (by decide)
 have t20:=fun n=>shl_qk n 20 (by decide)
 have t14:=fun n=>shl_qk n 14 (by decide)
 have t8:=fun n=>shl_qk n 8 (by decide)
 have s6:=fun n=>shr_qk n 6 (by decide)
 have s12:=fun n=>shr_qk n 12 (by decide)
 have s18:=fun n=>shr_qk n 18 (by decide)
 have o1:=or_q (a:=x.a) (c:=x.b) 26 (by omega) (by omega) (by omega)
 have o2:=or_q (a:=x.b % 18446744073709551616 / 2 ^ 6) (c:=x.c) 20 (by omega) (by omega) (by omega)
 have o3:=or_q (a:=x.c % 18446744073709551616 / 2 ^ 12) (c:=x.d) 14 (by omega) (by omega) (by omega)
 have o4:=or_q (a:=x.d % 18446744073709551616 / 2 ^ 18) (c:=x.e) 8 (by omega) (by omega) (by omega)
 simp only [Int.reduceNatCast,Int.cast_ofNat_Int] at t26 t20 t14 t8 s6 s12 s18
 refine ⟨(by omega),(by omega),?_⟩
 simp only [bs,Int.reduceToNat,lb (w.blk 0 rfl)]
 refine ⟨(by omega),(by omega),?_⟩
 simp only []
 simp only [bs,Int.reduceToNat,t26]
 refine ⟨(by omega),?_⟩
 refine M.vin ?_
 simp only [o1]
 refine M.vin ?_
 refine ⟨(by omega),(by omega),?_⟩
 simp only []
 simp only [bs,Int.reduceToNat,s6]
 refine ⟨(by omega),?_⟩
 refine M.vin ?_
 refine ⟨(by omega),(by omega),?_⟩
 simp only []
 simp only [bs,Int.reduceToNat,t20]
 refine ⟨(by omega),?_⟩
 refine M.vin ?_
 simp only [o2]
 refine M.vin ?_
 refine ⟨(by omega),(by omega),?_⟩
 simp only []
 simp only [bs,Int.reduceToNat,s12]
 refine ⟨(by omega),?_⟩
 refine M.vin ?_
 refine ⟨(by omega),(by omega),?_⟩
 simp only []
 simp only [bs,Int.reduceToNat,t14]
 refine ⟨(by omega),?_⟩
 refine M.vin ?_
 simp only [o3]
 refine M.vin ?_
 refine ⟨(by omega),(by omega),?_⟩
 simp only []
 simp only [bs,Int.reduceToNat,s18]
 refine ⟨(by omega),?_⟩
 refine M.vin ?_
 refine ⟨(by omega),(by omega),?_⟩
 simp only []
 simp only [bs,Int.reduceToNat,t8]
 refine ⟨(by omega),?_⟩
 refine M.vin ?_
 simp only [o4]
 refine M.vin ?_
 refine M.new_w w fun b7 h6 w=>?_
 refine ⟨(rfl),?_⟩
 refine M.puts_w0 w 2 rfl (by simp [isPlainCell]) (by simp) fun h8 w=>?_
 simp only [bs] at w
 refine M.mk_sl w (by omega) (by omega) (by omega) (by omega) rfl fun a9 h10 w=>?_
 simp only [zs] at w ⊢
 refine M.jn (M.times 5 ?_)
 refine M.iter_s ?_
 simp only []
 refine cdt (by omega) ?_
 refine ⟨(by omega),(by omega),?_⟩
 simp only [bs,Int.reduceToNat,and32_q,lb (w.blk 2 rfl)]
 refine M.vin ?_
 refine Ro.ldU (w.roU 1 rfl) (by omega) (by omega) ?_
 simp only [g0,wrapU_q]
 refine M.vin ?_
 refine ⟨fun _ _=>rfl,?_⟩
 simp only [add_q]
 refine M.vin ?_
 simp only [add0_q]
 refine M.vin ?_
 simp only [wrap32_q,shr32_q]
 refine M.vin ?_
 refine w.put1 3 rfl rfl _ rfl (by omega) (by omega) fun h9 w=>?_
 simp only [bs,Int.reduceToNat] at w
 refine ⟨(by omega),?_⟩
 refine M.vin ?_
 refine M.vis (1) (by decide) ?_
 refine M.iter_s ?_
 simp only []
 refine cdt (by omega) ?_
 refine ⟨(by omega),(by omega),?_⟩
 simp only [bs,Nat.reduceMul,Int.reduceToNat,and32_q,lb (w.blk 2 rfl)]
 refine M.vin ?_
 refine Ro.ldU (w.roU 1 rfl) (by omega) (by omega) ?_
 simp only [g1,wrapU_q]
 refine M.vin ?_
 refine ⟨fun _ _=>rfl,?_⟩
 simp only [add_q]
 refine M.vin ?_
 simp only [add_q]
 refine M.vin ?_
 simp only [wrap32_q,shr32_q]
 refine M.vin ?_
 refine w.put1 3 rfl rfl _ rfl (by omega) (by omega) fun h16 w=>?_
 simp only [bs,Int.reduceToNat] at w
 refine ⟨(by omega),?_⟩
 refine M.vin ?_
 refine M.vis (2) (by decide) ?_
 refine M.iter_s ?_
 simp only []
 refine cdt (by omega) ?_
 refine ⟨(by omega),(by omega),?_⟩
 simp only [bs,Nat.reduceMul,Int.reduceToNat,and32_q,lb (w.blk 2 rfl)]
 refine M.vin ?_
 refine Ro.ldU (w.roU 1 rfl) (by omega) (by omega) ?_
 simp only [g2,wrapU_q]
 refine M.vin ?_
 refine ⟨fun _ _=>rfl,?_⟩
 simp only [add_q]
 refine M.vin ?_
 simp only [add_q]
 refine M.vin ?_
 simp only [wrap32_q,shr32_q]
 refine M.vin ?_
 refine w.put1 3 rfl rfl _ rfl (by omega) (by omega) fun h23 w=>?_
 simp only [bs,Int.reduceToNat] at w
 refine ⟨(by omega),?_⟩
 refine M.vin ?_
 refine M.vis (3) (by decide) ?_
 refine M.iter_s ?_
 simp only []
 refine cdt (by omega) ?_
 refine ⟨(by omega),(by omega),?_⟩
 simp only [bs,Nat.reduceMul,Int.reduceToNat,and32_q,lb (w.blk 2 rfl)]
 refine M.vin ?_
 refine Ro.ldU (w.roU 1 rfl) (by omega) (by omega) ?_
 simp only [g3,wrapU_q]
 refine M.vin ?_
 refine ⟨fun _ _=>rfl,?_⟩
 simp only [add_q]
 refine M.vin ?_
 simp only [add_q]
 refine M.vin ?_
 simp only [wrap32_q,shr32_q]
 refine M.vin ?_
 refine w.put1 3 rfl rfl _ rfl (by omega) (by omega) fun h30 w=>?_
 simp only [bs,Int.reduceToNat] at w
 refine ⟨(by omega),?_⟩
 refine M.vin ?_
 refine M.vis (4) (by decide) ?_
 refine M.iter_s ?_
 simp only []
 refine cdf (by omega) ?_
 rw [←uvs_row] at w
 refine FromLittle_spec (words_of w 3 rfl (by simp)) fun h31 k31=>?_
 have:=k _ (w.keep.trans k31)
 rw [digs,hN] at this
 obtain ⟨d0,d1,d2,d3,q0,q1,q2,q3,⟨r,hv⟩,u0,u1,u2,u3⟩:∃ d0 d1 d2 d3:Nat,(x.a+x.b*2 ^ 26) % 4294967296=d0∧(x.b % 18446744073709551616 / 2 ^ 6+x.c*2 ^ 20) % 4294967296=d1∧(x.c % 18446744073709551616 / 2 ^ 12+x.d*2 ^ 14) % 4294967296=d2∧(x.d % 18446744073709551616 / 2 ^ 18+x.e*2 ^ 8) % 4294967296=d3
   ∧ (∃ r,x.val=d0+d1*4294967296+d2*18446744073709551616+d3*79228162514264337593543950336+r*340282366920938463463374607431768211456)∧d0<4294967296∧d1<4294967296∧d2<4294967296∧d3<4294967296:=by
  refine ⟨_,_,_,_,rfl,rfl,rfl,rfl,⟨x.val / 340282366920938463463374607431768211456,?_⟩,Nat.mod_lt _ (by decide),Nat.mod_lt _ (by decide),Nat.mod_lt _ (by decide),Nat.mod_lt _ (by decide)⟩
  simp only [L5.val]
  omega
 simp only [q0,q1,q2,q3] at w ⊢
 rw [hv] at this
 clear w q0 q1 q2 q3 hv hN o1 o2 o3 o4 t26 t20 t14 t8 s6 s12 s18 k
 have key:∀ n m:Nat,n % 4294967296=m % 4294967296→BitVec.ofNat 32 n=BitVec.ofNat 32 m:=fun n m e=>BitVec.eq_of_toNat_eq (by rw [BitVec.toNat_ofNat,BitVec.toNat_ofNat]; exact e)
 obtain ⟨N,hN⟩:∃ N,d0+d1*4294967296+d2*18446744073709551616+d3*79228162514264337593543950336+r*340282366920938463463374607431768211456+(x0.toNat+x1.toNat * 4294967296+x2.toNat * 18446744073709551616+x3.toNat * 79228162514264337593543950336)=N:=⟨_,rfl⟩
 rw [hN] at this
 rw [key N (d0+x0.toNat) (by omega),key (N / 4294967296) ((d0+x0.toNat) % 18446744073709551616 / 4294967296+(d1+x1.toNat)) (by omega),
  key (N / 18446744073709551616) (((d0+x0.toNat) % 18446744073709551616 / 4294967296+(d1+x1.toNat)) % 18446744073709551616 / 4294967296+(d2+x2.toNat)) (by omega),
  key (N / 79228162514264337593543950336) ((((d0+x0.toNat) % 18446744073709551616 / 4294967296+(d1+x1.toNat)) % 18446744073709551616 / 4294967296+(d2+x2.toNat)) % 18446744073709551616 / 4294967296+(d3+x3.toNat)) (by omega)] at this
 exact this
end
end Go.Proofs.YthegnmanjdlmjaaGreatDoor
namespace Go.Proofs.YthegnmanjdlmjaaGreatDoor
open Go.Sh Go.RowKit
def clB (x:Int) (i:Nat):Int:=if i % 4=3 then x % 16 else if i % 4=0∧0<i then x-x % 4 else x
def clampT (r:ByteArray):ByteArray:=byT 16 fun i=>clB (byteAt r i) i
theorem and8 (x:Int) (m k:Nat) (h:0≤x∧x<256) (hm:m=2 ^ k-1) (hk:k≤8):bAnd .u8 x (m:Int)=x % 2 ^ k:=by
 obtain ⟨n,rfl⟩:=Int.eq_ofNat_of_zero_le h.1
 have hm8:m<256:=by
  have:2 ^ k≤2 ^ 8:=Nat.pow_le_pow_right (by omega) hk
  omega
 have e:∀ n:Nat,n<256→(BitVec.ofInt 8 (n:Int)).toNat=n:=fun n h=>by rw [BitVec.ofInt_natCast,BitVec.toNat_ofNat]; omega
 have h1:(BitVec.ofInt 8 (n:Int) &&& BitVec.ofInt 8 (m:Int)).toNat=n % 2 ^ k:=by
  rw [BitVec.toNat_and,e n (by omega),e m hm8,hm,Nat.and_two_pow_sub_one_eq_mod]
 show IntKind.wrap .u8 ((BitVec.ofInt 8 (n:Int) &&& BitVec.ofInt 8 (m:Int)).toNat:Int)=_
 have:=Nat.mod_le n (2 ^ k)
 rw [h1,IntKind.wrap_u8,Int.natCast_emod,Int.natCast_pow]
 have e2:((n:Int) % 2 ^ k)=((n % 2 ^ k:Nat):Int):=by rw [Int.natCast_emod,Int.natCast_pow]; rfl
 show ((n:Int) % 2 ^ k) % 256=_
 rw [e2]; omega
theorem and15 {x:Int} (h:0≤x∧x<256):bAnd .u8 x 15=x % 16:=and8 x 15 4 h rfl (by decide)
theorem and252 {x:Int} (h:0≤x∧x<256):bAnd .u8 x 252=x-x % 4:=by
 have:∀ n:Fin 256,bAnd .u8 ((n.val:Nat):Int) 252=((n.val:Nat):Int)-((n.val:Nat):Int) % 4:=by decide +kernel
 have:=this ⟨x.toNat,by omega⟩
 simp only [Int.toNat_of_nonneg h.1] at this
 exact this
theorem cl_set (r:ByteArray) (m:Nat) (hm:m<16) (v:Int) (hv:v=clB (byteAt r m) m):((List.range 16).map fun i=>if i<m then clB (byteAt r i) i else byteAt r i).set m v=(List.range 16).map fun i=>if i<m+1 then clB (byteAt r i) i else byteAt r i:=by
 rw [set_map_range]
 apply List.map_congr_left
 intro i hi
 by_cases h1:i=m
 ·subst h1; rw [if_pos rfl,if_pos (by omega),hv]
 ·rw [if_neg h1]
  by_cases h2:i<m
  ·rw [if_pos h2,if_pos (by omega)]
  ·rw [if_neg h2,if_neg (by omega)]
theorem cl_same (r:ByteArray) (m:Nat) (hm:m<16) (hv:byteAt r m=clB (byteAt r m) m):((List.range 16).map fun i=>if i<m then clB (byteAt r i) i else byteAt r i)=(List.range 16).map fun i=>if i<m+1 then clB (byteAt r i) i else byteAt r i:=by
 apply List.map_congr_left
 intro i hi
 by_cases h2:i<m
 ·rw [if_pos h2,if_pos (by omega)]
 ·by_cases h1:i=m
  ·subst h1; rw [if_neg h2,if_pos (by omega),←hv]
  ·rw [if_neg h2,if_neg (by omega)]
theorem bytesOf_row (s:ByteArray) (n:Nat) (h:s.size=n):bytesOf s=eB.row ((List.range n).map (byteAt s)):=by
 rw [←bvs_row,←h,intsOf',bytesOf,bvs,List.map_map]; rfl
section
variable {h:H} {r a b:ByteArray}
theorem Clamp_spec {Q:ByteArray→Int→H→Prop} (hr:r.size=16) (k:∀ h',Keep h h'→Q (clampT r) 0 h'):poly_Clamp r h Q:=by
 unfold poly_Clamp
 refine cf (by rw [hr]; rfl) ?_
 refine M.s2b_w (Wd.start h) fun b3 c3 h1 w=>?_
 rw [bytesOf_row r 16 hr,hr] at w
 rw [hr]
 refine M.jn ?_
 refine M.loop_of (I:=fun (i:Int) h'=>∃ m:Nat,m≤16∧i=(m:Int)∧Wd h h' [.sl 5 1 (some ⟨b3,0,none⟩) 16 c3 (eB.row ((List.range 16).map fun i=>if i<m then clB (byteAt r i) i else byteAt r i))]) (μ:=fun i=>(16-i).toNat) ⟨0,by omega,rfl,?_⟩ ?_
 ·have:((List.range 16).map fun i=>if i<0 then clB (byteAt r i) i else byteAt r i)=(List.range 16).map (byteAt r):=List.map_congr_left fun i hi=>if_neg (by omega)
  rw [this]; exact w
 clear w
 rintro _ h2 J ⟨m,hm,rfl,w⟩ hJ
 by_cases hlt:m<16
 ·refine cdt (by omega) ⟨by decide,?_⟩
  have vt:Int.tmod (m:Int) 4=((m % 4:Nat):Int):=by rw [Int.tmod_eq_emod_of_nonneg (by omega)]; omega
  have v1:IntKind.wrap .i64 ((m:Int)+1)=((m+1:Nat):Int):=by rw [IntKind.wrap_i64]; omega
  have hb:=byteAt_lt r m
  have hz:za ((List.range 16).map fun i=>if i<m then clB (byteAt r i) i else byteAt r i) m=byteAt r m:=by
   rw [za_get (by simpa using hlt)]; simp
  refine M.vis _ vt ?_
  by_cases h3:m % 4=3
  ·refine ct (by rw [beq_iff_eq]; omega) ?_
   have ha:=and15 hb
   simp only [v1]
   refine Ro.ldB (w.ro 0 rfl (by decide)) (by omega) (by omega) ?_
   simp only [Int.toNat_natCast,hz,ha]
   refine M.vin ?_
   refine w.put1 0 rfl rfl _ rfl (by omega) (by omega) fun h10 w=>?_
   simp only [bs,Int.toNat_natCast] at w
   refine M.vin ?_
   rw [cl_set r m hlt _ (by unfold clB; rw [if_pos h3])] at w
   exact hJ _ _ ⟨m+1,by omega,rfl,w⟩ (by omega)
  ·refine cf (by rw [beq_eq_false_iff_ne]; omega) ?_
   refine M.jn ⟨by decide,M.vis _ vt ?_⟩
   by_cases h0:m % 4=0
   ·refine ct (by rw [beq_iff_eq]; omega) ?_
    by_cases hp:0<m
    ·refine cdt (by omega) ?_
     have ha:=and252 hb
     simp only [v1]
     refine Ro.ldB (w.ro 0 rfl (by decide)) (by omega) (by omega) ?_
     simp only [Int.toNat_natCast,hz,ha]
     refine M.vin ?_
     refine w.put1 0 rfl rfl _ rfl (by omega) (by omega) fun h10 w=>?_
     simp only [bs,Int.toNat_natCast] at w
     refine M.vin ?_
     rw [cl_set r m hlt _ (by unfold clB; rw [if_neg h3,if_pos ⟨h0,hp⟩])] at w
     exact hJ _ _ ⟨m+1,by omega,rfl,w⟩ (by omega)
    ·refine cdf (by omega) ?_
     rw [cl_same r m hlt (by unfold clB; rw [if_neg h3,if_neg (by omega)])] at w
     refine M.vis _ v1 ?_
     exact hJ _ _ ⟨m+1,by omega,rfl,w⟩ (by omega)
   ·refine cf (by rw [beq_eq_false_iff_ne]; omega) ?_
    refine cf rfl ?_
    rw [cl_same r m hlt (by unfold clB; rw [if_neg h3,if_neg (by omega)])] at w
    refine M.vis _ v1 ?_
    exact hJ _ _ ⟨m+1,by omega,rfl,w⟩ (by omega)
 ·refine cdf (by omega) ?_
  obtain rfl:m=16:=by omega
  have e:((List.range 16).map fun i=>if i<16 then clB (byteAt r i) i else byteAt r i)=(List.range 16).map fun i=>clB (byteAt r i) i:=List.map_congr_left fun i hi=>if_pos (List.mem_range.1 hi)
  rw [e] at w
  exact w.textB 0 rfl (k _ w.keep)
theorem or0 {a b:Int} (ha:0≤a∧a<256) (hb:0≤b∧b<256):0≤bOr .u8 a b∧bOr .u8 a b<256∧(bOr .u8 a b=0↔a=0∧b=0):=by
 have e:∀ x:Int,0≤x∧x<256→(BitVec.ofInt 8 x).toNat=x.toNat:=fun x h=>by rw [BitVec.toNat_ofInt]; omega
 have h1:(BitVec.ofInt 8 a ||| BitVec.ofInt 8 b).toNat=a.toNat ||| b.toNat:=by rw [BitVec.toNat_or,e a ha,e b hb]
 have h2:bOr .u8 a b=((a.toNat ||| b.toNat:Nat):Int):=by
  show IntKind.wrap .u8 ((BitVec.ofInt 8 a ||| BitVec.ofInt 8 b).toNat:Int)=_
  have:a.toNat ||| b.toNat<2 ^ 8:=Nat.or_lt_two_pow (by omega) (by omega)
  rw [h1,IntKind.wrap_u8]; omega
 have h3:a.toNat ||| b.toNat<2 ^ 8:=Nat.or_lt_two_pow (by omega) (by omega)
 rw [h2]
 refine ⟨by omega,by omega,?_⟩
 constructor
 ·intro h
  have:a.toNat ||| b.toNat=0:=by omega
  rw [Nat.or_eq_zero_iff] at this
  omega
 ·rintro ⟨rfl,rfl⟩; rfl
theorem bx0 {a b:Int} (ha:0≤a∧a<256) (hb:0≤b∧b<256):bx a b=0↔a=b:=by
 rw [bx_nat ha hb]
 constructor
 ·intro h
  have:a.toNat ^^^ b.toNat=0:=by omega
  have:=congrArg (· ^^^ b.toNat) this
  simp only [Nat.xor_assoc,Nat.xor_self,Nat.xor_zero,Nat.zero_xor] at this
  omega
 ·rintro rfl
  rw [Nat.xor_self]; rfl
theorem Equal_spec {Q:Bool→H→Prop} (hs:a.size≤1000000) (k:Q (decide (a=b)) h):poly_Equal a b h Q:=by
 unfold poly_Equal
 refine cc (fun e=>?_) fun e=>?_
 ·rw [bne_iff_ne] at e
  have:¬ a=b:=fun e2=>e (by rw [e2])
  rwa [decide_eq_false this] at k
 ·rw [bne_eq_false_iff_eq] at e
  refine M.jn ?_
  refine M.loop_of (I:=fun (p:Int × Int) h'=>h'=h∧∃ m:Nat,m≤a.size∧p.2=(m:Int)∧0≤p.1∧p.1<256∧(p.1=0↔∀ i,i<m→byteAt a i=byteAt b i)) (μ:=fun p=>(a.size-p.2).toNat) ⟨rfl,0,by omega,rfl,by decide,by decide,by simp⟩ ?_
  rintro ⟨d,_⟩ h2 J ⟨rfl,m,hm,rfl,d0,d1,hd⟩ hJ
  simp only at d0 d1 hd ⊢
  by_cases hlt:m<a.size
  ·refine cdt (by omega) ⟨by omega,by omega,⟨by omega,by omega,M.vin (M.vin (M.vis ((m+1:Nat):Int) (by rw [IntKind.wrap_i64]; omega) ?_))⟩⟩
   rw [Int.toNat_natCast]
   have ha:=byteAt_lt a m
   have hb:=byteAt_lt b m
   have hx:bXor .u8 (byteAt a m) (byteAt b m)=bx (byteAt a m) (byteAt b m):=rfl
   rw [hx]
   obtain ⟨o1,o2,o3⟩:=or0 ⟨d0,d1⟩ (bx_lt (byteAt a m) (byteAt b m))
   refine hJ _ _ ⟨rfl,m+1,by omega,rfl,o1,o2,?_⟩ (by simp only; omega)
   simp only
   rw [o3,hd,bx0 ha hb]
   constructor
   ·rintro ⟨h1,h2⟩ i hi
    by_cases hi2:i=m
    ·subst hi2; exact h2
    ·exact h1 i (by omega)
   ·exact fun h=>⟨fun i hi=>h i (by omega),h m (by omega)⟩
  ·refine cdf (by omega) ?_
   obtain rfl:m=a.size:=by omega
   have:(d == 0)=decide (a=b):=by
    rw [Bool.eq_iff_iff,beq_iff_eq,decide_eq_true_iff,hd]
    constructor
    ·exact fun h=>text_eq (by omega) h
    ·rintro rfl i hi; rfl
   rw [this]; exact k
end
end Go.Proofs.YthegnmanjdlmjaaGreatDoor
namespace Go.Proofs.YthegnmanjdlmjaaGreatDoor
open Go.Sh Go.RowKit
def chunkN (s:ByteArray) (j:Nat):Nat:=leN (s.extract (16*j) s.size) (min 16 (s.size-16*j))+256 ^ (min 16 (s.size-16*j))
def accN (r:Nat) (s:ByteArray):Nat→Nat
 | 0=>0
 | j+1=>(accN r s j+chunkN s j)*r % L5.P
def tagT (key s:ByteArray):ByteArray:=leT (accN (leN (clampT (key.extract 0 16)) 16) s ((s.size+15) / 16)+leN (key.extract 16 32) 16)
theorem tagT_size (key s:ByteArray):(tagT key s).size=16:=byT_size _ _
theorem leN_congr {s t:ByteArray}:∀ n,(∀ i,i<n→byteAt s i=byteAt t i)→leN s n=leN t n
 | 0,_=>rfl
 | n+1,h=>by rw [leN,leN,leN_congr n fun i hi=>h i (by omega),h n (by omega)]
theorem leN_tail (t:ByteArray) (n:Nat):∀ k,(∀ i,n<i→i<n+k→byteAt t i=0)→0<k→leN t (n+k)=leN t n+(byteAt t n).toNat * 256 ^ n
 | 0,_,h=>by omega
 | 1,_,_=>rfl
 | k+2,h,_=>by
  have e:=h (n+(k+1)) (by omega) (by omega)
  show leN t (n+(k+1))+(byteAt t (n+(k+1))).toNat * _ = _
  rw [leN_tail t n (k+1) (fun i h1 h2=>h i h1 (by omega)) (by omega),e]
  simp
def laidB (s:ByteArray) (n i:Nat):Int:=if i<n then byteAt s i else if i=n then 1 else 0
theorem laidB_lt (s:ByteArray) (n i:Nat):0≤laidB s n i∧laidB s n i<256:=by
 unfold laidB
 have:=byteAt_lt s i
 split
 ·exact this
 ·split <;> decide
theorem laid_num (s:ByteArray) (n:Nat) (hn:n≤16):leN (byT 16 (laidB s n)) 16+(laidB s n 16).toNat * 340282366920938463463374607431768211456=leN s n+256 ^ n:=by
 have hb:∀ i,i<16→byteAt (byT 16 (laidB s n)) i=laidB s n i:=fun i hi=>byteAt_byT _ _ _ hi (laidB_lt s n i)
 have h1:leN (byT 16 (laidB s n)) n=leN s n:=leN_congr n fun i hi=>by rw [hb i (by omega),laidB,if_pos hi]
 by_cases h:n=16
 ·subst h
  have:laidB s 16 16=1:=rfl
  rw [h1,this]; rfl
 ·have e16:laidB s n 16=0:=by rw [laidB,if_neg (by omega),if_neg (by omega)]
  have en:byteAt (byT 16 (laidB s n)) n=1:=by rw [hb n (by omega),laidB,if_neg (by omega),if_pos rfl]
  have ht:=leN_tail (byT 16 (laidB s n)) n (16-n) (fun i h2 h3=>by rw [hb i (by omega),laidB,if_neg (by omega),if_neg (by omega)]) (by omega)
  rw [show n+(16-n)=16 by omega,h1,en] at ht
  rw [ht,e16]; simp
theorem splice_bytes (n:Nat) (hn:n≤17) (f:Nat→Int):splice (Array.replicate 17 (Value.int .u8 0)) 0 (bvs ((List.range n).map f))=(bvs ((List.range 17).map fun i=>if i<n then f i else 0)).toArray:=by
 apply Array.ext_getElem?
 intro i
 rw [splice_get _ _ _ (by simp [bvs_len]; omega)]
 simp only [bvs,List.map_map,List.length_map,List.length_range,Nat.zero_le,true_and,Nat.zero_add,Nat.sub_zero,List.getElem?_toArray,List.getElem?_map]
 by_cases h1:i<n
 ·rw [if_pos h1,List.getElem?_range h1,List.getElem?_range (by omega)]
  simp [h1]
 ·rw [if_neg h1,Array.getElem?_replicate]
  by_cases h2:i<17
  ·rw [if_pos h2,List.getElem?_range h2]
   simp [h1]
  ·rw [if_neg h2,List.getElem?_eq_none (by rw [List.length_range]; omega)]; rfl
theorem bvs_set (zs:List Int) (i:Nat) (x:Int):(bvs zs).toArray.setIfInBounds i (.int .u8 x)=(bvs (zs.set i x)).toArray:=by
 rw [List.setIfInBounds_toArray,bvs,bvs,List.map_set]
theorem laid_set (t:ByteArray) (n:Nat) (hn:n≤16):((List.range 17).map fun i=>if i<n then byteAt t i else 0).set n 1=(List.range 17).map (laidB t n):=by
 rw [set_map_range]
 apply List.map_congr_left
 intro i hi
 unfold laidB
 by_cases h1:i=n
 ·subst h1; rw [if_pos rfl,if_neg (by omega),if_pos rfl]
 ·rw [if_neg h1]
  by_cases h2:i<n
  ·rw [if_pos h2,if_pos h2]
  ·rw [if_neg h2,if_neg h2,if_neg h1]
theorem laid_text (t:ByteArray) (n:Nat):ofBytes ((((List.range 17).map (laidB t n)).drop 0).take 16)=byT 16 (laidB t n):=by rfl
theorem laid_16 (t:ByteArray) (n:Nat):(bvs ((List.range 17).map (laidB t n)))[16]? = some (.int .u8 (laidB t n 16)):=by rfl
theorem laid_q (t:ByteArray) (n:Nat):IntKind.wrap .u64 (laidB t n 16)=q64 (laidB t n 16).toNat:=by
 have:=laidB_lt t n 16
 rw [IntKind.wrap_u64,q64]; omega
theorem laid_le (t:ByteArray) (n:Nat) (h:n≤16):(laidB t n 16).toNat≤1:=by
 unfold laidB
 rw [if_neg (by omega)]
 split <;> decide
theorem mul_lt {x r:L5} (hx:x.Lt 268435456) (hr:r.Lt 67108864):(x.mul r).Lt 4611686018427387904:=by
 obtain ⟨x1,x2,x3,x4,x5⟩:=hx
 obtain ⟨r1,r2,r3,r4,r5⟩:=hr
 have m:∀ a b:Nat,a<268435456→b<67108864→a*b≤18014398509481984:=fun a b ha hb=>Nat.mul_le_mul (Nat.le_of_lt ha) (Nat.le_of_lt hb)
 refine ⟨?_,?_,?_,?_,?_⟩ <;> simp only [L5.mul]
 ·have:=m _ _ x1 r1; have:=m _ _ x2 r5; have:=m _ _ x3 r4; have:=m _ _ x4 r3; have:=m _ _ x5 r2; omega
 ·have:=m _ _ x1 r2; have:=m _ _ x2 r1; have:=m _ _ x3 r5; have:=m _ _ x4 r4; have:=m _ _ x5 r3; omega
 ·have:=m _ _ x1 r3; have:=m _ _ x2 r2; have:=m _ _ x3 r1; have:=m _ _ x4 r5; have:=m _ _ x5 r4; omega
 ·have:=m _ _ x1 r4; have:=m _ _ x2 r3; have:=m _ _ x3 r2; have:=m _ _ x4 r1; have:=m _ _ x5 r5; omega
 ·have:=m _ _ x1 r5; have:=m _ _ x2 r4; have:=m _ _ x3 r3; have:=m _ _ x4 r2; have:=m _ _ x5 r1; omega
def L5.add (x y:L5):L5:=⟨x.a+y.a,x.b+y.b,x.c+y.c,x.d+y.d,x.e+y.e⟩
theorem add_val (x y:L5):(x.add y).val=x.val+y.val:=by simp only [L5.add,L5.val]; omega
section
variable {h:H} {key s:ByteArray}
theorem polySum_spec {Q:ByteArray→Int→H→Prop} (hk:key.size=32) (hs:s.size≤65536) (k:∀ h',Keep h h'→Q (tagT key s) 0 h'):poly_Sum key s h Q:=by
 unfold poly_Sum poly_Sum.g
 refine cf (by rw [hk]; rfl) (cdf (by omega) ⟨by omega,by omega,by omega,?_⟩)
 unfold tagT at k
 have hk1:(key.extract (Int.toNat 0) (Int.toNat 16)).size=16:=by rw [ByteArray.size_extract]; simp; omega
 refine Clamp_spec hk1 fun h1 k1=>?_
 have hcs:(clampT (key.extract (Int.toNat 0) (Int.toNat 16))).size=16:=byT_size _ _
 refine of_spec (ab:=0) hcs (by omega) fun h2 r hr hrv k2=>?_
 have w:=(Wd.start h).keeps (k1.trans k2)
 refine M.new_w w fun b4 h3 w=>?_
 refine ⟨(rfl),?_⟩
 refine M.puts_w0 w 0 rfl (by simp [isPlainCell]) (by simp) fun h5 w=>?_
 simp only [bs] at w
 refine M.new_w w fun b7 h6 w=>?_
 have w:Wd h _ [.blk b4 r.o,.blk b7 (L5.o ⟨0,0,0,0,0⟩)]:=w
 have hR:leN (clampT (key.extract 0 16)) 16=r.val:=by
  have:r.val=leN (clampT (key.extract (Int.toNat 0) (Int.toNat 16))) 16+0*340282366920938463463374607431768211456:=hrv
  rw [this,Nat.zero_mul,Nat.add_zero]; rfl
 rw [hR] at k
 clear hrv hR k1 k2 hk1 hcs
 refine M.jn ?_
 refine M.loop_of (I:=fun (t:ByteArray) h'=>∃ j m x,m=min (16*j) s.size∧t=s.extract m s.size∧j≤(s.size+15) / 16∧L5.Lt x 134217728∧x.val % L5.P=accN r.val s j∧Wd h h' [.blk b4 r.o,.blk b7 x.o]) (μ:=fun t=>t.size) ⟨0,0,⟨0,0,0,0,0⟩,by omega,ByteArray.extract_zero_size.symm,by omega,⟨by decide,by decide,by decide,by decide,by decide⟩,rfl,w⟩ ?_
 clear w
 rintro _ h2 J ⟨j,m,x,hm,rfl,hj,hx,hxv,w⟩ hJ
 have hts:(s.extract m s.size).size=s.size-m:=by rw [ByteArray.size_extract]; omega
 by_cases hlt:m<s.size
 ·refine cdt (by omega) ?_
  obtain rfl:m=16*j:=by omega
  generalize ht:s.extract (16*j) s.size=t at *
  obtain ⟨n,hn⟩:∃ n,min 16 (s.size-16*j)=n:=⟨_,rfl⟩
  have hch:chunkN s j=leN t n+256 ^ n:=by rw [chunkN,ht,hn]
  have emn:mn (t.size:Int) 16=(n:Int):=by rw [hts,←hn,Nat.min_comm]; exact mn_nat _ 16
  have ebs:bytesOf ((t.extract (Int.toNat 0) n).extract 0 (min (t.extract (Int.toNat 0) n).size 17))=bvs ((List.range n).map (byteAt t)):=by
   have hsz:(t.extract (Int.toNat 0) n).size=n:=by rw [ByteArray.size_extract,hts]; show min n _ - 0=n; omega
   rw [hsz,Nat.min_eq_left (by omega)]
   have e1:(t.extract (Int.toNat 0) n).extract 0 n=t.extract 0 n:=by
    show (t.extract 0 n).extract 0 n=_
    rw [ByteArray.extract_extract]; congr 1; omega
   have e2:(t.extract 0 n).size=n:=hsz
   rw [e1,bytesOf_row _ n e2,←bvs_row,List.map_congr_left fun i hi=>byteAt_ext t 0 n i (by have:=List.mem_range.1 hi; omega) (by omega)]
   simp
  rw [emn]
  refine M.new_w w fun b5 h4 w=>?_
  refine M.sub_in 0 17 rfl rfl (by decide) (by decide) (by decide) ?_
  simp only [Nat.reduceAdd,Nat.reduceMul,Nat.reduceSub]
  refine ⟨(by omega),(by omega),(by omega),?_⟩
  simp only [Int.toNat_natCast,ebs]
  refine M.copy_w w 2 rfl (bvs_plain _) (by simp [bvs_len]; omega) fun h3 w=>?_
  simp only [bs] at w
  rw [splice_bytes n (by omega)] at w
  refine ⟨by omega,by omega,?_⟩
  simp only [bs,Int.toNat_natCast]
  rw [Nat.mul_one]
  refine M.put_w w 2 rfl rfl (by simp [bvs_len]; omega) fun h4 w=>?_
  rw [bvs_set,laid_set t n (by omega)] at w
  simp only [bs] at w
  refine ⟨(by omega),(by omega),(by omega),?_⟩
  refine M.join_of (fun d h'=>∃ y,L5.Lt y 67108864∧y.val=chunkN s j∧d=((q64 y.a,q64 y.b,q64 y.c,q64 y.d,q64 y.e),0)∧Wd h h' [.blk b4 r.o,.blk b7 x.o]) (fun J2 hJ2=>?_) ?_
  ·have g16:=laid_16 t n
   have gq:=laid_q t n
   refine M.sub_in 0 16 rfl rfl (by decide) (by decide) (by decide) ?_
   simp only [Nat.reduceAdd,Nat.reduceMul,Nat.reduceSub]
   refine ⟨(by omega),(by omega),?_⟩
   simp only [bs,Nat.reduceMul,Int.reduceToNat,g16,gq,lb (w.blk 2 rfl)]
   refine ⟨?_,?_⟩
   rotate_left
   refine M.vin ?_
   rotate_left
   ·refine M.b2s_at (w.blk 2 rfl) (by simp) ?_
    rw [laid_text]
    refine ⟨fun _ _=>rfl,M.vin ?_⟩
    refine of_spec (byT_size _ _) (laid_le t n (by omega)) fun h5 y hy hyv k5=>?_
    exact hJ2 _ _ ⟨y,hy,by rw [hyv,laid_num t n (by omega),hch],rfl,(w.keeps k5).drop (i:=2) rfl⟩
   ·refine M.b2s_at (w.blk 2 rfl) (by simp) ?_
    rw [laid_text]
    refine ⟨fun _ _=>rfl,?_⟩
    refine of_spec (byT_size _ _) (laid_le t n (by omega)) fun h5 y hy hyv k5=>?_
    exact hJ2 _ _ ⟨y,hy,by rw [hyv,laid_num t n (by omega),hch],rfl,(w.keeps k5).drop (i:=2) rfl⟩
  clear w
  rintro _ h5 ⟨y,hy,hyv,rfl,w⟩
  unfold L5.o at w
  refine M.times 6 ?_
  refine M.iter_s ?_
  simp only []
  refine cdt (by omega) ?_
  refine ⟨(by omega),(by omega),?_⟩
  simp only []
  simp only [bs,Int.reduceToNat,lb (w.blk 1 rfl)]
  refine ⟨(by omega),(by omega),?_⟩
  simp only []
  simp only [bs,Int.reduceToNat,add_q]
  refine M.vin ?_
  refine ⟨(by omega),(by omega),?_⟩
  simp only []
  simp only [bs,Int.reduceToNat]
  refine M.put_w w 1 rfl rfl (by simp) fun h8 w=>?_
  simp only [bs] at w
  refine M.vis (1) (by decide) ?_
  refine M.iter_s ?_
  refine cdt (by omega) ?_
  refine ⟨(by omega),(by omega),?_⟩
  simp only []
  simp only [bs,Int.reduceToNat,lb (w.blk 1 rfl)]
  refine ⟨(by omega),(by omega),?_⟩
  simp only []
  simp only [bs,Int.reduceToNat,add_q]
  refine M.vin ?_
  refine ⟨(by omega),(by omega),?_⟩
  simp only []
  simp only [Nat.reduceMul,Int.reduceToNat]
  refine M.put_w w 1 rfl rfl (by simp) fun h10 w=>?_
  simp only [bs] at w
  refine M.vis (2) (by decide) ?_
  refine M.iter_s ?_
  refine cdt (by omega) ?_
  refine ⟨(by omega),(by omega),?_⟩
  simp only []
  simp only [bs,Int.reduceToNat,lb (w.blk 1 rfl)]
  refine ⟨(by omega),(by omega),?_⟩
  simp only []
  simp only [bs,Int.reduceToNat,add_q]
  refine M.vin ?_
  refine ⟨(by omega),(by omega),?_⟩
  simp only []
  simp only [Nat.reduceMul,Int.reduceToNat]
  refine M.put_w w 1 rfl rfl (by simp) fun h12 w=>?_
  simp only [bs] at w
  refine M.vis (3) (by decide) ?_
  refine M.iter_s ?_
  refine cdt (by omega) ?_
  refine ⟨(by omega),(by omega),?_⟩
  simp only []
  simp only [bs,Int.reduceToNat,lb (w.blk 1 rfl)]
  refine ⟨(by omega),(by omega),?_⟩
  simp only []
  simp only [bs,Int.reduceToNat,add_q]
  refine M.vin ?_
  refine ⟨(by omega),(by omega),?_⟩
  simp only []
  simp only [Nat.reduceMul,Int.reduceToNat]
  refine M.put_w w 1 rfl rfl (by simp) fun h14 w=>?_
  simp only [bs] at w
  refine M.vis (4) (by decide) ?_
  refine M.iter_s ?_
  refine cdt (by omega) ?_
  refine ⟨(by omega),(by omega),?_⟩
  simp only []
  simp only [bs,Int.reduceToNat,lb (w.blk 1 rfl)]
  refine ⟨(by omega),(by omega),?_⟩
  simp only []
  simp only [bs,Int.reduceToNat,add_q]
  refine M.vin ?_
  refine ⟨(by omega),(by omega),?_⟩
  simp only []
  simp only [Nat.reduceMul,Int.reduceToNat]
  refine M.put_w w 1 rfl rfl (by simp) fun h16 w=>?_
  simp only [bs] at w
  refine M.vis (5) (by decide) ?_
  refine M.iter_s ?_
  refine cdf (by omega) ?_
  simp only [bs,lb (w.blk 0 rfl)]
  have w:Wd h _ [.blk b4 r.o,.blk b7 (x.add y).o]:=w
  have hxy:(x.add y).Lt 268435456:=⟨by have:=hx.a; have:=hy.a; simp only [L5.add]; omega,by have:=hx.b; have:=hy.b; simp only [L5.add]; omega,by have:=hx.c; have:=hy.c; simp only [L5.add]; omega,by have:=hx.d; have:=hy.d; simp only [L5.add]; omega,by have:=hx.e; have:=hy.e; simp only [L5.add]; omega⟩
  have hm:=mul_lt hxy hr
  obtain ⟨hx1,k0,k1,wx,wr,back⟩:=w.on (i:=1) rfl
  refine times_spec wx fun h9 w1=>?_
  have w:=back _ _ w1
  refine hJ _ _ ⟨j+1,16*j+n,_,by omega,?_,by omega,(L5.carry_lt hm).1,?_,w⟩ ?_
  ·subst ht
   show (s.extract (16*j) s.size).extract n ((s.extract (16*j) s.size).size:Int).toNat=_
   have e:min (16*j+(s.size-16*j)) s.size=s.size:=by omega
   rw [Int.toNat_natCast,hts,ByteArray.extract_extract,e]
  ·obtain ⟨q,hq⟩:=L5.mul_val (x.add y) r
   have hc:=L5.carry_val hm
   rw [accN,←hxv]
   have e1:((x.add y).mul r).carry.val % L5.P=(x.add y).val*r.val % L5.P:=by rw [←hq,←hc,Nat.add_assoc,←Nat.add_mul,Nat.add_mul_mod_self_right]
   rw [e1,add_val,hyv,Nat.mul_mod (x.val % L5.P+chunkN s j),Nat.mod_add_mod,←Nat.mul_mod]
  ·show ((t.extract n (t.size:Int).toNat)).size<t.size
   rw [Int.toNat_natCast,ByteArray.size_extract]; omega
 ·refine cdf (by omega) ?_
  obtain rfl:m=s.size:=by omega
  have hje:j=(s.size+15) / 16:=by omega
  obtain ⟨hx1,k0,k1,wx,wr,back⟩:=w.on (i:=1) rfl
  refine least_spec wx (hx.mono (by decide)) fun h3 y hy hyv w1=>?_
  have w:=back _ _ w1
  unfold L5.o at w
  have h16:(key.extract (Int.toNat 16) (key.size:Int).toNat).size=16:=by rw [ByteArray.size_extract,hk]; rfl
  simp only [bs,lb (w.blk 1 rfl)]
  refine ⟨(by omega),(by omega),(by omega),?_⟩
  refine plus_spec h16 hy fun h4 k4=>?_
  have:=k _ (w.keep.trans k4)
  rw [←hje,←hxv,←hyv] at this
  rw [hk]
  exact this
end
end Go.Proofs.YthegnmanjdlmjaaGreatDoor
namespace Go.Proofs.YthegnmanjdlmjaaGreatDoor
open Go.Sh Go.RowKit
def padA (s:ByteArray):ByteArray:=s++zerosT ((16-s.size % 16) % 16)
def lenA (a b:ByteArray):ByteArray:=textOf false [BitVec.ofNat 32 a.size,BitVec.ofNat 32 (a.size / 4294967296),BitVec.ofNat 32 b.size,BitVec.ofNat 32 (b.size / 4294967296)]
def tagA (key nonce wi se:ByteArray):ByteArray:=tagT ((blockT key nonce 0).extract 0 32) (((padA wi)++(padA se))++lenA wi se)
def sealA (key nonce wi pl:ByteArray):ByteArray:=cryptT key nonce 1 pl++tagA key nonce wi (cryptT key nonce 1 pl)
theorem padA_size (s:ByteArray):(padA s).size=s.size+(16-s.size % 16) % 16:=by rw [padA,ByteArray.size_append,zerosT_size]
theorem lenA_size (a b:ByteArray):(lenA a b).size=16:=by rw [lenA,textOf_size]; rfl
theorem tagA_size (key nonce wi se:ByteArray):(tagA key nonce wi se).size=16:=tagT_size _ _
theorem sealA_size (key nonce wi pl:ByteArray):(sealA key nonce wi pl).size=pl.size+16:=by rw [sealA,ByteArray.size_append,cryptT_size,tagA_size]
section
variable {h:H} {key nonce wi se pl s:ByteArray}
theorem pad_spec {Q:ByteArray→H→Prop} (hs:s.size≤65536) (k:∀ h',Keep h h'→Q (padA s) h'):aead_pad s h Q:=by
 unfold aead_pad aead_pad.g
 have w:=Wd.start h
 have v1:Int.tmod (s.size:Int) 16=((s.size % 16:Nat):Int):=by rw [Int.tmod_eq_emod_of_nonneg (by omega)]; omega
 have v2:IntKind.wrap .i64 (16-((s.size % 16:Nat):Int))=((16-s.size % 16:Nat):Int):=by rw [IntKind.wrap_i64]; omega
 have v3:Int.tmod ((16-s.size % 16:Nat):Int) 16=(((16-s.size % 16) % 16:Nat):Int):=by rw [Int.tmod_eq_emod_of_nonneg (by omega)]; omega
 refine ⟨(by omega),?_⟩
 simp only [v1]
 refine M.vin ?_
 simp only [v2]
 refine M.vin ?_
 refine ⟨(by omega),?_⟩
 simp only [v3]
 refine M.vin ?_
 refine Rep0_spec (by omega) (by omega) fun h1 k_=>?_
 have w:=w.keeps k_
 clear k_
 refine ⟨(by simp [v1,v2,v3,Int.toNat_natCast,zerosT_size]; omega),?_⟩
 simp only [Int.toNat_natCast]
 exact k _ w.keep
theorem len_w (s:ByteArray) (hs:s.size≤65536):IntKind.wrap .u32 (IntKind.wrap .u64 (s.size:Int))=ui (BitVec.ofNat 32 s.size)∧IntKind.wrap .u32 (shr .u64 (IntKind.wrap .u64 (s.size:Int)) 32)=ui (BitVec.ofNat 32 (s.size / 4294967296)):=by
 have e:IntKind.wrap .u64 (s.size:Int)=q64 s.size:=by rw [IntKind.wrap_u64,q64]; omega
 rw [e,wrap32_q,shr32_q,wrap32_q,Nat.mod_eq_of_lt (show s.size<18446744073709551616 by omega)]
 exact ⟨rfl,rfl⟩
theorem lengths_spec {a:Option Addr} {c:Nat} {Q:ByteArray→H→Prop} (f:Ro eS h a 2 [wi,se]) (hw:wi.size≤65536) (hs:se.size≤65536) (k:∀ h',Keep h h'→Q (lenA wi se) h'):aead_lengths a 2 c h Q:=by
 unfold aead_lengths aead_lengths.g
 obtain ⟨a1,a2⟩:=len_w wi hw
 obtain ⟨b1,b2⟩:=len_w se hs
 have g0:sa [wi,se] (Int.toNat 0)=wi:=rfl
 have g1:sa [wi,se] (Int.toNat 1)=se:=rfl
 have w:=(Wd.start h).nilsl 178 1
 refine M.jn (M.times 3 ?_)
 refine M.iter_s ?_
 simp only []
 refine cdt (by omega) ?_
 refine Ro.ldS f (by omega) (by omega) ?_
 simp only [g0]
 refine M.vin ?_
 simp only [a1]
 refine M.vin ?_
 refine ⟨(by omega),?_⟩
 refine M.vin ?_
 simp only [a2]
 refine M.vin ?_
 refine Wd.push w 0 rfl rfl rfl (by simp [isPlainCell]) (by omega) (by omega) fun a8 c9 h6 w=>?_
 refine M.vis (1) (by decide) ?_
 refine M.iter_s ?_
 simp only []
 refine cdt (by omega) ?_
 refine Ro.ldS (f.keep w.keep) (by omega) (by omega) ?_
 simp only [g1]
 refine M.vin ?_
 simp only [b1]
 refine M.vin ?_
 refine ⟨(by omega),?_⟩
 refine M.vin ?_
 simp only [b2]
 refine M.vin ?_
 refine Wd.push w 0 rfl rfl rfl (by simp [isPlainCell]) (by omega) (by omega) fun a15 c16 h13 w=>?_
 refine M.vis (2) (by decide) ?_
 refine M.iter_s ?_
 simp only []
 refine cdf (by omega) ?_
 have w:Wd h _ [.sl 178 1 _ 4 _ (uvs [BitVec.ofNat 32 wi.size,BitVec.ofNat 32 (wi.size / 4294967296),BitVec.ofNat 32 se.size,BitVec.ofNat 32 (se.size / 4294967296)])]:=w
 refine FromLittle_spec (words_of w 0 rfl (by simp)) fun h2 k2=>?_
 exact k _ (w.keep.trans k2)
theorem tag_spec {Q:ByteArray→H→Prop} (hk:key.size=32) (hn:nonce.size=12) (hw:wi.size≤16384) (hs:se.size≤16384) (k:∀ h',Keep h h'→Q (tagA key nonce wi se) h'):aead_tag key nonce wi se h Q:=by
 unfold aead_tag aead_tag.g
 have e0:(0:Int)=ui 0:=rfl
 have p1:=padA_size wi
 have p2:=padA_size se
 have hbs:((blockT key nonce 0).extract (Int.toNat 0) (Int.toNat 32)).size=32:=by rw [ByteArray.size_extract,blockT_size]; rfl
 have hb0:=blockT_size key nonce 0
 have et:tagA key nonce wi se=tagT ((blockT key nonce 0).extract (Int.toNat 0) (Int.toNat 32)) (padA wi++padA se++lenA wi se):=by simp only [tagA,Int.reduceToNat]
 have e00:ui 0=0:=rfl
 generalize hB:blockT key nonce 0=B at *
 refine Block_spec (c:=0) hk hn fun h1 k1=>?_
 rw [hB]
 have w:=(Wd.start h).keeps k1
 refine M.join_of (fun d h'=>d=tagA key nonce wi se∧Keep h h') (fun J hJ=>?_) (by rintro _ h2 ⟨rfl,k2⟩; exact k _ k2)
 have lsp:∀ {h2:H} {b:Nat} {f:Nat × Nat} {Q:ByteArray→H→Prop},h2 b=some (.cells #[.string wi,.string se] 9 f)→(∀ h',Keep h2 h'→Q (lenA wi se) h')→aead_lengths (some ⟨b,0,none⟩) 2 2 h2 Q:=fun hb q=>lengths_spec (Ro.of_blk hb rfl rfl) (by omega) (by omega) q
 refine ⟨(by omega),(by omega),(by omega),?_⟩
 simp only []
 refine ⟨?_,?_⟩
 refine pad_spec (by omega) fun h2 k_=>?_
 have w:=w.keeps k_
 clear k_
 refine ⟨?_,?_⟩
 refine pad_spec (by omega) fun h3 k_=>?_
 have w:=w.keeps k_
 clear k_
 refine ⟨(by simp; omega),?_⟩
 refine M.new_w w fun b5 h4 w=>?_
 refine lsp (w.blk 0 rfl) fun h6 k_=>?_
 have w:=w.keeps k_
 clear k_
 refine ⟨(by simp [p1,p2,lenA_size]; omega),?_⟩
 simp only []
 refine polySum_spec (by assumption) (by simp [p1,p2,lenA_size]; omega) fun h8 k_=>?_
 have w:=w.keeps k_
 clear k_
 rotate_left
 refine M.new_w w fun b10 h9 w=>?_
 refine pad_spec (by omega) fun h11 k_=>?_
 have w:=w.keeps k_
 clear k_
 refine ⟨(by simp; omega),?_⟩
 simp only []
 refine lsp (w.blk 0 rfl) fun h13 k_=>?_
 have w:=w.keeps k_
 clear k_
 refine ⟨(by simp [p1,p2,lenA_size]; omega),?_⟩
 simp only []
 refine polySum_spec (by assumption) (by simp [p1,p2,lenA_size]; omega) fun h15 k_=>?_
 have w:=w.keeps k_
 clear k_
 rotate_left
 refine M.new_w w fun b17 h16 w=>?_
 refine pad_spec (by omega) fun h18 k_=>?_
 have w:=w.keeps k_
 clear k_
 refine pad_spec (by omega) fun h19 k_=>?_
 have w:=w.keeps k_
 clear k_
 refine ⟨(by simp; omega),?_⟩
 simp only []
 refine lsp (w.blk 0 rfl) fun h21 k_=>?_
 have w:=w.keeps k_
 clear k_
 refine ⟨(by simp [p1,p2,lenA_size]; omega),?_⟩
 simp only []
 refine polySum_spec (by assumption) (by simp [p1,p2,lenA_size]; omega) fun h23 k_=>?_
 have w:=w.keeps k_
 clear k_
 rotate_left
 all_goals exact hJ _ _ ⟨et.symm,w.keep⟩
theorem aShape_spec {Q:Bool→H→Prop} (hk:key.size=32) (hn:nonce.size=12) (k:Q true h):aead_shape key nonce h Q:=by
 unfold aead_shape
 refine M.jn ?_
 refine ct (by rw [hk]; rfl) ?_
 rw [hn]
 exact k
theorem Seal_spec {Q:ByteArray→Int→H→Prop} (hk:key.size=32) (hn:nonce.size=12) (hw:wi.size≤16384) (hp:pl.size≤16384) (k:∀ h',Keep h h'→Q (sealA key nonce wi pl) 0 h'):aead_Seal key nonce wi pl h Q:=by
 unfold aead_Seal aead_Seal.g
 have w:=Wd.start h
 have e1:(1:Int)=ui 1:=rfl
 have p1:=cryptT_size key nonce 1 pl
 have p2:=tagA_size key nonce wi (cryptT key nonce 1 pl)
 refine aShape_spec (by assumption) (by assumption) ?_
 refine cf (rfl) ?_
 refine M.jn (cdf (by omega) (cdf (by omega) ?_))
 refine Crypt_spec (c:=1) hk hn (by omega) fun h2 k2=>?_
 have w:=w.keeps k2
 refine tag_spec (by assumption) (by assumption) (by assumption) (by omega) fun h1 k_=>?_
 have w:=w.keeps k_
 clear k_
 refine ⟨(by simp only [szs,p1,p2]; omega),?_⟩
 simp only []
 exact k _ w.keep
def openA (key nonce wi c:ByteArray):ByteArray × Int:=
 if c.size<16 then (ByteArray.empty,3)
 else if tagA key nonce wi (c.extract 0 (c.size-16))=c.extract (c.size-16) c.size then (cryptT key nonce 1 (c.extract 0 (c.size-16)),0) else (ByteArray.empty,23)
theorem openA_short {key nonce wi c:ByteArray} (h:c.size<16):openA key nonce wi c=(ByteArray.empty,3):=by unfold openA; exact if_pos h
theorem openA_ok {key nonce wi c:ByteArray} (h:¬ c.size<16) (e:tagA key nonce wi (c.extract 0 (c.size-16))=c.extract (c.size-16) c.size):openA key nonce wi c=(cryptT key nonce 1 (c.extract 0 (c.size-16)),0):=by unfold openA; exact (if_neg h).trans (if_pos e)
theorem openA_bad {key nonce wi c:ByteArray} (h:¬ c.size<16) (e:¬ tagA key nonce wi (c.extract 0 (c.size-16))=c.extract (c.size-16) c.size):openA key nonce wi c=(ByteArray.empty,23):=by unfold openA; exact (if_neg h).trans (if_neg e)
theorem Open_spec {Q:ByteArray→Int→H→Prop} (hk:key.size=32) (hn:nonce.size=12) (hw:wi.size≤16384) (hs:s.size≤16384) (k:∀ h',Keep h h'→Q (openA key nonce wi s).1 (openA key nonce wi s).2 h'):aead_Open key nonce wi s h Q:=by
 unfold aead_Open aead_Open.g
 have w:=Wd.start h
 have v1:IntKind.wrap .i64 ((s.size:Int)-16)=(s.size:Int)-16:=by rw [IntKind.wrap_i64]; omega
 refine M.vis _ v1 ?_
 refine aShape_spec hk hn ?_
 refine cf rfl ?_
 by_cases h16:s.size<16
 ·rw [openA_short h16] at k
  refine cdt (by omega) ?_
  exact k _ w.keep
 have en:(s.size:Int)-16=((s.size-16:Nat):Int):=by omega
 rw [en]
 refine cdf (by omega) ?_
 refine M.jn ?_
 refine cdf (by omega) ?_
 refine cf (decide_eq_false (by omega)) ?_
 have p1:(s.extract (Int.toNat 0) (s.size-16)).size=s.size-16:=by rw [ByteArray.size_extract]; show min (s.size-16) s.size-0=_; omega
 have p2:(s.extract (s.size-16) s.size).size=16:=by rw [ByteArray.size_extract]; omega
 have o1:=@openA_ok key nonce wi s h16
 have o2:=@openA_bad key nonce wi s h16
 have e0:s.extract 0 (s.size-16)=s.extract (Int.toNat 0) (s.size-16):=by simp only [Int.reduceToNat]
 rw [e0] at o1 o2
 generalize hA:openA key nonce wi s=A at *
 generalize htg:s.extract (s.size-16) s.size=tg at *
 refine ⟨(by omega),(by omega),(by omega),?_⟩
 simp only [Int.toNat_natCast,htg]
 refine ⟨(by omega),(by omega),(by omega),?_⟩
 simp only [Int.toNat_natCast]
 refine tag_spec (by omega) (by omega) (by assumption) (by omega) fun h2 k_=>?_
 have w:=w.keeps k_
 clear k_
 refine Equal_spec (by omega) ?_
 try rw [htg]
 generalize hT:tagA key nonce wi (s.extract (Int.toNat 0) (s.size-16))=T at *
 by_cases e:T=tg
 ·rw [o1 e] at k
  refine cf (by rw [e]; simp) ?_
  refine ⟨by omega,by omega,by omega,?_⟩
  rw [Int.toNat_natCast]
  refine Crypt_spec (c:=1) hk hn (by omega) fun h2 k2=>?_
  exact k _ (w.keep.trans k2)
 ·rw [o2 e] at k
  refine ct (by simp; exact fun x=>e x.symm) ?_
  exact k _ w.keep
theorem openA_seal (key nonce wi pl:ByteArray):openA key nonce wi (sealA key nonce wi pl)=(pl,0):=by
 have hs:=sealA_size key nonce wi pl
 have hc:=cryptT_size key nonce 1 pl
 have e1:(sealA key nonce wi pl).extract 0 ((sealA key nonce wi pl).size-16)=cryptT key nonce 1 pl:=by
  rw [hs,sealA,ByteArray.extract_append_eq_left (by omega)]
 have e2:(sealA key nonce wi pl).extract ((sealA key nonce wi pl).size-16) (sealA key nonce wi pl).size=tagA key nonce wi (cryptT key nonce 1 pl):=by
  rw [hs,sealA,ByteArray.extract_append_eq_right (by omega) (by rw [tagA_size]; omega)]
 rw [openA_ok (by omega) (by rw [e1,e2]),e1,cryptT_twice]
end
end Go.Proofs.YthegnmanjdlmjaaGreatDoor
namespace Go.Proofs.YthegnmanjdlmjaaGreatDoor
open Go.Sh Go.RowKit
structure DiskM where
 L:List ByteArray
 N:List ByteArray
 W:List (Int × ByteArray)
 dead:Bool
structure DiskM.Ok (M:DiskM):Prop where
 len:M.L.length=M.N.length
 pos:0<M.N.length
 small:M.N.length≤512
 at_:∀ w ∈ M.W,0≤w.1∧w.1<M.N.length
namespace DiskM
def usable (M:DiskM) (at_:Int):Int:=if M.dead=true then 20 else if at_ < 0∨at_ ≥ M.N.length then 2 else 0
def write (M:DiskM) (at_:Int) (s:ByteArray):Int × DiskM:=
 if M.usable at_ ≠ 0 then (M.usable at_,M) else if (s.size:Int) > 2048 then (5,M) else (0,{ M with N:=M.N.set at_.toNat s,W:=M.W++[(at_,s)] })
def read (M:DiskM) (at_:Int):ByteArray × Int:=if M.usable at_ ≠ 0 then (ByteArray.empty,M.usable at_) else (M.N.getD at_.toNat ByteArray.empty,0)
def flush (M:DiskM):Int × DiskM:=if M.dead=true then (20,M) else (0,{ M with L:=M.N,W:=[] })
def fail (M:DiskM):DiskM:={ M with dead:=true,W:=[] }
def tamper (M:DiskM) (at_:Int) (s:ByteArray):Bool × DiskM:=
 if M.usable at_ ≠ 0∨(s.size:Int) > 2048 then (false,M) else (true,{ M with L:=M.L.set at_.toNat s,N:=M.N.set at_.toNat s,W:=M.W.filter fun w=>w.1≠at_ })
def image (M:DiskM):List ByteArray:=if M.dead=true then [] else M.N
def ofImage (n:Nat) (img:List ByteArray):List ByteArray:=(List.range n).map fun i=>if i<img.length∧((img.getD i ByteArray.empty).size:Int)≤2048 then img.getD i ByteArray.empty else ByteArray.empty
def restore (M:DiskM) (img:List ByteArray):DiskM:=if M.dead=true then M else { M with L:=ofImage M.N.length img,N:=ofImage M.N.length img,W:=[] }
def new (n:Int):DiskM:=⟨List.replicate (mx 1 (mn n 512)).toNat ByteArray.empty,List.replicate (mx 1 (mn n 512)).toNat ByteArray.empty,[],false⟩
theorem ofImage_length (n:Nat) (img:List ByteArray):(ofImage n img).length=n:=by simp [ofImage]
theorem new_len (n:Int):0<(mx 1 (mn n 512)).toNat∧(mx 1 (mn n 512)).toNat≤512:=by
 unfold mx mn
 split <;> split <;> omega
theorem new_ok (n:Int):(new n).Ok:=⟨rfl,by simpa [new] using (new_len n).1,by simpa [new] using (new_len n).2,by simp [new]⟩
theorem usable_zero {M:DiskM} {a:Int}:M.usable a=0↔M.dead=false∧0≤a∧a<M.N.length:=by
 unfold usable
 cases M.dead <;> simp
theorem write_ok {M:DiskM} (o:M.Ok) (a:Int) (s:ByteArray):(M.write a s).2.Ok:=by
 unfold write
 split
 ·exact o
 ·rename_i h
  have h':=usable_zero.1 (Decidable.not_not.1 h)
  split
  ·exact o
  ·refine ⟨by simpa using o.len,by simpa using o.pos,by simpa using o.small,fun w hw=>?_⟩
   simp only [List.mem_append,List.mem_singleton] at hw
   simp only [List.length_set]
   rcases hw with hw | rfl
   ·exact o.at_ w hw
   ·exact ⟨h'.2.1,h'.2.2⟩
theorem flush_ok {M:DiskM} (o:M.Ok):M.flush.2.Ok:=by
 unfold flush
 split
 ·exact o
 ·exact ⟨rfl,o.pos,o.small,by simp⟩
theorem fail_ok {M:DiskM} (o:M.Ok):M.fail.Ok:=⟨o.len,o.pos,o.small,by simp [fail]⟩
theorem tamper_ok {M:DiskM} (o:M.Ok) (a:Int) (s:ByteArray):(M.tamper a s).2.Ok:=by
 unfold tamper
 split
 ·exact o
 ·refine ⟨by simpa using o.len,by simpa using o.pos,by simpa using o.small,fun w hw=>?_⟩
  simp only [List.mem_filter] at hw
  simpa using o.at_ w hw.1
theorem restore_ok {M:DiskM} (o:M.Ok) (img:List ByteArray):(M.restore img).Ok:=by
 unfold restore
 split
 ·exact o
 ·exact ⟨rfl,by simp only [ofImage_length]; exact o.pos,by simp only [ofImage_length]; exact o.small,by simp⟩
end DiskM
def wr (W:List (Int × ByteArray)):List Value:=W.flatMap fun w=>[.int .i64 w.1,.string w.2]
theorem wr_length (W:List (Int × ByteArray)):(wr W).length=W.length*2:=by
 unfold wr
 induction W with
 | nil=>rfl
 | cons w W ih=>rw [List.flatMap_cons,List.length_append,ih]; simp; omega
theorem wr_append (W V:List (Int × ByteArray)):wr (W++V)=wr W++wr V:=by simp [wr]
theorem wr_cons (w:Int × ByteArray) (W:List (Int × ByteArray)):wr (w::W) = .int .i64 w.1 :: .string w.2::wr W:=rfl
theorem wr_get:∀ (W:List (Int × ByteArray)) (i:Nat) (w:Int × ByteArray),W[i]? = some w→(wr W)[i*2]? = some (.int .i64 w.1)∧(wr W)[i*2+1]? = some (.string w.2)
 | [],i,w,h=>by simp at h
 | v::W,0,w,h=>by
  simp only [List.getElem?_cons_zero,Option.some.injEq] at h
  subst h; exact ⟨rfl,rfl⟩
 | v::W,i+1,w,h=>by
  have:=wr_get W i w (by simpa using h)
  rw [wr_cons,show (i+1)*2=i*2+1+1 by omega]
  exact this
theorem wr_set:∀ (W:List (Int × ByteArray)) (i:Nat) (w:Int × ByteArray),i<W.length→(wr W).take (i*2)++[.int .i64 w.1,.string w.2]++(wr W).drop (i*2+2)=wr (W.set i w)
 | [],i,w,h=>by simp at h
 | v::W,0,w,h=>by simp [wr_cons]
 | v::W,i+1,w,h=>by
  have:=wr_set W i w (by simpa using h)
  rw [wr_cons,show (i+1)*2=i*2+1+1 by omega,show i*2+1+1+2=(i*2+2)+1+1 by omega]
  simp only [List.take_succ_cons,List.drop_succ_cons,List.cons_append,List.set_cons_succ,wr_cons,this]
theorem wr_take:∀ (W:List (Int × ByteArray)) (i:Nat),(wr W).take (i*2)=wr (W.take i)
 | [],i=>by simp [wr]
 | v::W,0=>by simp [wr]
 | v::W,i+1=>by
  rw [wr_cons,show (i+1)*2=i*2+1+1 by omega]
  simp only [List.take_succ_cons,wr_cons,wr_take W i]
def strs (l:List ByteArray):Array Value:=(l.map Value.string).toArray
end Go.Proofs.YthegnmanjdlmjaaGreatDoor
namespace Go.Proofs.YthegnmanjdlmjaaGreatDoor
open Go.Sh Go.RowKit
def diskC (d:Nat) (M:DiskM):Chunk:=Wd.obj (α:=Nat × Nat × Option Addr × Nat × Nat) (fun v=>M.Ok∧v.2.2.2.1=M.W.length)
 fun v=>[.blk d (.cells #[.slice (some ⟨v.1,0,none⟩) M.N.length M.N.length,.slice (some ⟨v.2.1,0,none⟩) M.N.length M.N.length,.slice v.2.2.1 v.2.2.2.1 v.2.2.2.2,.bool M.dead] 127 (0,0)),
  .blk v.1 (.cells (strs M.L) 9 (0,0)),.blk v.2.1 (.cells (strs M.N) 9 (0,0)),.sl 131 2 v.2.2.1 v.2.2.2.1 v.2.2.2.2 (wr M.W)]
section
variable {h0 h:H} {d:Nat} {D:DiskM} {at_:Int} {s:ByteArray}
theorem usable_spec {Q:Int→H→Prop} (w:Wd h0 h [diskC d D]) (k:Q (D.usable at_) h):disk_Disk_usable (some ⟨d,0,none⟩) at_ h Q:=by
 obtain ⟨v,⟨ok,hl⟩,w⟩:=w.opn 0 rfl
 have hd:=w.blk 0 rfl
 unfold disk_Disk_usable
 unfold DiskM.usable at k
 simp only [addr_add,load_eq,Nat.zero_add,Nat.add_zero,Nat.mul_one,Nat.one_mul,Nat.zero_mul,Nat.reduceAdd,List.setIfInBounds_toArray,List.set_cons_zero,List.set_cons_succ,List.getElem?_toArray,List.getElem?_cons_zero,List.getElem?_cons_succ,some_and,int_eq,bool_eq,str_eq,slc_eq,ptr_eq,nn_eq,M.val,cond_true,cond_false,Bool.not_true,Bool.not_false,M.join,Option.isNone_some,cell_in hd]
 cases hdead:D.dead
 ·simp only [hdead,Bool.false_eq_true,if_false] at k
  simp only [cond_false]
  by_cases h1:at_ < 0
  ·simpa [h1] using k
  ·by_cases h2:at_ ≥ D.N.length
   ·simpa [h1,h2] using k
   ·simpa [h1,h2] using k
 ·simpa [hdead] using k
theorem strs_size (l:List ByteArray):(strs l).size=l.length:=by simp [strs]
theorem strs_get (l:List ByteArray) (i:Nat):(strs l)[i]? = (l[i]?).map Value.string:=by simp [strs]
theorem strs_set (l:List ByteArray) (i:Nat) (s:ByteArray):(strs l).setIfInBounds i (.string s)=strs (l.set i s):=by simp [strs]
theorem Write_spec {Q:Int→H→Prop} (w:Wd h0 h [diskC d D]) (hW:D.W.length<1000000000) (k:∀ h',Wd h0 h' [diskC d (D.write at_ s).2]→Q (D.write at_ s).1 h'):disk_Disk_Write (some ⟨d,0,none⟩) at_ s h Q:=by
 unfold disk_Disk_Write disk_Disk_Write.g
 refine usable_spec w ?_
 unfold DiskM.write at k
 by_cases hu:D.usable at_ = 0
 ·have hu':=DiskM.usable_zero.1 hu
  simp only [hu,ne_eq,not_true,if_false] at k
  simp only [hu,bne_self_eq_false,cond_false]
  by_cases hs:(s.size:Int) > 2048
  ·simp only [hs,if_true] at k
   simpa [hs] using k h w
  ·simp only [hs,if_false] at k
   simp only [hs,decide_false,cond_false]
   obtain ⟨⟨bl,bn,a,l,c⟩,⟨ok,hl⟩,w⟩:=w.opn 0 rfl
   simp only at hl
   subst hl
   have hd:=w.blk 0 rfl
   simp only [addr_add,load_eq,Nat.zero_add,Nat.add_zero,Nat.mul_one,Nat.one_mul,Nat.zero_mul,Nat.reduceAdd,List.setIfInBounds_toArray,List.set_cons_zero,List.set_cons_succ,List.getElem?_toArray,List.getElem?_cons_zero,List.getElem?_cons_succ,some_and,int_eq,bool_eq,str_eq,slc_eq,ptr_eq,nn_eq,M.val,cond_true,cond_false,Bool.not_true,Bool.not_false,cell_in hd]
   refine M.idx_of hu'.2.1 (by simpa using hu'.2.2) ?_
   simp only [addr_add,load_eq,Nat.zero_add,Nat.add_zero,Nat.mul_one,Nat.one_mul,Nat.zero_mul,Nat.reduceAdd,List.setIfInBounds_toArray,List.set_cons_zero,List.set_cons_succ,List.getElem?_toArray,List.getElem?_cons_zero,List.getElem?_cons_succ,some_and,int_eq,bool_eq,str_eq,slc_eq,ptr_eq,nn_eq,M.val,cond_true,cond_false,Bool.not_true,Bool.not_false,cell_in hd]
   refine M.put_w w 2 rfl rfl (by rw [strs_size]; omega) fun h1 w=>?_
   rw [strs_set] at w
   have hd:=w.blk 0 rfl
   simp only [addr_add,load_eq,Nat.zero_add,Nat.add_zero,Nat.mul_one,Nat.one_mul,Nat.zero_mul,Nat.reduceAdd,List.setIfInBounds_toArray,List.set_cons_zero,List.set_cons_succ,List.getElem?_toArray,List.getElem?_cons_zero,List.getElem?_cons_succ,some_and,int_eq,bool_eq,str_eq,slc_eq,ptr_eq,nn_eq,M.val,cond_true,cond_false,Bool.not_true,Bool.not_false,cell_in hd]
   refine M.new_t w fun b h2 hb w=>?_
   refine cellsOf_in hb rfl ?_
   refine M.app_w w 3 rfl rfl rfl (by simp [isPlainCell]) (by omega) (by omega) fun a' c' h3 w=>?_
   refine M.put_w w 0 rfl rfl (by simp) fun h4 w=>?_
   refine k h4 (w.close 0 (bl,bn,a',D.W.length+1,c') ?_ ⟨?_,by simp⟩)
   ·simp [wr_append,wr,strs]
   ·have:=DiskM.write_ok ok at_ s
    simpa only [DiskM.write,hu,ne_eq,not_true,if_false,hs] using this
 ·simp only [hu,ne_eq,not_false_iff,if_true] at k
  have:(D.usable at_ != 0)=true:=by simpa using hu
  simp only [this,cond_true]
  exact k h w
theorem Read_spec {Q:ByteArray→Int→H→Prop} (w:Wd h0 h [diskC d D]) (k:Q (D.read at_).1 (D.read at_).2 h):disk_Disk_Read (some ⟨d,0,none⟩) at_ h Q:=by
 unfold disk_Disk_Read disk_Disk_Read.g
 refine usable_spec w ?_
 unfold DiskM.read at k
 by_cases hu:D.usable at_ = 0
 ·have hu':=DiskM.usable_zero.1 hu
  simp only [hu,ne_eq,not_true,if_false] at k
  simp only [hu,bne_self_eq_false,cond_false]
  obtain ⟨⟨bl,bn,a,l,c⟩,⟨ok,hl⟩,w⟩:=w.opn 0 rfl
  have hd:=w.blk 0 rfl
  have hn:=w.blk 2 rfl
  simp only [addr_add,load_eq,Nat.zero_add,Nat.add_zero,Nat.mul_one,Nat.one_mul,Nat.zero_mul,Nat.reduceAdd,List.setIfInBounds_toArray,List.set_cons_zero,List.set_cons_succ,List.getElem?_toArray,List.getElem?_cons_zero,List.getElem?_cons_succ,some_and,int_eq,bool_eq,str_eq,slc_eq,ptr_eq,nn_eq,M.val,cond_true,cond_false,Bool.not_true,Bool.not_false,cell_in hd]
  refine M.idx_of hu'.2.1 (by simpa using hu'.2.2) ?_
  have:at_.toNat<D.N.length:=by omega
  simp only [addr_add,load_eq,Nat.zero_add,Nat.add_zero,Nat.mul_one,Nat.one_mul,Nat.zero_mul,Nat.reduceAdd,List.setIfInBounds_toArray,List.set_cons_zero,List.set_cons_succ,List.getElem?_toArray,List.getElem?_cons_zero,List.getElem?_cons_succ,some_and,int_eq,bool_eq,str_eq,slc_eq,ptr_eq,nn_eq,M.val,cond_true,cond_false,Bool.not_true,Bool.not_false,cell_in hn,strs_get,List.getElem?_eq_getElem this,Option.map_some]
  simpa [List.getD_eq_getElem?_getD,this] using k
 ·simp only [hu,ne_eq,not_false_iff,if_true] at k
  have:(D.usable at_ != 0)=true:=by simpa using hu
  simp only [this,cond_true]
  exact k
theorem strs_toList (l:List ByteArray):(strs l).toList=l.map Value.string:=by simp [strs]
theorem splice_strs {l l':List ByteArray} (e:l'.length=l.length):splice (strs l) 0 (l'.map Value.string)=strs l':=by
 rw [splice_all (by simp [strs_size,e])]; rfl
theorem Flush_spec {Q:Int→H→Prop} (w:Wd h0 h [diskC d D]) (k:∀ h',Wd h0 h' [diskC d D.flush.2]→Q D.flush.1 h'):disk_Disk_Flush (some ⟨d,0,none⟩) h Q:=by
 unfold disk_Disk_Flush disk_Disk_Flush.g
 refine usable_spec w ?_
 unfold DiskM.flush at k
 cases hdead:D.dead
 ·simp only [hdead,Bool.false_eq_true,if_false] at k
  obtain ⟨⟨bl,bn,a,l,c⟩,⟨ok,hl⟩,w⟩:=w.opn 0 rfl
  have hu:D.usable 0=0:=DiskM.usable_zero.2 ⟨hdead,by omega,by have:=ok.pos; omega⟩
  have hd:=w.blk 0 rfl
  have hn:=w.blk 2 rfl
  simp only [addr_add,load_eq,Nat.zero_add,Nat.add_zero,Nat.mul_one,Nat.one_mul,Nat.zero_mul,Nat.reduceAdd,List.setIfInBounds_toArray,List.set_cons_zero,List.set_cons_succ,List.getElem?_toArray,List.getElem?_cons_zero,List.getElem?_cons_succ,some_and,int_eq,bool_eq,str_eq,slc_eq,ptr_eq,nn_eq,M.val,cond_true,cond_false,Bool.not_true,Bool.not_false,hu,bne_self_eq_false,cell_in hd,Nat.min_self]
  refine cellsOf_in hn (strs_size _) ?_
  refine M.copy_w w 1 rfl (by simp [strs_toList,isPlainCell]) (by simp [strs_toList,strs_size,ok.len]) fun h1 w=>?_
  rw [strs_toList,splice_strs ok.len.symm] at w
  have hd:=w.blk 0 rfl
  refine M.put_w w 0 rfl rfl (by simp) fun h2 w=>?_
  have w:=(w.drop (i:=3) rfl).nilsl 131 2
  refine k h2 (w.close 0 (bl,bn,none,0,0) (by simp [hdead,wr]) ⟨?_,rfl⟩)
  have:=DiskM.flush_ok ok
  simpa only [DiskM.flush,hdead,Bool.false_eq_true,if_false] using this
 ·have hu:D.usable 0=20:=by simp [DiskM.usable,hdead]
  simp only [hdead,if_true] at k
  simp only [hu]
  exact k h w
theorem Clone_spec {Q:Option Addr→Nat→Nat→H→Prop} {b:Addr} {l c:Nat} {xs:List ByteArray} (hl:xs.length=l) (hr:Sh.rowAt h b (xs.map Value.string))
  (hmax:l≤1000000000) (k:∀ a' c' h',Wd h h' [.sl 9 1 a' l c' (xs.map Value.string)]→Q a' l c' h'):slices_Clonestring_string (some b) l c h Q:=by
 unfold slices_Clonestring_string
 simp only [addr_add,load_eq,Nat.zero_add,Nat.add_zero,Nat.mul_one,Nat.one_mul,Nat.zero_mul,Nat.reduceAdd,List.setIfInBounds_toArray,List.set_cons_zero,List.set_cons_succ,List.getElem?_toArray,List.getElem?_cons_zero,List.getElem?_cons_succ,some_and,int_eq,bool_eq,str_eq,slc_eq,ptr_eq,nn_eq,M.val,cond_true,cond_false,Bool.not_true,Bool.not_false,Option.isNone_some]
 refine M.new_w (Wd.start h) fun b1 h1 w=>?_
 have w:=w.blkSl (i:=0) (size:=1) rfl
 refine M.cellsOf_row (xs:=xs.map Value.string) (by simpa using hl) (fun e=>by simp at e) (fun b' e=>?_) ?_
 ·simp only [Option.some.injEq] at e
  subst e
  exact w.keep.row hr
 ·refine M.app_w w 0 rfl rfl (by simpa using hl) (by simp [isPlainCell]) (by omega) (by omega) fun a' c' h' w=>?_
  simpa using k a' c' h' (by simpa using w)
theorem Image_spec {Q:Option Addr→Nat→Nat→H→Prop} (w:Wd h0 h [diskC d D]) (k:∀ a' c' h',Wd h h' [.sl 9 1 a' D.image.length c' (D.image.map Value.string)]→Q a' D.image.length c' h'):disk_Disk_Image (some ⟨d,0,none⟩) h Q:=by
 unfold disk_Disk_Image disk_Disk_Image.g
 refine usable_spec w ?_
 unfold DiskM.image at k
 cases hdead:D.dead
 ·simp only [hdead,Bool.false_eq_true,if_false] at k
  obtain ⟨⟨bl,bn,a,l,c⟩,⟨ok,hl⟩,w⟩:=w.opn 0 rfl
  have hu:D.usable 0=0:=DiskM.usable_zero.2 ⟨hdead,by omega,by have:=ok.pos; omega⟩
  have hd:=w.blk 0 rfl
  have hn:=w.blk 2 rfl
  simp only [addr_add,load_eq,Nat.zero_add,Nat.add_zero,Nat.mul_one,Nat.one_mul,Nat.zero_mul,Nat.reduceAdd,List.setIfInBounds_toArray,List.set_cons_zero,List.set_cons_succ,List.getElem?_toArray,List.getElem?_cons_zero,List.getElem?_cons_succ,some_and,int_eq,bool_eq,str_eq,slc_eq,ptr_eq,nn_eq,M.val,cond_true,cond_false,Bool.not_true,Bool.not_false,hu,bne_self_eq_false,cell_in hd]
  refine Clone_spec (xs:=D.N) rfl (fun i hi=>?_) (by have:=ok.small; omega) k
  simp only [addr_add,load_eq,Nat.zero_add,Nat.add_zero,Nat.mul_one,Nat.one_mul,Nat.zero_mul,Nat.reduceAdd,List.setIfInBounds_toArray,List.set_cons_zero,List.set_cons_succ,List.getElem?_toArray,List.getElem?_cons_zero,List.getElem?_cons_succ,some_and,int_eq,bool_eq,str_eq,slc_eq,ptr_eq,nn_eq,M.val,cond_true,cond_false,Bool.not_true,Bool.not_false,cell_in hn,strs]
 ·have hu:D.usable 0=20:=by simp [DiskM.usable,hdead]
  simp only [hdead,if_true] at k
  simp only [hu]
  exact k none 0 h ((Wd.start h).nilsl _ _)
end
end Go.Proofs.YthegnmanjdlmjaaGreatDoor
namespace Go.Proofs.YthegnmanjdlmjaaGreatDoor
open Go.Sh Go.RowKit
section
variable {h0 h:H} {d:Nat} {D:DiskM} {at_:Int} {s:ByteArray}
theorem zeros_strs (n:Nat):(zerosOf [.string ByteArray.empty] n).toArray=strs (List.replicate n ByteArray.empty):=by
 unfold zerosOf strs
 rw [List.map_replicate]
 congr 1
 induction n with
 | zero=>rfl
 | succ n ih=>rw [List.replicate_succ,List.flatten_cons,ih]; rfl
theorem New_spec {n:Int} {Q:Option Addr→H→Prop} (k:∀ d h',Wd h h' [diskC d (DiskM.new n)]→Q (some ⟨d,0,none⟩) h'):disk_New n h Q:=by
 have hn:=DiskM.new_len n
 have fin:∀ b1 b2 b h',Wd h h' [.blk b1 (.cells (zerosOf [.string ByteArray.empty] (mx 1 (mn n 512)).toNat).toArray 9),.blk b2 (.cells (zerosOf [.string ByteArray.empty] (mx 1 (mn n 512)).toNat).toArray 9),
   .blk b (.cells #[.slice (some ⟨b1,0,none⟩) (mx 1 (mn n 512)).toNat (mx 1 (mn n 512)).toNat,.slice (some ⟨b2,0,none⟩) (mx 1 (mn n 512)).toNat (mx 1 (mn n 512)).toNat,.slice none 0 0,.bool false] 127)]→Q (some ⟨b,0,none⟩) h':=by
  intro b1 b2 b h' w
  have w:=((w.mv (i:=0) rfl).mv (i:=0) rfl).nilsl 131 2
  refine k b h' (w.close 0 (b1,b2,none,0,0) ?_ ⟨DiskM.new_ok n,rfl⟩)
  simp [DiskM.new,zeros_strs,wr]
 unfold disk_New
 refine M.jn ⟨?_,?_⟩
 ·refine M.mk_w (Wd.start h) (by omega) (by omega) (by omega) (by omega) fun b1 h1 w=>?_
  refine M.mk_w w (by omega) (by omega) (by omega) (by omega) fun b2 h2 w=>?_
  exact M.new_w w fun b h3 w=>fin b1 b2 b h3 w
 ·refine M.mk_w (Wd.start h) (by omega) (by omega) (by omega) (by omega) fun b1 h1 w=>?_
  refine M.mk_w w (by omega) (by omega) (by omega) (by omega) fun b2 h2 w=>?_
  exact M.new_w w fun b h3 w=>fin b2 b1 b h3 (by
   have:=w.mv (i:=0) rfl
   exact this.mv (i:=1) rfl)
theorem pred_spec {a:Addr} {n:Int} {Q:Bool→H→Prop} (hc:h.cell a=some (.int .i64 at_)) (k:∀ h',Keep h h'→Q (n == at_) h'):disk_Disk_Tamper_1 n s a h Q:=by
 unfold disk_Disk_Tamper_1
 refine M.new_of fun b h1 _ k1 hb=>?_
 simp only [addr_add,load_eq,Nat.zero_add,Nat.add_zero,Nat.mul_one,Nat.one_mul,Nat.zero_mul,Nat.reduceAdd,List.setIfInBounds_toArray,List.set_cons_zero,List.set_cons_succ,List.getElem?_toArray,List.getElem?_cons_zero,List.getElem?_cons_succ,some_and,int_eq,bool_eq,str_eq,slc_eq,ptr_eq,nn_eq,M.val,cond_true,cond_false,Bool.not_true,Bool.not_false,cell_in hb,k1.cell hc]
 exact k h1 k1
theorem Index_spec {a:Option Addr} {l c:Nat} {ca:Addr} {W:List (Int × ByteArray)} {Q:Int→H→Prop} (hc:h.cell ca=some (.int .i64 at_)) (hl:W.length=l) (hmax:l<1000000000) (h0a:a=none→l=0) (hr:∀ b,a=some b→Sh.rowAt h b (wr W))
  (k:∀ h',Keep h h'→Q (match W.findIdx? (fun w=>w.1 == at_) with | some i=>(i:Int) | none=>-1) h'):slices_IndexFuncdisk_write_disk_write_disk_Disk_Tamper_1 a l c ca h Q:=by
 unfold slices_IndexFuncdisk_write_disk_write_disk_Disk_Tamper_1 slices_IndexFuncdisk_write_disk_write_disk_Disk_Tamper_1.g
 refine M.loop_of (I:=fun (i:Int) h'=>0≤i∧i≤l∧Keep h h'∧∀ j,j<i.toNat→∀ w,W[j]? = some w→(w.1 == at_)=false) (μ:=fun i=>(l-i).toNat) ⟨by omega,by omega,Keep.refl h,fun j hj=>by simp at hj⟩ ?_
 intro i h1 J ⟨hi0,hi1,hk,hno⟩ hJ
 by_cases hlt:i<l
 ·have hlt':i.toNat<W.length:=by omega
  simp only [hlt,decide_true,cond_true]
  cases a with
  | none=>have:=h0a rfl; omega
  | some ab=>
   have hrow:=hk.row (hr ab rfl)
   have hg:=wr_get W i.toNat W[i.toNat] (List.getElem?_eq_getElem hlt')
   have hlen:=wr_length W
   have c0:h1.cell (ab.add (i.toNat * 2))=some (.int .i64 W[i.toNat].1):=by rw [hrow _ (by omega)]; exact hg.1
   have c1:h1.cell (ab.add (i.toNat * 2+1))=some (.string W[i.toNat].2):=by rw [hrow _ (by omega)]; exact hg.2
   have hw1:IntKind.wrap .i64 (i+1)=i+1:=by rw [IntKind.wrap_i64]; omega
   refine M.idx_of hi0 hlt ?_
   simp only [addr_add,load_eq,Nat.zero_add,Nat.add_zero,Nat.mul_one,Nat.one_mul,Nat.zero_mul,Nat.reduceAdd,List.setIfInBounds_toArray,List.set_cons_zero,List.set_cons_succ,List.getElem?_toArray,List.getElem?_cons_zero,List.getElem?_cons_succ,some_and,int_eq,bool_eq,str_eq,slc_eq,ptr_eq,nn_eq,M.val,cond_true,cond_false,Bool.not_true,Bool.not_false,add2,c0,c1]
   refine pred_spec (hk.cell hc) fun h2 k2=>?_
   by_cases he:(W[i.toNat].1 == at_)=true
   ·rw [he]
    have:W.findIdx? (fun w=>w.1 == at_)=some i.toNat:=by
     rw [List.findIdx?_eq_some_iff_getElem]
     exact ⟨hlt',he,fun j hj=>by simpa using hno j hj W[j] (List.getElem?_eq_getElem (by omega))⟩
    rw [this] at k
    have:=k h2 (hk.trans k2)
    have e:((i.toNat:Nat):Int)=i:=by omega
    simp only [e,cond_true] at this ⊢
    exact this
   ·rw [Bool.not_eq_true] at he
    rw [he]
    simp only [cond_false,hw1]
    refine hJ _ _ ⟨by omega,by omega,hk.trans k2,fun j hj w hw=>?_⟩ (by omega)
    by_cases hji:j=i.toNat
    ·subst hji
     rw [List.getElem?_eq_getElem hlt'] at hw
     simp only [Option.some.injEq] at hw
     rw [←hw]; exact he
    ·exact hno j (by omega) w hw
 ·simp only [hlt,decide_false,cond_false]
  have:W.findIdx? (fun w=>w.1 == at_)=none:=by
   rw [List.findIdx?_eq_none_iff]
   intro w hw
   obtain ⟨j,hj,rfl⟩:=List.getElem_of_mem hw
   exact hno j (by omega) _ (List.getElem?_eq_getElem hj)
  rw [this] at k
  exact k h1 hk
theorem Delete_spec {a:Option Addr} {l c cb:Nat} {W:List (Int × ByteArray)} {Q:Option Addr→Nat→Nat→H→Prop} (w:Wd h0 h [.blk cb (.cells #[.int .i64 at_] 3),.sl 131 2 a l c (wr W)]) (hl:W.length=l) (hmax:l<1000000000)
  (k:∀ l' h',l'=(W.filter fun w=>w.1≠at_).length→Wd h0 h' [.blk cb (.cells #[.int .i64 at_] 3),.sl 131 2 a l' c (wr (W.filter fun w=>w.1≠at_))]→Q a l' c h'):slices_DeleteFuncdisk_write_disk_write_disk_Disk_Tamper_1 a l c ⟨cb,0,none⟩ h Q:=by
 unfold slices_DeleteFuncdisk_write_disk_write_disk_Disk_Tamper_1 slices_DeleteFuncdisk_write_disk_write_disk_Disk_Tamper_1.g
 have hcb:=w.blk 0 rfl
 obtain ⟨hsl,hlc,hsn,hsr⟩:=w.slrow 1 rfl
 refine Index_spec (W:=W) (at_:=at_) (by rw [cell_in hcb]; rfl) hl hmax (fun e=>(hsn e).2) hsr fun h1 k1=>?_
 have w:=w.keeps k1
 cases hf:W.findIdx? (fun w=>w.1 == at_) with
 | none=>
  rw [List.findIdx?_eq_none_iff] at hf
  have hfl:(W.filter fun w=>w.1≠at_)=W:=List.filter_eq_self.2 fun w hw=>by simpa using hf w hw
  rw [hfl] at k
  simpa using k l h1 hl.symm w
 | some i0=>
  rw [List.findIdx?_eq_some_iff_getElem] at hf
  obtain ⟨hi0,hp0,hno⟩:=hf
  have hne:(((i0:Nat):Int) == -1)=false:=by simp
  have hw1:IntKind.wrap .i64 ((i0:Int)+1)=(i0:Int)+1:=by rw [IntKind.wrap_i64]; omega
  simp only [hne,cond_false]
  refine M.jn ?_
  simp only [addr_add,load_eq,Nat.zero_add,Nat.add_zero,Nat.mul_one,Nat.one_mul,Nat.zero_mul,Nat.reduceAdd,List.setIfInBounds_toArray,List.set_cons_zero,List.set_cons_succ,List.getElem?_toArray,List.getElem?_cons_zero,List.getElem?_cons_succ,some_and,int_eq,bool_eq,str_eq,slc_eq,ptr_eq,nn_eq,M.val,cond_true,cond_false,Bool.not_true,Bool.not_false,hw1]
  cases a with
  | none=>have:=(hsn rfl).2; omega
  | some ab=>
  have e0:(W.take (i0+1)).filter (fun w=>w.1≠at_)=W.take i0:=by
   rw [List.take_succ_eq_append_getElem hi0,List.filter_append]
   have:(W.take i0).filter (fun w=>w.1≠at_)=W.take i0:=List.filter_eq_self.2 fun w hw=>by
    obtain ⟨j,hj,rfl⟩:=List.getElem_of_mem hw
    simp at hj
    have:=hno j (by omega)
    simpa using this
   rw [this]
   simp only [beq_iff_eq] at hp0
   simp [hp0]
  refine M.loop_of (I:=fun (p:Int × Int) h'=>0≤p.1∧p.1<p.2∧p.2≤l∧∃ V:List (Int × ByteArray),V.length=l∧V.take p.1.toNat=(W.take p.2.toNat).filter (fun w=>w.1≠at_)∧V.drop p.2.toNat=W.drop p.2.toNat ∧
    Wd h0 h' [.blk cb (.cells #[.int .i64 at_] 3),.sl 131 2 (some ab) l c (wr V)]) (μ:=fun p=>(l-p.2).toNat)
   ⟨by simp,by simp only; omega,by simp only; omega,W,hl,?_,rfl,w⟩ ?_
  ·rw [show ((i0:Int)+1).toNat=i0+1 by omega,e0]; simp
  rintro ⟨i,j⟩ h2 J ⟨hi,hij,hj,V,hV,hVi,hVj,w⟩ hJ
  simp only at hi hij hj hVi hVj ⊢
  obtain ⟨_,_,_,hsr2⟩:=w.slrow 1 rfl
  have hlenV:=wr_length V
  by_cases hlt:j<l
  ·have hlt':j.toNat<V.length:=by omega
   have hltW:j.toNat<W.length:=by omega
   have hVW:V[j.toNat]=W[j.toNat]:=by
    have h1:=congrArg (fun z=>z[0]?) hVj
    simp only [List.getElem?_drop,Nat.add_zero,List.getElem?_eq_getElem hlt',List.getElem?_eq_getElem hltW,Option.some.injEq] at h1
    exact h1
   simp only [hlt,decide_true,cond_true]
   have hrow:=hsr2 ab rfl
   have hg:=wr_get V j.toNat V[j.toNat] (List.getElem?_eq_getElem hlt')
   have c0:h2.cell (ab.add (j.toNat * 2))=some (.int .i64 V[j.toNat].1):=by rw [hrow _ (by omega)]; exact hg.1
   have c1:h2.cell (ab.add (j.toNat * 2+1))=some (.string V[j.toNat].2):=by rw [hrow _ (by omega)]; exact hg.2
   have hw2:IntKind.wrap .i64 (j+1)=j+1:=by rw [IntKind.wrap_i64]; omega
   have hw3:IntKind.wrap .i64 (i+1)=i+1:=by rw [IntKind.wrap_i64]; omega
   have hnx:(j+1).toNat=j.toNat+1:=by omega
   refine M.jn ?_
   refine M.idx_of (by omega) hlt ?_
   simp only [addr_add,load_eq,Nat.zero_add,Nat.add_zero,Nat.mul_one,Nat.one_mul,Nat.zero_mul,Nat.reduceAdd,List.setIfInBounds_toArray,List.set_cons_zero,List.set_cons_succ,List.getElem?_toArray,List.getElem?_cons_zero,List.getElem?_cons_succ,some_and,int_eq,bool_eq,str_eq,slc_eq,ptr_eq,nn_eq,M.val,cond_true,cond_false,Bool.not_true,Bool.not_false,add2,c0,c1,hw2,hw3]
   refine M.new_w w fun b h3 w=>⟨rfl,?_⟩
   refine M.puts_w0 w 2 rfl (by simp [isPlainCell]) rfl fun h4 w=>?_
   have hb:=w.blk 2 rfl
   have hcb:=w.blk 0 rfl
   simp only [addr_add,load_eq,Nat.zero_add,Nat.add_zero,Nat.mul_one,Nat.one_mul,Nat.zero_mul,Nat.reduceAdd,List.setIfInBounds_toArray,List.set_cons_zero,List.set_cons_succ,List.getElem?_toArray,List.getElem?_cons_zero,List.getElem?_cons_succ,some_and,int_eq,bool_eq,str_eq,slc_eq,ptr_eq,nn_eq,M.val,cond_true,cond_false,Bool.not_true,Bool.not_false,cell_in hb]
   refine pred_spec (at_:=at_) (by rw [cell_in hcb]; rfl) fun h5 k5=>?_
   have w:=w.keeps k5
   have hb:=w.blk 2 rfl
   simp only [addr_add,load_eq,Nat.zero_add,Nat.add_zero,Nat.mul_one,Nat.one_mul,Nat.zero_mul,Nat.reduceAdd,List.setIfInBounds_toArray,List.set_cons_zero,List.set_cons_succ,List.getElem?_toArray,List.getElem?_cons_zero,List.getElem?_cons_succ,some_and,int_eq,bool_eq,str_eq,slc_eq,ptr_eq,nn_eq,M.val,cond_true,cond_false,Bool.not_true,Bool.not_false,cell_in hb]
   have htk:(W.take (j.toNat+1)).filter (fun w=>w.1≠at_)=(W.take j.toNat).filter (fun w=>w.1≠at_)++if V[j.toNat].1=at_ then [] else [V[j.toNat]]:=by
    rw [List.take_succ_eq_append_getElem hltW,List.filter_append,hVW]
    congr 1
    by_cases he:W[j.toNat].1=at_ <;> simp [he]
   by_cases he:V[j.toNat].1=at_
   ·have:(V[j.toNat].1 == at_)=true:=by simpa using he
    simp only [this,Bool.not_true,cond_false]
    refine hJ _ _ ⟨hi,by simp only; omega,by simp only; omega,V,hV,?_,?_,w.drop (i:=2) rfl⟩ (by simp only; omega)
    ·simp only [hnx,htk,he,if_true,List.append_nil]; exact hVi
    ·simp only [hnx]
     have:=congrArg (List.drop 1) hVj
     simpa [List.drop_drop] using this
   ·have:(V[j.toNat].1 == at_)=false:=by simpa using he
    simp only [this,Bool.not_false,cond_true]
    refine M.idx_of hi (by omega) ⟨rfl,?_⟩
    refine M.puts_sl w 1 rfl (by simp [isPlainCell]) (by simp; omega) fun h6 w=>?_
    have e2:List.take (i.toNat * 2) (wr V)++[Value.int .i64 V[j.toNat].1,Value.string V[j.toNat].2]++List.drop (i.toNat * 2+[Value.int IntKind.i64 V[j.toNat].1,Value.string V[j.toNat].2].length) (wr V)=wr (V.set i.toNat V[j.toNat]):=wr_set V i.toNat V[j.toNat] (by omega)
    rw [e2] at w
    have hni:(i+1).toNat=i.toNat+1:=by omega
    refine hJ _ _ ⟨by simp only; omega,by simp only; omega,by simp only; omega,V.set i.toNat V[j.toNat],by simpa using hV,?_,?_,w.drop (i:=2) rfl⟩ (by simp only; omega)
    ·simp only [hnx,hni,htk,he,if_false]
     rw [List.take_succ_eq_append_getElem (by simp; omega),List.take_set_of_le (Nat.le_refl _),hVi]
     simp
    ·simp only [hnx]
     rw [List.drop_set_of_lt (by omega)]
     have:=congrArg (List.drop 1) hVj
     simpa [List.drop_drop] using this
  ·simp only [hlt,decide_false,cond_false]
   have hjl:j.toNat=W.length:=by omega
   rw [hjl,List.take_length] at hVi
   have hil:i.toNat≤l:=by omega
   have hfl:(W.filter fun w=>w.1≠at_).length=i.toNat:=by rw [←hVi]; simp; omega
   refine ⟨hi,by omega,by omega,?_⟩
   have hlc2:l≤c:=by omega
   have hnc:¬ c=i.toNat:=by omega
   have es:sliceAddr (some ab) c i.toNat 2=some (ab.add (i.toNat * 2)):=by simp [sliceAddr,hnc]
   have hll:(((l:Nat):Int).toNat-i.toNat)=l-i.toNat:=by omega
   simp only [es,hll]
   refine ⟨fun e=>by simp at e,fun a' ea=>?_⟩
   simp only [Option.some.injEq] at ea
   subst ea
   refine M.puts_sl w 1 rfl (fun v hv=>?_) (by rw [zerosOf_length,hlenV]; simp; omega) fun h6 w=>?_
   ·unfold zerosOf at hv
    simp only [List.mem_flatten,List.mem_replicate] at hv
    obtain ⟨z,⟨_,rfl⟩,hz⟩:=hv
    simp at hz
    rcases hz with rfl | rfl <;> rfl
   ·have w:=w.shrink (i:=1) (l':=i.toNat) rfl hil
    have e3:(List.take (i.toNat * 2) (wr V)++zerosOf [Value.int .i64 0,Value.string ByteArray.empty] (l-i.toNat)++List.drop (i.toNat * 2+(zerosOf [Value.int .i64 0,Value.string ByteArray.empty] (l-i.toNat)).length) (wr V)).take (i.toNat * 2)=wr (W.filter fun w=>w.1≠at_):=by
     rw [List.append_assoc,List.take_append_of_le_length (by simp; omega),List.take_take,Nat.min_self,wr_take,hVi]
    rw [e3] at w
    refine M.sub0 hi (by omega) ?_
    exact k _ _ hfl.symm w
theorem Tamper_spec {Q:Bool→H→Prop} (w:Wd h0 h [diskC d D]) (hW:D.W.length<1000000000) (k:∀ h',Wd h0 h' [diskC d (D.tamper at_ s).2]→Q (D.tamper at_ s).1 h'):disk_Disk_Tamper (some ⟨d,0,none⟩) at_ s h Q:=by
 unfold disk_Disk_Tamper disk_Disk_Tamper.g
 refine M.new_w w fun cb h1 w=>?_
 refine M.jn ?_
 have hcb:=w.blk 1 rfl
 simp only [addr_add,load_eq,Nat.zero_add,Nat.add_zero,Nat.mul_one,Nat.one_mul,Nat.zero_mul,Nat.reduceAdd,List.setIfInBounds_toArray,List.set_cons_zero,List.set_cons_succ,List.getElem?_toArray,List.getElem?_cons_zero,List.getElem?_cons_succ,some_and,int_eq,bool_eq,str_eq,slc_eq,ptr_eq,nn_eq,M.val,cond_true,cond_false,Bool.not_true,Bool.not_false,cell_in hcb]
 have wd:=w
 obtain ⟨hx,_,kx,wx,_,_⟩:=w.on (i:=0) rfl
 refine usable_spec wx ?_
 unfold DiskM.tamper at k
 by_cases hu:D.usable at_ = 0
 ·have hu':=DiskM.usable_zero.1 hu
  by_cases hs:(s.size:Int) > 2048
  ·simp only [hu,hs,or_true,if_true] at k
   simp only [hu,hs,bne_self_eq_false,cond_false,decide_true,cond_true]
   exact k _ (w.drop (i:=1) rfl)
  ·simp only [hu,hs,ne_eq,not_true,or_self,if_false] at k
   simp only [addr_add,load_eq,Nat.zero_add,Nat.add_zero,Nat.mul_one,Nat.one_mul,Nat.zero_mul,Nat.reduceAdd,List.setIfInBounds_toArray,List.set_cons_zero,List.set_cons_succ,List.getElem?_toArray,List.getElem?_cons_zero,List.getElem?_cons_succ,some_and,int_eq,bool_eq,str_eq,slc_eq,ptr_eq,nn_eq,M.val,cond_true,cond_false,Bool.not_true,Bool.not_false,hu,hs,bne_self_eq_false,decide_false]
   obtain ⟨⟨bl,bn,a,l,c⟩,⟨ok,hl⟩,w⟩:=w.opn 0 rfl
   simp only at hl
   have hd:=w.blk 1 rfl
   simp only [addr_add,load_eq,Nat.zero_add,Nat.add_zero,Nat.mul_one,Nat.one_mul,Nat.zero_mul,Nat.reduceAdd,List.setIfInBounds_toArray,List.set_cons_zero,List.set_cons_succ,List.getElem?_toArray,List.getElem?_cons_zero,List.getElem?_cons_succ,some_and,int_eq,bool_eq,str_eq,slc_eq,ptr_eq,nn_eq,M.val,cond_true,cond_false,Bool.not_true,Bool.not_false,cell_in hd]
   have w:=(w.mv (i:=1) rfl).mv (i:=1) rfl
   have w:=w.mv (i:=1) rfl
   have wq:=w
   obtain ⟨h2,_,k2,w2,w3,back⟩:=w.split 2
   refine Delete_spec w2 hl.symm (by omega) fun l' h3 hl' w4=>?_
   have w:=back _ _ w4
   refine M.put_w w 2 rfl rfl (by simp) fun h4 w=>?_
   have hd:=w.blk 2 rfl
   have hcb:=w.blk 0 rfl
   have hat:at_.toNat<D.N.length:=by omega
   simp only [addr_add,load_eq,Nat.zero_add,Nat.add_zero,Nat.mul_one,Nat.one_mul,Nat.zero_mul,Nat.reduceAdd,List.setIfInBounds_toArray,List.set_cons_zero,List.set_cons_succ,List.getElem?_toArray,List.getElem?_cons_zero,List.getElem?_cons_succ,some_and,int_eq,bool_eq,str_eq,slc_eq,ptr_eq,nn_eq,M.val,cond_true,cond_false,Bool.not_true,Bool.not_false,cell_in hd,cell_in hcb]
   refine M.idx_of hu'.2.1 hu'.2.2 ?_
   simp only [addr_add,load_eq,Nat.zero_add,Nat.add_zero,Nat.mul_one,Nat.one_mul,Nat.zero_mul,Nat.reduceAdd,List.setIfInBounds_toArray,List.set_cons_zero,List.set_cons_succ,List.getElem?_toArray,List.getElem?_cons_zero,List.getElem?_cons_succ,some_and,int_eq,bool_eq,str_eq,slc_eq,ptr_eq,nn_eq,M.val,cond_true,cond_false,Bool.not_true,Bool.not_false]
   refine M.put_w w 3 rfl rfl (by rw [strs_size,ok.len]; exact hat) fun h5 w=>?_
   refine M.still_in hcb (w.blk 0 rfl) ?_
   refine M.idx_of hu'.2.1 hu'.2.2 ?_
   simp only [addr_add,load_eq,Nat.zero_add,Nat.add_zero,Nat.mul_one,Nat.one_mul,Nat.zero_mul,Nat.reduceAdd,List.setIfInBounds_toArray,List.set_cons_zero,List.set_cons_succ,List.getElem?_toArray,List.getElem?_cons_zero,List.getElem?_cons_succ,some_and,int_eq,bool_eq,str_eq,slc_eq,ptr_eq,nn_eq,M.val,cond_true,cond_false,Bool.not_true,Bool.not_false]
   refine M.put_w w 4 rfl rfl (by rw [strs_size]; exact hat) fun h6 w=>?_
   rw [strs_set,strs_set] at w
   have w:=(w.drop (i:=0) rfl).mv (i:=0) rfl
   refine k _ (w.close 0 (bl,bn,a,l',c) ?_ ⟨?_,hl'⟩)
   ·simp
   ·have:=DiskM.tamper_ok ok at_ s
    simpa only [DiskM.tamper,hu,hs,ne_eq,not_true,or_self,if_false] using this
 ·simp only [hu,ne_eq,not_false_iff,true_or,if_true] at k
  have:(D.usable at_ != 0)=true:=by simpa using hu
  simp only [this,cond_true]
  exact k _ (w.drop (i:=1) rfl)
end
end Go.Proofs.YthegnmanjdlmjaaGreatDoor
namespace Go.Proofs.YthegnmanjdlmjaaGreatDoor
open Go.Sh Go.RowKit
def applyW (W:List (Int × ByteArray)) (L:List ByteArray):List ByteArray:=W.foldl (fun L w=>L.set w.1.toNat w.2) L
theorem applyW_filter:∀ (W:List (Int × ByteArray)) (L:List ByteArray) (a:Int) (s:ByteArray),0≤a→(∀ w ∈ W,0≤w.1)→applyW (W.filter fun w=>w.1≠a) (L.set a.toNat s)=(applyW W L).set a.toNat s
 | [],_,_,_,_,_=>rfl
 | w::W,L,a,s,ha,hW=>by
  have ih:=fun L=>applyW_filter W L a s ha fun v hv=>hW v (by simp [hv])
  have hw:=hW w (by simp)
  rw [show applyW (w::W) L=applyW W (L.set w.1.toNat w.2) from rfl,←ih,List.filter_cons]
  by_cases he:w.1=a
  ·simp [he,List.set_set]
  ·simp only [he,ne_eq,not_false_eq_true,decide_true,if_true]
   rw [show ∀ X,applyW (w::X) (L.set a.toNat s)=applyW X ((L.set a.toNat s).set w.1.toNat w.2) from fun _=>rfl,List.set_comm _ _ (by omega)]
namespace DiskM
def Sync (D:DiskM):Prop:=D.dead=false→D.N=applyW D.W D.L
variable {D:DiskM}
theorem new_sync (n:Int):(new n).Sync:=fun _=>rfl
theorem fail_sync:D.fail.Sync:=fun h=>by simp [fail] at h
theorem tamper_sync (k:D.Ok) (o:D.Sync) (a:Int) (s:ByteArray):(D.tamper a s).2.Sync:=by
 unfold tamper
 split
 ·exact o
 ·rename_i h
  intro hd
  have hu:D.usable a=0:=Decidable.not_not.1 fun e=>h (.inl e)
  simp only
  rw [o hd,applyW_filter _ _ _ _ (usable_zero.1 hu).2.1 fun w hw=>(k.at_ w hw).1]
theorem restore_sync (o:D.Sync) (img:List ByteArray):(D.restore img).Sync:=by
 unfold restore
 split
 ·exact o
 ·exact fun _=>rfl
end DiskM
def refC (d:Nat) (D:DiskM):Chunk:=Wd.obj (α:=Nat × Option Addr × Nat × Nat) (fun v=>(D.Ok∧D.Sync)∧v.2.2.1=D.W.length)
 fun v=>[.blk d (.cells #[.slice (some ⟨v.1,0,none⟩) D.L.length D.L.length,.slice v.2.1 v.2.2.1 v.2.2.2,.bool D.dead] 212 (0,0)),
  .blk v.1 (.cells (strs D.L) 9 (0,0)),.sl 214 2 v.2.1 v.2.2.1 v.2.2.2 (wr D.W)]
section
variable {h0 h:H} {d:Nat} {D:DiskM} {at_:Int} {s:ByteArray}
theorem rNew {n:Int} {Q:Option Addr→H→Prop} (k:∀ d h',Wd h h' [refC d (DiskM.new n)]→Q (some ⟨d,0,none⟩) h'):ref09_New n h Q:=by
 have hn:=DiskM.new_len n
 have fin:∀ m h1,h1=h→m=mx 1 (mn n 512)→M.mk h1 9 [(.string (ByteArray.empty))] 16 m m fun a8 l9 c10 h11=>M.new h11 (.cells (#[(.slice a8 l9 c10),(.slice none 0 0),(.bool false)]:Array Value) 212) fun b12 h13=>Q (some (⟨b12,0,none⟩:Addr)) h13:=by
  rintro m h1 rfl rfl
  refine M.mk_w (Wd.start _) (by omega) (by omega) (by omega) (by omega) fun b1 h1 w=>?_
  refine M.new_w w fun b h3 w=>?_
  have w:=(w.mv (i:=0) rfl).nilsl 214 2
  refine k b h3 (w.close 0 (b1,none,0,0) ?_ ⟨⟨DiskM.new_ok n,DiskM.new_sync n⟩,rfl⟩)
  simp [DiskM.new,zeros_strs,wr]
 unfold ref09_New
 refine M.jn ?_
 unfold M.join
 by_cases h1:n<1
 ·simp only [h1,decide_true,cond_true]
  exact fin _ _ rfl (by unfold mx mn; split <;> split <;> omega)
 ·simp only [h1,decide_false,cond_false]
  by_cases h2:n > 512
  ·simp only [h2,decide_true,cond_true]
   exact fin _ _ rfl (by unfold mx mn; split <;> split <;> omega)
  ·simp only [h2,decide_false,cond_false]
   exact fin _ _ rfl (by unfold mx mn; split <;> split <;> omega)
end
end Go.Proofs.YthegnmanjdlmjaaGreatDoor

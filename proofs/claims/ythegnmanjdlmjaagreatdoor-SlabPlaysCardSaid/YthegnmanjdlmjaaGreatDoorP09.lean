/- Poly1305: numbers of texts, and texts of numbers. Poly1305: the key's first half, tags compared. Poly1305: the program's tag. ChaCha20-Poly1305: the program's. -/
import Derived.Test.YthegnmanjdlmjaaGreatDoorP08
set_option linter.unusedSimpArgs false
set_option linter.unusedVariables false
namespace Go.Proofs.YthegnmanjdlmjaaGreatDoor
open Go.Sh Go.RowKit
def leN (s:ByteArray):Nat→Nat
 | 0=>0
 | n+1=>leN s n+(byteAt s n).toNat * 256 ^ n
theorem leN_lt (s:ByteArray):∀ n,leN s n<256 ^ n
 | 0=>by simp [leN]
 | n+1=>by
  have h:=leN_lt s n
  have b:=byteAt_lt s n
  have hb:(byteAt s n).toNat≤255:=by omega
  have:=Nat.mul_le_mul_right (256 ^ n) hb
  rw [leN,Nat.pow_succ]; omega
def leT (n:Nat):ByteArray:=byT 16 fun i=>((n / 256 ^ i % 256:Nat):Int)
theorem word_nat (s:ByteArray) (i:Nat):(wordAt false s i).toNat=(byteAt s (4*i)).toNat+(byteAt s (4*i+1)).toNat * 256+(byteAt s (4*i+2)).toNat * 65536+(byteAt s (4*i+3)).toNat * 16777216:=by
 have h0:=byteAt_lt s (4*i)
 have h1:=byteAt_lt s (4*i+1)
 have h2:=byteAt_lt s (4*i+2)
 have h3:=byteAt_lt s (4*i+3)
 unfold wordAt wordZ
 rw [cond_false,BitVec.toNat_ofInt]
 omega
theorem at0_words (s:ByteArray) (i:Nat) (h:i<s.size / 4):at0 (wordsOf false s) i=wordAt false s i:=by
 rw [at0_get _ _ (by rw [wordsOf_len]; exact h)]; simp [wordsOf]
theorem leN16 (s:ByteArray) (h:s.size=16):leN s 16=(at0 (wordsOf false s) 0).toNat+(at0 (wordsOf false s) 1).toNat * 4294967296+(at0 (wordsOf false s) 2).toNat * 18446744073709551616+(at0 (wordsOf false s) 3).toNat * 79228162514264337593543950336:=by
 rw [at0_words _ _ (by omega),at0_words _ _ (by omega),at0_words _ _ (by omega),at0_words _ _ (by omega),word_nat,word_nat,word_nat,word_nat]
 simp only [leN,Nat.reduceMul,Nat.reduceAdd,Nat.reducePow]
 omega
theorem wrapU_q (x:U):IntKind.wrap .u64 (ui x)=q64 x.toNat:=by
 have:=x.isLt
 rw [IntKind.wrap_u64,ui,q64]; omega
theorem wrap32_q (n:Nat):IntKind.wrap .u32 (q64 n)=ui (BitVec.ofNat 32 n):=by
 rw [IntKind.wrap_u32,ui,q64,BitVec.toNat_ofNat]; omega
theorem shr_qk (n k:Nat) (hk:k≤64):shr .u64 (q64 n) (k:Int)=q64 (n % 18446744073709551616 / 2 ^ k):=by
 have h:shr .u64 (q64 n) (k:Int)=_:=shr_nat .u64 (n % 18446744073709551616) k hk
 refine h.trans ?_
 have:=Nat.div_le_self (n % 18446744073709551616) (2 ^ k)
 rw [q64_lt (by omega)]
theorem shl_qk (n k:Nat) (hk:k≤64):shl .u64 (q64 n) (k:Int)=q64 (n*2 ^ k):=by
 rw [shl,Int.toNat_natCast,show IntKind.bits .u64=64 from rfl,Nat.min_eq_left hk,q64,q64]
 have e:(((n % 18446744073709551616:Nat):Int)*2 ^ k)=((n % 18446744073709551616*2 ^ k:Nat):Int):=by
  rw [Int.natCast_mul,Int.natCast_pow]; rfl
 rw [e,IntKind.wrap_u64]
 have:=Nat.mod_mul_mod n (2 ^ k) 18446744073709551616
 omega
theorem or_q {a c:Nat} (k:Nat) (ha:a<2 ^ k) (h1:a<18446744073709551616) (h2:c*2 ^ k<18446744073709551616):bOr .u64 (q64 a) (q64 (c*2 ^ k))=q64 (a+c*2 ^ k):=by
 rw [q64_lt h1,q64_lt h2]
 have e:∀ n:Nat,n<18446744073709551616→(BitVec.ofInt 64 (n:Int)).toNat=n:=fun n h=>by rw [BitVec.ofInt_natCast,BitVec.toNat_ofNat,Nat.mod_eq_of_lt h]
 have h3:(BitVec.ofInt 64 (a:Int) ||| BitVec.ofInt 64 ((c*2 ^ k:Nat):Int)).toNat=a+c*2 ^ k:=by
  rw [BitVec.toNat_or,e a h1,e _ h2,Nat.or_comm,Nat.mul_comm c,←Nat.two_pow_add_eq_or_of_lt ha]; omega
 show IntKind.wrap .u64 ((BitVec.ofInt 64 (a:Int) ||| BitVec.ofInt 64 ((c*2 ^ k:Nat):Int)).toNat:Int)=_
 rw [h3,IntKind.wrap_u64,q64]; omega
section
variable {h:H} {s:ByteArray}
theorem of_spec {ab:Nat} {Q:Int→Int→Int→Int→Int→H→Prop} (hs:s.size=16) (hab:ab≤1) (k:∀ h' (y:L5),y.Lt 67108864→y.val=leN s 16+ab*340282366920938463463374607431768211456→Keep h h'→Q (q64 y.a) (q64 y.b) (q64 y.c) (q64 y.d) (q64 y.e) h'):poly_of s (q64 ab) h Q:=by
 unfold poly_of poly_of.g
 refine M.new_w (Wd.start h) fun b1 h1 w=>?_
 refine Little_spec (by omega) (by omega) fun a2 c2 h2 w'=>?_
 have w:=w.join w'
 clear w'
 rw [hs] at w ⊢
 have hN:=leN16 s hs
 have hl:(wordsOf false s).length=4:=by rw [wordsOf_len,hs]
 have h4:wordsOf false s=[at0 (wordsOf false s) 0,at0 (wordsOf false s) 1,at0 (wordsOf false s) 2,at0 (wordsOf false s) 3]:=by
  generalize wordsOf false s=l at hl
  match l,hl with
  | [a,b,c,d],_=>rfl
 rw [h4] at w
 generalize at0 (wordsOf false s) 0=x0 at *
 generalize at0 (wordsOf false s) 1=x1 at *
 generalize at0 (wordsOf false s) 2=x2 at *
 generalize at0 (wordsOf false s) 3=x3 at *
 clear h4
 simp only [Nat.reduceDiv] at w ⊢
 refine M.new_w w fun b4 h3 w=>?_
 refine M.jn (M.times 5 ?_)
 have g0:[x0,x1,x2,x3].getD (Int.toNat 0) 0=x0:=rfl
 have g1:[x0,x1,x2,x3].getD (Int.toNat 1) 0=x1:=rfl
 have g2:[x0,x1,x2,x3].getD (Int.toNat 2) 0=x2:=rfl
 have g3:[x0,x1,x2,x3].getD (Int.toNat 3) 0=x3:=rfl
 have l0:=x0.isLt
 have l1:=x1.isLt
 have l2:=x2.isLt
 have l3:=x3.isLt
 have s26:=fun n=>shr_qk n 26 (by decide)
 have s20:=fun n=>shr_qk n 20 (by decide)
 have s14:=fun n=>shr_qk n 14 (by decide)
 have s8:=fun n=>shr_qk n 8 (by decide)
 have t6:=fun n=>shl_qk n 6 (by decide)
 have t12:=fun n=>shl_qk n 12 (by decide)
 have t18:=fun n=>shl_qk n 18 (by decide)
 have t24:=fun n=>shl_qk n 24 (by decide)
 have o1:=or_q (a:=x0.toNat % 18446744073709551616 / 2 ^ 26) (c:=x1.toNat) 6 (by omega) (by omega) (by omega)
 have o2:=or_q (a:=x1.toNat % 18446744073709551616 / 2 ^ 20) (c:=x2.toNat) 12 (by omega) (by omega) (by omega)
 have o3:=or_q (a:=x2.toNat % 18446744073709551616 / 2 ^ 14) (c:=x3.toNat) 18 (by omega) (by omega) (by omega)
 have o4:=or_q (a:=x3.toNat % 18446744073709551616 / 2 ^ 8) (c:=ab) 24 (by omega) (by omega) (by omega)
 simp only [Int.reduceNatCast,Int.cast_ofNat_Int] at s26 s20 s14 s8 t6 t12 t18 t24
 refine M.iter_s ?_
 simp only [t24]
 refine cdt (by omega) ?_
 refine Ro.ldU (w.roU 1 rfl) (by omega) (by omega) ?_
 simp only [g0,wrapU_q]
 refine M.vin ?_
 refine ⟨(by omega),(by omega),?_⟩
 simp only []
 simp only [bs,Int.reduceToNat]
 refine M.put_w w 2 rfl rfl (by simp) fun h6 w=>?_
 simp only [bs] at w
 refine M.vis (1) (by decide) ?_
 refine M.iter_s ?_
 refine cdt (by omega) ?_
 refine Ro.ldU (w.roU 1 rfl) (by omega) (by omega) ?_
 simp only [g1,wrapU_q]
 refine M.vin ?_
 refine ⟨(by omega),(by omega),?_⟩
 simp only []
 simp only [Nat.reduceMul,Int.reduceToNat]
 refine M.put_w w 2 rfl rfl (by simp) fun h11 w=>?_
 simp only [bs] at w
 refine M.vis (2) (by decide) ?_
 refine M.iter_s ?_
 refine cdt (by omega) ?_
 refine Ro.ldU (w.roU 1 rfl) (by omega) (by omega) ?_
 simp only [g2,wrapU_q]
 refine M.vin ?_
 refine ⟨(by omega),(by omega),?_⟩
 simp only []
 simp only [Nat.reduceMul,Int.reduceToNat]
 refine M.put_w w 2 rfl rfl (by simp) fun h16 w=>?_
 simp only [bs] at w
 refine M.vis (3) (by decide) ?_
 refine M.iter_s ?_
 refine cdt (by omega) ?_
 refine Ro.ldU (w.roU 1 rfl) (by omega) (by omega) ?_
 simp only [g3,wrapU_q]
 refine M.vin ?_
 refine ⟨(by omega),(by omega),?_⟩
 simp only []
 simp only [Nat.reduceMul,Int.reduceToNat]
 refine M.put_w w 2 rfl rfl (by simp) fun h21 w=>?_
 simp only [bs] at w
 refine M.vis (4) (by decide) ?_
 refine M.iter_s ?_
 refine cdf (by omega) ?_
 refine ⟨(by omega),(by omega),?_⟩
 simp only [bs,Int.reduceToNat,and_q,lb (w.blk 2 rfl)]
 refine M.vin ?_
 refine ⟨(by omega),(by omega),?_⟩
 simp only []
 simp only [bs,Int.reduceToNat,s26]
 refine ⟨(by omega),?_⟩
 refine M.vin ?_
 refine ⟨(by omega),(by omega),?_⟩
 simp only []
 simp only [bs,Int.reduceToNat,t6]
 refine ⟨(by omega),?_⟩
 refine M.vin ?_
 simp only [o1]
 refine M.vin ?_
 simp only [and_q]
 refine M.vin ?_
 refine ⟨(by omega),(by omega),?_⟩
 simp only []
 simp only [bs,Int.reduceToNat,s20]
 refine ⟨(by omega),?_⟩
 refine M.vin ?_
 refine ⟨(by omega),(by omega),?_⟩
 simp only []
 simp only [bs,Int.reduceToNat,t12]
 refine ⟨(by omega),?_⟩
 refine M.vin ?_
 simp only [o2]
 refine M.vin ?_
 simp only [and_q]
 refine M.vin ?_
 refine ⟨(by omega),(by omega),?_⟩
 simp only []
 simp only [bs,Int.reduceToNat,s14]
 refine ⟨(by omega),?_⟩
 refine M.vin ?_
 refine ⟨(by omega),(by omega),?_⟩
 simp only []
 simp only [bs,Int.reduceToNat,t18]
 refine ⟨(by omega),?_⟩
 refine M.vin ?_
 simp only [o3]
 refine M.vin ?_
 simp only [and_q]
 refine M.vin ?_
 refine ⟨(by omega),(by omega),?_⟩
 simp only []
 simp only [bs,Int.reduceToNat,s8]
 refine ⟨(by omega),?_⟩
 refine M.vin ?_
 refine ⟨(by omega),?_⟩
 refine M.vin ?_
 simp only [o4]
 refine M.vin ?_
 refine ⟨(rfl),?_⟩
 refine M.puts_w0 w 0 rfl (by simp [isPlainCell]) (by simp) fun h22 w=>?_
 simp only [bs] at w
 simp only [bs,lb (w.blk 0 rfl)]
 refine k _ ⟨x0.toNat % 67108864,(x0.toNat % 18446744073709551616 / 2 ^ 26+x1.toNat * 2 ^ 6) % 67108864,(x1.toNat % 18446744073709551616 / 2 ^ 20+x2.toNat * 2 ^ 12) % 67108864,(x2.toNat % 18446744073709551616 / 2 ^ 14+x3.toNat * 2 ^ 18) % 67108864,x3.toNat % 18446744073709551616 / 2 ^ 8+ab*2 ^ 24⟩ ⟨by simp only; omega,by simp only; omega,by simp only; omega,by simp only; omega,by simp only; omega⟩ ?_ w.keep
 rw [hN]
 simp only [L5.val]
 omega
theorem digs (n:Nat):leT n=textOf false [BitVec.ofNat 32 n,BitVec.ofNat 32 (n / 4294967296),BitVec.ofNat 32 (n / 18446744073709551616),BitVec.ofNat 32 (n / 79228162514264337593543950336)]:=by
 unfold leT byT textOf
 congr 1
 simp only [wzs,List.flatMap_cons,List.flatMap_nil,wz,cond_false,byt,BitVec.toNat_ofNat,List.range,List.range.loop,List.map_cons,List.map_nil,List.cons_append,List.nil_append,List.append_nil,Nat.reducePow]
 simp only [List.cons.injEq,and_true]
 refine ⟨by omega,by omega,by omega,by omega,by omega,by omega,by omega,by omega,by omega,by omega,by omega,by omega,by omega,by omega,by omega,by omega⟩
theorem plus_spec {x:L5} {Q:ByteArray→H→Prop} (hs:s.size=16) (hx:x.Lt 67108864) (k:∀ h',Keep h h'→Q (leT (x.val+leN s 16)) h'):poly_limbs_plus (q64 x.a) (q64 x.b) (q64 x.c) (q64 x.d) (q64 x.e) s h Q:=by
 unfold poly_limbs_plus poly_limbs_plus.g
 obtain ⟨h1,h2,h3,h4,h5⟩:=hx
 refine M.new_w (Wd.start h) fun b1 h1 w=>?_
 refine Little_spec (by omega) (by omega) fun a2 c2 h2 w'=>?_
 have w:=w.join w'
 clear w'
 rw [hs] at w ⊢
 have hN:=leN16 s hs
 have hl:(wordsOf false s).length=4:=by rw [wordsOf_len,hs]
 have hl4:wordsOf false s=[at0 (wordsOf false s) 0,at0 (wordsOf false s) 1,at0 (wordsOf false s) 2,at0 (wordsOf false s) 3]:=by
  generalize wordsOf false s=l at hl
  match l,hl with
  | [a,b,c,d],_=>rfl
 rw [hl4] at w
 generalize at0 (wordsOf false s) 0=x0 at *
 generalize at0 (wordsOf false s) 1=x1 at *
 generalize at0 (wordsOf false s) 2=x2 at *
 generalize at0 (wordsOf false s) 3=x3 at *
 clear hl4
 simp only [Nat.reduceDiv] at w ⊢
 have g0:[x0,x1,x2,x3].getD (Int.toNat 0) 0=x0:=rfl
 have g1:[x0,x1,x2,x3].getD (Int.toNat 1) 0=x1:=rfl
 have g2:[x0,x1,x2,x3].getD (Int.toNat 2) 0=x2:=rfl
 have g3:[x0,x1,x2,x3].getD (Int.toNat 3) 0=x3:=rfl
 have l0:=x0.isLt
 have l1:=x1.isLt
 have l2:=x2.isLt
 have l3:=x3.isLt
 have t26:=fun n=>shl_qk n 26 (by decide)
 have t20:=fun n=>shl_qk n 20 (by decide)
 have t14:=fun n=>shl_qk n 14 (by decide)
 have t8:=fun n=>shl_qk n 8 (by decide)
 have s6:=fun n=>shr_qk n 6 (by decide)
 have s12:=fun n=>shr_qk n 12 (by decide)
 have s18:=fun n=>shr_qk n 18 (by decide)
 have o1:=or_q (a:=x.a) (c:=x.b) 26 (by omega) (by omega) (by omega)
 have o2:=or_q (a:=x.b % 18446744073709551616 / 2 ^ 6) (c:=x.c) 20 (by omega) (by omega) (by omega)
 have o3:=or_q (a:=x.c % 18446744073709551616 / 2 ^ 12) (c:=x.d) 14 (by omega) (by omega) (by omega)
 have o4:=or_q (a:=x.d % 18446744073709551616 / 2 ^ 18) (c:=x.e) 8 (by omega) (by omega) (by omega)
 simp only [Int.reduceNatCast,Int.cast_ofNat_Int] at t26 t20 t14 t8 s6 s12 s18
 refine ⟨(by omega),(by omega),?_⟩
 simp only [bs,Int.reduceToNat,lb (w.blk 0 rfl)]
 refine ⟨(by omega),(by omega),?_⟩
 simp only []
 simp only [bs,Int.reduceToNat,t26]
 refine ⟨(by omega),?_⟩
 refine M.vin ?_
 simp only [o1]
 refine M.vin ?_
 refine ⟨(by omega),(by omega),?_⟩
 simp only []
 simp only [bs,Int.reduceToNat,s6]
 refine ⟨(by omega),?_⟩
 refine M.vin ?_
 refine ⟨(by omega),(by omega),?_⟩
 simp only []
 simp only [bs,Int.reduceToNat,t20]
 refine ⟨(by omega),?_⟩
 refine M.vin ?_
 simp only [o2]
 refine M.vin ?_
 refine ⟨(by omega),(by omega),?_⟩
 simp only []
 simp only [bs,Int.reduceToNat,s12]
 refine ⟨(by omega),?_⟩
 refine M.vin ?_
 refine ⟨(by omega),(by omega),?_⟩
 simp only []
 simp only [bs,Int.reduceToNat,t14]
 refine ⟨(by omega),?_⟩
 refine M.vin ?_
 simp only [o3]
 refine M.vin ?_
 refine ⟨(by omega),(by omega),?_⟩
 simp only []
 simp only [bs,Int.reduceToNat,s18]
 refine ⟨(by omega),?_⟩
 refine M.vin ?_
 refine ⟨(by omega),(by omega),?_⟩
 simp only []
 simp only [bs,Int.reduceToNat,t8]
 refine ⟨(by omega),?_⟩
 refine M.vin ?_
 simp only [o4]
 refine M.vin ?_
 refine M.new_w w fun b7 h6 w=>?_
 refine ⟨(rfl),?_⟩
 refine M.puts_w0 w 2 rfl (by simp [isPlainCell]) (by simp) fun h8 w=>?_
 simp only [bs] at w
 refine M.mk_sl w (by omega) (by omega) (by omega) (by omega) rfl fun a9 h10 w=>?_
 simp only [zs] at w ⊢
 refine M.jn (M.times 5 ?_)
 refine M.iter_s ?_
 simp only []
 refine cdt (by omega) ?_
 refine ⟨(by omega),(by omega),?_⟩
 simp only [bs,Int.reduceToNat,and32_q,lb (w.blk 2 rfl)]
 refine M.vin ?_
 refine Ro.ldU (w.roU 1 rfl) (by omega) (by omega) ?_
 simp only [g0,wrapU_q]
 refine M.vin ?_
 refine ⟨fun _ _=>rfl,?_⟩
 simp only [add_q]
 refine M.vin ?_
 simp only [add0_q]
 refine M.vin ?_
 simp only [wrap32_q,shr32_q]
 refine M.vin ?_
 refine w.put1 3 rfl rfl _ rfl (by omega) (by omega) fun h9 w=>?_
 simp only [bs,Int.reduceToNat] at w
 refine ⟨(by omega),?_⟩
 refine M.vin ?_
 refine M.vis (1) (by decide) ?_
 refine M.iter_s ?_
 simp only []
 refine cdt (by omega) ?_
 refine ⟨(by omega),(by omega),?_⟩
 simp only [bs,Nat.reduceMul,Int.reduceToNat,and32_q,lb (w.blk 2 rfl)]
 refine M.vin ?_
 refine Ro.ldU (w.roU 1 rfl) (by omega) (by omega) ?_
 simp only [g1,wrapU_q]
 refine M.vin ?_
 refine ⟨fun _ _=>rfl,?_⟩
 simp only [add_q]
 refine M.vin ?_
 simp only [add_q]
 refine M.vin ?_
 simp only [wrap32_q,shr32_q]
 refine M.vin ?_
 refine w.put1 3 rfl rfl _ rfl (by omega) (by omega) fun h16 w=>?_
 simp only [bs,Int.reduceToNat] at w
 refine ⟨(by omega),?_⟩
 refine M.vin ?_
 refine M.vis (2) (by decide) ?_
 refine M.iter_s ?_
 simp only []
 refine cdt (by omega) ?_
 refine ⟨(by omega),(by omega),?_⟩
 simp only [bs,Nat.reduceMul,Int.reduceToNat,and32_q,lb (w.blk 2 rfl)]
 refine M.vin ?_
 refine Ro.ldU (w.roU 1 rfl) (by omega) (by omega) ?_
 simp only [g2,wrapU_q]
 refine M.vin ?_
 refine ⟨fun _ _=>rfl,?_⟩
 simp only [add_q]
 refine M.vin ?_
 simp only [add_q]
 refine M.vin ?_
 simp only [wrap32_q,shr32_q]
 refine M.vin ?_
 refine w.put1 3 rfl rfl _ rfl (by omega) (by omega) fun h23 w=>?_
 simp only [bs,Int.reduceToNat] at w
 refine ⟨(by omega),?_⟩
 refine M.vin ?_
 refine M.vis (3) (by decide) ?_
 refine M.iter_s ?_
 simp only []
 refine cdt (by omega) ?_
 refine ⟨(by omega),(by omega),?_⟩
 simp only [bs,Nat.reduceMul,Int.reduceToNat,and32_q,lb (w.blk 2 rfl)]
 refine M.vin ?_
 refine Ro.ldU (w.roU 1 rfl) (by omega) (by omega) ?_
 simp only [g3,wrapU_q]
 refine M.vin ?_
 refine ⟨fun _ _=>rfl,?_⟩
 simp only [add_q]
 refine M.vin ?_
 simp only [add_q]
 refine M.vin ?_
 simp only [wrap32_q,shr32_q]
 refine M.vin ?_
 refine w.put1 3 rfl rfl _ rfl (by omega) (by omega) fun h30 w=>?_
 simp only [bs,Int.reduceToNat] at w
 refine ⟨(by omega),?_⟩
 refine M.vin ?_
 refine M.vis (4) (by decide) ?_
 refine M.iter_s ?_
 simp only []
 refine cdf (by omega) ?_
 rw [←uvs_row] at w
 refine FromLittle_spec (words_of w 3 rfl (by simp)) fun h31 k31=>?_
 have:=k _ (w.keep.trans k31)
 rw [digs,hN] at this
 obtain ⟨d0,d1,d2,d3,q0,q1,q2,q3,⟨r,hv⟩,u0,u1,u2,u3⟩:∃ d0 d1 d2 d3:Nat,(x.a+x.b*2 ^ 26) % 4294967296=d0∧(x.b % 18446744073709551616 / 2 ^ 6+x.c*2 ^ 20) % 4294967296=d1∧(x.c % 18446744073709551616 / 2 ^ 12+x.d*2 ^ 14) % 4294967296=d2∧(x.d % 18446744073709551616 / 2 ^ 18+x.e*2 ^ 8) % 4294967296=d3
   ∧ (∃ r,x.val=d0+d1*4294967296+d2*18446744073709551616+d3*79228162514264337593543950336+r*340282366920938463463374607431768211456)∧d0<4294967296∧d1<4294967296∧d2<4294967296∧d3<4294967296:=by
  refine ⟨_,_,_,_,rfl,rfl,rfl,rfl,⟨x.val / 340282366920938463463374607431768211456,?_⟩,Nat.mod_lt _ (by decide),Nat.mod_lt _ (by decide),Nat.mod_lt _ (by decide),Nat.mod_lt _ (by decide)⟩
  simp only [L5.val]
  omega
 simp only [q0,q1,q2,q3] at w ⊢
 rw [hv] at this
 clear w q0 q1 q2 q3 hv hN o1 o2 o3 o4 t26 t20 t14 t8 s6 s12 s18 k
 have key:∀ n m:Nat,n % 4294967296=m % 4294967296→BitVec.ofNat 32 n=BitVec.ofNat 32 m:=fun n m e=>BitVec.eq_of_toNat_eq (by rw [BitVec.toNat_ofNat,BitVec.toNat_ofNat]; exact e)
 obtain ⟨N,hN⟩:∃ N,d0+d1*4294967296+d2*18446744073709551616+d3*79228162514264337593543950336+r*340282366920938463463374607431768211456+(x0.toNat+x1.toNat * 4294967296+x2.toNat * 18446744073709551616+x3.toNat * 79228162514264337593543950336)=N:=⟨_,rfl⟩
 rw [hN] at this
 rw [key N (d0+x0.toNat) (by omega),key (N / 4294967296) ((d0+x0.toNat) % 18446744073709551616 / 4294967296+(d1+x1.toNat)) (by omega),
  key (N / 18446744073709551616) (((d0+x0.toNat) % 18446744073709551616 / 4294967296+(d1+x1.toNat)) % 18446744073709551616 / 4294967296+(d2+x2.toNat)) (by omega),
  key (N / 79228162514264337593543950336) ((((d0+x0.toNat) % 18446744073709551616 / 4294967296+(d1+x1.toNat)) % 18446744073709551616 / 4294967296+(d2+x2.toNat)) % 18446744073709551616 / 4294967296+(d3+x3.toNat)) (by omega)] at this
 exact this
end
end Go.Proofs.YthegnmanjdlmjaaGreatDoor
namespace Go.Proofs.YthegnmanjdlmjaaGreatDoor
open Go.Sh Go.RowKit
def clB (x:Int) (i:Nat):Int:=if i % 4=3 then x % 16 else if i % 4=0∧0<i then x-x % 4 else x
def clampT (r:ByteArray):ByteArray:=byT 16 fun i=>clB (byteAt r i) i
theorem and8 (x:Int) (m k:Nat) (h:0≤x∧x<256) (hm:m=2 ^ k-1) (hk:k≤8):bAnd .u8 x (m:Int)=x % 2 ^ k:=by
 obtain ⟨n,rfl⟩:=Int.eq_ofNat_of_zero_le h.1
 have hm8:m<256:=by
  have:2 ^ k≤2 ^ 8:=Nat.pow_le_pow_right (by omega) hk
  omega
 have e:∀ n:Nat,n<256→(BitVec.ofInt 8 (n:Int)).toNat=n:=fun n h=>by rw [BitVec.ofInt_natCast,BitVec.toNat_ofNat]; omega
 have h1:(BitVec.ofInt 8 (n:Int) &&& BitVec.ofInt 8 (m:Int)).toNat=n % 2 ^ k:=by
  rw [BitVec.toNat_and,e n (by omega),e m hm8,hm,Nat.and_two_pow_sub_one_eq_mod]
 show IntKind.wrap .u8 ((BitVec.ofInt 8 (n:Int) &&& BitVec.ofInt 8 (m:Int)).toNat:Int)=_
 have:=Nat.mod_le n (2 ^ k)
 rw [h1,IntKind.wrap_u8,Int.natCast_emod,Int.natCast_pow]
 have e2:((n:Int) % 2 ^ k)=((n % 2 ^ k:Nat):Int):=by rw [Int.natCast_emod,Int.natCast_pow]; rfl
 show ((n:Int) % 2 ^ k) % 256=_
 rw [e2]; omega
theorem and15 {x:Int} (h:0≤x∧x<256):bAnd .u8 x 15=x % 16:=and8 x 15 4 h rfl (by decide)
theorem and252 {x:Int} (h:0≤x∧x<256):bAnd .u8 x 252=x-x % 4:=by
 have:∀ n:Fin 256,bAnd .u8 ((n.val:Nat):Int) 252=((n.val:Nat):Int)-((n.val:Nat):Int) % 4:=by decide +kernel
 have:=this ⟨x.toNat,by omega⟩
 simp only [Int.toNat_of_nonneg h.1] at this
 exact this
theorem cl_set (r:ByteArray) (m:Nat) (hm:m<16) (v:Int) (hv:v=clB (byteAt r m) m):((List.range 16).map fun i=>if i<m then clB (byteAt r i) i else byteAt r i).set m v=(List.range 16).map fun i=>if i<m+1 then clB (byteAt r i) i else byteAt r i:=by
 rw [set_map_range]
 apply List.map_congr_left
 intro i hi
 by_cases h1:i=m
 ·subst h1; rw [if_pos rfl,if_pos (by omega),hv]
 ·rw [if_neg h1]
  by_cases h2:i<m
  ·rw [if_pos h2,if_pos (by omega)]
  ·rw [if_neg h2,if_neg (by omega)]
theorem cl_same (r:ByteArray) (m:Nat) (hm:m<16) (hv:byteAt r m=clB (byteAt r m) m):((List.range 16).map fun i=>if i<m then clB (byteAt r i) i else byteAt r i)=(List.range 16).map fun i=>if i<m+1 then clB (byteAt r i) i else byteAt r i:=by
 apply List.map_congr_left
 intro i hi
 by_cases h2:i<m
 ·rw [if_pos h2,if_pos (by omega)]
 ·by_cases h1:i=m
  ·subst h1; rw [if_neg h2,if_pos (by omega),←hv]
  ·rw [if_neg h2,if_neg (by omega)]
theorem bytesOf_row (s:ByteArray) (n:Nat) (h:s.size=n):bytesOf s=eB.row ((List.range n).map (byteAt s)):=by
 rw [←bvs_row,←h,intsOf',bytesOf,bvs,List.map_map]; rfl
section
variable {h:H} {r a b:ByteArray}
theorem Clamp_spec {Q:ByteArray→Int→H→Prop} (hr:r.size=16) (k:∀ h',Keep h h'→Q (clampT r) 0 h'):poly_Clamp r h Q:=by
 unfold poly_Clamp
 refine cf (by rw [hr]; rfl) ?_
 refine M.s2b_w (Wd.start h) fun b3 c3 h1 w=>?_
 rw [bytesOf_row r 16 hr,hr] at w
 rw [hr]
 refine M.jn ?_
 refine M.loop_of (I:=fun (i:Int) h'=>∃ m:Nat,m≤16∧i=(m:Int)∧Wd h h' [.sl 5 1 (some ⟨b3,0,none⟩) 16 c3 (eB.row ((List.range 16).map fun i=>if i<m then clB (byteAt r i) i else byteAt r i))]) (μ:=fun i=>(16-i).toNat) ⟨0,by omega,rfl,?_⟩ ?_
 ·have:((List.range 16).map fun i=>if i<0 then clB (byteAt r i) i else byteAt r i)=(List.range 16).map (byteAt r):=List.map_congr_left fun i hi=>if_neg (by omega)
  rw [this]; exact w
 clear w
 rintro _ h2 J ⟨m,hm,rfl,w⟩ hJ
 by_cases hlt:m<16
 ·refine cdt (by omega) ⟨by decide,?_⟩
  have vt:Int.tmod (m:Int) 4=((m % 4:Nat):Int):=by rw [Int.tmod_eq_emod_of_nonneg (by omega)]; omega
  have v1:IntKind.wrap .i64 ((m:Int)+1)=((m+1:Nat):Int):=by rw [IntKind.wrap_i64]; omega
  have hb:=byteAt_lt r m
  have hz:za ((List.range 16).map fun i=>if i<m then clB (byteAt r i) i else byteAt r i) m=byteAt r m:=by
   rw [za_get (by simpa using hlt)]; simp
  refine M.vis _ vt ?_
  by_cases h3:m % 4=3
  ·refine ct (by rw [beq_iff_eq]; omega) ?_
   have ha:=and15 hb
   simp only [v1]
   refine Ro.ldB (w.ro 0 rfl (by decide)) (by omega) (by omega) ?_
   simp only [Int.toNat_natCast,hz,ha]
   refine M.vin ?_
   refine w.put1 0 rfl rfl _ rfl (by omega) (by omega) fun h10 w=>?_
   simp only [bs,Int.toNat_natCast] at w
   refine M.vin ?_
   rw [cl_set r m hlt _ (by unfold clB; rw [if_pos h3])] at w
   exact hJ _ _ ⟨m+1,by omega,rfl,w⟩ (by omega)
  ·refine cf (by rw [beq_eq_false_iff_ne]; omega) ?_
   refine M.jn ⟨by decide,M.vis _ vt ?_⟩
   by_cases h0:m % 4=0
   ·refine ct (by rw [beq_iff_eq]; omega) ?_
    by_cases hp:0<m
    ·refine cdt (by omega) ?_
     have ha:=and252 hb
     simp only [v1]
     refine Ro.ldB (w.ro 0 rfl (by decide)) (by omega) (by omega) ?_
     simp only [Int.toNat_natCast,hz,ha]
     refine M.vin ?_
     refine w.put1 0 rfl rfl _ rfl (by omega) (by omega) fun h10 w=>?_
     simp only [bs,Int.toNat_natCast] at w
     refine M.vin ?_
     rw [cl_set r m hlt _ (by unfold clB; rw [if_neg h3,if_pos ⟨h0,hp⟩])] at w
     exact hJ _ _ ⟨m+1,by omega,rfl,w⟩ (by omega)
    ·refine cdf (by omega) ?_
     rw [cl_same r m hlt (by unfold clB; rw [if_neg h3,if_neg (by omega)])] at w
     refine M.vis _ v1 ?_
     exact hJ _ _ ⟨m+1,by omega,rfl,w⟩ (by omega)
   ·refine cf (by rw [beq_eq_false_iff_ne]; omega) ?_
    refine cf rfl ?_
    rw [cl_same r m hlt (by unfold clB; rw [if_neg h3,if_neg (by omega)])] at w
    refine M.vis _ v1 ?_
    exact hJ _ _ ⟨m+1,by omega,rfl,w⟩ (by omega)
 ·refine cdf (by omega) ?_
  obtain rfl:m=16:=by omega
  have e:((List.range 16).map fun i=>if i<16 then clB (byteAt r i) i else byteAt r i)=(List.range 16).map fun i=>clB (byteAt r i) i:=List.map_congr_left fun i hi=>if_pos (List.mem_range.1 hi)
  rw [e] at w
  exact w.textB 0 rfl (k _ w.keep)
theorem or0 {a b:Int} (ha:0≤a∧a<256) (hb:0≤b∧b<256):0≤bOr .u8 a b∧bOr .u8 a b<256∧(bOr .u8 a b=0↔a=0∧b=0):=by
 have e:∀ x:Int,0≤x∧x<256→(BitVec.ofInt 8 x).toNat=x.toNat:=fun x h=>by rw [BitVec.toNat_ofInt]; omega
 have h1:(BitVec.ofInt 8 a ||| BitVec.ofInt 8 b).toNat=a.toNat ||| b.toNat:=by rw [BitVec.toNat_or,e a ha,e b hb]
 have h2:bOr .u8 a b=((a.toNat ||| b.toNat:Nat):Int):=by
  show IntKind.wrap .u8 ((BitVec.ofInt 8 a ||| BitVec.ofInt 8 b).toNat:Int)=_
  have:a.toNat ||| b.toNat<2 ^ 8:=Nat.or_lt_two_pow (by omega) (by omega)
  rw [h1,IntKind.wrap_u8]; omega
 have h3:a.toNat ||| b.toNat<2 ^ 8:=Nat.or_lt_two_pow (by omega) (by omega)
 rw [h2]
 refine ⟨by omega,by omega,?_⟩
 constructor
 ·intro h
  have:a.toNat ||| b.toNat=0:=by omega
  rw [Nat.or_eq_zero_iff] at this
  omega
 ·rintro ⟨rfl,rfl⟩; rfl
theorem bx0 {a b:Int} (ha:0≤a∧a<256) (hb:0≤b∧b<256):bx a b=0↔a=b:=by
 rw [bx_nat ha hb]
 constructor
 ·intro h
  have:a.toNat ^^^ b.toNat=0:=by omega
  have:=congrArg (· ^^^ b.toNat) this
  simp only [Nat.xor_assoc,Nat.xor_self,Nat.xor_zero,Nat.zero_xor] at this
  omega
 ·rintro rfl
  rw [Nat.xor_self]; rfl
theorem Equal_spec {Q:Bool→H→Prop} (hs:a.size≤1000000) (k:Q (decide (a=b)) h):poly_Equal a b h Q:=by
 unfold poly_Equal
 refine cc (fun e=>?_) fun e=>?_
 ·rw [bne_iff_ne] at e
  have:¬ a=b:=fun e2=>e (by rw [e2])
  rwa [decide_eq_false this] at k
 ·rw [bne_eq_false_iff_eq] at e
  refine M.jn ?_
  refine M.loop_of (I:=fun (p:Int × Int) h'=>h'=h∧∃ m:Nat,m≤a.size∧p.2=(m:Int)∧0≤p.1∧p.1<256∧(p.1=0↔∀ i,i<m→byteAt a i=byteAt b i)) (μ:=fun p=>(a.size-p.2).toNat) ⟨rfl,0,by omega,rfl,by decide,by decide,by simp⟩ ?_
  rintro ⟨d,_⟩ h2 J ⟨rfl,m,hm,rfl,d0,d1,hd⟩ hJ
  simp only at d0 d1 hd ⊢
  by_cases hlt:m<a.size
  ·refine cdt (by omega) ⟨by omega,by omega,⟨by omega,by omega,M.vin (M.vin (M.vis ((m+1:Nat):Int) (by rw [IntKind.wrap_i64]; omega) ?_))⟩⟩
   rw [Int.toNat_natCast]
   have ha:=byteAt_lt a m
   have hb:=byteAt_lt b m
   have hx:bXor .u8 (byteAt a m) (byteAt b m)=bx (byteAt a m) (byteAt b m):=rfl
   rw [hx]
   obtain ⟨o1,o2,o3⟩:=or0 ⟨d0,d1⟩ (bx_lt (byteAt a m) (byteAt b m))
   refine hJ _ _ ⟨rfl,m+1,by omega,rfl,o1,o2,?_⟩ (by simp only; omega)
   simp only
   rw [o3,hd,bx0 ha hb]
   constructor
   ·rintro ⟨h1,h2⟩ i hi
    by_cases hi2:i=m
    ·subst hi2; exact h2
    ·exact h1 i (by omega)
   ·exact fun h=>⟨fun i hi=>h i (by omega),h m (by omega)⟩
  ·refine cdf (by omega) ?_
   obtain rfl:m=a.size:=by omega
   have:(d == 0)=decide (a=b):=by
    rw [Bool.eq_iff_iff,beq_iff_eq,decide_eq_true_iff,hd]
    constructor
    ·exact fun h=>text_eq (by omega) h
    ·rintro rfl i hi; rfl
   rw [this]; exact k
end
end Go.Proofs.YthegnmanjdlmjaaGreatDoor
namespace Go.Proofs.YthegnmanjdlmjaaGreatDoor
open Go.Sh Go.RowKit
def chunkN (s:ByteArray) (j:Nat):Nat:=leN (s.extract (16*j) s.size) (min 16 (s.size-16*j))+256 ^ (min 16 (s.size-16*j))
def accN (r:Nat) (s:ByteArray):Nat→Nat
 | 0=>0
 | j+1=>(accN r s j+chunkN s j)*r % L5.P
def tagT (key s:ByteArray):ByteArray:=leT (accN (leN (clampT (key.extract 0 16)) 16) s ((s.size+15) / 16)+leN (key.extract 16 32) 16)
theorem tagT_size (key s:ByteArray):(tagT key s).size=16:=byT_size _ _
theorem accN_lt (r:Nat) (s:ByteArray) (j:Nat):accN r s j<L5.P:=by
 cases j with
 | zero=>exact (by decide:0<L5.P)
 | succ j=>exact Nat.mod_lt _ (by decide)
theorem leN_congr {s t:ByteArray}:∀ n,(∀ i,i<n→byteAt s i=byteAt t i)→leN s n=leN t n
 | 0,_=>rfl
 | n+1,h=>by rw [leN,leN,leN_congr n fun i hi=>h i (by omega),h n (by omega)]
theorem leN_tail (t:ByteArray) (n:Nat):∀ k,(∀ i,n<i→i<n+k→byteAt t i=0)→0<k→leN t (n+k)=leN t n+(byteAt t n).toNat * 256 ^ n
 | 0,_,h=>by omega
 | 1,_,_=>rfl
 | k+2,h,_=>by
  have e:=h (n+(k+1)) (by omega) (by omega)
  show leN t (n+(k+1))+(byteAt t (n+(k+1))).toNat * _ = _
  rw [leN_tail t n (k+1) (fun i h1 h2=>h i h1 (by omega)) (by omega),e]
  simp
def laidB (s:ByteArray) (n i:Nat):Int:=if i<n then byteAt s i else if i=n then 1 else 0
theorem laidB_lt (s:ByteArray) (n i:Nat):0≤laidB s n i∧laidB s n i<256:=by
 unfold laidB
 have:=byteAt_lt s i
 split
 ·exact this
 ·split <;> decide
theorem laid_num (s:ByteArray) (n:Nat) (hn:n≤16):leN (byT 16 (laidB s n)) 16+(laidB s n 16).toNat * 340282366920938463463374607431768211456=leN s n+256 ^ n:=by
 have hb:∀ i,i<16→byteAt (byT 16 (laidB s n)) i=laidB s n i:=fun i hi=>byteAt_byT _ _ _ hi (laidB_lt s n i)
 have h1:leN (byT 16 (laidB s n)) n=leN s n:=leN_congr n fun i hi=>by rw [hb i (by omega),laidB,if_pos hi]
 by_cases h:n=16
 ·subst h
  have:laidB s 16 16=1:=rfl
  rw [h1,this]; rfl
 ·have e16:laidB s n 16=0:=by rw [laidB,if_neg (by omega),if_neg (by omega)]
  have en:byteAt (byT 16 (laidB s n)) n=1:=by rw [hb n (by omega),laidB,if_neg (by omega),if_pos rfl]
  have ht:=leN_tail (byT 16 (laidB s n)) n (16-n) (fun i h2 h3=>by rw [hb i (by omega),laidB,if_neg (by omega),if_neg (by omega)]) (by omega)
  rw [show n+(16-n)=16 by omega,h1,en] at ht
  rw [ht,e16]; simp
theorem splice_bytes (n:Nat) (hn:n≤17) (f:Nat→Int):splice (Array.replicate 17 (Value.int .u8 0)) 0 (bvs ((List.range n).map f))=(bvs ((List.range 17).map fun i=>if i<n then f i else 0)).toArray:=by
 apply Array.ext_getElem?
 intro i
 rw [splice_get _ _ _ (by simp [bvs_len]; omega)]
 simp only [bvs,List.map_map,List.length_map,List.length_range,Nat.zero_le,true_and,Nat.zero_add,Nat.sub_zero,List.getElem?_toArray,List.getElem?_map]
 by_cases h1:i<n
 ·rw [if_pos h1,List.getElem?_range h1,List.getElem?_range (by omega)]
  simp [h1]
 ·rw [if_neg h1,Array.getElem?_replicate]
  by_cases h2:i<17
  ·rw [if_pos h2,List.getElem?_range h2]
   simp [h1]
  ·rw [if_neg h2,List.getElem?_eq_none (by rw [List.length_range]; omega)]; rfl
theorem bvs_set (zs:List Int) (i:Nat) (x:Int):(bvs zs).toArray.setIfInBounds i (.int .u8 x)=(bvs (zs.set i x)).toArray:=by
 rw [List.setIfInBounds_toArray,bvs,bvs,List.map_set]
theorem laid_set (t:ByteArray) (n:Nat) (hn:n≤16):((List.range 17).map fun i=>if i<n then byteAt t i else 0).set n 1=(List.range 17).map (laidB t n):=by
 rw [set_map_range]
 apply List.map_congr_left
 intro i hi
 unfold laidB
 by_cases h1:i=n
 ·subst h1; rw [if_pos rfl,if_neg (by omega),if_pos rfl]
 ·rw [if_neg h1]
  by_cases h2:i<n
  ·rw [if_pos h2,if_pos h2]
  ·rw [if_neg h2,if_neg h2,if_neg h1]
theorem laid_text (t:ByteArray) (n:Nat):ofBytes ((((List.range 17).map (laidB t n)).drop 0).take 16)=byT 16 (laidB t n):=by rfl
theorem laid_16 (t:ByteArray) (n:Nat):(bvs ((List.range 17).map (laidB t n)))[16]? = some (.int .u8 (laidB t n 16)):=by rfl
theorem laid_q (t:ByteArray) (n:Nat):IntKind.wrap .u64 (laidB t n 16)=q64 (laidB t n 16).toNat:=by
 have:=laidB_lt t n 16
 rw [IntKind.wrap_u64,q64]; omega
theorem laid_le (t:ByteArray) (n:Nat) (h:n≤16):(laidB t n 16).toNat≤1:=by
 unfold laidB
 rw [if_neg (by omega)]
 split <;> decide
theorem mul_lt {x r:L5} (hx:x.Lt 268435456) (hr:r.Lt 67108864):(x.mul r).Lt 4611686018427387904:=by
 obtain ⟨x1,x2,x3,x4,x5⟩:=hx
 obtain ⟨r1,r2,r3,r4,r5⟩:=hr
 have m:∀ a b:Nat,a<268435456→b<67108864→a*b≤18014398509481984:=fun a b ha hb=>Nat.mul_le_mul (Nat.le_of_lt ha) (Nat.le_of_lt hb)
 refine ⟨?_,?_,?_,?_,?_⟩ <;> simp only [L5.mul]
 ·have:=m _ _ x1 r1; have:=m _ _ x2 r5; have:=m _ _ x3 r4; have:=m _ _ x4 r3; have:=m _ _ x5 r2; omega
 ·have:=m _ _ x1 r2; have:=m _ _ x2 r1; have:=m _ _ x3 r5; have:=m _ _ x4 r4; have:=m _ _ x5 r3; omega
 ·have:=m _ _ x1 r3; have:=m _ _ x2 r2; have:=m _ _ x3 r1; have:=m _ _ x4 r5; have:=m _ _ x5 r4; omega
 ·have:=m _ _ x1 r4; have:=m _ _ x2 r3; have:=m _ _ x3 r2; have:=m _ _ x4 r1; have:=m _ _ x5 r5; omega
 ·have:=m _ _ x1 r5; have:=m _ _ x2 r4; have:=m _ _ x3 r3; have:=m _ _ x4 r2; have:=m _ _ x5 r1; omega
def L5.add (x y:L5):L5:=⟨x.a+y.a,x.b+y.b,x.c+y.c,x.d+y.d,x.e+y.e⟩
theorem add_val (x y:L5):(x.add y).val=x.val+y.val:=by simp only [L5.add,L5.val]; omega
section
variable {h:H} {key s:ByteArray}
theorem polySum_spec {Q:ByteArray→Int→H→Prop} (hk:key.size=32) (hs:s.size≤65536) (k:∀ h',Keep h h'→Q (tagT key s) 0 h'):poly_Sum key s h Q:=by
 unfold poly_Sum poly_Sum.g
 refine cf (by rw [hk]; rfl) (cdf (by omega) ⟨by omega,by omega,by omega,?_⟩)
 unfold tagT at k
 have hk1:(key.extract (Int.toNat 0) (Int.toNat 16)).size=16:=by rw [ByteArray.size_extract]; simp; omega
 refine Clamp_spec hk1 fun h1 k1=>?_
 have hcs:(clampT (key.extract (Int.toNat 0) (Int.toNat 16))).size=16:=byT_size _ _
 refine of_spec (ab:=0) hcs (by omega) fun h2 r hr hrv k2=>?_
 have w:=(Wd.start h).keeps (k1.trans k2)
 refine M.new_w w fun b4 h3 w=>?_
 refine ⟨(rfl),?_⟩
 refine M.puts_w0 w 0 rfl (by simp [isPlainCell]) (by simp) fun h5 w=>?_
 simp only [bs] at w
 refine M.new_w w fun b7 h6 w=>?_
 have w:Wd h _ [.blk b4 r.o,.blk b7 (L5.o ⟨0,0,0,0,0⟩)]:=w
 have hR:leN (clampT (key.extract 0 16)) 16=r.val:=by
  have:r.val=leN (clampT (key.extract (Int.toNat 0) (Int.toNat 16))) 16+0*340282366920938463463374607431768211456:=hrv
  rw [this,Nat.zero_mul,Nat.add_zero]; rfl
 rw [hR] at k
 clear hrv hR k1 k2 hk1 hcs
 refine M.jn ?_
 refine M.loop_of (I:=fun (t:ByteArray) h'=>∃ j m x,m=min (16*j) s.size∧t=s.extract m s.size∧j≤(s.size+15) / 16∧L5.Lt x 134217728∧x.val % L5.P=accN r.val s j∧Wd h h' [.blk b4 r.o,.blk b7 x.o]) (μ:=fun t=>t.size) ⟨0,0,⟨0,0,0,0,0⟩,by omega,ByteArray.extract_zero_size.symm,by omega,⟨by decide,by decide,by decide,by decide,by decide⟩,rfl,w⟩ ?_
 clear w
 rintro _ h2 J ⟨j,m,x,hm,rfl,hj,hx,hxv,w⟩ hJ
 have hts:(s.extract m s.size).size=s.size-m:=by rw [ByteArray.size_extract]; omega
 by_cases hlt:m<s.size
 ·refine cdt (by omega) ?_
  obtain rfl:m=16*j:=by omega
  generalize ht:s.extract (16*j) s.size=t at *
  obtain ⟨n,hn⟩:∃ n,min 16 (s.size-16*j)=n:=⟨_,rfl⟩
  have hch:chunkN s j=leN t n+256 ^ n:=by rw [chunkN,ht,hn]
  have emn:mn (t.size:Int) 16=(n:Int):=by rw [hts,←hn,Nat.min_comm]; exact mn_nat _ 16
  have ebs:bytesOf ((t.extract (Int.toNat 0) n).extract 0 (min (t.extract (Int.toNat 0) n).size 17))=bvs ((List.range n).map (byteAt t)):=by
   have hsz:(t.extract (Int.toNat 0) n).size=n:=by rw [ByteArray.size_extract,hts]; show min n _ - 0=n; omega
   rw [hsz,Nat.min_eq_left (by omega)]
   have e1:(t.extract (Int.toNat 0) n).extract 0 n=t.extract 0 n:=by
    show (t.extract 0 n).extract 0 n=_
    rw [ByteArray.extract_extract]; congr 1; omega
   have e2:(t.extract 0 n).size=n:=hsz
   rw [e1,bytesOf_row _ n e2,←bvs_row,List.map_congr_left fun i hi=>byteAt_ext t 0 n i (by have:=List.mem_range.1 hi; omega) (by omega)]
   simp
  rw [emn]
  refine M.new_w w fun b5 h4 w=>?_
  refine M.sub_in 0 17 rfl rfl (by decide) (by decide) (by decide) ?_
  simp only [Nat.reduceAdd,Nat.reduceMul,Nat.reduceSub]
  refine ⟨(by omega),(by omega),(by omega),?_⟩
  simp only [Int.toNat_natCast,ebs]
  refine M.copy_w w 2 rfl (bvs_plain _) (by simp [bvs_len]; omega) fun h3 w=>?_
  simp only [bs] at w
  rw [splice_bytes n (by omega)] at w
  refine ⟨by omega,by omega,?_⟩
  simp only [bs,Int.toNat_natCast]
  rw [Nat.mul_one]
  refine M.put_w w 2 rfl rfl (by simp [bvs_len]; omega) fun h4 w=>?_
  rw [bvs_set,laid_set t n (by omega)] at w
  simp only [bs] at w
  refine ⟨(by omega),(by omega),(by omega),?_⟩
  refine M.join_of (fun d h'=>∃ y,L5.Lt y 67108864∧y.val=chunkN s j∧d=((q64 y.a,q64 y.b,q64 y.c,q64 y.d,q64 y.e),0)∧Wd h h' [.blk b4 r.o,.blk b7 x.o]) (fun J2 hJ2=>?_) ?_
  ·have g16:=laid_16 t n
   have gq:=laid_q t n
   refine M.sub_in 0 16 rfl rfl (by decide) (by decide) (by decide) ?_
   simp only [Nat.reduceAdd,Nat.reduceMul,Nat.reduceSub]
   refine ⟨(by omega),(by omega),?_⟩
   simp only [bs,Nat.reduceMul,Int.reduceToNat,g16,gq,lb (w.blk 2 rfl)]
   refine ⟨?_,?_⟩
   rotate_left
   refine M.vin ?_
   rotate_left
   ·refine M.b2s_at (w.blk 2 rfl) (by simp) ?_
    rw [laid_text]
    refine ⟨fun _ _=>rfl,M.vin ?_⟩
    refine of_spec (byT_size _ _) (laid_le t n (by omega)) fun h5 y hy hyv k5=>?_
    exact hJ2 _ _ ⟨y,hy,by rw [hyv,laid_num t n (by omega),hch],rfl,(w.keeps k5).drop (i:=2) rfl⟩
   ·refine M.b2s_at (w.blk 2 rfl) (by simp) ?_
    rw [laid_text]
    refine ⟨fun _ _=>rfl,?_⟩
    refine of_spec (byT_size _ _) (laid_le t n (by omega)) fun h5 y hy hyv k5=>?_
    exact hJ2 _ _ ⟨y,hy,by rw [hyv,laid_num t n (by omega),hch],rfl,(w.keeps k5).drop (i:=2) rfl⟩
  clear w
  rintro _ h5 ⟨y,hy,hyv,rfl,w⟩
  unfold L5.o at w
  refine M.times 6 ?_
  refine M.iter_s ?_
  simp only []
  refine cdt (by omega) ?_
  refine ⟨(by omega),(by omega),?_⟩
  simp only []
  simp only [bs,Int.reduceToNat,lb (w.blk 1 rfl)]
  refine ⟨(by omega),(by omega),?_⟩
  simp only []
  simp only [bs,Int.reduceToNat,add_q]
  refine M.vin ?_
  refine ⟨(by omega),(by omega),?_⟩
  simp only []
  simp only [bs,Int.reduceToNat]
  refine M.put_w w 1 rfl rfl (by simp) fun h8 w=>?_
  simp only [bs] at w
  refine M.vis (1) (by decide) ?_
  refine M.iter_s ?_
  refine cdt (by omega) ?_
  refine ⟨(by omega),(by omega),?_⟩
  simp only []
  simp only [bs,Int.reduceToNat,lb (w.blk 1 rfl)]
  refine ⟨(by omega),(by omega),?_⟩
  simp only []
  simp only [bs,Int.reduceToNat,add_q]
  refine M.vin ?_
  refine ⟨(by omega),(by omega),?_⟩
  simp only []
  simp only [Nat.reduceMul,Int.reduceToNat]
  refine M.put_w w 1 rfl rfl (by simp) fun h10 w=>?_
  simp only [bs] at w
  refine M.vis (2) (by decide) ?_
  refine M.iter_s ?_
  refine cdt (by omega) ?_
  refine ⟨(by omega),(by omega),?_⟩
  simp only []
  simp only [bs,Int.reduceToNat,lb (w.blk 1 rfl)]
  refine ⟨(by omega),(by omega),?_⟩
  simp only []
  simp only [bs,Int.reduceToNat,add_q]
  refine M.vin ?_
  refine ⟨(by omega),(by omega),?_⟩
  simp only []
  simp only [Nat.reduceMul,Int.reduceToNat]
  refine M.put_w w 1 rfl rfl (by simp) fun h12 w=>?_
  simp only [bs] at w
  refine M.vis (3) (by decide) ?_
  refine M.iter_s ?_
  refine cdt (by omega) ?_
  refine ⟨(by omega),(by omega),?_⟩
  simp only []
  simp only [bs,Int.reduceToNat,lb (w.blk 1 rfl)]
  refine ⟨(by omega),(by omega),?_⟩
  simp only []
  simp only [bs,Int.reduceToNat,add_q]
  refine M.vin ?_
  refine ⟨(by omega),(by omega),?_⟩
  simp only []
  simp only [Nat.reduceMul,Int.reduceToNat]
  refine M.put_w w 1 rfl rfl (by simp) fun h14 w=>?_
  simp only [bs] at w
  refine M.vis (4) (by decide) ?_
  refine M.iter_s ?_
  refine cdt (by omega) ?_
  refine ⟨(by omega),(by omega),?_⟩
  simp only []
  simp only [bs,Int.reduceToNat,lb (w.blk 1 rfl)]
  refine ⟨(by omega),(by omega),?_⟩
  simp only []
  simp only [bs,Int.reduceToNat,add_q]
  refine M.vin ?_
  refine ⟨(by omega),(by omega),?_⟩
  simp only []
  simp only [Nat.reduceMul,Int.reduceToNat]
  refine M.put_w w 1 rfl rfl (by simp) fun h16 w=>?_
  simp only [bs] at w
  refine M.vis (5) (by decide) ?_
  refine M.iter_s ?_
  refine cdf (by omega) ?_
  simp only [bs,lb (w.blk 0 rfl)]
  have w:Wd h _ [.blk b4 r.o,.blk b7 (x.add y).o]:=w
  have hxy:(x.add y).Lt 268435456:=⟨by have:=hx.a; have:=hy.a; simp only [L5.add]; omega,by have:=hx.b; have:=hy.b; simp only [L5.add]; omega,by have:=hx.c; have:=hy.c; simp only [L5.add]; omega,by have:=hx.d; have:=hy.d; simp only [L5.add]; omega,by have:=hx.e; have:=hy.e; simp only [L5.add]; omega⟩
  have hm:=mul_lt hxy hr
  obtain ⟨hx1,k0,k1,wx,wr,back⟩:=w.on (i:=1) rfl
  refine times_spec wx fun h9 w1=>?_
  have w:=back _ _ w1
  refine hJ _ _ ⟨j+1,16*j+n,_,by omega,?_,by omega,(L5.carry_lt hm).1,?_,w⟩ ?_
  ·subst ht
   show (s.extract (16*j) s.size).extract n ((s.extract (16*j) s.size).size:Int).toNat=_
   have e:min (16*j+(s.size-16*j)) s.size=s.size:=by omega
   rw [Int.toNat_natCast,hts,ByteArray.extract_extract,e]
  ·obtain ⟨q,hq⟩:=L5.mul_val (x.add y) r
   have hc:=L5.carry_val hm
   rw [accN,←hxv]
   have e1:((x.add y).mul r).carry.val % L5.P=(x.add y).val*r.val % L5.P:=by rw [←hq,←hc,Nat.add_assoc,←Nat.add_mul,Nat.add_mul_mod_self_right]
   rw [e1,add_val,hyv,Nat.mul_mod (x.val % L5.P+chunkN s j),Nat.mod_add_mod,←Nat.mul_mod]
  ·show ((t.extract n (t.size:Int).toNat)).size<t.size
   rw [Int.toNat_natCast,ByteArray.size_extract]; omega
 ·refine cdf (by omega) ?_
  obtain rfl:m=s.size:=by omega
  have hje:j=(s.size+15) / 16:=by omega
  obtain ⟨hx1,k0,k1,wx,wr,back⟩:=w.on (i:=1) rfl
  refine least_spec wx (hx.mono (by decide)) fun h3 y hy hyv w1=>?_
  have w:=back _ _ w1
  unfold L5.o at w
  have h16:(key.extract (Int.toNat 16) (key.size:Int).toNat).size=16:=by rw [ByteArray.size_extract,hk]; rfl
  simp only [bs,lb (w.blk 1 rfl)]
  refine ⟨(by omega),(by omega),(by omega),?_⟩
  refine plus_spec h16 hy fun h4 k4=>?_
  have:=k _ (w.keep.trans k4)
  rw [←hje,←hxv,←hyv] at this
  rw [hk]
  exact this
end
end Go.Proofs.YthegnmanjdlmjaaGreatDoor
namespace Go.Proofs.YthegnmanjdlmjaaGreatDoor
open Go.Sh Go.RowKit
def padA (s:ByteArray):ByteArray:=s++zerosT ((16-s.size % 16) % 16)
def lenA (a b:ByteArray):ByteArray:=textOf false [BitVec.ofNat 32 a.size,BitVec.ofNat 32 (a.size / 4294967296),BitVec.ofNat 32 b.size,BitVec.ofNat 32 (b.size / 4294967296)]
def tagA (key nonce wi se:ByteArray):ByteArray:=tagT ((blockT key nonce 0).extract 0 32) (((padA wi)++(padA se))++lenA wi se)
def sealA (key nonce wi pl:ByteArray):ByteArray:=cryptT key nonce 1 pl++tagA key nonce wi (cryptT key nonce 1 pl)
theorem padA_size (s:ByteArray):(padA s).size=s.size+(16-s.size % 16) % 16:=by rw [padA,ByteArray.size_append,zerosT_size]
theorem lenA_size (a b:ByteArray):(lenA a b).size=16:=by rw [lenA,textOf_size]; rfl
theorem tagA_size (key nonce wi se:ByteArray):(tagA key nonce wi se).size=16:=tagT_size _ _
theorem sealA_size (key nonce wi pl:ByteArray):(sealA key nonce wi pl).size=pl.size+16:=by rw [sealA,ByteArray.size_append,cryptT_size,tagA_size]
section
variable {h:H} {key nonce wi se pl s:ByteArray}
theorem pad_spec {Q:ByteArray→H→Prop} (hs:s.size≤65536) (k:∀ h',Keep h h'→Q (padA s) h'):aead_pad s h Q:=by
 unfold aead_pad aead_pad.g
 have w:=Wd.start h
 have v1:Int.tmod (s.size:Int) 16=((s.size % 16:Nat):Int):=by rw [Int.tmod_eq_emod_of_nonneg (by omega)]; omega
 have v2:IntKind.wrap .i64 (16-((s.size % 16:Nat):Int))=((16-s.size % 16:Nat):Int):=by rw [IntKind.wrap_i64]; omega
 have v3:Int.tmod ((16-s.size % 16:Nat):Int) 16=(((16-s.size % 16) % 16:Nat):Int):=by rw [Int.tmod_eq_emod_of_nonneg (by omega)]; omega
 refine ⟨(by omega),?_⟩
 simp only [v1]
 refine M.vin ?_
 simp only [v2]
 refine M.vin ?_
 refine ⟨(by omega),?_⟩
 simp only [v3]
 refine M.vin ?_
 refine Rep0_spec (by omega) (by omega) fun h1 k_=>?_
 have w:=w.keeps k_
 clear k_
 refine ⟨(by simp [v1,v2,v3,Int.toNat_natCast,zerosT_size]; omega),?_⟩
 simp only [Int.toNat_natCast]
 exact k _ w.keep
theorem len_w (s:ByteArray) (hs:s.size≤65536):IntKind.wrap .u32 (IntKind.wrap .u64 (s.size:Int))=ui (BitVec.ofNat 32 s.size)∧IntKind.wrap .u32 (shr .u64 (IntKind.wrap .u64 (s.size:Int)) 32)=ui (BitVec.ofNat 32 (s.size / 4294967296)):=by
 have e:IntKind.wrap .u64 (s.size:Int)=q64 s.size:=by rw [IntKind.wrap_u64,q64]; omega
 rw [e,wrap32_q,shr32_q,wrap32_q,Nat.mod_eq_of_lt (show s.size<18446744073709551616 by omega)]
 exact ⟨rfl,rfl⟩
theorem lengths_spec {a:Option Addr} {c:Nat} {Q:ByteArray→H→Prop} (f:Ro eS h a 2 [wi,se]) (hw:wi.size≤65536) (hs:se.size≤65536) (k:∀ h',Keep h h'→Q (lenA wi se) h'):aead_lengths a 2 c h Q:=by
 unfold aead_lengths aead_lengths.g
 obtain ⟨a1,a2⟩:=len_w wi hw
 obtain ⟨b1,b2⟩:=len_w se hs
 have g0:sa [wi,se] (Int.toNat 0)=wi:=rfl
 have g1:sa [wi,se] (Int.toNat 1)=se:=rfl
 have w:=(Wd.start h).nilsl 178 1
 refine M.jn (M.times 3 ?_)
 refine M.iter_s ?_
 simp only []
 refine cdt (by omega) ?_
 refine Ro.ldS f (by omega) (by omega) ?_
 simp only [g0]
 refine M.vin ?_
 simp only [a1]
 refine M.vin ?_
 refine ⟨(by omega),?_⟩
 refine M.vin ?_
 simp only [a2]
 refine M.vin ?_
 refine Wd.push w 0 rfl rfl rfl (by simp [isPlainCell]) (by omega) (by omega) fun a8 c9 h6 w=>?_
 refine M.vis (1) (by decide) ?_
 refine M.iter_s ?_
 simp only []
 refine cdt (by omega) ?_
 refine Ro.ldS (f.keep w.keep) (by omega) (by omega) ?_
 simp only [g1]
 refine M.vin ?_
 simp only [b1]
 refine M.vin ?_
 refine ⟨(by omega),?_⟩
 refine M.vin ?_
 simp only [b2]
 refine M.vin ?_
 refine Wd.push w 0 rfl rfl rfl (by simp [isPlainCell]) (by omega) (by omega) fun a15 c16 h13 w=>?_
 refine M.vis (2) (by decide) ?_
 refine M.iter_s ?_
 simp only []
 refine cdf (by omega) ?_
 have w:Wd h _ [.sl 178 1 _ 4 _ (uvs [BitVec.ofNat 32 wi.size,BitVec.ofNat 32 (wi.size / 4294967296),BitVec.ofNat 32 se.size,BitVec.ofNat 32 (se.size / 4294967296)])]:=w
 refine FromLittle_spec (words_of w 0 rfl (by simp)) fun h2 k2=>?_
 exact k _ (w.keep.trans k2)
theorem tag_spec {Q:ByteArray→H→Prop} (hk:key.size=32) (hn:nonce.size=12) (hw:wi.size≤16384) (hs:se.size≤16384) (k:∀ h',Keep h h'→Q (tagA key nonce wi se) h'):aead_tag key nonce wi se h Q:=by
 unfold aead_tag aead_tag.g
 have e0:(0:Int)=ui 0:=rfl
 have p1:=padA_size wi
 have p2:=padA_size se
 have hbs:((blockT key nonce 0).extract (Int.toNat 0) (Int.toNat 32)).size=32:=by rw [ByteArray.size_extract,blockT_size]; rfl
 have hb0:=blockT_size key nonce 0
 have et:tagA key nonce wi se=tagT ((blockT key nonce 0).extract (Int.toNat 0) (Int.toNat 32)) (padA wi++padA se++lenA wi se):=by simp only [tagA,Int.reduceToNat]
 have e00:ui 0=0:=rfl
 generalize hB:blockT key nonce 0=B at *
 refine Block_spec (c:=0) hk hn fun h1 k1=>?_
 rw [hB]
 have w:=(Wd.start h).keeps k1
 refine M.join_of (fun d h'=>d=tagA key nonce wi se∧Keep h h') (fun J hJ=>?_) (by rintro _ h2 ⟨rfl,k2⟩; exact k _ k2)
 have lsp:∀ {h2:H} {b:Nat} {f:Nat × Nat} {Q:ByteArray→H→Prop},h2 b=some (.cells #[.string wi,.string se] 9 f)→(∀ h',Keep h2 h'→Q (lenA wi se) h')→aead_lengths (some ⟨b,0,none⟩) 2 2 h2 Q:=fun hb q=>lengths_spec (Ro.of_blk hb rfl rfl) (by omega) (by omega) q
 refine ⟨(by omega),(by omega),(by omega),?_⟩
 simp only []
 refine ⟨?_,?_⟩
 refine pad_spec (by omega) fun h2 k_=>?_
 have w:=w.keeps k_
 clear k_
 refine ⟨?_,?_⟩
 refine pad_spec (by omega) fun h3 k_=>?_
 have w:=w.keeps k_
 clear k_
 refine ⟨(by simp; omega),?_⟩
 refine M.new_w w fun b5 h4 w=>?_
 refine lsp (w.blk 0 rfl) fun h6 k_=>?_
 have w:=w.keeps k_
 clear k_
 refine ⟨(by simp [p1,p2,lenA_size]; omega),?_⟩
 simp only []
 refine polySum_spec (by assumption) (by simp [p1,p2,lenA_size]; omega) fun h8 k_=>?_
 have w:=w.keeps k_
 clear k_
 rotate_left
 refine M.new_w w fun b10 h9 w=>?_
 refine pad_spec (by omega) fun h11 k_=>?_
 have w:=w.keeps k_
 clear k_
 refine ⟨(by simp; omega),?_⟩
 simp only []
 refine lsp (w.blk 0 rfl) fun h13 k_=>?_
 have w:=w.keeps k_
 clear k_
 refine ⟨(by simp [p1,p2,lenA_size]; omega),?_⟩
 simp only []
 refine polySum_spec (by assumption) (by simp [p1,p2,lenA_size]; omega) fun h15 k_=>?_
 have w:=w.keeps k_
 clear k_
 rotate_left
 refine M.new_w w fun b17 h16 w=>?_
 refine pad_spec (by omega) fun h18 k_=>?_
 have w:=w.keeps k_
 clear k_
 refine pad_spec (by omega) fun h19 k_=>?_
 have w:=w.keeps k_
 clear k_
 refine ⟨(by simp; omega),?_⟩
 simp only []
 refine lsp (w.blk 0 rfl) fun h21 k_=>?_
 have w:=w.keeps k_
 clear k_
 refine ⟨(by simp [p1,p2,lenA_size]; omega),?_⟩
 simp only []
 refine polySum_spec (by assumption) (by simp [p1,p2,lenA_size]; omega) fun h23 k_=>?_
 have w:=w.keeps k_
 clear k_
 rotate_left
 all_goals exact hJ _ _ ⟨et.symm,w.keep⟩
theorem aShape_spec {Q:Bool→H→Prop} (hk:key.size=32) (hn:nonce.size=12) (k:Q true h):aead_shape key nonce h Q:=by
 unfold aead_shape
 refine M.jn ?_
 refine ct (by rw [hk]; rfl) ?_
 rw [hn]
 exact k
theorem Seal_spec {Q:ByteArray→Int→H→Prop} (hk:key.size=32) (hn:nonce.size=12) (hw:wi.size≤16384) (hp:pl.size≤16384) (k:∀ h',Keep h h'→Q (sealA key nonce wi pl) 0 h'):aead_Seal key nonce wi pl h Q:=by
 unfold aead_Seal aead_Seal.g
 have w:=Wd.start h
 have e1:(1:Int)=ui 1:=rfl
 have p1:=cryptT_size key nonce 1 pl
 have p2:=tagA_size key nonce wi (cryptT key nonce 1 pl)
 refine aShape_spec (by assumption) (by assumption) ?_
 refine cf (rfl) ?_
 refine M.jn (cdf (by omega) (cdf (by omega) ?_))
 refine Crypt_spec (c:=1) hk hn (by omega) fun h2 k2=>?_
 have w:=w.keeps k2
 refine tag_spec (by assumption) (by assumption) (by assumption) (by omega) fun h1 k_=>?_
 have w:=w.keeps k_
 clear k_
 refine ⟨(by simp only [szs,p1,p2]; omega),?_⟩
 simp only []
 exact k _ w.keep
def openA (key nonce wi c:ByteArray):ByteArray × Int:=
 if c.size<16 then (ByteArray.empty,3)
 else if tagA key nonce wi (c.extract 0 (c.size-16))=c.extract (c.size-16) c.size then (cryptT key nonce 1 (c.extract 0 (c.size-16)),0) else (ByteArray.empty,23)
theorem openA_short {key nonce wi c:ByteArray} (h:c.size<16):openA key nonce wi c=(ByteArray.empty,3):=by unfold openA; exact if_pos h
theorem openA_ok {key nonce wi c:ByteArray} (h:¬ c.size<16) (e:tagA key nonce wi (c.extract 0 (c.size-16))=c.extract (c.size-16) c.size):openA key nonce wi c=(cryptT key nonce 1 (c.extract 0 (c.size-16)),0):=by unfold openA; exact (if_neg h).trans (if_pos e)
theorem openA_bad {key nonce wi c:ByteArray} (h:¬ c.size<16) (e:¬ tagA key nonce wi (c.extract 0 (c.size-16))=c.extract (c.size-16) c.size):openA key nonce wi c=(ByteArray.empty,23):=by unfold openA; exact (if_neg h).trans (if_neg e)
theorem Open_spec {Q:ByteArray→Int→H→Prop} (hk:key.size=32) (hn:nonce.size=12) (hw:wi.size≤16384) (hs:s.size≤16384) (k:∀ h',Keep h h'→Q (openA key nonce wi s).1 (openA key nonce wi s).2 h'):aead_Open key nonce wi s h Q:=by
 unfold aead_Open aead_Open.g
 have w:=Wd.start h
 have v1:IntKind.wrap .i64 ((s.size:Int)-16)=(s.size:Int)-16:=by rw [IntKind.wrap_i64]; omega
 refine M.vis _ v1 ?_
 refine aShape_spec hk hn ?_
 refine cf rfl ?_
 by_cases h16:s.size<16
 ·rw [openA_short h16] at k
  refine cdt (by omega) ?_
  exact k _ w.keep
 have en:(s.size:Int)-16=((s.size-16:Nat):Int):=by omega
 rw [en]
 refine cdf (by omega) ?_
 refine M.jn ?_
 refine cdf (by omega) ?_
 refine cf (decide_eq_false (by omega)) ?_
 have p1:(s.extract (Int.toNat 0) (s.size-16)).size=s.size-16:=by rw [ByteArray.size_extract]; show min (s.size-16) s.size-0=_; omega
 have p2:(s.extract (s.size-16) s.size).size=16:=by rw [ByteArray.size_extract]; omega
 have o1:=@openA_ok key nonce wi s h16
 have o2:=@openA_bad key nonce wi s h16
 have e0:s.extract 0 (s.size-16)=s.extract (Int.toNat 0) (s.size-16):=by simp only [Int.reduceToNat]
 rw [e0] at o1 o2
 generalize hA:openA key nonce wi s=A at *
 generalize htg:s.extract (s.size-16) s.size=tg at *
 refine ⟨(by omega),(by omega),(by omega),?_⟩
 simp only [Int.toNat_natCast,htg]
 refine ⟨(by omega),(by omega),(by omega),?_⟩
 simp only [Int.toNat_natCast]
 refine tag_spec (by omega) (by omega) (by assumption) (by omega) fun h2 k_=>?_
 have w:=w.keeps k_
 clear k_
 refine Equal_spec (by omega) ?_
 try rw [htg]
 generalize hT:tagA key nonce wi (s.extract (Int.toNat 0) (s.size-16))=T at *
 by_cases e:T=tg
 ·rw [o1 e] at k
  refine cf (by rw [e]; simp) ?_
  refine ⟨by omega,by omega,by omega,?_⟩
  rw [Int.toNat_natCast]
  refine Crypt_spec (c:=1) hk hn (by omega) fun h2 k2=>?_
  exact k _ (w.keep.trans k2)
 ·rw [o2 e] at k
  refine ct (by simp; exact fun x=>e x.symm) ?_
  exact k _ w.keep
theorem openA_seal (key nonce wi pl:ByteArray):openA key nonce wi (sealA key nonce wi pl)=(pl,0):=by
 have hs:=sealA_size key nonce wi pl
 have hc:=cryptT_size key nonce 1 pl
 have e1:(sealA key nonce wi pl).extract 0 ((sealA key nonce wi pl).size-16)=cryptT key nonce 1 pl:=by
  rw [hs,sealA,ByteArray.extract_append_eq_left (by omega)]
 have e2:(sealA key nonce wi pl).extract ((sealA key nonce wi pl).size-16) (sealA key nonce wi pl).size=tagA key nonce wi (cryptT key nonce 1 pl):=by
  rw [hs,sealA,ByteArray.extract_append_eq_right (by omega) (by rw [tagA_size]; omega)]
 rw [openA_ok (by omega) (by rw [e1,e2]),e1,cryptT_twice]
end
end Go.Proofs.YthegnmanjdlmjaaGreatDoor

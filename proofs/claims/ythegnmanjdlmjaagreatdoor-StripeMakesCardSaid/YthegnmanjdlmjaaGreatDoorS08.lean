/- Texts combined, in both texts. -/
import Derived.Test.YthegnmanjdlmjaaGreatDoorS07
set_option linter.unusedSimpArgs false
set_option linter.unusedVariables false
namespace Go.Proofs.YthegnmanjdlmjaaGreatDoor
open Go.Sh Go.RowKit
def xorT (a b:ByteArray):ByteArray:=byT (min a.size b.size) fun i=>bx (byteAt a i) (byteAt b i)
section
variable {h:H} {a b:ByteArray} {Q:ByteArray→H→Prop}
theorem Xor_spec (ha:a.size≤1000000) (k:∀ h',Keep h h'→Q (xorT a b) h'):words_Xor a b h Q:=by
 unfold words_Xor
 rw [mn_nat]
 unfold xorT at k
 generalize hn:min a.size b.size=n at *
 have w:=Wd.start h
 refine M.mk_sl w (by omega) (by omega) (by omega) (by omega) rfl fun a1 h2 w=>?_
 simp only [zs,Int.toNat_natCast] at w ⊢
 refine M.jn ?_
 refine M.loop_of (I:=fun (i:Int) h'=>∃ m:Nat,m≤n∧i=(m:Int)∧Wd h h' [.sl 5 1 a1 n n (eB.row ((List.range n).map fun i=>if i<m then bx (byteAt a i) (byteAt b i) else 0))]) (μ:=fun i=>(n-i).toNat) ⟨0,by omega,rfl,?_⟩ ?_
 ·have:(List.range n).map (fun i=>if i<0 then bx (byteAt a i) (byteAt b i) else 0)=List.replicate n 0:=by
   rw [List.eq_replicate_iff]
   refine ⟨by simp,fun b hb=>?_⟩
   rw [List.mem_map] at hb
   obtain ⟨j,hj,rfl⟩:=hb
   rw [if_neg (by omega)]
  rw [this]; exact w
 clear w
 rintro _ h2 J ⟨m,hm,rfl,w⟩ hJ
 by_cases hlt:m<n
 ·refine cdt (by omega) ?_
  have v2:IntKind.wrap .i64 ((m:Int)+1)=((m+1:Nat):Int):=by rw [IntKind.wrap_i64]; omega
  refine ⟨(by omega),(by omega),?_⟩
  refine ⟨(by omega),(by omega),?_⟩
  simp only [Int.toNat_natCast,v2]
  refine M.vin ?_
  refine w.put1 0 rfl rfl _ rfl (by omega) (by omega) fun h4 w=>?_
  simp only [bs,Int.toNat_natCast,set_map_range] at w
  refine M.vin ?_
  refine hJ _ _ ⟨m+1,by omega,rfl,?_⟩ (by omega)
  have:(List.range n).map (fun i=>if i<m+1 then bx (byteAt a i) (byteAt b i) else 0)=(List.range n).map (fun i=>if i=m then bXor .u8 (byteAt a m) (byteAt b m) else if i<m then bx (byteAt a i) (byteAt b i) else 0):=by
   apply List.map_congr_left
   intro i hi
   by_cases h1:i=m
   ·subst h1; rw [if_pos (by omega),if_pos rfl]; rfl
   ·rw [if_neg h1]
    by_cases h2:i<m
    ·rw [if_pos h2,if_pos (by omega)]
    ·rw [if_neg h2,if_neg (by omega)]
  rw [this]; exact w
 ·refine cdf (by omega) ?_
  refine w.textB 0 rfl ?_
  have:(List.range n).map (fun i=>if i<m then bx (byteAt a i) (byteAt b i) else 0)=(List.range n).map fun i=>bx (byteAt a i) (byteAt b i):=List.map_congr_left fun i hi=>if_pos (by have:=List.mem_range.1 hi; omega)
  rw [this]
  exact k _ w.keep
theorem mod_step (x i:Nat):x % 2 ^ (i+1)=x % 2 ^ i+2 ^ i*(x / 2 ^ i % 2):=by
 rw [Nat.pow_succ,Nat.mod_mul]
theorem xor_bit (x y i:Nat):(x ^^^ y) / 2 ^ i % 2=if x / 2 ^ i % 2=y / 2 ^ i % 2 then 0 else 1:=by
 have h:=Nat.testBit_xor x y i
 rw [Nat.testBit_eq_decide_div_mod_eq,Nat.testBit_eq_decide_div_mod_eq,Nat.testBit_eq_decide_div_mod_eq] at h
 have h1:(x ^^^ y) / 2 ^ i % 2<2:=Nat.mod_lt _ (by decide)
 have h2:x / 2 ^ i % 2<2:=Nat.mod_lt _ (by decide)
 have h3:y / 2 ^ i % 2<2:=Nat.mod_lt _ (by decide)
 generalize (x ^^^ y) / 2 ^ i % 2=p at *
 generalize x / 2 ^ i % 2=q at *
 generalize y / 2 ^ i % 2=r at *
 have:p=0∨p=1:=by omega
 have:q=0∨q=1:=by omega
 have:r=0∨r=1:=by omega
 rcases ‹p=0∨p=1› with rfl | rfl <;> rcases ‹q=0∨q=1› with rfl | rfl <;> rcases ‹r=0∨r=1› with rfl | rfl <;> simp_all
theorem unlike_spec {x y:Int} {Q:Int→H→Prop} (hx:0≤x∧x<256) (hy:0≤y∧y<256) (k:Q (bx x y) h):ref01_unlike x y h Q:=by
 unfold ref01_unlike
 rw [bx_nat hx hy] at k
 obtain ⟨x,rfl⟩:=Int.eq_ofNat_of_zero_le hx.1
 obtain ⟨y,rfl⟩:=Int.eq_ofNat_of_zero_le hy.1
 simp only [Int.toNat_natCast] at k
 have hz:x ^^^ y<2 ^ 8:=Nat.xor_lt_two_pow (by omega) (by omega)
 refine M.loop_of (I:=fun (p:Int × Int × Int × Int × Int) h'=>h'=h∧∃ i:Nat,i≤8∧p=(((x / 2 ^ i:Nat):Int),((y / 2 ^ i:Nat):Int),(((x ^^^ y) % 2 ^ i:Nat):Int),((2 ^ i % 256:Nat):Int),(i:Int))) (μ:=fun p=>(8-p.2.2.2.2).toNat) ⟨rfl,0,by omega,by simp [Nat.mod_one]⟩ ?_
 rintro _ h2 J ⟨rfl,i,hi,rfl⟩ hJ
 simp only
 by_cases hlt:i<8
 ·refine cdt (by omega) ?_
  have hp:2 ^ i % 256=2 ^ i:=by
   have:2 ^ i≤2 ^ 7:=Nat.pow_le_pow_right (by omega) (by omega)
   exact Nat.mod_eq_of_lt (by omega)
  have hp7:2 ^ i≤2 ^ 7:=Nat.pow_le_pow_right (by omega) (by omega)
  have hs:=mod_step (x ^^^ y) i
  rw [xor_bit] at hs
  have hx':=Nat.div_le_self x (2 ^ i)
  have hy':=Nat.div_le_self y (2 ^ i)
  have hm:(x ^^^ y) % 2 ^ i<2 ^ i:=Nat.mod_lt _ (Nat.two_pow_pos i)
  have hd1:x / 2 ^ (i+1)=x / 2 ^ i / 2:=by rw [Nat.pow_succ,←Nat.div_div_eq_div_mul]
  have hd2:y / 2 ^ (i+1)=y / 2 ^ i / 2:=by rw [Nat.pow_succ,←Nat.div_div_eq_div_mul]
  have hpp:2 ^ (i+1) % 256=2*2 ^ i % 256:=by rw [Nat.pow_succ,Nat.mul_comm]
  have nxt:=hJ (((x / 2 ^ (i+1):Nat):Int),((y / 2 ^ (i+1):Nat):Int),(((x ^^^ y) % 2 ^ (i+1):Nat):Int),((2 ^ (i+1) % 256:Nat):Int),((i+1:Nat):Int)) h2 ⟨rfl,i+1,by omega,rfl⟩ (by simp only; omega)
  rw [hd1,hd2,hs,hpp] at nxt
  rw [hp]
  generalize x / 2 ^ i=p at *
  generalize y / 2 ^ i=q at *
  generalize (x ^^^ y) % 2 ^ i=n at *
  generalize 2 ^ i=t at *
  have v1:IntKind.wrap .u8 (Int.tdiv (p:Int) 2)=((p / 2:Nat):Int):=by rw [Int.tdiv_eq_ediv_of_nonneg (by omega),IntKind.wrap_u8]; omega
  have v2:IntKind.wrap .u8 (Int.tdiv (q:Int) 2)=((q / 2:Nat):Int):=by rw [Int.tdiv_eq_ediv_of_nonneg (by omega),IntKind.wrap_u8]; omega
  have v3:IntKind.wrap .u8 (2*(t:Int))=((2*t % 256:Nat):Int):=by rw [IntKind.wrap_u8]; omega
  have v4:IntKind.wrap .i64 ((i:Int)+1)=((i+1:Nat):Int):=by rw [IntKind.wrap_i64]; omega
  have v5:Int.tmod (p:Int) 2=((p % 2:Nat):Int):=by rw [Int.tmod_eq_emod_of_nonneg (by omega)]; omega
  have v6:Int.tmod (q:Int) 2=((q % 2:Nat):Int):=by rw [Int.tmod_eq_emod_of_nonneg (by omega)]; omega
  refine M.join_of (fun d h'=>h'=h2∧d=((n+t*(if p % 2=q % 2 then 0 else 1):Nat):Int)) (fun J2 hJ2=>?_) ?_
  ·refine ⟨by decide,M.vis _ v5 ⟨by decide,M.vis _ v6 ?_⟩⟩
   refine cc (fun e=>?_) fun e=>?_
   ·rw [bne_iff_ne] at e
    have e':¬ p % 2=q % 2:=by omega
    rw [if_neg e'] at hJ2
    exact M.vis _ (u8' (by omega) (by omega)) (hJ2 _ _ ⟨rfl,by omega⟩)
   ·rw [bne_eq_false_iff_eq] at e
    have e':p % 2=q % 2:=by omega
    rw [if_pos e'] at hJ2
    exact hJ2 _ _ ⟨rfl,by omega⟩
  rintro _ _ ⟨rfl,rfl⟩
  exact ⟨by decide,M.vis _ v1 ⟨by decide,M.vis _ v2 (M.vis _ v3 (M.vis _ v4 nxt))⟩⟩
 ·refine cdf (by omega) ?_
  obtain rfl:i=8:=by omega
  rw [Nat.mod_eq_of_lt hz]
  exact k
theorem refXor_spec (ha:a.size≤1000000) (k:∀ h',Keep h h'→Q (xorT a b) h'):ref01_Xor a b h Q:=by
 unfold ref01_Xor ref01_Xor.g
 unfold xorT at k
 refine M.jn ?_
 refine M.loop_of (I:=fun (p:(Option Addr × Nat × Nat) × Int) h'=>∃ m:Nat,m≤min a.size b.size∧p.2=(m:Int)∧p.1.2.1=m∧Wd h h' [.sl 5 1 p.1.1 p.1.2.1 p.1.2.2 (bvs ((List.range m).map fun i=>bx (byteAt a i) (byteAt b i)))]) (μ:=fun p=>(a.size-p.2).toNat) ⟨0,by omega,rfl,rfl,(Wd.start h).nilsl _ _⟩ ?_
 rintro ⟨⟨a2,m,c2⟩,_⟩ h2 J ⟨m',hm,hi,hl,w⟩ hJ
 simp only at hi hl w ⊢
 subst hi hl
 refine M.jn ?_
 refine cd (fun h1=>?_) fun h1=>?_
 ·refine cd (fun h2=>?_) fun h2=>?_
  ·have v2:IntKind.wrap .i64 ((m:Int)+1)=((m+1:Nat):Int):=by rw [IntKind.wrap_i64]; omega
   have b1:=byteAt_lt a m
   have b2:=byteAt_lt b m
   refine ⟨(by omega),(by assumption),?_⟩
   refine ⟨(by omega),(by assumption),?_⟩
   simp only [Int.toNat_natCast,v2]
   refine unlike_spec (by assumption) (by assumption) ?_
   refine Wd.push w 0 rfl rfl rfl (by simp [isPlainCell]) (by omega) (by omega) fun a5 c6 h3 w=>?_
   refine M.vin ?_
   refine hJ _ _ ⟨m+1,by omega,rfl,rfl,?_⟩ (by omega)
   rw [List.range_succ,List.map_append,bvs_app]
   exact w
  ·refine w.text 0 rfl ?_
   have:m=min a.size b.size:=by omega
   subst this
   exact k _ w.keep
 ·refine cf (rfl) ?_
  refine w.text 0 rfl ?_
  have:m=min a.size b.size:=by omega
  subst this
  exact k _ w.keep
end
end Go.Proofs.YthegnmanjdlmjaaGreatDoor

/- Trees of digests: ways, and what is followed. Trees of digests: what is put. Trees of digests: what is built. ChaCha20: quarters of a round, in both texts. Texts combined, in both texts. ChaCha20: blocks, in both texts. ChaCha20: texts, in both texts. Poly1305: numbers in five parts. Poly1305: the program's products, and what is least. Poly1305: what is least. -/
import Derived.Test.YthegnmanjdlmjaaGreatDoorP07
set_option linter.unusedSimpArgs false
set_option linter.unusedVariables false
namespace Go.Proofs.YthegnmanjdlmjaaGreatDoor
open Go.Sh Go.RowKit
theorem set_map_range {α:Type} (d j:Nat) (f:Nat→α) (v:α):((List.range d).map f).set j v=(List.range d).map fun i=>if i=j then v else f i:=by
 apply List.ext_getElem?
 intro i
 rw [List.getElem?_set,List.getElem?_map,List.getElem?_map,List.length_map,List.length_range]
 by_cases hi:i<d
 ·rw [List.getElem?_range hi]
  by_cases hj:j=i
  ·subst hj; simp [hi]
  ·have:¬ i=j:=fun e=>hj e.symm
   simp [hj,this]
 ·rw [List.getElem?_eq_none (by simpa using hi)]
  simp; omega
def pathN (n s:Int):List Int:=(List.range (dep n)).map fun i=>(((n+s).toNat / 2 ^ (dep n-i):Nat):Int)
theorem pathN_len (n s:Int):(pathN n s).length=dep n:=by simp [pathN]
theorem dep_le (n:Int):dep n≤4:=by
 unfold dep
 repeat' split
 all_goals omega
theorem dep_pow {n:Int} (h:dep n≠0):n=((2 ^ dep n:Nat):Int):=by
 rcases dep_ne h with rfl | rfl | rfl | rfl <;> rfl
theorem half_step (X m:Nat):Int.tdiv ((X / 2 ^ m:Nat):Int) 2=((X / 2 ^ (m+1):Nat):Int):=by
 rw [Int.tdiv_eq_ediv_of_nonneg (Int.natCast_nonneg _),Nat.pow_succ,←Nat.div_div_eq_div_mul]; exact (Int.natCast_ediv _ 2).symm
theorem refPath_spec {h:H} {n s:Int} {Q:Option Addr→Nat→Nat→Int→H→Prop} (hd:dep n≠0) (hs:0≤s∧s<n) (k:∀ a c h',Wd h h' [.sl 3 1 a (dep n) c (eI.row (pathN n s))]→Q a (dep n) c 0 h'):
  ref12_Path n s h Q:=by
 unfold ref12_Path ref12_Path.g
 refine refDepth_spec ?_
 have hle:=dep_le n
 have hn:=dep_pow hd
 have hb:(((dep n:Nat):Int) == 0)=false:=by rw [beq_eq_false_iff_ne]; omega
 have h16:n≤16:=by rcases dep_ne hd with rfl | rfl | rfl | rfl <;> decide
 refine M.jn ?_
 refine cf hb (cdf (by omega) (cf (decide_eq_false (by omega)) ?_))
 have w:=Wd.start h
 have v0:IntKind.wrap .i64 (n+s)=((n+s).toNat:Nat):=by rw [IntKind.wrap_i64]; omega
 refine M.mk_sl w (by omega) (by omega) (by omega) (by omega) rfl fun a1 h2 w=>?_
 simp only [zs,Int.toNat_natCast] at w ⊢
 refine M.vin ?_
 rw [v0]
 refine M.jn (M.vin ?_)
 generalize hX:(n+s).toNat=X at *
 generalize hD:dep n=d at *
 refine M.loop_of (I:=fun (p:Int × Int) h'=>∃ m:Nat,m≤d∧p=(((X / 2 ^ m:Nat):Int),(d:Int)-1-m)∧Wd h h' [.sl 3 1 a1 d d (eI.row ((List.range d).map fun j=>if d-m≤j then ((X / 2 ^ (d-j):Nat):Int) else 0))]) (μ:=fun p=>(p.2+1).toNat) ⟨0,by omega,?_,?_⟩ ?_
 ·have:IntKind.wrap .i64 ((d:Int)-1)=(d:Int)-1-(0:Nat):=by rw [IntKind.wrap_i64]; omega
  rw [this,Nat.pow_zero,Nat.div_one]
 ·have:((List.range d).map fun j=>if d-0≤j then ((X / 2 ^ (d-j):Nat):Int) else 0)=List.replicate d 0:=by
   rw [List.eq_replicate_iff]
   refine ⟨by simp,fun b hb=>?_⟩
   rw [List.mem_map] at hb
   obtain ⟨j,hj,rfl⟩:=hb
   rw [if_neg (by have:=List.mem_range.1 hj; omega)]
  rw [this]; exact w
 clear w
 rintro _ h2 J ⟨m,hm,rfl,w⟩ hJ
 by_cases hlt:m<d
 ·refine cdt (by simp only; omega) ⟨by decide,?_⟩
  have hx:X≤32:=by omega
  have v1:IntKind.wrap .i64 (Int.tdiv ((X / 2 ^ m:Nat):Int) 2)=((X / 2 ^ (m+1):Nat):Int):=by
   rw [half_step,IntKind.wrap_i64]
   have:=Nat.div_le_self X (2 ^ (m+1))
   generalize X / 2 ^ (m+1)=q at *
   omega
  have v2:IntKind.wrap .i64 ((d:Int)-1-m-1)=(d:Int)-1-((m+1:Nat):Int):=by rw [IntKind.wrap_i64]; omega
  simp only [v1,v2]
  refine M.vin ?_
  refine w.put1 0 rfl rfl _ rfl (by omega) (by omega) fun h4 w=>?_
  simp only [bs] at w
  refine M.vin ?_
  refine hJ _ _ ⟨m+1,by omega,rfl,?_⟩ (by simp only; omega)
  rw [set_map_range] at w
  have e:((List.range d).map fun i=>if i=((d:Int)-1-m).toNat then ((X / 2 ^ (m+1):Nat):Int) else if d-m≤i then ((X / 2 ^ (d-i):Nat):Int) else 0)=(List.range d).map fun j=>if d-(m+1)≤j then ((X / 2 ^ (d-j):Nat):Int) else 0:=by
   apply List.map_congr_left
   intro i hi
   have:=List.mem_range.1 hi
   by_cases h1:i=((d:Int)-1-m).toNat
   ·rw [if_pos h1,if_pos (by omega),show d-i=m+1 by omega]
   ·rw [if_neg h1]
    by_cases h2:d-m≤i
    ·rw [if_pos h2,if_pos (by omega)]
    ·rw [if_neg h2,if_neg (by omega)]
  rw [e] at w
  exact w
 ·refine cdf (by simp only; omega) ?_
  obtain rfl:m=d:=by omega
  refine k _ _ _ ?_
  have e:pathN n s=(List.range m).map fun j=>if m-m≤j then ((X / 2 ^ (m-j):Nat):Int) else 0:=by
   rw [pathN,hD,hX]
   apply List.map_congr_left
   intro i hi
   rw [if_pos (by omega)]
  rw [e]; exact w
theorem drop_sa {ps:List ByteArray} {m:Nat} (h:m<ps.length):ps.drop m=sa ps m::ps.drop (m+1):=by rw [sa_get h,←List.drop_eq_getElem_cons h]
theorem follow_step {top:ByteArray} {slot:Nat} {ps:List ByteArray} {m:Nat} (h:m<ps.length):follow top slot (ps.drop m)=if (sa ps m).size≠64∨nodeT (sa ps m)≠top then (ByteArray.empty,22) else follow (halfB (sa ps m) (bitT slot (ps.length-1-m))) slot (ps.drop (m+1)):=by
 rw [drop_sa h,follow,List.length_drop,show ps.length-(m+1)=ps.length-1-m by omega]
theorem follow_end {top:ByteArray} {slot:Nat} {ps:List ByteArray}:follow top slot (ps.drop ps.length)=(top,0):=by rw [List.drop_length]; rfl
section
variable {h:H} {a:Option Addr} {l c:Nat} {ps:List ByteArray} {top:ByteArray} {slot:Nat} {Q:ByteArray→Int→H→Prop}
theorem sa_le {n:Nat} (hz:∀ p ∈ ps,p.size≤n) (m:Nat):(sa ps m).size≤n:=by
 by_cases h:m<ps.length
 ·rw [sa_get h]; exact hz _ (List.getElem_mem h)
 ·have:sa ps m=ByteArray.empty:=by simp [sa,List.getD_eq_getElem?_getD,List.getElem?_eq_none (by omega:ps.length≤m)]
  rw [this]; exact Nat.zero_le _
theorem Follow_spec (f:Ro eS h a l ps) (hl:1≤l∧l≤4) (hs:slot<2 ^ l) (hz:∀ p ∈ ps,p.size≤500000) (tb:Tabs h) (k:∀ h',Keep h h'→Q (follow top slot ps).1 (follow top slot ps).2 h'):tree_Follow top (slot:Int) a l c h Q:=by
 unfold tree_Follow tree_Follow.g
 refine M.jn ?_
 have w:=Wd.start h
 have hlen:=f.len
 refine cdf (by omega) ?_
 refine leaves_spec tb hl ?_
 refine cf (decide_eq_false (by omega)) ?_
 refine M.jn ?_
 refine M.loop_of (I:=fun (p:ByteArray × Int) h'=>∃ m:Nat,m≤l∧p.2=(m:Int)∧follow top slot ps=follow p.1 slot (ps.drop m)∧Wd h h' []) (μ:=fun p=>(l-p.2).toNat) ⟨0,by omega,rfl,rfl,w⟩ ?_
 clear w
 rintro ⟨t,_⟩ h2 J ⟨m,hm,rfl,hf,w⟩ hJ
 simp only at hf ⊢
 by_cases hlt:m<l
 ·refine cdt (by omega) ?_
  rw [follow_step (by omega)] at hf
  have hsz:=sa_le hz m
  refine Ro.ldS (f.keep w.keep) (by omega) (by omega) ?_
  refine M.join_of (fun d h'=>d=decide ((sa ps m).size≠64∨nodeT (sa ps m)≠t)∧Wd h h' []) (fun J2 hJ2=>?_) ?_
  ·rw [Int.toNat_natCast]
   refine cc (fun e=>?_) fun e=>?_
   ·refine hJ2 _ _ ⟨(decide_eq_true (.inl ?_)).symm,w⟩
    rw [bne_iff_ne] at e; omega
   ·rw [bne_eq_false_iff_eq] at e
    refine Node_spec (by omega) (tb.keep w.keep) fun h1 k_=>?_
    have w:=w.keeps k_
    clear k_
    refine hJ2 _ _ ⟨?_,w⟩
    rw [strEq_dec,Bool.eq_iff_iff]
    have:(sa ps m).size=64:=by omega
    simp [this,nodeT]
  clear w
  rintro _ h3 ⟨rfl,w⟩
  by_cases hc:(sa ps m).size≠64∨nodeT (sa ps m)≠t
  ·rw [if_pos hc] at hf
   refine cdt hc ?_
   rw [hf] at k
   exact k _ w.keep
  ·rw [if_neg hc] at hf
   refine cdf hc ?_
   have h64:(sa ps m).size=64:=by omega
   refine second_spec (s:=slot) hl.2 hlt ?_
   rw [Int.toNat_natCast]
   refine half_spec h64 ?_
   refine M.vis ((m+1:Nat):Int) (by rw [IntKind.wrap_i64]; omega) ?_
   refine hJ _ _ ⟨m+1,by omega,rfl,?_,w⟩ (by simp only; omega)
   rw [hf,hlen]
 ·refine cdf (by omega) ?_
  obtain rfl:m=l:=by omega
  rw [←hlen,follow_end] at hf
  rw [hf] at k
  exact k _ w.keep
theorem bit_node {d s k:Nat} (hk:k<d):(2 ^ d+s) / 2 ^ k % 2=s / 2 ^ k % 2:=by
 have:2 ^ d+s=s+2 ^ (d-k)*2 ^ k:=by rw [←Nat.pow_add,Nat.sub_add_cancel (by omega)]; omega
 rw [this,Nat.add_mul_div_right _ _ (Nat.two_pow_pos k)]
 obtain ⟨q,hq⟩:∃ q,d-k=q+1:=⟨d-k-1,by omega⟩
 rw [hq,Nat.pow_succ]; omega
theorem refFollow_spec (f:Ro eS h a l ps) (hl:1≤l∧l≤4) (hs:slot<2 ^ l) (hz:∀ p ∈ ps,p.size≤500000) (tb:Tabs h) (k:∀ h',Keep h h'→Q (follow top slot ps).1 (follow top slot ps).2 h'):ref12_Follow top (slot:Int) a l c h Q:=by
 unfold ref12_Follow ref12_Follow.g
 refine refSize_spec hl ?_
 refine M.jn ?_
 have hlen:=f.len
 refine cdf (by omega) ?_
 refine cf (decide_eq_false (by omega)) ?_
 have hd:dep ((2 ^ l:Nat):Int)=l:=by
  have:l=1∨l=2∨l=3∨l=4:=by omega
  rcases this with rfl | rfl | rfl | rfl <;> rfl
 have h16:2 ^ l≤16:=Nat.pow_le_pow_right (by omega) hl.2
 refine refPath_spec (by omega) ⟨by omega,by omega⟩ fun a8 c8 h1 w=>?_
 have hp:pathN ((2 ^ l:Nat):Int) slot=(List.range l).map fun i=>(((2 ^ l+slot) / 2 ^ (l-i):Nat):Int):=by
  rw [pathN,hd,show (((2 ^ l:Nat):Int)+slot).toNat=2 ^ l+slot by omega]
 rw [hp,hd] at w
 rw [hd]
 have hza:∀ i,i<l→za ((List.range l).map fun i=>(((2 ^ l+slot) / 2 ^ (l-i):Nat):Int)) i=(((2 ^ l+slot) / 2 ^ (l-i):Nat):Int):=by
  intro i hi
  rw [za_get (by simpa using hi)]; simp
 refine M.jn ?_
 refine M.loop_of (I:=fun (p:ByteArray × Int) h'=>∃ m:Nat,m≤l∧p.2=(m:Int)∧follow top slot ps=follow p.1 slot (ps.drop m)∧Wd h h' [.sl 3 1 a8 l c8 (eI.row ((List.range l).map fun i=>(((2 ^ l+slot) / 2 ^ (l-i):Nat):Int)))]) (μ:=fun p=>(l-p.2).toNat) ⟨0,by omega,rfl,rfl,w⟩ ?_
 clear w
 rintro ⟨t,_⟩ h2 J ⟨m,hm,rfl,hf,w⟩ hJ
 simp only at hf ⊢
 by_cases hlt:m<l
 ·refine cdt (by omega) ?_
  refine M.jn ?_
  rw [follow_step (by omega)] at hf
  have hsz:=sa_le hz m
  refine Ro.ldS (f.keep w.keep) (by omega) (by omega) ?_
  rw [Int.toNat_natCast]
  by_cases h64:(sa ps m).size=64
  ·refine cf (by rw [bne_eq_false_iff_eq]; omega) ?_
   simp only []
   refine Ro.ldS (f.keep w.keep) (by omega) (by omega) ?_
   simp only [Int.toNat_natCast]
   refine refKind_spec (by omega) (by omega) (tb.keep w.keep) fun h8 k_=>?_
   have w:=w.keeps k_
   clear k_
   rw [show kindT (UInt8.ofNat (Int.toNat 1)) (sa ps m)=nodeT (sa ps m) from rfl,strEq_dec]
   by_cases hn:nodeT (sa ps m)=t
   ·rw [if_neg (by simp [h64,hn]),hlen] at hf
    refine cf (by simp [hn]) (M.vis ((2 ^ l+slot:Nat):Int) (by rw [IntKind.wrap_i64]; omega) ?_)
    obtain ⟨q,hq⟩:∃ q,(2 ^ l+slot) / 2 ^ (l-1-m)=q:=⟨_,rfl⟩
    have hq2:(2 ^ l+slot) / 2 ^ (l-m)=q / 2:=by rw [show l-m=l-1-m+1 by omega,Nat.pow_succ,←Nat.div_div_eq_div_mul,hq]
    have hq3:q≤32:=by
     rw [←hq]
     exact Nat.le_trans (Nat.div_le_self _ _) (by omega)
    have hb:bitT slot (l-1-m)=decide (q % 2=1):=by rw [bitT,←bit_node (show l-1-m<l by omega),hq]
    rw [hb] at hf
    have hzm:=hza m hlt
    rw [hq2] at hzm
    refine M.join_of (fun d h'=>d=(q:Int)∧Wd h h' [.sl 3 1 a8 l c8 (eI.row ((List.range l).map fun i=>(((2 ^ l+slot) / 2 ^ (l-i):Nat):Int)))]) (fun J2 hJ2=>?_) ?_
    ·have vm:IntKind.wrap .i64 ((m:Int)+1)=((m+1:Nat):Int):=by rw [IntKind.wrap_i64]; omega
     refine M.vis _ vm ?_
     refine cd (fun e=>?_) fun e=>?_
     ·refine M.vis _ vm ?_
      have hzm1:=hza (m+1) (by omega)
      rw [show l-(m+1)=l-1-m by omega,hq] at hzm1
      refine Ro.ldI (w.ro 0 rfl (by decide)) (by omega) (by assumption) ?_
      simp only [Int.toNat_natCast,hzm1]
      exact hJ2 _ _ ⟨rfl,w⟩
     ·refine hJ2 _ _ ⟨?_,w⟩
      rw [show l-1-m=0 by omega,Nat.pow_zero,Nat.div_one] at hq
      rw [hq]
    clear w
    rintro _ h4 ⟨rfl,w⟩
    have v3:IntKind.wrap .i64 (2*((q / 2:Nat):Int))=((2*(q / 2):Nat):Int):=by rw [IntKind.wrap_i64]; omega
    have v4:IntKind.wrap .i64 (((2*(q / 2):Nat):Int)+1)=((2*(q / 2)+1:Nat):Int):=by rw [IntKind.wrap_i64]; omega
    have v5:IntKind.wrap .i64 ((m:Int)+1)=((m+1:Nat):Int):=by rw [IntKind.wrap_i64]; omega
    refine Ro.ldS (f.keep w.keep) (by omega) (by omega) ?_
    simp only [Int.toNat_natCast]
    refine ⟨(by omega),(by omega),(by omega),?_⟩
    simp only []
    refine Ro.ldI (w.ro 0 rfl (by decide)) (by omega) (by omega) ?_
    simp only [Int.toNat_natCast,hzm,v3]
    refine M.vin ?_
    simp only [v4]
    refine M.vin ?_
    refine cc (fun e=>?_) fun e=>?_
    ·rw [beq_iff_eq] at e
     rw [decide_eq_true (show q % 2=1 by omega)] at hf
     simp only [v5]
     refine Ro.ldS (f.keep w.keep) (by omega) (by omega) ?_
     simp only [Int.toNat_natCast]
     refine ⟨(by omega),(by omega),(by omega),?_⟩
     simp only [Int.toNat_natCast]
     refine M.vin ?_
     exact hJ _ _ ⟨m+1,by omega,rfl,hf,w⟩ (by simp only; omega)
    ·rw [beq_eq_false_iff_ne] at e
     rw [decide_eq_false (show ¬ q % 2=1 by omega)] at hf
     simp only [v5]
     refine M.vin ?_
     exact hJ _ _ ⟨m+1,by omega,rfl,hf,w⟩ (by simp only; omega)
   ·rw [if_pos (.inr hn)] at hf
    rw [hf] at k
    exact ct (by simp [hn]) (k _ w.keep)
  ·rw [if_pos (.inl h64)] at hf
   rw [hf] at k
   exact ct (by rw [bne_iff_ne]; omega) (k _ w.keep)
 ·refine cdf (by omega) ?_
  obtain rfl:m=l:=by omega
  rw [←hlen,follow_end] at hf
  rw [hf] at k
  exact k _ w.keep
end
end Go.Proofs.YthegnmanjdlmjaaGreatDoor
namespace Go.Proofs.YthegnmanjdlmjaaGreatDoor
open Go.Sh Go.RowKit
theorem kindT_size (k:UInt8) (t:ByteArray):(kindT k t).size=32:=by rw [kindT,digestT,textOf_size]; rfl
theorem nodeT_size (t:ByteArray):(nodeT t).size=32:=kindT_size _ _
def putX (slot:Nat) (d:ByteArray) (p:ByteArray) (r:List ByteArray):ByteArray:=bif bitT slot r.length then p.extract 0 32++(putT slot d r).2 else (putT slot d r).2++p.extract 32 p.size
theorem putT_cons (slot:Nat) (d p:ByteArray) (r:List ByteArray):putT slot d (p::r)=(putX slot d p r::(putT slot d r).1,nodeT (putX slot d p r)):=rfl
theorem putT_size {slot:Nat} {d:ByteArray} (hd:d.size=32):∀ ps,(putT slot d ps).2.size=32
 | []=>hd
 | p::r=>by rw [putT_cons]; exact nodeT_size _
theorem putX_size {slot:Nat} {d p:ByteArray} {r:List ByteArray} (hd:d.size=32) (hp:p.size=64):(putX slot d p r).size=64:=by
 have:=putT_size (slot:=slot) hd r
 unfold putX
 cases bitT slot r.length
 ·rw [cond_false,ByteArray.size_append,ByteArray.size_extract,this,hp]; decide
 ·rw [cond_true,ByteArray.size_append,ByteArray.size_extract,this,hp]; decide
theorem putT_64 {slot:Nat} {d:ByteArray} (hd:d.size=32):∀ ps,(∀ p ∈ ps,p.size=64)→∀ p ∈ (putT slot d ps).1,p.size=64
 | [],_,p,h=>by simp [putT] at h
 | q::r,hz,p,h=>by
  rw [putT_cons,List.mem_cons] at h
  rcases h with rfl | h
  ·exact putX_size hd (hz _ (by simp))
  ·exact putT_64 hd r (fun p hp=>hz p (by simp [hp])) p h
theorem set_rep {xs:List ByteArray} (m:Nat) (x:ByteArray):(List.replicate (m+1) ByteArray.empty++xs).set m x=List.replicate m ByteArray.empty++(x::xs):=by
 rw [List.replicate_succ',List.append_assoc,List.set_append_right _ _ (by simp)]
 simp
section
variable {h:H} {a:Option Addr} {l c:Nat} {ps:List ByteArray} {d:ByteArray} {slot:Nat} {Q:Option Addr→Nat→Nat→ByteArray→Int→H→Prop}
theorem Put_spec (f:Ro eS h a l ps) (hl:1≤l∧l≤4) (hs:slot<2 ^ l) (hz:∀ p ∈ ps,p.size=64) (hd:d.size=32) (tb:Tabs h) (k:∀ a c h',Wd h h' [.sl 9 1 a l c (eS.row (putT slot d ps).1)]→Q a l c (putT slot d ps).2 0 h'):
  tree_Put (slot:Int) a l c d h Q:=by
 unfold tree_Put tree_Put.g
 refine M.jn ?_
 have w:=Wd.start h
 have hlen:=f.len
 refine cdf (by omega) (leaves_spec tb hl (cf (decide_eq_false (by omega)) (cf (by rw [bne_eq_false_iff_eq]; omega) ?_)))
 refine M.mk_sl w (by omega) (by omega) (by omega) (by omega) rfl fun a1 h2 w=>?_
 simp only [zs,Int.toNat_natCast] at w ⊢
 refine M.jn ?_
 refine M.vin ?_
 refine M.loop_of (I:=fun (p:ByteArray × Int) h'=>∃ m:Nat,m≤l∧p.2=(m:Int)-1∧p.1=(putT slot d (ps.drop m)).2∧Wd h h' [.sl 9 1 a1 l l (eS.row (List.replicate m ByteArray.empty++(putT slot d (ps.drop m)).1))]) (μ:=fun p=>(p.2+1).toNat) ⟨l,by omega,?_,?_,?_⟩ ?_
 ·rw [IntKind.wrap_i64]; simp only; omega
 ·rw [←hlen,List.drop_length]; rfl
 ·rw [←hlen,List.drop_length]
  simp only [putT,List.append_nil]
  rw [hlen]; exact w
 clear w
 rintro ⟨_,_⟩ h2 J ⟨m,hm,rfl,rfl,w⟩ hJ
 simp only
 cases m with
 | succ m=>
  refine cdt (by omega) ?_
  have v0:(((m+1:Nat):Int)-1)=(m:Int):=by omega
  have hp:(sa ps m).size=64:=by rw [sa_get (by omega)]; exact hz _ (List.getElem_mem _)
  have h32:=putT_size (slot:=slot) hd (ps.drop (m+1))
  have hx:putT slot d (ps.drop m)=(putX slot d (sa ps m) (ps.drop (m+1))::(putT slot d (ps.drop (m+1))).1,nodeT (putX slot d (sa ps m) (ps.drop (m+1)))):=by rw [drop_sa (by omega),putT_cons]
  have hxs:=putX_size (slot:=slot) (r:=ps.drop (m+1)) hd hp
  have hbit:(ps.drop (m+1)).length=l-1-m:=by rw [List.length_drop]; omega
  rw [v0]
  refine Ro.ldS (f.keep w.keep) (by omega) (by omega) ?_
  simp only [Int.toNat_natCast]
  refine cf (by simp [*]) ?_
  refine M.join_of (fun _ h'=>Wd h h' [.sl 9 1 a1 l l (eS.row (List.replicate m ByteArray.empty++(putT slot d (ps.drop m)).1))]) (fun J2 hJ2=>?_) ?_
  ·refine second_spec (s:=slot) hl.2 (by omega) ?_
   rw [hx] at hJ2
   unfold putX at hJ2
   rw [hbit] at hJ2
   cases hb:bitT slot (l-1-m) <;> rw [hb] at hJ2
   ·refine cf rfl ?_
    refine Ro.ldS (f.keep w.keep) (by omega) (by omega) ?_
    simp only [Int.toNat_natCast]
    refine half_spec (by assumption) ?_
    refine ⟨(by simp [Int.toNat_natCast,halfB,h32]; omega),?_⟩
    simp only [halfB]
    refine w.put1 0 rfl rfl _ rfl (by omega) (by omega) fun h11 w=>?_
    simp only [bs,Int.toNat_natCast] at w
    rw [set_rep] at w
    exact hJ2 _ _ w
   ·refine ct rfl ?_
    refine Ro.ldS (f.keep w.keep) (by omega) (by omega) ?_
    simp only [Int.toNat_natCast]
    refine half_spec (by assumption) ?_
    refine ⟨(by simp [Int.toNat_natCast,halfB,h32]; omega),?_⟩
    simp only [halfB]
    refine w.put1 0 rfl rfl _ rfl (by omega) (by omega) fun h11 w=>?_
    simp only [bs,Int.toNat_natCast] at w
    rw [set_rep] at w
    exact hJ2 _ _ w
  clear w
  rintro _ h3 w
  have hsa:sa (List.replicate m ByteArray.empty++(putT slot d (ps.drop m)).1) m=putX slot d (sa ps m) (ps.drop (m+1)):=by
   rw [hx,sa,List.getD_eq_getElem?_getD,List.getElem?_append_right (by simp)]; simp
  have v1:IntKind.wrap .i64 ((m:Int)-1)=(m:Int)-1:=by rw [IntKind.wrap_i64]; omega
  simp only [v1]
  refine Ro.ldS (w.ro 0 rfl (by decide)) (by omega) (by omega) ?_
  simp only [Int.toNat_natCast,hsa]
  refine Node_spec (by omega) (tb.keep w.keep) fun h8 k_=>?_
  have w:=w.keeps k_
  clear k_
  refine M.vin ?_
  refine hJ _ _ ⟨m,by omega,rfl,?_,w⟩ (by simp only; omega)
  rw [hx]; rfl
 | zero=>
  refine cdf (by omega) ?_
  rw [List.drop_zero] at w ⊢
  exact k _ _ _ w
theorem refPut_spec (f:Ro eS h a l ps) (hl:1≤l∧l≤4) (hs:slot<2 ^ l) (hz:∀ p ∈ ps,p.size=64) (hd:d.size=32) (tb:Tabs h) (k:∀ a c h',Wd h h' [.sl 9 1 a l c (eS.row (putT slot d ps).1)]→Q a l c (putT slot d ps).2 0 h'):
  ref12_Put (slot:Int) a l c d h Q:=by
 unfold ref12_Put ref12_Put.g
 refine refSize_spec hl ?_
 refine M.jn ?_
 have w:=Wd.start h
 have hlen:=f.len
 have h16:2 ^ l≤16:=Nat.pow_le_pow_right (by omega) hl.2
 refine cdf (by omega) (cf (decide_eq_false (by omega)) (cf (by rw [bne_eq_false_iff_eq]; omega) ?_))
 refine M.jn ?_
 have hp:∀ m,m<l→(sa ps m).size=64:=fun m hm=>by rw [sa_get (by omega)]; exact hz _ (List.getElem_mem _)
 refine M.loop_of (I:=fun (i:Int) h'=>∃ m:Nat,m≤l∧i=(m:Int)∧Wd h h' []) (μ:=fun i=>(l-i).toNat) ⟨0,by omega,rfl,w⟩ ?_
 clear w
 rintro _ h2 J ⟨m,hm,rfl,w⟩ hJ
 by_cases hlt:m<l
 ·refine cdt (by omega) ?_
  have hpm:=hp m hlt
  have v1:IntKind.wrap .i64 ((m:Int)+1)=((m+1:Nat):Int):=by rw [IntKind.wrap_i64]; omega
  simp only [v1]
  refine Ro.ldS (f.keep w.keep) (by omega) (by omega) ?_
  simp only [Int.toNat_natCast]
  refine cf (by simp [*]) ?_
  refine M.vin ?_
  exact hJ _ _ ⟨m+1,by omega,rfl,w⟩ (by omega)
 refine cdf (by omega) ?_
 refine M.mk_sl w (by omega) (by omega) (by omega) (by omega) rfl fun a1 h3 w=>?_
 simp only [zs,Int.toNat_natCast] at w ⊢
 refine M.vin ?_
 have v0:IntKind.wrap .i64 (((2 ^ l:Nat):Int)+slot)=((2 ^ l+slot:Nat):Int):=by rw [IntKind.wrap_i64]; omega
 refine M.jn (M.vin ?_)
 rw [v0]
 refine M.loop_of (I:=fun (p:ByteArray × Int × Int) h'=>∃ m:Nat,m≤l∧p.2.2=(m:Int)-1∧p.2.1=(((2 ^ l+slot) / 2 ^ (l-m):Nat):Int)∧p.1=(putT slot d (ps.drop m)).2∧Wd h h' [.sl 9 1 a1 l l (eS.row (List.replicate m ByteArray.empty++(putT slot d (ps.drop m)).1))]) (μ:=fun p=>(p.2.2+1).toNat) ⟨l,by omega,?_,?_,?_,?_⟩ ?_
 ·rw [IntKind.wrap_i64]; simp only; omega
 ·rw [Nat.sub_self,Nat.pow_zero,Nat.div_one]
 ·rw [←hlen,List.drop_length]; rfl
 ·rw [←hlen,List.drop_length]
  simp only [putT,List.append_nil]
  rw [hlen]; exact w
 clear w
 rintro ⟨_,_,_⟩ h2 J ⟨m,hm,rfl,rfl,rfl,w⟩ hJ
 simp only
 cases m with
 | succ m=>
  refine cdt (by omega) ?_
  have v0:(((m+1:Nat):Int)-1)=(m:Int):=by omega
  have hpm:=hp m (by omega)
  have h32:=putT_size (slot:=slot) hd (ps.drop (m+1))
  have hx:putT slot d (ps.drop m)=(putX slot d (sa ps m) (ps.drop (m+1))::(putT slot d (ps.drop (m+1))).1,nodeT (putX slot d (sa ps m) (ps.drop (m+1)))):=by rw [drop_sa (by omega),putT_cons]
  have hxs:=putX_size (slot:=slot) (r:=ps.drop (m+1)) hd hpm
  have hbit:(ps.drop (m+1)).length=l-1-m:=by rw [List.length_drop]; omega
  obtain ⟨q,hq⟩:∃ q,(2 ^ l+slot) / 2 ^ (l-(m+1))=q:=⟨_,rfl⟩
  have hq2:(2 ^ l+slot) / 2 ^ (l-m)=q / 2:=by rw [show l-m=l-(m+1)+1 by omega,Nat.pow_succ,←Nat.div_div_eq_div_mul,hq]
  have hq3:q≤32:=by
   rw [←hq]
   exact Nat.le_trans (Nat.div_le_self _ _) (by omega)
  have hbq:bitT slot (l-1-m)=decide (q % 2=1):=by rw [bitT,←bit_node (show l-1-m<l by omega),show l-1-m=l-(m+1) by omega,hq]
  rw [v0,hq]
  refine M.join_of (fun _ h'=>Wd h h' [.sl 9 1 a1 l l (eS.row (List.replicate m ByteArray.empty++(putT slot d (ps.drop m)).1))]) (fun J2 hJ2=>?_) ?_
  ·have vt:Int.tmod (q:Int) 2=((q % 2:Nat):Int):=by rw [Int.tmod_eq_emod_of_nonneg (by omega)]; omega
   refine ⟨by decide,M.vis _ vt ?_⟩
   rw [hx] at hJ2
   unfold putX at hJ2
   rw [hbit,hbq] at hJ2
   refine cc (fun e=>?_) fun e=>?_
   ·rw [beq_iff_eq] at e
    rw [decide_eq_true (show q % 2=1 by omega)] at hJ2
    refine Ro.ldS (f.keep w.keep) (by omega) (by omega) ?_
    simp only [Int.toNat_natCast]
    refine ⟨(by omega),(by omega),(by omega),?_⟩
    refine ⟨(by simp; omega),?_⟩
    simp only []
    refine w.put1 0 rfl rfl _ rfl (by omega) (by omega) fun h11 w=>?_
    simp only [bs,Int.reduceToNat,Int.toNat_natCast] at w
    rw [set_rep] at w
    exact hJ2 _ _ w
   ·rw [beq_eq_false_iff_ne] at e
    rw [decide_eq_false (show ¬ q % 2=1 by omega)] at hJ2
    refine Ro.ldS (f.keep w.keep) (by omega) (by omega) ?_
    simp only [Int.toNat_natCast]
    refine ⟨(by omega),(by omega),(by omega),?_⟩
    refine ⟨(by simp; omega),?_⟩
    simp only [Int.toNat_natCast]
    refine w.put1 0 rfl rfl _ rfl (by omega) (by omega) fun h11 w=>?_
    simp only [bs,Int.reduceToNat,Int.toNat_natCast] at w
    rw [set_rep] at w
    exact hJ2 _ _ w
  clear w
  rintro _ h3 w
  have hsa:sa (List.replicate m ByteArray.empty++(putT slot d (ps.drop m)).1) m=putX slot d (sa ps m) (ps.drop (m+1)):=by
   rw [hx,sa,List.getD_eq_getElem?_getD,List.getElem?_append_right (by simp)]; simp
  have v1:IntKind.wrap .i64 ((m:Int)-1)=(m:Int)-1:=by rw [IntKind.wrap_i64]; omega
  have v2:IntKind.wrap .i64 (Int.tdiv (q:Int) 2)=((q / 2:Nat):Int):=by rw [Int.tdiv_eq_ediv_of_nonneg (by omega),IntKind.wrap_i64]; omega
  simp only [v1,v2]
  refine Ro.ldS (w.ro 0 rfl (by decide)) (by omega) (by omega) ?_
  simp only [Int.toNat_natCast,hsa]
  refine refKind_spec (by omega) (by omega) (tb.keep w.keep) fun h8 k_=>?_
  have w:=w.keeps k_
  clear k_
  refine ⟨(by omega),?_⟩
  refine M.vin ?_
  refine M.vin ?_
  refine hJ _ _ ⟨m,by omega,rfl,by rw [hq2],?_,w⟩ (by simp only; omega)
  rw [hx]; rfl
 | zero=>
  refine cdf (by omega) ?_
  rw [List.drop_zero] at w ⊢
  exact k _ _ _ w
end
end Go.Proofs.YthegnmanjdlmjaaGreatDoor
namespace Go.Proofs.YthegnmanjdlmjaaGreatDoor
open Go.Sh Go.RowKit
def nodeD (ls:List ByteArray) (i:Nat):ByteArray:=
 if h:ls.length≤i∨i=0 then sa ls (i-ls.length) else nodeT (nodeD ls (2*i)++nodeD ls (2*i+1))
termination_by ls.length-i
decreasing_by all_goals omega
def pairD (ls:List ByteArray) (i:Nat):ByteArray:=nodeD ls (2*i)++nodeD ls (2*i+1)
theorem nodeD_leaf {ls:List ByteArray} {i:Nat} (h:ls.length≤i):nodeD ls i=sa ls (i-ls.length):=by rw [nodeD,dif_pos (.inl h)]
theorem nodeD_in {ls:List ByteArray} {i:Nat} (h0:0<i) (h:i<ls.length):nodeD ls i=nodeT (pairD ls i):=by rw [nodeD,dif_neg (by omega),pairD]
theorem nodeD_size {ls:List ByteArray} (hz:∀ p ∈ ls,p.size=32) {i:Nat} (h0:0<i) (h2:i<2*ls.length):(nodeD ls i).size=32:=by
 by_cases h:i<ls.length
 ·rw [nodeD_in h0 h]; exact nodeT_size _
 ·rw [nodeD_leaf (by omega),sa_get (by omega)]; exact hz _ (List.getElem_mem _)
theorem pairD_size {ls:List ByteArray} (hz:∀ p ∈ ls,p.size=32) {i:Nat} (h0:0<i) (h2:i<ls.length):(pairD ls i).size=64:=by
 rw [pairD,ByteArray.size_append,nodeD_size hz (by omega) (by omega),nodeD_size hz (by omega) (by omega)]
def buildP (ls:List ByteArray):List ByteArray:=(List.range ls.length).map fun j=>if j=0 then ByteArray.empty else pairD ls j
theorem rep_range (n:Nat) (x:ByteArray):List.replicate n x=(List.range n).map fun _=>x:=by
 symm
 rw [List.eq_replicate_iff]
 refine ⟨by simp,fun b hb=>?_⟩
 rw [List.mem_map] at hb
 obtain ⟨_,_,rfl⟩:=hb
 rfl
theorem sa_range {n i:Nat} (f:Nat→ByteArray) (hi:i<n):sa ((List.range n).map f) i=f i:=by rw [sa_get (by simpa using hi)]; simp
theorem map_range_congr {n:Nat} {f g:Nat→ByteArray} (h:∀ i,i<n→f i=g i):(List.range n).map f=(List.range n).map g:=List.map_congr_left fun i hi=>h i (List.mem_range.1 hi)
section
variable {h:H} {a:Option Addr} {l c:Nat} {ls:List ByteArray} {Q:Option Addr→Nat→Nat→ByteArray→Int→H→Prop}
theorem Build_spec (f:Ro eS h a l ls) (hd:dep (l:Int)≠0) (hz:∀ p ∈ ls,p.size=32) (tb:Tabs h) (k:∀ a c h',Wd h h' [.sl 9 1 a l c (eS.row (buildP ls))]→Q a l c (nodeD ls 1) 0 h'):tree_Build a l c h Q:=by
 unfold tree_Build tree_Build.g
 have hlen:=f.len
 have hl:2≤l∧l≤16:=by rcases dep_ne hd with h | h | h | h <;> omega
 have w:=Wd.start h
 refine depth_spec tb (cf (by rw [beq_eq_false_iff_ne]; omega) ?_)
 refine M.vis ((2*l:Nat):Int) (by rw [IntKind.wrap_i64]; omega) ?_
 have hp:∀ m,m<l→(sa ls m).size=32:=fun m hm=>by rw [sa_get (by omega)]; exact hz _ (List.getElem_mem _)
 refine M.mk_sl w (by omega) (by omega) (by omega) (by omega) rfl fun a1 h2 w=>?_
 simp only [zs,Int.toNat_natCast] at w ⊢
 refine M.jn ?_
 rw [rep_range] at w
 refine M.loop_of (I:=fun (i:Int) h'=>∃ m:Nat,m≤l∧i=(m:Int)∧Wd h h' [.sl 9 1 a1 (2*l) (2*l) (eS.row ((List.range (2*l)).map fun j=>if l≤j∧j<l+m then nodeD ls j else ByteArray.empty))]) (μ:=fun i=>(l-i).toNat) ⟨0,by omega,rfl,?_⟩ ?_
 ·rw [map_range_congr (g:=fun _=>ByteArray.empty) fun i hi=>if_neg (by omega)]
  exact w
 clear w
 rintro _ h2 J ⟨m,hm,rfl,w⟩ hJ
 by_cases hlt:m<l
 ·refine cdt (by omega) ?_
  have hpm:=hp m hlt
  have v1:IntKind.wrap .i64 ((l:Int)+m)=((l+m:Nat):Int):=by rw [IntKind.wrap_i64]; omega
  have v2:IntKind.wrap .i64 ((m:Int)+1)=((m+1:Nat):Int):=by rw [IntKind.wrap_i64]; omega
  simp only [v1,v2]
  refine Ro.ldS (f.keep w.keep) (by omega) (by omega) ?_
  simp only [Int.toNat_natCast]
  refine cf (by simp [*]) ?_
  refine M.vin ?_
  refine Ro.ldS (f.keep w.keep) (by omega) (by omega) ?_
  simp only [Int.toNat_natCast]
  refine w.put1 0 rfl rfl _ rfl (by omega) (by omega) fun h17 w=>?_
  simp only [bs,Int.toNat_natCast] at w
  refine M.vin ?_
  refine hJ _ _ ⟨m+1,by omega,rfl,?_⟩ (by omega)
  rw [set_map_range] at w
  rw [map_range_congr (g:=fun j=>if j=l+m then sa ls m else if l≤j∧j<l+m then nodeD ls j else ByteArray.empty) fun i hi=>?_]
  ·exact w
  ·by_cases h1:i=l+m
   ·subst h1
    rw [if_pos (by omega),if_pos rfl,nodeD_leaf (by omega),hlen,Nat.add_sub_cancel_left]
   ·rw [if_neg h1]
    by_cases h2:l≤i∧i<l+m
    ·rw [if_pos h2,if_pos (by omega)]
    ·rw [if_neg h2,if_neg (by omega)]
 refine cdf (by omega) ?_
 obtain rfl:m=l:=by omega
 refine M.mk_sl w (by omega) (by omega) (by omega) (by omega) rfl fun a2 h3 w=>?_
 simp only [zs,Int.toNat_natCast] at w ⊢
 refine M.jn (M.vis ((m-1:Nat):Int) (by rw [IntKind.wrap_i64]; omega) ?_)
 rw [rep_range] at w
 refine M.loop_of (I:=fun (i:Int) h'=>∃ q:Nat,q<m∧i=(q:Int)∧Wd h h' [.sl 9 1 a1 (2*m) (2*m) (eS.row ((List.range (2*m)).map fun j=>if q<j then nodeD ls j else ByteArray.empty)),.sl 9 1 a2 m m (eS.row ((List.range m).map fun j=>if q<j then pairD ls j else ByteArray.empty))]) (μ:=fun i=>i.toNat) ⟨m-1,by omega,rfl,?_⟩ ?_
 ·rw [map_range_congr (g:=fun j=>if m≤j∧j<m+m then nodeD ls j else ByteArray.empty) fun i hi=>?_,map_range_congr (n:=m) (g:=fun _=>ByteArray.empty) fun i hi=>if_neg (by omega)]
  ·exact w
  ·by_cases h1:m≤i
   ·rw [if_pos (by omega),if_pos (by omega)]
   ·rw [if_neg (by omega),if_neg (by omega)]
 clear w hJ J
 rintro _ h3 J ⟨q,hq,rfl,w⟩ hJ
 cases q with
 | succ q=>
  refine cdt (by omega) ?_
  have v1:IntKind.wrap .i64 (2*((q+1:Nat):Int))=((2*(q+1):Nat):Int):=by rw [IntKind.wrap_i64]; omega
  have v2:IntKind.wrap .i64 (((2*(q+1):Nat):Int)+1)=((2*(q+1)+1:Nat):Int):=by rw [IntKind.wrap_i64]; omega
  have v3:IntKind.wrap .i64 (((q+1:Nat):Int)-1)=(q:Int):=by rw [IntKind.wrap_i64]; omega
  have s1:sa ((List.range (2*m)).map fun j=>if q+1<j then nodeD ls j else ByteArray.empty) (2*(q+1))=nodeD ls (2*(q+1)):=by rw [sa_range _ (by omega),if_pos (by omega)]
  have s2:sa ((List.range (2*m)).map fun j=>if q+1<j then nodeD ls j else ByteArray.empty) (2*(q+1)+1)=nodeD ls (2*(q+1)+1):=by rw [sa_range _ (by omega),if_pos (by omega)]
  have z1:=nodeD_size hz (i:=2*(q+1)) (by omega) (by omega)
  have z2:=nodeD_size hz (i:=2*(q+1)+1) (by omega) (by omega)
  have z3:=pairD_size hz (i:=q+1) (by omega) (by omega)
  have ep:nodeD ls (2*(q+1))++nodeD ls (2*(q+1)+1)=pairD ls (q+1):=rfl
  simp only [v1]
  refine M.vin ?_
  refine Ro.ldS (w.ro 0 rfl (by decide)) (by omega) (by omega) ?_
  simp only [Int.toNat_natCast,s1]
  refine M.vin ?_
  simp only [v2]
  refine M.vin ?_
  refine Ro.ldS (w.ro 0 rfl (by decide)) (by omega) (by omega) ?_
  refine ⟨(by simp only [szs,Int.toNat_natCast,v1,v2,s1,s2,ep,set_map_range]; omega),?_⟩
  simp only [Int.toNat_natCast,s2,ep]
  refine w.put1 1 rfl rfl _ rfl (by omega) (by omega) fun h14 w=>?_
  simp only [bs,Int.toNat_natCast,set_map_range] at w
  refine Ro.ldS (w.ro 1 rfl (by decide)) (by omega) (by omega) ?_
  simp only [Int.toNat_natCast]
  have s3:sa ((List.range m).map fun i=>if i=q+1 then pairD ls (q+1) else if q+1<i then pairD ls i else ByteArray.empty) (q+1)=pairD ls (q+1):=by rw [sa_range _ (by omega),if_pos rfl]
  simp only [v3,s3]
  refine Node_spec (by omega) (tb.keep w.keep) fun h4 k_=>?_
  have w:=w.keeps k_
  clear k_
  refine w.put1 0 rfl rfl _ rfl (by omega) (by omega) fun h8 w=>?_
  simp only [bs,Int.toNat_natCast,set_map_range] at w
  refine M.vin ?_
  refine hJ _ _ ⟨q,by omega,rfl,?_⟩ (by omega)
  rw [map_range_congr (g:=fun j=>if j=q+1 then kindT 1 (pairD ls (q+1)) else if q+1<j then nodeD ls j else ByteArray.empty) fun i hi=>?_,map_range_congr (n:=m) (g:=fun i=>if i=q+1 then pairD ls (q+1) else if q+1<i then pairD ls i else ByteArray.empty) fun i hi=>?_]
  ·exact w
  ·by_cases h1:i=q+1
   ·subst h1; rw [if_pos (by omega),if_pos rfl]
   ·rw [if_neg h1]
    by_cases h2:q+1<i
    ·rw [if_pos h2,if_pos (by omega)]
    ·rw [if_neg h2,if_neg (by omega)]
  ·by_cases h1:i=q+1
   ·subst h1; rw [if_pos (by omega),if_pos rfl,nodeD_in (by omega) (by omega)]; rfl
   ·rw [if_neg h1]
    by_cases h2:q+1<i
    ·rw [if_pos h2,if_pos (by omega)]
    ·rw [if_neg h2,if_neg (by omega)]
 | zero=>
  refine cdf (by omega) ?_
  have s1:sa ((List.range (2*m)).map fun j=>if 0<j then nodeD ls j else ByteArray.empty) 1=nodeD ls 1:=by rw [sa_range _ (by omega),if_pos (by omega)]
  have e1:Int.toNat 1=1:=rfl
  simp only []
  refine Ro.ldS (w.ro 0 rfl (by decide)) (by omega) (by omega) ?_
  simp only [e1,s1]
  have e:buildP ls=(List.range m).map fun j=>if 0<j then pairD ls j else ByteArray.empty:=by
   rw [buildP,hlen]
   refine map_range_congr fun i hi=>?_
   by_cases h1:i=0
   ·rw [if_pos h1,if_neg (by omega)]
   ·rw [if_neg h1,if_pos (by omega)]
  refine k _ _ _ ?_
  rw [e]
  exact w.drop (i:=0) rfl
theorem refDigest_n {Q:ByteArray→H→Prop} (hz:∀ p ∈ ls,p.size=32) (hl:l≤16):∀ (k i:Nat) {h:H} {Q:ByteArray→H→Prop},Ro eS h a l ls→Tabs h→0<i→i<2*l→l≤i*2 ^ k→(∀ h',Keep h h'→Q (nodeD ls i) h')→ref12_digest.n (k+1) a l c (i:Int) h Q:=by
 intro k
 induction k with
 | zero=>
  intro i h Q f tb h0 h2 hk q
  have hlen:=f.len
  have w:=Wd.start h
  show ref12_digest.g _ _ a l c i h Q
  unfold ref12_digest.g
  refine cdt (by omega) (M.vis ((i-l:Nat):Int) (by rw [IntKind.wrap_i64]; omega) ?_)
  refine Ro.ldS f (by omega) (by omega) ?_
  simp only [Int.toNat_natCast]
  have:=q h (Keep.refl h)
  rwa [nodeD_leaf (by omega),hlen] at this
 | succ k ih=>
  intro i h Q f tb h0 h2 hk q
  have hlen:=f.len
  have w:=Wd.start h
  show ref12_digest.g _ _ a l c i h Q
  unfold ref12_digest.g
  by_cases hi:i<l
  ·have z1:=nodeD_size hz (i:=2*i) (by omega) (by omega)
   have z2:=nodeD_size hz (i:=2*i+1) (by omega) (by omega)
   have hp:i*2 ^ (k+1)=(2*i)*2 ^ k:=by rw [Nat.pow_succ,Nat.mul_comm 2 i,Nat.mul_assoc,Nat.mul_comm 2]
   have hp2:(2*i+1)*2 ^ k=2*i*2 ^ k+2 ^ k:=Nat.succ_mul _ _
   have hk1:l≤2*i*2 ^ k:=hp ▸ hk
   have hk2:l≤(2*i+1)*2 ^ k:=by rw [hp2]; exact Nat.le_trans hk1 (Nat.le_add_right _ _)
   refine cdf (by omega) (M.vis ((2*i:Nat):Int) (by rw [IntKind.wrap_i64]; omega) ?_)
   refine ih (2*i) f tb (by omega) (by omega) hk1 fun h1 k1=>?_
   have w:=w.keeps k1
   refine M.vis ((2*i:Nat):Int) (by rw [IntKind.wrap_i64]; omega) (M.vis ((2*i+1:Nat):Int) (by rw [IntKind.wrap_i64]; omega) ?_)
   refine ih (2*i+1) (f.keep k1) (tb.keep k1) (by omega) (by omega) hk2 fun h3 k3=>?_
   have w:=w.keeps k3
   refine ⟨(by simp; omega),?_⟩
   refine refKind_spec (by omega) (by simp; omega) (tb.keep w.keep) fun h4 k_=>?_
   have w:=w.keeps k_
   clear k_
   have:=q _ w.keep
   rw [nodeD_in (by omega) (by omega)] at this
   exact this
  ·refine cdt (by omega) (M.vis ((i-l:Nat):Int) (by rw [IntKind.wrap_i64]; omega) ?_)
   refine Ro.ldS f (by omega) (by omega) ?_
   simp only [Int.toNat_natCast]
   have:=q h (Keep.refl h)
   rwa [nodeD_leaf (by omega),hlen] at this
theorem refDigest_spec {i:Nat} {Q:ByteArray→H→Prop} (f:Ro eS h a l ls) (hz:∀ p ∈ ls,p.size=32) (hl:l≤16) (tb:Tabs h) (h0:0<i) (h2:i<2*l) (q:∀ h',Keep h h'→Q (nodeD ls i) h'):ref12_digest a l c (i:Int) h Q:=
 ⟨5,refDigest_n (Q:=Q) hz hl 4 i f tb h0 h2 (by omega) q⟩
theorem refBuild_spec (f:Ro eS h a l ls) (hd:dep (l:Int)≠0) (hz:∀ p ∈ ls,p.size=32) (tb:Tabs h) (k:∀ a c h',Wd h h' [.sl 9 1 a l c (eS.row (buildP ls))]→Q a l c (nodeD ls 1) 0 h'):ref12_Build a l c h Q:=by
 unfold ref12_Build ref12_Build.g
 have hlen:=f.len
 have hl:2≤l∧l≤16:=by rcases dep_ne hd with h | h | h | h <;> omega
 have w:=Wd.start h
 refine refDepth_spec (cf (by rw [beq_eq_false_iff_ne]; omega) ?_)
 have hp:∀ m,m<l→(sa ls m).size=32:=fun m hm=>by rw [sa_get (by omega)]; exact hz _ (List.getElem_mem _)
 refine M.jn ?_
 refine M.loop_of (I:=fun (i:Int) h'=>∃ m:Nat,m≤l∧i=(m:Int)∧Wd h h' []) (μ:=fun i=>(l-i).toNat) ⟨0,by omega,rfl,w⟩ ?_
 clear w
 rintro _ h2 J ⟨m,hm,rfl,w⟩ hJ
 by_cases hlt:m<l
 ·refine cdt (by omega) ?_
  have hpm:=hp m hlt
  have v2:IntKind.wrap .i64 ((m:Int)+1)=((m+1:Nat):Int):=by rw [IntKind.wrap_i64]; omega
  simp only [v2]
  refine Ro.ldS (f.keep w.keep) (by omega) (by omega) ?_
  simp only [Int.toNat_natCast]
  refine cf (by simp [*]) ?_
  refine M.vin ?_
  exact hJ _ _ ⟨m+1,by omega,rfl,w⟩ (by omega)
 refine cdf (by omega) ?_
 refine M.mk_sl w (by omega) (by omega) (by omega) (by omega) rfl fun a1 h3 w=>?_
 simp only [zs,Int.toNat_natCast] at w ⊢
 refine M.jn ?_
 rw [rep_range] at w
 refine M.loop_of (I:=fun (i:Int) h'=>∃ q:Nat,1≤q∧q≤l∧i=(q:Int)∧Wd h h' [.sl 9 1 a1 l l (eS.row ((List.range l).map fun j=>if j=0∨q≤j then ByteArray.empty else pairD ls j))]) (μ:=fun i=>(l-i).toNat) ⟨1,by omega,by omega,rfl,?_⟩ ?_
 ·rw [map_range_congr (g:=fun _=>ByteArray.empty) fun i hi=>if_pos (by omega)]
  exact w
 clear w hJ J
 rintro _ h3 J ⟨q,hq0,hq,rfl,w⟩ hJ
 by_cases hlt2:q<l
 ·refine cdt (by omega) ?_
  have z1:=nodeD_size hz (i:=2*q) (by omega) (by omega)
  have z2:=nodeD_size hz (i:=2*q+1) (by omega) (by omega)
  have v2:IntKind.wrap .i64 ((q:Int)+1)=((q+1:Nat):Int):=by rw [IntKind.wrap_i64]; omega
  refine M.vis ((2*q:Nat):Int) (by rw [IntKind.wrap_i64]; omega) ?_
  refine refDigest_spec (f.keep w.keep) hz hl.2 (tb.keep w.keep) (by omega) (by omega) fun h4 k4=>?_
  have w:=w.keeps k4
  refine M.vis ((2*q:Nat):Int) (by rw [IntKind.wrap_i64]; omega) (M.vis ((2*q+1:Nat):Int) (by rw [IntKind.wrap_i64]; omega) ?_)
  refine refDigest_spec (f.keep w.keep) hz hl.2 (tb.keep w.keep) (by omega) (by omega) fun h5 k5=>?_
  have w:=w.keeps k5
  have ep:nodeD ls (2*q)++nodeD ls (2*q+1)=pairD ls q:=rfl
  refine ⟨(by simp; omega),?_⟩
  simp only [v2,ep]
  refine w.put1 0 rfl rfl _ rfl (by omega) (by omega) fun h10 w=>?_
  simp only [bs,Int.toNat_natCast] at w
  refine M.vin ?_
  rw [set_map_range] at w
  refine hJ _ _ ⟨q+1,by omega,by omega,rfl,?_⟩ (by omega)
  rw [map_range_congr (g:=fun i=>if i=q then pairD ls q else if i=0∨q≤i then ByteArray.empty else pairD ls i) fun i hi=>?_]
  ·exact w
  ·by_cases h1:i=q
   ·subst h1; rw [if_neg (by omega),if_pos rfl]
   ·rw [if_neg h1]
    by_cases h2:i=0∨q≤i
    ·rw [if_pos h2,if_pos (by omega)]
    ·rw [if_neg h2,if_neg (by omega)]
 ·refine cdf (by omega) ?_
  refine refDigest_spec (i:=1) (f.keep w.keep) hz hl.2 (tb.keep w.keep) (by omega) (by omega) fun h5 k5=>?_
  have w:=w.keeps k5
  have e:buildP ls=(List.range l).map fun j=>if j=0∨q≤j then ByteArray.empty else pairD ls j:=by
   rw [buildP,hlen]
   refine map_range_congr fun i hi=>?_
   by_cases h1:i=0
   ·rw [if_pos h1,if_pos (.inl h1)]
   ·rw [if_neg h1,if_neg (by omega)]
  refine k _ _ _ ?_
  rw [e]
  exact w
end
end Go.Proofs.YthegnmanjdlmjaaGreatDoor
namespace Go.Proofs.YthegnmanjdlmjaaGreatDoor
open Go.Sh Go.RowKit
def qh (a b c d:U) (m n:Nat):U × U × U × U:=
 let a':=a+b
 let d':=(d ^^^ a').rotateLeft m
 let c':=c+d'
 (a',(b ^^^ c').rotateLeft n,c',d')
def qrt (a b c d:U):U × U × U × U:=
 let q:=qh a b c d 16 12
 qh q.1 q.2.1 q.2.2.1 q.2.2.2 8 7
def qS (s:List U) (a b c d:Nat):List U:=
 let q:=qrt (at0 s a) (at0 s b) (at0 s c) (at0 s d)
 (((s.set a q.1).set b q.2.1).set c q.2.2.1).set d q.2.2.2
theorem qS_len (s:List U) (a b c d:Nat):(qS s a b c d).length=s.length:=by simp [qS]
def dbl (s:List U):List U:=qS (qS (qS (qS (qS (qS (qS (qS s 0 4 8 12) 1 5 9 13) 2 6 10 14) 3 7 11 15) 0 5 10 15) 1 6 11 12) 2 7 8 13) 3 4 9 14
def dblN (s:List U):Nat→List U
 | 0=>s
 | n+1=>dbl (dblN s n)
theorem dbl_len (s:List U):(dbl s).length=s.length:=by simp [dbl,qS_len]
theorem uvs_set (s:List U) (i:Nat) (x:U):(uvs s).toArray.setIfInBounds i (.int .u32 (ui x))=(uvs (s.set i x)).toArray:=by
 rw [List.setIfInBounds_toArray,uvs,uvs,List.map_set]; rfl
theorem uvs_at (s:List U) (i:Nat) (hi:i<s.length):(uvs s)[i*1]? = some (.int .u32 (ui (at0 s i))):=by rw [Nat.mul_one,uvs_get s i hi,at0_get s i hi]
section
variable {h0 h:H} {a b c d:U} {s:List U}
theorem Quarter_spec {Q:Int→Int→Int→Int→H→Prop} (k:∀ h',Keep h h'→Q (ui (qrt a b c d).1) (ui (qrt a b c d).2.1) (ui (qrt a b c d).2.2.1) (ui (qrt a b c d).2.2.2) h'):chacha_Quarter (ui a) (ui b) (ui c) (ui d) h Q:=by
 unfold chacha_Quarter chacha_Quarter.g
 refine M.jn (M.times 3 ?_)
 have w:=Wd.start h
 refine M.iter_s ?_
 simp only [add_ui]
 refine cdt (by omega) ?_
 refine ⟨(by omega),(by omega),?_⟩
 simp only [bs,Int.reduceToNat]
 refine M.new_w w fun b2 h1 w=>?_
 refine ⟨(rfl),?_⟩
 refine M.puts_w0 w 0 rfl (by simp [isPlainCell]) (by simp) fun h3 w=>?_
 simp only [bs] at w
 refine M.vin ?_
 simp only [bXor_ui]
 refine M.vin ?_
 refine ⟨(by omega),(by omega),?_⟩
 simp only [bs,Int.reduceToNat,lb (w.blk 0 rfl)]
 refine Left_spec ?_
 simp only [add_ui]
 refine M.vin ?_
 simp only [bXor_ui]
 refine M.vin ?_
 refine ⟨(by omega),(by omega),?_⟩
 simp only [bs,Int.reduceToNat,lb (w.blk 0 rfl)]
 refine Left_spec ?_
 refine M.vis (1) (by decide) ?_
 refine M.iter_s ?_
 simp only [add_ui]
 refine cdt (by omega) ?_
 refine ⟨(by omega),(by omega),?_⟩
 simp only []
 simp only [bs,Int.reduceToNat]
 refine M.new_w w fun b5 h4 w=>?_
 refine ⟨(rfl),?_⟩
 refine M.puts_w0 w 1 rfl (by simp [isPlainCell]) (by simp) fun h6 w=>?_
 simp only [bs] at w
 refine M.vin ?_
 simp only [bXor_ui]
 refine M.vin ?_
 refine ⟨(by omega),(by omega),?_⟩
 simp only [bs,Int.reduceToNat,lb (w.blk 1 rfl)]
 refine Left_spec ?_
 simp only [add_ui]
 refine M.vin ?_
 simp only [bXor_ui]
 refine M.vin ?_
 refine ⟨(by omega),(by omega),?_⟩
 simp only [bs,Int.reduceToNat,lb (w.blk 1 rfl)]
 refine Left_spec ?_
 refine M.vis (2) (by decide) ?_
 refine M.iter_s ?_
 simp only [add_ui]
 refine cdf (by omega) ?_
 exact k _ w.keep
theorem refQuarter_spec {Q:Int→Int→Int→Int→H→Prop} (k:∀ h',Keep h h'→Q (ui (qrt a b c d).1) (ui (qrt a b c d).2.1) (ui (qrt a b c d).2.2.1) (ui (qrt a b c d).2.2.2) h'):ref06_Quarter (ui a) (ui b) (ui c) (ui d) h Q:=by
 unfold ref06_Quarter ref06_Quarter.g
 have w:=Wd.start h
 refine M.new_w w fun b2 h1 w=>?_
 simp only [add_ui]
 refine M.vin ?_
 simp only [bXor_ui]
 refine M.vin ?_
 refine refLeft_spec (by omega) ?_
 simp only [add_ui]
 refine M.vin ?_
 simp only [bXor_ui]
 refine M.vin ?_
 refine refLeft_spec (by omega) ?_
 simp only [add_ui]
 refine M.vin ?_
 simp only [bXor_ui]
 refine M.vin ?_
 refine refLeft_spec (by omega) ?_
 simp only [add_ui]
 refine M.vin ?_
 simp only [bXor_ui]
 refine M.vin ?_
 refine refLeft_spec (by omega) ?_
 refine ⟨(rfl),?_⟩
 refine M.puts_w0 w 0 rfl (by simp [isPlainCell]) (by simp) fun h3 w=>?_
 simp only [bs,Int.reduceToNat] at w
 simp only [bs,lb (w.blk 0 rfl)]
 exact k _ w.keep
theorem blk_put {L:List Chunk} {bk:Nat} {e:TypeId} {z:Int} {N:Nat} {K:H→Prop} (w:Wd h0 h L) (i:Nat) (hi:L[i]? = some (.blk bk (.cells (uvs s).toArray e (0,0)))) (n:Nat) (hz:z=(n:Int)) (hn:n<N) (hl:s.length=N) (x:U)
  (k:∀ h',Wd h0 h' (L.set i (.blk bk (.cells (uvs (s.set n x)).toArray e (0,0))))→K h'):M.aidx N z fun j=>M.put h (Addr.add ⟨bk,0,none⟩ (j*1)) (.int .u32 (ui x)) K:=by
 subst hz
 refine ⟨by omega,by omega,?_⟩
 show M.put h (Addr.add ⟨bk,0,none⟩ ((n:Int).toNat * 1)) _ K
 rw [Int.toNat_natCast,Nat.mul_one,addr_add,Nat.zero_add]
 refine M.put_w w i hi rfl (by rw [List.size_toArray,uvs_len]; omega) fun h' w=>k h' ?_
 rwa [uvs_set] at w
theorem quarter_spec {bk:Nat} {e:TypeId} {i j k l:Int} {Q:H→Prop} (w:Wd h0 h [.blk bk (.cells (uvs s).toArray e (0,0))]) (hs:s.length=16) (hi:0≤i∧i<16) (hj:0≤j∧j<16) (hk:0≤k∧k<16) (hl:0≤l∧l<16)
  (q:∀ h',Wd h0 h' [.blk bk (.cells (uvs (qS s i.toNat j.toNat k.toNat l.toNat)).toArray e (0,0))]→Q h'):chacha_quarter (some ⟨bk,0,none⟩) i j k l h Q:=by
 unfold chacha_quarter chacha_quarter.g
 have r:=row_blk (w.blk 0 rfl)
 have ei:i=(i.toNat:Int):=by omega
 have ej:j=(j.toNat:Int):=by omega
 have ek:k=(k.toNat:Int):=by omega
 have el:l=(l.toNat:Int):=by omega
 generalize i.toNat=i' at *
 generalize j.toNat=j' at *
 generalize k.toNat=k' at *
 generalize l.toNat=l' at *
 simp only [nn_eq]
 refine ld_row r i' ei (by omega) hs ?_
 refine ld_row r j' ej (by omega) hs ?_
 refine ld_row r k' ek (by omega) hs ?_
 refine ld_row r l' el (by omega) hs ?_
 refine Quarter_spec fun h2 k2=>?_
 have w:=w.keeps k2
 refine blk_put w 0 rfl i' ei (by omega) hs _ fun h3 w=>blk_put w 0 rfl j' ej (by omega) (by simp [hs]) _ fun h4 w=>blk_put w 0 rfl k' ek (by omega) (by simp [hs]) _ fun h5 w=>blk_put w 0 rfl l' el (by omega) (by simp [hs]) _ fun h6 w=>?_
 exact q _ w
theorem refquarter_spec {i j k l:Int} {Q:Array Value→H→Prop} (hs:s.length=16) (hi:0≤i∧i<16) (hj:0≤j∧j<16) (hk:0≤k∧k<16) (hl:0≤l∧l<16)
  (q:∀ h',Keep h h'→Q (uvs (qS s i.toNat j.toNat k.toNat l.toNat)).toArray h'):ref06_quarter (uvs s).toArray i j k l h Q:=by
 unfold ref06_quarter ref06_quarter.g
 have ei:i=(i.toNat:Int):=by omega
 have ej:j=(j.toNat:Int):=by omega
 have ek:k=(k.toNat:Int):=by omega
 have el:l=(l.toNat:Int):=by omega
 generalize i.toNat=i' at *
 generalize j.toNat=j' at *
 generalize k.toNat=k' at *
 generalize l.toNat=l' at *
 refine M.new_w (Wd.start h) fun b2 h1 w=>M.new_w w fun b4 h2 w=>?_
 have r:=row_blk (w.blk 0 rfl)
 have hb:=w.blk 0 rfl
 generalize hq:qrt (at0 s i') (at0 s j') (at0 s k') (at0 s l')=q4
 refine M.join_of (fun d h'=>∃ b3,d=⟨b3,0,none⟩∧Wd h h' [.blk b2 (.cells (uvs s).toArray 274),.blk b4 (.cells (uvs (List.replicate 16 (0:U))).toArray 274),.blk b3 (.cells (uvs [q4.1,q4.2.1,q4.2.2.1,q4.2.2.2]).toArray 332)]) (fun J hJ=>?_) ?_
 ·subst ei ej ek el
  have g1:=uvs_at s i' (by omega)
  have g2:=uvs_at s j' (by omega)
  have g3:=uvs_at s k' (by omega)
  have g4:=uvs_at s l' (by omega)
  refine ⟨(by omega),(by omega),?_⟩
  simp only [bs,Int.toNat_natCast,g1,lb (w.blk 0 rfl)]
  refine ⟨(by omega),(by omega),?_⟩
  simp only [Int.toNat_natCast,g2]
  simp only [bs]
  refine ⟨(by omega),(by omega),?_⟩
  simp only [Int.toNat_natCast,g3]
  simp only [bs]
  refine ⟨(by omega),(by omega),?_⟩
  simp only [Int.toNat_natCast,g4]
  simp only [bs]
  refine ⟨?_,?_⟩
  refine refQuarter_spec fun h3 k_=>?_
  have w:=w.keeps k_
  clear k_
  refine M.new_k w fun b5 h4 kk6 w=>?_
  refine M.still_at hb (w.blk 0 rfl) ?_
  refine M.still_at hb (w.blk 0 rfl) ?_
  refine M.still_at hb (w.blk 0 rfl) ?_
  refine M.still_at hb (w.blk 0 rfl) ?_
  refine ⟨(rfl),?_⟩
  refine M.puts_w0 w 2 rfl (by simp [isPlainCell]) (by simp) fun h7 w=>?_
  simp only [bs,hq] at w
  rotate_left
  refine M.new_k w fun b9 h8 kk10 w=>?_
  refine M.still_at hb (w.blk 0 rfl) ?_
  refine M.still_at hb (w.blk 0 rfl) ?_
  refine M.still_at hb (w.blk 0 rfl) ?_
  refine M.still_at hb (w.blk 0 rfl) ?_
  refine refQuarter_spec fun h11 k_=>?_
  have w:=w.keeps k_
  clear k_
  refine ⟨(rfl),?_⟩
  refine M.puts_w0 w 2 rfl (by simp [isPlainCell]) (by simp) fun h12 w=>?_
  simp only [bs,hq] at w
  rotate_left
  all_goals exact hJ _ _ ⟨_,rfl,w⟩
 clear w hb r
 rintro _ h3 ⟨b3,rfl,w⟩
 have r3:=row_blk (w.blk 2 rfl)
 refine ld_row r3 0 rfl (by omega) rfl (blk_put w 0 rfl i' ei (by omega) hs _ fun h4 w=>?_)
 have r3:=row_blk (w.blk 2 rfl)
 refine ld_row r3 1 rfl (by omega) rfl (blk_put w 0 rfl j' ej (by omega) (by simp [hs]) _ fun h5 w=>?_)
 have r3:=row_blk (w.blk 2 rfl)
 refine ld_row r3 2 rfl (by omega) rfl (blk_put w 0 rfl k' ek (by omega) (by simp [hs]) _ fun h6 w=>?_)
 have r3:=row_blk (w.blk 2 rfl)
 refine ld_row r3 3 rfl (by omega) rfl (blk_put w 0 rfl l' el (by omega) (by simp [hs]) _ fun h7 w=>?_)
 have eq:qS s i' j' k' l'=(((s.set i' q4.1).set j' q4.2.1).set k' q4.2.2.1).set l' q4.2.2.2:=by rw [qS,hq]
 rw [eq] at q
 refine M.row_all (w.blk 0 rfl) (by simp [uvs_len,hs]) ?_
 refine ⟨by simp [uvs_len,hs],M.puts_w0 w 1 rfl (uvs_plain _) (by simp [uvs_len,hs]) fun h8 w=>?_⟩
 refine M.row_all (w.blk 1 rfl) (by simp [uvs_len,hs]) ?_
 exact q _ w.keep
end
end Go.Proofs.YthegnmanjdlmjaaGreatDoor
namespace Go.Proofs.YthegnmanjdlmjaaGreatDoor
open Go.Sh Go.RowKit
def xorT (a b:ByteArray):ByteArray:=byT (min a.size b.size) fun i=>bx (byteAt a i) (byteAt b i)
section
variable {h:H} {a b:ByteArray} {Q:ByteArray→H→Prop}
theorem Xor_spec (ha:a.size≤1000000) (k:∀ h',Keep h h'→Q (xorT a b) h'):words_Xor a b h Q:=by
 unfold words_Xor
 rw [mn_nat]
 unfold xorT at k
 generalize hn:min a.size b.size=n at *
 have w:=Wd.start h
 refine M.mk_sl w (by omega) (by omega) (by omega) (by omega) rfl fun a1 h2 w=>?_
 simp only [zs,Int.toNat_natCast] at w ⊢
 refine M.jn ?_
 refine M.loop_of (I:=fun (i:Int) h'=>∃ m:Nat,m≤n∧i=(m:Int)∧Wd h h' [.sl 5 1 a1 n n (eB.row ((List.range n).map fun i=>if i<m then bx (byteAt a i) (byteAt b i) else 0))]) (μ:=fun i=>(n-i).toNat) ⟨0,by omega,rfl,?_⟩ ?_
 ·have:(List.range n).map (fun i=>if i<0 then bx (byteAt a i) (byteAt b i) else 0)=List.replicate n 0:=by
   rw [List.eq_replicate_iff]
   refine ⟨by simp,fun b hb=>?_⟩
   rw [List.mem_map] at hb
   obtain ⟨j,hj,rfl⟩:=hb
   rw [if_neg (by omega)]
  rw [this]; exact w
 clear w
 rintro _ h2 J ⟨m,hm,rfl,w⟩ hJ
 by_cases hlt:m<n
 ·refine cdt (by omega) ?_
  have v2:IntKind.wrap .i64 ((m:Int)+1)=((m+1:Nat):Int):=by rw [IntKind.wrap_i64]; omega
  refine ⟨(by omega),(by omega),?_⟩
  refine ⟨(by omega),(by omega),?_⟩
  simp only [Int.toNat_natCast,v2]
  refine M.vin ?_
  refine w.put1 0 rfl rfl _ rfl (by omega) (by omega) fun h4 w=>?_
  simp only [bs,Int.toNat_natCast,set_map_range] at w
  refine M.vin ?_
  refine hJ _ _ ⟨m+1,by omega,rfl,?_⟩ (by omega)
  have:(List.range n).map (fun i=>if i<m+1 then bx (byteAt a i) (byteAt b i) else 0)=(List.range n).map (fun i=>if i=m then bXor .u8 (byteAt a m) (byteAt b m) else if i<m then bx (byteAt a i) (byteAt b i) else 0):=by
   apply List.map_congr_left
   intro i hi
   by_cases h1:i=m
   ·subst h1; rw [if_pos (by omega),if_pos rfl]; rfl
   ·rw [if_neg h1]
    by_cases h2:i<m
    ·rw [if_pos h2,if_pos (by omega)]
    ·rw [if_neg h2,if_neg (by omega)]
  rw [this]; exact w
 ·refine cdf (by omega) ?_
  refine w.textB 0 rfl ?_
  have:(List.range n).map (fun i=>if i<m then bx (byteAt a i) (byteAt b i) else 0)=(List.range n).map fun i=>bx (byteAt a i) (byteAt b i):=List.map_congr_left fun i hi=>if_pos (by have:=List.mem_range.1 hi; omega)
  rw [this]
  exact k _ w.keep
theorem mod_step (x i:Nat):x % 2 ^ (i+1)=x % 2 ^ i+2 ^ i*(x / 2 ^ i % 2):=by
 rw [Nat.pow_succ,Nat.mod_mul]
theorem xor_bit (x y i:Nat):(x ^^^ y) / 2 ^ i % 2=if x / 2 ^ i % 2=y / 2 ^ i % 2 then 0 else 1:=by
 have h:=Nat.testBit_xor x y i
 rw [Nat.testBit_eq_decide_div_mod_eq,Nat.testBit_eq_decide_div_mod_eq,Nat.testBit_eq_decide_div_mod_eq] at h
 have h1:(x ^^^ y) / 2 ^ i % 2<2:=Nat.mod_lt _ (by decide)
 have h2:x / 2 ^ i % 2<2:=Nat.mod_lt _ (by decide)
 have h3:y / 2 ^ i % 2<2:=Nat.mod_lt _ (by decide)
 generalize (x ^^^ y) / 2 ^ i % 2=p at *
 generalize x / 2 ^ i % 2=q at *
 generalize y / 2 ^ i % 2=r at *
 have:p=0∨p=1:=by omega
 have:q=0∨q=1:=by omega
 have:r=0∨r=1:=by omega
 rcases ‹p=0∨p=1› with rfl | rfl <;> rcases ‹q=0∨q=1› with rfl | rfl <;> rcases ‹r=0∨r=1› with rfl | rfl <;> simp_all
theorem unlike_spec {x y:Int} {Q:Int→H→Prop} (hx:0≤x∧x<256) (hy:0≤y∧y<256) (k:Q (bx x y) h):ref01_unlike x y h Q:=by
 unfold ref01_unlike
 rw [bx_nat hx hy] at k
 obtain ⟨x,rfl⟩:=Int.eq_ofNat_of_zero_le hx.1
 obtain ⟨y,rfl⟩:=Int.eq_ofNat_of_zero_le hy.1
 simp only [Int.toNat_natCast] at k
 have hz:x ^^^ y<2 ^ 8:=Nat.xor_lt_two_pow (by omega) (by omega)
 refine M.loop_of (I:=fun (p:Int × Int × Int × Int × Int) h'=>h'=h∧∃ i:Nat,i≤8∧p=(((x / 2 ^ i:Nat):Int),((y / 2 ^ i:Nat):Int),(((x ^^^ y) % 2 ^ i:Nat):Int),((2 ^ i % 256:Nat):Int),(i:Int))) (μ:=fun p=>(8-p.2.2.2.2).toNat) ⟨rfl,0,by omega,by simp [Nat.mod_one]⟩ ?_
 rintro _ h2 J ⟨rfl,i,hi,rfl⟩ hJ
 simp only
 by_cases hlt:i<8
 ·refine cdt (by omega) ?_
  have hp:2 ^ i % 256=2 ^ i:=by
   have:2 ^ i≤2 ^ 7:=Nat.pow_le_pow_right (by omega) (by omega)
   exact Nat.mod_eq_of_lt (by omega)
  have hp7:2 ^ i≤2 ^ 7:=Nat.pow_le_pow_right (by omega) (by omega)
  have hs:=mod_step (x ^^^ y) i
  rw [xor_bit] at hs
  have hx':=Nat.div_le_self x (2 ^ i)
  have hy':=Nat.div_le_self y (2 ^ i)
  have hm:(x ^^^ y) % 2 ^ i<2 ^ i:=Nat.mod_lt _ (Nat.two_pow_pos i)
  have hd1:x / 2 ^ (i+1)=x / 2 ^ i / 2:=by rw [Nat.pow_succ,←Nat.div_div_eq_div_mul]
  have hd2:y / 2 ^ (i+1)=y / 2 ^ i / 2:=by rw [Nat.pow_succ,←Nat.div_div_eq_div_mul]
  have hpp:2 ^ (i+1) % 256=2*2 ^ i % 256:=by rw [Nat.pow_succ,Nat.mul_comm]
  have nxt:=hJ (((x / 2 ^ (i+1):Nat):Int),((y / 2 ^ (i+1):Nat):Int),(((x ^^^ y) % 2 ^ (i+1):Nat):Int),((2 ^ (i+1) % 256:Nat):Int),((i+1:Nat):Int)) h2 ⟨rfl,i+1,by omega,rfl⟩ (by simp only; omega)
  rw [hd1,hd2,hs,hpp] at nxt
  rw [hp]
  generalize x / 2 ^ i=p at *
  generalize y / 2 ^ i=q at *
  generalize (x ^^^ y) % 2 ^ i=n at *
  generalize 2 ^ i=t at *
  have v1:IntKind.wrap .u8 (Int.tdiv (p:Int) 2)=((p / 2:Nat):Int):=by rw [Int.tdiv_eq_ediv_of_nonneg (by omega),IntKind.wrap_u8]; omega
  have v2:IntKind.wrap .u8 (Int.tdiv (q:Int) 2)=((q / 2:Nat):Int):=by rw [Int.tdiv_eq_ediv_of_nonneg (by omega),IntKind.wrap_u8]; omega
  have v3:IntKind.wrap .u8 (2*(t:Int))=((2*t % 256:Nat):Int):=by rw [IntKind.wrap_u8]; omega
  have v4:IntKind.wrap .i64 ((i:Int)+1)=((i+1:Nat):Int):=by rw [IntKind.wrap_i64]; omega
  have v5:Int.tmod (p:Int) 2=((p % 2:Nat):Int):=by rw [Int.tmod_eq_emod_of_nonneg (by omega)]; omega
  have v6:Int.tmod (q:Int) 2=((q % 2:Nat):Int):=by rw [Int.tmod_eq_emod_of_nonneg (by omega)]; omega
  refine M.join_of (fun d h'=>h'=h2∧d=((n+t*(if p % 2=q % 2 then 0 else 1):Nat):Int)) (fun J2 hJ2=>?_) ?_
  ·refine ⟨by decide,M.vis _ v5 ⟨by decide,M.vis _ v6 ?_⟩⟩
   refine cc (fun e=>?_) fun e=>?_
   ·rw [bne_iff_ne] at e
    have e':¬ p % 2=q % 2:=by omega
    rw [if_neg e'] at hJ2
    exact M.vis _ (u8' (by omega) (by omega)) (hJ2 _ _ ⟨rfl,by omega⟩)
   ·rw [bne_eq_false_iff_eq] at e
    have e':p % 2=q % 2:=by omega
    rw [if_pos e'] at hJ2
    exact hJ2 _ _ ⟨rfl,by omega⟩
  rintro _ _ ⟨rfl,rfl⟩
  exact ⟨by decide,M.vis _ v1 ⟨by decide,M.vis _ v2 (M.vis _ v3 (M.vis _ v4 nxt))⟩⟩
 ·refine cdf (by omega) ?_
  obtain rfl:i=8:=by omega
  rw [Nat.mod_eq_of_lt hz]
  exact k
theorem refXor_spec (ha:a.size≤1000000) (k:∀ h',Keep h h'→Q (xorT a b) h'):ref01_Xor a b h Q:=by
 unfold ref01_Xor ref01_Xor.g
 unfold xorT at k
 refine M.jn ?_
 refine M.loop_of (I:=fun (p:(Option Addr × Nat × Nat) × Int) h'=>∃ m:Nat,m≤min a.size b.size∧p.2=(m:Int)∧p.1.2.1=m∧Wd h h' [.sl 5 1 p.1.1 p.1.2.1 p.1.2.2 (bvs ((List.range m).map fun i=>bx (byteAt a i) (byteAt b i)))]) (μ:=fun p=>(a.size-p.2).toNat) ⟨0,by omega,rfl,rfl,(Wd.start h).nilsl _ _⟩ ?_
 rintro ⟨⟨a2,m,c2⟩,_⟩ h2 J ⟨m',hm,hi,hl,w⟩ hJ
 simp only at hi hl w ⊢
 subst hi hl
 refine M.jn ?_
 refine cd (fun h1=>?_) fun h1=>?_
 ·refine cd (fun h2=>?_) fun h2=>?_
  ·have v2:IntKind.wrap .i64 ((m:Int)+1)=((m+1:Nat):Int):=by rw [IntKind.wrap_i64]; omega
   have b1:=byteAt_lt a m
   have b2:=byteAt_lt b m
   refine ⟨(by omega),(by assumption),?_⟩
   refine ⟨(by omega),(by assumption),?_⟩
   simp only [Int.toNat_natCast,v2]
   refine unlike_spec (by assumption) (by assumption) ?_
   refine Wd.push w 0 rfl rfl rfl (by simp [isPlainCell]) (by omega) (by omega) fun a5 c6 h3 w=>?_
   refine M.vin ?_
   refine hJ _ _ ⟨m+1,by omega,rfl,rfl,?_⟩ (by omega)
   rw [List.range_succ,List.map_append,bvs_app]
   exact w
  ·refine w.text 0 rfl ?_
   have:m=min a.size b.size:=by omega
   subst this
   exact k _ w.keep
 ·refine cf (rfl) ?_
  refine w.text 0 rfl ?_
  have:m=min a.size b.size:=by omega
  subst this
  exact k _ w.keep
end
end Go.Proofs.YthegnmanjdlmjaaGreatDoor
namespace Go.Proofs.YthegnmanjdlmjaaGreatDoor
open Go.Sh Go.RowKit
theorem wordAt_left (big:Bool) (a b:ByteArray) (i:Nat) (h:4*i+3<a.size):wordAt big (a++b) i=wordAt big a i:=by
 unfold wordAt
 rw [byteAt_app,if_pos (by omega),byteAt_app,if_pos (by omega),byteAt_app,if_pos (by omega),byteAt_app,if_pos (by omega)]
theorem wordAt_right (big:Bool) (a b:ByteArray) (m i:Nat) (h:a.size=4*m):wordAt big (a++b) (m+i)=wordAt big b i:=by
 unfold wordAt
 rw [byteAt_app,if_neg (by omega),byteAt_app,if_neg (by omega),byteAt_app,if_neg (by omega),byteAt_app,if_neg (by omega),show 4*(m+i)-a.size=4*i by omega,show 4*(m+i)+1-a.size=4*i+1 by omega,show 4*(m+i)+2-a.size=4*i+2 by omega,show 4*(m+i)+3-a.size=4*i+3 by omega]
theorem wordsOf_app (big:Bool) (a b:ByteArray) (h:a.size % 4=0):wordsOf big (a++b)=wordsOf big a++wordsOf big b:=by
 obtain ⟨m,hm⟩:∃ m,a.size=4*m:=⟨a.size / 4,by omega⟩
 unfold wordsOf
 rw [ByteArray.size_append,show (a.size+b.size) / 4=m+b.size / 4 by omega,show a.size / 4=m by omega,List.range_add,List.map_append,List.map_map]
 congr 1
 ·exact List.map_congr_left fun i hi=>wordAt_left _ _ _ _ (by have:=List.mem_range.1 hi; omega)
 ·exact List.map_congr_left fun i hi=>wordAt_right _ _ _ _ _ hm
theorem list8 (l:List U) (h:l.length=8):l=[l.getD 0 0,l.getD 1 0,l.getD 2 0,l.getD 3 0,l.getD 4 0,l.getD 5 0,l.getD 6 0,l.getD 7 0]:=by
 match l,h with
 | [a,b,c,d,e,f,g,i],_=>rfl
theorem list3 (l:List U) (h:l.length=3):l=[l.getD 0 0,l.getD 1 0,l.getD 2 0]:=by
 match l,h with
 | [a,b,c],_=>rfl
def sigW:List U:=[0x61707865,0x3320646e,0x79622d32,0x6b206574]
def cha0 (key nonce:ByteArray) (c:U):List U:=((sigW++wordsOf false key)++[c])++wordsOf false nonce
def finL (D S:List U):List U:=(List.range 16).map fun i=>at0 D i+at0 S i
def blockT (key nonce:ByteArray) (c:U):ByteArray:=textOf false (finL (dblN (cha0 key nonce c) 10) (cha0 key nonce c))
theorem blockT_size (key nonce:ByteArray) (c:U):(blockT key nonce c).size=64:=by rw [blockT,textOf_size]; simp [finL]
theorem cha0_len {key nonce:ByteArray} {c:U} (hk:key.size=32) (hn:nonce.size=12):(cha0 key nonce c).length=16:=by
 simp [cha0,wordsOf_len,hk,hn,sigW]
theorem fin_set (D S:List U) (hD:D.length=16) (m:Nat) (hm:m<16):((List.range 16).map fun i=>if i<m then at0 D i+at0 S i else at0 D i).set m (at0 D m+at0 S m)=(List.range 16).map fun i=>if i<m+1 then at0 D i+at0 S i else at0 D i:=by
 rw [set_map_range]
 apply List.map_congr_left
 intro i hi
 by_cases h1:i=m
 ·subst h1; rw [if_pos rfl,if_pos (by omega)]
 ·rw [if_neg h1]
  by_cases h2:i<m
  ·rw [if_pos h2,if_pos (by omega)]
  ·rw [if_neg h2,if_neg (by omega)]
theorem ldw {h:H} {b:Nat} {e:TypeId} {f:Nat × Nat} {us:List U} {K:Int→Prop} {i:Int} {N:Nat} (hb:h b=some (.cells (uvs us).toArray e f)) (n:Nat) (hi:i=(n:Int)) (hn:n<N) (hl:us.length=N) (k:K (ui (at0 us n))):M.aidx N i fun j=>M.load h ⟨b,j*1,none⟩ fun v=>M.int .u32 v K:=by
 subst hi
 refine ⟨by omega,by omega,?_⟩
 show M.load h ⟨b,(n:Int).toNat * 1,none⟩ _
 rw [lb hb,Int.toNat_natCast,List.getElem?_toArray,uvs_at us n (by omega),some_and,int_eq]
 exact k
theorem self_range (D:List U) (hD:D.length=16):D=(List.range 16).map fun i=>if i<0 then at0 D i+0 else at0 D i:=by
 apply List.ext_getElem
 ·simp [hD]
 ·intro i h1 h2
  simp [at0_get D i h1]
theorem sig_words:wordsOf false (⟨#[101,120,112,97,110,100,32,51,50,45,98,121,116,101,32,107]⟩:ByteArray)=sigW:=by decide
theorem refq_step {h0 h:H} {L:List Chunk} {b:Nat} {e:TypeId} {s:List U} {i j k l:Int} {K:H→Prop} (w:Wd h0 h L) (n:Nat) (hn:L[n]? = some (.blk b (.cells (uvs s).toArray e (0,0)))) (hs:s.length=16) (hi:0≤i∧i<16) (hj:0≤j∧j<16) (hk:0≤k∧k<16) (hl:0≤l∧l<16)
  (q:∀ h',Wd h0 h' (L.set n (.blk b (.cells (uvs (qS s i.toNat j.toNat k.toNat l.toNat)).toArray e (0,0))))→K h'):M.row h ⟨b,0,none⟩ 16 fun cs=>ref06_quarter (List.toArray cs) i j k l h fun cs2 h2=>M.req (Array.size cs2=16) (M.puts h2 ⟨b,0,none⟩ (Array.toList cs2) fun h3=>K h3):=by
 refine M.row_all (w.blk n hn) (by rw [List.size_toArray,uvs_len,hs]) ?_
 refine refquarter_spec hs hi hj hk hl fun h2 k2=>?_
 refine ⟨by rw [List.size_toArray,uvs_len,qS_len,hs],?_⟩
 exact M.puts_w0 (w.keeps k2) n hn (uvs_plain _) (by simp [uvs_len,qS_len]) q
section
variable {h:H} {key nonce:ByteArray} {c:U}
theorem stream_spec {Q:ByteArray→H→Prop} (hk:key.size=32) (hn:nonce.size=12) (k:∀ h',Keep h h'→Q (blockT key nonce c) h'):chacha_stream key nonce (ui c) h Q:=by
 unfold chacha_stream chacha_stream.g
 unfold blockT at k
 have hz:((⟨#[101,120,112,97,110,100,32,51,50,45,98,121,116,101,32,107]⟩:ByteArray)++key).size=48:=by rw [ByteArray.size_append,hk]; rfl
 have w:=Wd.start h
 refine ⟨(by simp only [szs]; omega),?_⟩
 refine Little_spec (by omega) (by omega) fun a1 c1 h1 w'=>?_
 have w:=w.join w'
 clear w'
 refine Little_spec (by omega) (by omega) fun a2 c2 h2 w'=>?_
 have w:=w.join w'
 clear w'
 rw [hz] at w ⊢
 rw [hn] at w ⊢
 rw [wordsOf_app _ _ _ (by rfl),sig_words] at w
 have hkl:(sigW++wordsOf false key).length=12:=by simp [wordsOf_len,hk,sigW]
 have hnl:(wordsOf false nonce).length=3:=by simp [wordsOf_len,hn]
 have hS:=cha0_len (c:=c) hk hn
 have hSd:cha0 key nonce c=((sigW++wordsOf false key)++[c])++wordsOf false nonce:=rfl
 generalize sigW++wordsOf false key=ws at *
 generalize wordsOf false nonce=ns at *
 simp only [Nat.reduceDiv] at w ⊢
 refine M.new_w w fun b4 h3 w=>?_
 refine M.sub_in 0 16 rfl rfl (by decide) (by decide) (by decide) ?_
 simp only [Nat.reduceAdd,Nat.reduceMul,Nat.reduceSub]
 refine Wd.push w 0 rfl rfl rfl (by simp [isPlainCell]) (by omega) (by omega) fun a7 c8 h5 w=>?_
 refine w.cells 1 rfl ?_
 refine M.app_w w 0 rfl rfl (by simp [uvs_len,bvs_len]; omega) (uvs_plain _) (by omega) (by omega) fun a9 c10 h11 w=>?_
 simp only [bs,Nat.reduceAdd] at w
 refine w.cells 0 rfl ?_
 have hS':(uvs ws++[Value.int .u32 (ui c)]++uvs ns)=uvs (cha0 key nonce c):=by rw [hSd,uvs_app,uvs_app]; rfl
 rw [hS']
 refine M.copy_all w 2 rfl (uvs_plain _) (by rw [uvs_len,hS]; rfl) fun h12 w=>?_
 generalize cha0 key nonce c=S at *
 refine M.row_all (w.blk 2 rfl) (by rw [List.size_toArray,uvs_len,hS]) ?_
 have hsz:(uvs S).toArray.toList.toArray.size=16:=by simp [uvs_len,hS]
 refine M.new_w w fun b5 h4 w=>?_
 refine ⟨(by assumption),?_⟩
 refine M.puts_w0 w 3 rfl (uvs_plain _) (by simp [uvs_len,hS]) fun h13 w=>?_
 have w:=(w.drop (i:=0) rfl).drop (i:=0) rfl
 obtain ⟨R,hR0,hRs,hR10⟩:∃ R:Nat→List U,R 0=S∧(∀ n,R (n+1)=dbl (R n))∧dblN S 10=R 10:=⟨dblN S,rfl,fun _=>rfl,rfl⟩
 have hRl:∀ n,(R n).length=16:=by
  intro n
  induction n with
  | zero=>rw [hR0,hS]
  | succ n ih=>rw [hRs,dbl_len,ih]
 rw [hR10] at k
 refine M.jn ?_
 refine M.loop_of (I:=fun (i:Int) h'=>∃ m:Nat,m≤10∧i=(m:Int)∧Wd h h' [.blk b4 (.cells (uvs S).toArray 274),.blk b5 (.cells (uvs (R m)).toArray 274)]) (μ:=fun i=>(10-i).toNat) ⟨0,by omega,rfl,by rw [hR0]; exact w⟩ ?_
 clear w
 rintro _ h14 J ⟨m,hm,rfl,w⟩ hJ
 by_cases hlt:m<10
 ·refine cdt (by omega) ?_
  have v1:IntKind.wrap .i64 ((m:Int)+1)=((m+1:Nat):Int):=by rw [IntKind.wrap_i64]; omega
  have hl:=hRl m
  refine M.jn (M.times 5 ?_)
  refine M.iter_s ?_
  refine cdt (by omega) ?_
  refine M.vis (4) (by decide) ?_
  refine M.vis (8) (by decide) ?_
  refine M.vis (12) (by decide) ?_
  obtain ⟨hx,k0,k1,wx,wr,back⟩:=w.on (i:=1) rfl
  refine quarter_spec wx (by assumption) (by omega) (by omega) (by omega) (by omega) fun h6 w_=>?_
  have w:=back _ _ w_
  clear w_ back wr wx k1 k0 hx
  simp only [bs,Int.reduceToNat] at w
  refine M.vis (1) (by decide) ?_
  refine M.iter_s ?_
  refine cdt (by omega) ?_
  refine M.vis (5) (by decide) ?_
  refine M.vis (9) (by decide) ?_
  refine M.vis (13) (by decide) ?_
  obtain ⟨hx,k0,k1,wx,wr,back⟩:=w.on (i:=1) rfl
  refine quarter_spec wx (by simp only [qS_len,hl]) (by omega) (by omega) (by omega) (by omega) fun h7 w_=>?_
  have w:=back _ _ w_
  clear w_ back wr wx k1 k0 hx
  simp only [bs,Int.reduceToNat] at w
  refine M.vis (2) (by decide) ?_
  refine M.iter_s ?_
  refine cdt (by omega) ?_
  refine M.vis (6) (by decide) ?_
  refine M.vis (10) (by decide) ?_
  refine M.vis (14) (by decide) ?_
  obtain ⟨hx,k0,k1,wx,wr,back⟩:=w.on (i:=1) rfl
  refine quarter_spec wx (by simp only [qS_len,hl]) (by omega) (by omega) (by omega) (by omega) fun h8 w_=>?_
  have w:=back _ _ w_
  clear w_ back wr wx k1 k0 hx
  simp only [bs,Int.reduceToNat] at w
  refine M.vis (3) (by decide) ?_
  refine M.iter_s ?_
  refine cdt (by omega) ?_
  refine M.vis (7) (by decide) ?_
  refine M.vis (11) (by decide) ?_
  refine M.vis (15) (by decide) ?_
  obtain ⟨hx,k0,k1,wx,wr,back⟩:=w.on (i:=1) rfl
  refine quarter_spec wx (by simp only [qS_len,hl]) (by omega) (by omega) (by omega) (by omega) fun h9 w_=>?_
  have w:=back _ _ w_
  clear w_ back wr wx k1 k0 hx
  simp only [bs,Int.reduceToNat] at w
  refine M.vis (4) (by decide) ?_
  refine M.iter_s ?_
  refine cdf (by omega) ?_
  refine M.times 5 ?_
  refine M.iter_s ?_
  simp only [v1]
  refine cdt (by omega) ?_
  refine M.vis (1) (by decide) ?_
  refine ⟨(by omega),?_⟩
  refine M.vis (1) (by decide) ?_
  refine M.vis (5) (by decide) ?_
  refine M.vis (2) (by decide) ?_
  refine ⟨(by omega),?_⟩
  refine M.vis (2) (by decide) ?_
  refine M.vis (10) (by decide) ?_
  refine M.vis (3) (by decide) ?_
  refine ⟨(by omega),?_⟩
  refine M.vis (3) (by decide) ?_
  refine M.vis (15) (by decide) ?_
  obtain ⟨hx,k0,k1,wx,wr,back⟩:=w.on (i:=1) rfl
  refine quarter_spec wx (by simp only [qS_len,hl,v1]) (by omega) (by omega) (by omega) (by omega) fun h10 w_=>?_
  have w:=back _ _ w_
  clear w_ back wr wx k1 k0 hx
  simp only [bs,Int.reduceToNat] at w
  refine M.vis (1) (by decide) ?_
  refine M.iter_s ?_
  refine cdt (by omega) ?_
  refine M.vis (2) (by decide) ?_
  refine ⟨(by omega),?_⟩
  refine M.vis (2) (by decide) ?_
  refine M.vis (6) (by decide) ?_
  refine M.vis (3) (by decide) ?_
  refine ⟨(by omega),?_⟩
  refine M.vis (3) (by decide) ?_
  refine M.vis (11) (by decide) ?_
  refine M.vis (4) (by decide) ?_
  refine ⟨(by omega),?_⟩
  refine M.vis (0) (by decide) ?_
  refine M.vis (12) (by decide) ?_
  obtain ⟨hx,k0,k1,wx,wr,back⟩:=w.on (i:=1) rfl
  refine quarter_spec wx (by simp only [qS_len,hl,v1]) (by omega) (by omega) (by omega) (by omega) fun h15 w_=>?_
  have w:=back _ _ w_
  clear w_ back wr wx k1 k0 hx
  simp only [bs,Int.reduceToNat] at w
  refine M.vis (2) (by decide) ?_
  refine M.iter_s ?_
  refine cdt (by omega) ?_
  refine M.vis (3) (by decide) ?_
  refine ⟨(by omega),?_⟩
  refine M.vis (3) (by decide) ?_
  refine M.vis (7) (by decide) ?_
  refine M.vis (4) (by decide) ?_
  refine ⟨(by omega),?_⟩
  refine M.vis (0) (by decide) ?_
  refine M.vis (8) (by decide) ?_
  refine M.vis (5) (by decide) ?_
  refine ⟨(by omega),?_⟩
  refine M.vis (1) (by decide) ?_
  refine M.vis (13) (by decide) ?_
  obtain ⟨hx,k0,k1,wx,wr,back⟩:=w.on (i:=1) rfl
  refine quarter_spec wx (by simp only [qS_len,hl,v1]) (by omega) (by omega) (by omega) (by omega) fun h16 w_=>?_
  have w:=back _ _ w_
  clear w_ back wr wx k1 k0 hx
  simp only [bs,Int.reduceToNat] at w
  refine M.vis (3) (by decide) ?_
  refine M.iter_s ?_
  refine cdt (by omega) ?_
  refine M.vis (4) (by decide) ?_
  refine ⟨(by omega),?_⟩
  refine M.vis (0) (by decide) ?_
  refine M.vis (4) (by decide) ?_
  refine M.vis (5) (by decide) ?_
  refine ⟨(by omega),?_⟩
  refine M.vis (1) (by decide) ?_
  refine M.vis (9) (by decide) ?_
  refine M.vis (6) (by decide) ?_
  refine ⟨(by omega),?_⟩
  refine M.vis (2) (by decide) ?_
  refine M.vis (14) (by decide) ?_
  obtain ⟨hx,k0,k1,wx,wr,back⟩:=w.on (i:=1) rfl
  refine quarter_spec wx (by simp only [qS_len,hl,v1]) (by omega) (by omega) (by omega) (by omega) fun h17 w_=>?_
  have w:=back _ _ w_
  clear w_ back wr wx k1 k0 hx
  simp only [bs,Int.reduceToNat] at w
  refine M.vis (4) (by decide) ?_
  refine M.iter_s ?_
  refine cdf (by omega) ?_
  refine M.vin ?_
  refine hJ _ _ ⟨m+1,by omega,rfl,?_⟩ (by omega)
  rw [hRs,dbl]
  exact w
 ·refine cdf (by omega) ?_
  obtain rfl:m=10:=by omega
  have hl:=hRl 10
  generalize R 10=D at *
  have hDr:D=(List.range 16).map fun i=>if i<0 then at0 D i+at0 S i else at0 D i:=by
   refine (self_range D hl).trans ?_
   apply List.map_congr_left
   intro i hi
   rw [if_neg (by omega),if_neg (by omega)]
  refine M.jn ?_
  refine M.loop_of (I:=fun (i:Int) h'=>∃ m:Nat,m≤16∧i=(m:Int)∧Wd h h' [.blk b4 (.cells (uvs S).toArray 274),.blk b5 (.cells (uvs ((List.range 16).map fun i=>if i<m then at0 D i+at0 S i else at0 D i)).toArray 274)]) (μ:=fun i=>(16-i).toNat) ⟨0,by omega,rfl,by rw [←hDr]; exact w⟩ ?_
  clear w
  rintro _ h15 J2 ⟨m,hm,rfl,w⟩ hJ2
  have hml:((List.range 16).map fun i=>if i<m then at0 D i+at0 S i else at0 D i).length=16:=by simp
  by_cases hlt:m<16
  ·refine cdt (by omega) ?_
   have hm0:at0 ((List.range 16).map fun i=>if i<m then at0 D i+at0 S i else at0 D i) m=at0 D m:=by
    rw [at0_get _ _ (by omega)]; simp
   refine ld_row (row_blk (w.blk 1 rfl)) m rfl hlt hml ?_
   refine ld_row (row_blk (w.blk 0 rfl)) m rfl hlt hS ?_
   rw [hm0,add_ui]
   refine M.vin (blk_put w 1 rfl m rfl hlt hml _ fun h16 w=>?_)
   refine M.vis ((m+1:Nat):Int) (by rw [IntKind.wrap_i64]; omega) ?_
   refine hJ2 _ _ ⟨m+1,by omega,rfl,?_⟩ (by omega)
   rw [fin_set D S hl m hlt] at w
   exact w
  ·refine cdf (by omega) ?_
   obtain rfl:m=16:=by omega
   refine M.sub_in 0 16 rfl rfl (by decide) (by decide) (by decide) ?_
   simp only [Nat.reduceAdd,Nat.reduceMul,Nat.reduceSub]
   have e:((List.range 16).map fun i=>if i<16 then at0 D i+at0 S i else at0 D i)=finL D S:=List.map_congr_left fun i hi=>if_pos (List.mem_range.1 hi)
   rw [e] at w
   refine FromLittle_spec (words_blk (us:=finL D S) (rest:=[]) (by rw [List.append_nil]; exact w.blk 1 rfl) (by simp [finL])) fun h16 k16=>?_
   exact k _ (w.keep.trans k16)
theorem shape_spec {Q:Bool→H→Prop} (hk:key.size=32) (hn:nonce.size=12) (k:Q true h):chacha_shape key nonce h Q:=by
 unfold chacha_shape
 refine M.jn ?_
 refine ct (by rw [hk]; rfl) ?_
 rw [hn]
 exact k
theorem Block_spec {Q:ByteArray→Int→H→Prop} (hk:key.size=32) (hn:nonce.size=12) (k:∀ h',Keep h h'→Q (blockT key nonce c) 0 h'):chacha_Block key nonce (ui c) h Q:=by
 unfold chacha_Block chacha_Block.g
 have w:=Wd.start h
 refine shape_spec (by assumption) (by assumption) ?_
 refine cf (rfl) ?_
 refine stream_spec (by assumption) (by assumption) fun h1 k_=>?_
 have w:=w.keeps k_
 clear k_
 exact k _ w.keep
theorem refBlock6_spec {Q:ByteArray→Int→H→Prop} (hk:key.size=32) (hn:nonce.size=12) (k:∀ h',Keep h h'→Q (blockT key nonce c) 0 h'):ref06_Block key nonce (ui c) h Q:=by
 unfold ref06_Block ref06_Block.g
 unfold blockT at k
 refine M.jn ?_
 have w:=Wd.start h
 refine cf (by simp [*]) ?_
 refine cf (by simp [*]) ?_
 refine refWords_spec (by omega) (by omega) fun a1 c1 h1 w'=>?_
 have w:=w.join w'
 clear w'
 refine refWords_spec (by omega) (by omega) fun a2 c2 h2 w'=>?_
 have w:=w.join w'
 clear w'
 rw [hk] at w ⊢
 rw [hn] at w ⊢
 simp only [Nat.reduceDiv] at w ⊢
 refine Ro.atU (w.roU 0 rfl) (by omega) (by omega) fun b1 hc3=>?_
 simp only [Int.reduceToNat] at hc3
 simp only [bs,Nat.reduceMul,Int.reduceToNat,lc hc3]
 refine Ro.atU (w.roU 0 rfl) (by omega) (by omega) fun b4 hc6=>?_
 simp only [Int.reduceToNat] at hc6
 simp only [bs,Nat.reduceMul,Int.reduceToNat,lc hc6]
 refine Ro.atU (w.roU 0 rfl) (by omega) (by omega) fun b7 hc9=>?_
 simp only [Int.reduceToNat] at hc9
 simp only [bs,Nat.reduceMul,Int.reduceToNat,lc hc9]
 refine Ro.atU (w.roU 0 rfl) (by omega) (by omega) fun b10 hc12=>?_
 simp only [Int.reduceToNat] at hc12
 simp only [bs,Nat.reduceMul,Int.reduceToNat,lc hc12]
 refine Ro.atU (w.roU 0 rfl) (by omega) (by omega) fun b13 hc15=>?_
 simp only [Int.reduceToNat] at hc15
 simp only [bs,Nat.reduceMul,Int.reduceToNat,lc hc15]
 refine Ro.atU (w.roU 0 rfl) (by omega) (by omega) fun b16 hc18=>?_
 simp only [Int.reduceToNat] at hc18
 simp only [bs,Nat.reduceMul,Int.reduceToNat,lc hc18]
 refine Ro.atU (w.roU 0 rfl) (by omega) (by omega) fun b19 hc21=>?_
 simp only [Int.reduceToNat] at hc21
 simp only [bs,Nat.reduceMul,Int.reduceToNat,lc hc21]
 refine Ro.atU (w.roU 0 rfl) (by omega) (by omega) fun b22 hc24=>?_
 simp only [Int.reduceToNat] at hc24
 simp only [bs,Nat.reduceMul,Int.reduceToNat,lc hc24]
 refine Ro.atU (w.roU 1 rfl) (by omega) (by omega) fun b25 hc27=>?_
 simp only [Int.reduceToNat] at hc27
 simp only [bs,Int.reduceToNat,lc hc27]
 refine Ro.atU (w.roU 1 rfl) (by omega) (by omega) fun b28 hc30=>?_
 simp only [Int.reduceToNat] at hc30
 simp only [bs,Nat.reduceMul,Int.reduceToNat,lc hc30]
 refine Ro.atU (w.roU 1 rfl) (by omega) (by omega) fun b31 hc33=>?_
 simp only [Int.reduceToNat] at hc33
 simp only [bs,Nat.reduceMul,Int.reduceToNat,lc hc33]
 refine M.new_k w fun b35 h34 kk36 w=>?_
 refine M.still_c kk36 hc33 ?_
 refine M.still_c kk36 hc30 ?_
 refine M.still_c kk36 hc27 ?_
 refine M.still_c kk36 hc24 ?_
 refine M.still_c kk36 hc21 ?_
 refine M.still_c kk36 hc18 ?_
 refine M.still_c kk36 hc15 ?_
 refine M.still_c kk36 hc12 ?_
 refine M.still_c kk36 hc9 ?_
 refine M.still_c kk36 hc6 ?_
 refine M.still_c kk36 hc3 ?_
 refine ⟨(rfl),?_⟩
 refine M.puts_w0 w 2 rfl (by simp [isPlainCell]) (by simp) fun h37 w=>?_
 simp only [bs] at w
 have e:cha0 key nonce c=[0x61707865,0x3320646e,0x79622d32,0x6b206574,(wordsOf false key).getD 0 0,(wordsOf false key).getD 1 0,(wordsOf false key).getD 2 0,(wordsOf false key).getD 3 0,(wordsOf false key).getD 4 0,(wordsOf false key).getD 5 0,(wordsOf false key).getD 6 0,(wordsOf false key).getD 7 0,c,(wordsOf false nonce).getD 0 0,(wordsOf false nonce).getD 1 0,(wordsOf false nonce).getD 2 0]:=by
  have h8:=list8 (wordsOf false key) (by rw [wordsOf_len,hk])
  have h3:=list3 (wordsOf false nonce) (by rw [wordsOf_len,hn])
  rw [cha0,h8,h3]; rfl
 have w:=w.weaken (i:=2) rfl (c':=.blk b35 (.cells (uvs (cha0 key nonce c)).toArray 274)) (by rw [e]; exact Chunk.Le.refl _)
 have w:=(w.drop (i:=0) rfl).drop (i:=0) rfl
 have hS:=cha0_len (c:=c) hk hn
 clear e
 generalize cha0 key nonce c=S at *
 obtain ⟨R,hR0,hRs,hR10⟩:∃ R:Nat→List U,R 0=S∧(∀ n,R (n+1)=dbl (R n))∧dblN S 10=R 10:=⟨dblN S,rfl,fun _=>rfl,rfl⟩
 have hRl:∀ n,(R n).length=16:=by
  intro n
  induction n with
  | zero=>rw [hR0,hS]
  | succ n ih=>rw [hRs,dbl_len,ih]
 rw [hR10] at k
 refine M.row_all (w.blk 0 rfl) (by rw [List.size_toArray,uvs_len,hS]) ?_
 simp only [bl]
 refine M.new_w w fun b5 h3 w=>?_
 refine ⟨(by simp [hS,uvs_len]),?_⟩
 refine M.puts_w0 w 1 rfl (uvs_plain _) (by simp [uvs_len,hS,uvs_len]) fun h6 w=>?_
 simp only [bs] at w
 refine M.jn ?_
 refine M.loop_of (I:=fun (i:Int) h'=>∃ m:Nat,m≤10∧i=(m:Int)∧Wd h h' [.blk b35 (.cells (uvs S).toArray 274),.blk b5 (.cells (uvs (R m)).toArray 274)]) (μ:=fun i=>(10-i).toNat) ⟨0,by omega,rfl,by rw [hR0]; exact w⟩ ?_
 clear w
 rintro _ h14 J ⟨m,hm,rfl,w⟩ hJ
 by_cases hlt:m<10
 ·refine cdt (by omega) ?_
  have v1:IntKind.wrap .i64 ((m:Int)+1)=((m+1:Nat):Int):=by rw [IntKind.wrap_i64]; omega
  have hl:=hRl m
  generalize hr:R m=r at *
  refine refq_step w 1 rfl hl (by decide) (by decide) (by decide) (by decide) fun h15 w=>?_
  refine refq_step w 1 rfl ((qS_len _ _ _ _ _).trans hl) (by decide) (by decide) (by decide) (by decide) fun h16 w=>?_
  refine refq_step w 1 rfl ((qS_len _ _ _ _ _).trans ((qS_len _ _ _ _ _).trans hl)) (by decide) (by decide) (by decide) (by decide) fun h17 w=>?_
  have hl4:=(qS_len (qS (qS (qS r 0 4 8 12) 1 5 9 13) 2 6 10 14) 3 7 11 15).trans ((qS_len (qS (qS r 0 4 8 12) 1 5 9 13) 2 6 10 14).trans ((qS_len (qS r 0 4 8 12) 1 5 9 13).trans ((qS_len r 0 4 8 12).trans hl)))
  refine refq_step w 1 rfl ((qS_len _ _ _ _ _).trans ((qS_len _ _ _ _ _).trans ((qS_len _ _ _ _ _).trans hl))) (by decide) (by decide) (by decide) (by decide) fun h18 w=>?_
  simp only [List.set_cons_succ,List.set_cons_zero,Int.reduceToNat] at w
  generalize h4r:qS (qS (qS (qS r 0 4 8 12) 1 5 9 13) 2 6 10 14) 3 7 11 15=r4 at w hl4
  refine refq_step w 1 rfl hl4 (by decide) (by decide) (by decide) (by decide) fun h15 w=>?_
  refine refq_step w 1 rfl ((qS_len _ _ _ _ _).trans hl4) (by decide) (by decide) (by decide) (by decide) fun h16 w=>?_
  refine refq_step w 1 rfl ((qS_len _ _ _ _ _).trans ((qS_len _ _ _ _ _).trans hl4)) (by decide) (by decide) (by decide) (by decide) fun h17 w=>?_
  refine refq_step w 1 rfl ((qS_len _ _ _ _ _).trans ((qS_len _ _ _ _ _).trans ((qS_len _ _ _ _ _).trans hl4))) (by decide) (by decide) (by decide) (by decide) fun h18 w=>?_
  simp only [List.set_cons_succ,List.set_cons_zero,Int.reduceToNat] at w
  refine M.vis _ v1 ?_
  refine hJ _ _ ⟨m+1,by omega,rfl,?_⟩ (by omega)
  rw [hRs,dbl,hr,h4r]
  exact w
 ·refine cdf (by omega) ?_
  obtain rfl:m=10:=by omega
  have hl:=hRl 10
  generalize R 10=D at *
  refine M.jn ?_
  refine M.loop_of (I:=fun (p:(Option Addr × Nat × Nat) × Int) h'=>∃ m:Nat,m≤16∧p.2=(m:Int)∧p.1.2.1=m∧Wd h h' [.blk b35 (.cells (uvs S).toArray 274),.blk b5 (.cells (uvs D).toArray 274),.sl 178 1 p.1.1 p.1.2.1 p.1.2.2 (uvs ((List.range m).map fun i=>at0 D i+at0 S i))]) (μ:=fun p=>(16-p.2).toNat) ⟨0,by omega,rfl,rfl,w.nilsl _ _⟩ ?_
  clear w
  rintro ⟨⟨a2,m,c2⟩,_⟩ h15 J2 ⟨m',hm,hi,hl2,w⟩ hJ2
  simp only at hi hl2 w ⊢
  subst hi hl2
  by_cases hlt:m<16
  ·refine cdt (by omega) ?_
   have v1:IntKind.wrap .i64 ((m:Int)+1)=((m+1:Nat):Int):=by rw [IntKind.wrap_i64]; omega
   refine ldw (w.blk 1 rfl) m rfl hlt hl ?_
   refine ldw (w.blk 0 rfl) m rfl hlt hS ?_
   simp only [add_ui,v1]
   refine M.vin ?_
   refine Wd.push w 2 rfl rfl rfl (by simp [isPlainCell]) (by omega) (by omega) fun a7 c8 h4 w=>?_
   refine M.vin ?_
   refine hJ2 _ _ ⟨m+1,by omega,rfl,rfl,?_⟩ (by omega)
   rw [List.range_succ,List.map_append,uvs_app]
   exact w
  ·refine cdf (by omega) ?_
   obtain rfl:m=16:=by omega
   refine M.jn ?_
   refine refText_spec (c:=c2) (words_of w 2 rfl (by simp)) fun h16 k16=>?_
   exact k _ (w.keep.trans k16)
end
end Go.Proofs.YthegnmanjdlmjaaGreatDoor
namespace Go.Proofs.YthegnmanjdlmjaaGreatDoor
open Go.Sh Go.RowKit
def ksT (key nonce:ByteArray) (c:U) (i:Nat):Int:=byteAt (blockT key nonce (c+BitVec.ofNat 32 (i / 64))) (i % 64)
theorem ksT_lt (key nonce:ByteArray) (c:U) (i:Nat):0≤ksT key nonce c i∧ksT key nonce c i<256:=byteAt_lt _ _
def cryptT (key nonce:ByteArray) (c:U) (s:ByteArray):ByteArray:=byT s.size fun i=>bx (byteAt s i) (ksT key nonce c i)
theorem cryptT_size (key nonce:ByteArray) (c:U) (s:ByteArray):(cryptT key nonce c s).size=s.size:=byT_size _ _
theorem inc_ui (x:U):IntKind.wrap .u32 (ui x+1)=ui (x+1):=add_ui x 1
theorem ksT_at (key nonce:ByteArray) (c:U) (j i:Nat) (hi:i<64):ksT key nonce c (64*j+i)=byteAt (blockT key nonce (c+BitVec.ofNat 32 j)) i:=by
 unfold ksT
 rw [show (64*j+i) / 64=j by omega,show (64*j+i) % 64=i by omega]
theorem ctr_next (c:U) (j:Nat):c+BitVec.ofNat 32 j+1=c+BitVec.ofNat 32 (j+1):=by
 show c+BitVec.ofNat 32 j+BitVec.ofNat 32 1=_
 rw [BitVec.add_assoc,←BitVec.ofNat_add]
section
variable {h:H} {key nonce s:ByteArray} {c:U} {Q:ByteArray→Int→H→Prop}
theorem Crypt_spec (hk:key.size=32) (hn:nonce.size=12) (hs:s.size≤65536) (k:∀ h',Keep h h'→Q (cryptT key nonce c s) 0 h'):chacha_Crypt key nonce (ui c) s h Q:=by
 unfold chacha_Crypt chacha_Crypt.g
 have w:=Wd.start h
 refine shape_spec (by assumption) (by assumption) ?_
 refine cf (rfl) ?_
 refine cdf (by omega) ?_
 refine M.mk_sl w (by omega) (by omega) (by omega) (by omega) rfl fun a1 h2 w=>?_
 simp only [zs,Int.toNat_natCast] at w ⊢
 refine M.jn ?_
 refine M.loop_of (I:=fun (p:Int × ByteArray × (Option Addr × Nat × Nat)) h'=>∃ j m:Nat,m=min (64*j) s.size∧p.1=ui (c+BitVec.ofNat 32 j)∧p.2.1=s.extract m s.size∧p.2.2.2.1=m∧Wd h h' [.sl 5 1 p.2.2.1 p.2.2.2.1 p.2.2.2.2 (bvs ((List.range m).map fun i=>bx (byteAt s i) (ksT key nonce c i)))]) (μ:=fun p=>p.2.1.size) ⟨0,0,by omega,?_,?_,rfl,?_⟩ ?_
 ·simp
 ·exact ByteArray.extract_zero_size.symm
 ·exact w
 clear w
 rintro ⟨_,_,⟨a2,l2,c2⟩⟩ h2 J ⟨j,m,hm,hc,hr,hl,w⟩ hJ
 simp only at hc hr hl w ⊢
 subst hc hr hl
 have hrs:(s.extract l2 s.size).size=s.size-l2:=by rw [ByteArray.size_extract]; omega
 by_cases hlt:l2<s.size
 ·refine cdt (by omega) ?_
  have hl2:l2=64*j:=by omega
  obtain ⟨n,hn'⟩:∃ n,min (s.size-l2) 64=n:=⟨_,rfl⟩
  have e1:mn ((s.extract l2 s.size).size:Int) 64=(n:Int):=by rw [hrs,←hn']; exact mn_nat _ 64
  rw [e1]
  refine ⟨by omega,by omega,by omega,?_⟩
  refine stream_spec hk hn fun h3 k3=>?_
  have w:=w.keeps k3
  refine Xor_spec (by rw [ByteArray.size_extract]; omega) fun h4 k4=>?_
  have w:=w.keeps k4
  have hx:xorT ((s.extract l2 s.size).extract (Int.toNat 0) (n:Int).toNat) (blockT key nonce (c+BitVec.ofNat 32 j))=byT n fun i=>bx (byteAt s (l2+i)) (ksT key nonce c (l2+i)):=by
   rw [xorT,blockT_size,ByteArray.size_extract,Int.toNat_natCast]
   have:min (min n (s.extract l2 s.size).size-Int.toNat 0) 64=n:=by rw [hrs]; show min (min n (s.size-l2)-0) 64=n; omega
   rw [this]
   refine byT_congr fun i hi=>?_
   rw [byteAt_ext _ _ _ _ (by show 0+i<n; omega) (by omega),byteAt_ext _ _ _ _ (by show l2+(0+i)<s.size; omega) (by omega),hl2,ksT_at _ _ _ _ _ (by omega)]
   show bx (byteAt s (64*j+(0+i))) _ = _
   rw [Nat.zero_add]
  rw [hx,byT_size,bytesOf_byT _ _ fun i _=>bx_lt _ _]
  refine M.app_w w 0 rfl rfl (by simp [bvs_len]) (bvs_plain _) (by omega) (by omega) fun a5 c5 h5 w=>?_
  refine ⟨by omega,by omega,by omega,?_⟩
  refine M.vis _ (inc_ui _) ?_
  rw [ctr_next]
  refine hJ _ _ ⟨j+1,l2+n,by omega,rfl,?_,rfl,?_⟩ ?_
  ·show (s.extract l2 s.size).extract (n:Int).toNat ((s.extract l2 s.size).size:Int).toNat=_
   rw [Int.toNat_natCast,Int.toNat_natCast,ByteArray.extract_extract,hrs]
   congr 1; omega
  ·rw [←range_app,bvs_app]; exact w
  ·show ((s.extract l2 s.size).extract (n:Int).toNat ((s.extract l2 s.size).size:Int).toNat).size<(s.extract l2 s.size).size
   rw [Int.toNat_natCast,Int.toNat_natCast,ByteArray.size_extract,hrs]; omega
 ·refine cdf (by omega) ?_
  have:l2=s.size:=by omega
  subst this
  exact w.text 0 rfl (k _ w.keep)
theorem refCrypt_spec (hk:key.size=32) (hn:nonce.size=12) (hs:s.size≤65536) (k:∀ h',Keep h h'→Q (cryptT key nonce c s) 0 h'):ref06_Crypt key nonce (ui c) s h Q:=by
 unfold ref06_Crypt ref06_Crypt.g
 refine M.jn ?_
 refine cf (by rw [hk]; rfl) ?_
 refine cf (by rw [hn]; rfl) (cdf (by omega) ?_)
 refine M.jn ?_
 refine M.loop_of (I:=fun (p:Int × ByteArray) h'=>∃ j:Nat,64*j<s.size+64∧p.1=ui (c+BitVec.ofNat 32 j)∧p.2=byT (64*j) (ksT key nonce c)∧Keep h h') (μ:=fun p=>s.size-p.2.size) ⟨0,by omega,by simp,rfl,Keep.refl h⟩ ?_
 rintro ⟨_,_⟩ h2 J ⟨j,hj,hc,hr,k2⟩ hJ
 simp only at hc hr ⊢
 subst hc hr
 rw [byT_size]
 by_cases hlt:64*j<s.size
 ·refine cdt (by omega) ?_
  refine refBlock6_spec hk hn fun h3 k3=>?_
  have hmax:IntKind.i64.max=9223372036854775807:=by decide
  refine ⟨by rw [byT_size,blockT_size,hmax]; omega,M.vis _ (inc_ui _) ?_⟩
  rw [ctr_next]
  refine hJ _ _ ⟨j+1,by omega,rfl,?_,k2.trans k3⟩ ?_
  ·show byT (64*j) (ksT key nonce c)++blockT key nonce (c+BitVec.ofNat 32 j)=_
   have:=byT_app (64*j) 64 (ksT key nonce c)
   rw [show 64*(j+1)=64*j+64 by omega,←this]
   congr 1
   have e:=byT_self (blockT key nonce (c+BitVec.ofNat 32 j))
   rw [blockT_size] at e
   rw [←e]
   exact byT_congr fun i hi=>(ksT_at _ _ _ _ _ hi).symm
  ·show s.size-(byT (64*j) (ksT key nonce c)++blockT key nonce (c+BitVec.ofNat 32 j)).size<_
   rw [ByteArray.size_append,byT_size,blockT_size]
   omega
 ·refine cdf (by omega) ?_
  refine refXor_spec (by omega) fun h3 k3=>?_
  have:xorT s (byT (64*j) (ksT key nonce c))=cryptT key nonce c s:=by
   rw [xorT,byT_size,Nat.min_eq_left (by omega),cryptT]
   refine byT_congr fun i hi=>?_
   rw [byteAt_byT _ _ _ (by omega) (ksT_lt _ _ _ _)]
  rw [this]
  exact k _ (k2.trans k3)
end
theorem byteAt_cryptT {key nonce s:ByteArray} {c:U} {i:Nat} (hi:i<s.size):byteAt (cryptT key nonce c s) i=bx (byteAt s i) (ksT key nonce c i):=byteAt_byT _ _ _ hi (bx_lt _ _)
theorem bx_bx {a b:Int} (ha:0≤a∧a<256) (hb:0≤b∧b<256):bx (bx a b) b=a:=by
 have h:=bx_lt a b
 rw [bx_nat h hb,bx_nat ha hb,Int.toNat_natCast,Nat.xor_assoc,Nat.xor_self,Nat.xor_zero]; omega
theorem cryptT_twice (key nonce:ByteArray) (c:U) (s:ByteArray):cryptT key nonce c (cryptT key nonce c s)=s:=by
 refine text_eq (by rw [cryptT_size,cryptT_size]) fun i hi=>?_
 rw [cryptT_size,cryptT_size] at hi
 rw [byteAt_cryptT (by rw [cryptT_size]; exact hi),byteAt_cryptT hi,bx_bx (byteAt_lt _ _) (ksT_lt _ _ _ _)]
end Go.Proofs.YthegnmanjdlmjaaGreatDoor
namespace Go.Proofs.YthegnmanjdlmjaaGreatDoor
open Go.Sh Go.RowKit
def q64 (n:Nat):Int:=((n % 18446744073709551616:Nat):Int)
theorem q64_lt {n:Nat} (h:n<18446744073709551616):q64 n=n:=by rw [q64,Nat.mod_eq_of_lt h]
theorem add_q (a b:Nat):IntKind.wrap .u64 (q64 a+q64 b)=q64 (a+b):=by
 rw [IntKind.wrap_u64,q64,q64,q64]; omega
theorem add0_q (a:Nat):IntKind.wrap .u64 (0+q64 a)=q64 a:=by
 rw [IntKind.wrap_u64,q64]; omega
theorem addr0_q (a:Nat):IntKind.wrap .u64 (q64 a+0)=q64 a:=by
 rw [IntKind.wrap_u64,q64]; omega
theorem add5_q (a:Nat):IntKind.wrap .u64 (q64 a+5)=q64 (a+5):=by
 rw [IntKind.wrap_u64,q64,q64]; omega
theorem mul5_q (a:Nat):IntKind.wrap .u64 (q64 a*5)=q64 (a*5):=by
 rw [IntKind.wrap_u64,q64,q64]; omega
theorem mul_q (a b:Nat):IntKind.wrap .u64 (q64 a*q64 b)=q64 (a*b):=by
 rw [IntKind.wrap_u64,q64,q64,q64,←Int.natCast_mul]
 have:=Nat.mul_mod a b 18446744073709551616
 generalize a % 18446744073709551616*(b % 18446744073709551616)=x at *
 omega
theorem and_q (a:Nat):bAnd .u64 (q64 a) 67108863=q64 (a % 67108864):=by
 have h1:(BitVec.ofInt 64 (q64 a) &&& BitVec.ofInt 64 67108863).toNat=a % 67108864:=by
  rw [BitVec.toNat_and,show (BitVec.ofInt 64 67108863).toNat=2 ^ 26-1 from rfl,Nat.and_two_pow_sub_one_eq_mod,q64,BitVec.ofInt_natCast,BitVec.toNat_ofNat]; omega
 show IntKind.wrap .u64 ((BitVec.ofInt 64 (q64 a) &&& BitVec.ofInt 64 67108863).toNat:Int)=_
 rw [h1,IntKind.wrap_u64,q64]; omega
theorem and32_q (a:Nat):bAnd .u64 (q64 a) 4294967295=q64 (a % 4294967296):=by
 have h1:(BitVec.ofInt 64 (q64 a) &&& BitVec.ofInt 64 4294967295).toNat=a % 4294967296:=by
  rw [BitVec.toNat_and,show (BitVec.ofInt 64 4294967295).toNat=2 ^ 32-1 from rfl,Nat.and_two_pow_sub_one_eq_mod,q64,BitVec.ofInt_natCast,BitVec.toNat_ofNat]; omega
 show IntKind.wrap .u64 ((BitVec.ofInt 64 (q64 a) &&& BitVec.ofInt 64 4294967295).toNat:Int)=_
 rw [h1,IntKind.wrap_u64,q64]; omega
theorem shr_q (a:Nat):shr .u64 (q64 a) 26=q64 (a % 18446744073709551616 / 67108864):=by
 have h:shr .u64 (q64 a) ((26:Nat):Int)=_:=shr_nat .u64 (a % 18446744073709551616) 26 (by decide)
 refine h.trans ?_
 rw [q64]; omega
theorem shr32_q (a:Nat):shr .u64 (q64 a) 32=q64 (a % 18446744073709551616 / 4294967296):=by
 have h:shr .u64 (q64 a) ((32:Nat):Int)=_:=shr_nat .u64 (a % 18446744073709551616) 32 (by decide)
 refine h.trans ?_
 rw [q64]; omega
structure L5 where
 a:Nat
 b:Nat
 c:Nat
 d:Nat
 e:Nat
namespace L5
def val (x:L5):Nat:=x.a+x.b*67108864+x.c*4503599627370496+x.d*302231454903657293676544+x.e*20282409603651670423947251286016
def o (x:L5):Obj:=.cells #[.int .u64 (q64 x.a),.int .u64 (q64 x.b),.int .u64 (q64 x.c),.int .u64 (q64 x.d),.int .u64 (q64 x.e)] 279 (0,0)
def sh (n:Nat):Nat:=n % 18446744073709551616 / 67108864
def c1 (x:L5):Nat:=sh x.a
def c2 (x:L5):Nat:=sh (x.b+x.c1)
def c3 (x:L5):Nat:=sh (x.c+x.c2)
def c4 (x:L5):Nat:=sh (x.d+x.c3)
def c5 (x:L5):Nat:=sh (x.e+x.c4)
def carry (x:L5):L5:=⟨(x.a % 67108864+x.c5*5) % 67108864,(x.b+x.c1) % 67108864+sh (x.a % 67108864+x.c5*5),(x.c+x.c2) % 67108864,(x.d+x.c3) % 67108864,(x.e+x.c4) % 67108864⟩
def P:Nat:=1361129467683753853853498429727072845819
structure Lt (x:L5) (n:Nat):Prop where
 a:x.a<n
 b:x.b<n
 c:x.c<n
 d:x.d<n
 e:x.e<n
theorem shs (n:Nat) (h:n<18446744073709551616):∃ m,n % 67108864=m∧m<67108864∧n=sh n*67108864+m:=⟨n % 67108864,rfl,Nat.mod_lt _ (by decide),by unfold sh; omega⟩
theorem carry_both {x:L5} (h:x.Lt 4611686018427387904):x.carry.val+x.c5*P=x.val∧x.carry.b<67141632∧x.c5≤68719480832:=by
 obtain ⟨h1,h2,h3,h4,h5⟩:=h
 obtain ⟨m1,e1,l1,s1⟩:=shs x.a (by omega)
 have q1:sh x.a≤68719476736:=by omega
 obtain ⟨m2,e2,l2,s2⟩:=shs (x.b+x.c1) (by simp only [c1]; omega)
 have q2:x.c2≤68719480832:=by simp only [c2,c1] at *; omega
 obtain ⟨m3,e3,l3,s3⟩:=shs (x.c+x.c2) (by omega)
 have q3:x.c3≤68719480832:=by simp only [c3] at *; omega
 obtain ⟨m4,e4,l4,s4⟩:=shs (x.d+x.c3) (by omega)
 have q4:x.c4≤68719480832:=by simp only [c4] at *; omega
 obtain ⟨m5,e5,l5,s5⟩:=shs (x.e+x.c4) (by omega)
 have q5:x.c5≤68719480832:=by simp only [c5] at *; omega
 obtain ⟨m6,e6,l6,s6⟩:=shs (m1+x.c5*5) (by omega)
 have r1:x.c1=sh x.a:=rfl
 have r2:x.c2=sh (x.b+x.c1):=rfl
 have r3:x.c3=sh (x.c+x.c2):=rfl
 have r4:x.c4=sh (x.d+x.c3):=rfl
 have r5:x.c5=sh (x.e+x.c4):=rfl
 rw [←r1] at s1
 rw [←r2] at s2
 rw [←r3] at s3
 rw [←r4] at s4
 rw [←r5] at s5
 simp only [val,carry,P,e1,e2,e3,e4,e5,e6]
 clear r1 r2 r3 r4 r5 e1 e2 e3 e4 e5 e6
 generalize x.c1=c1 at *
 generalize x.c2=c2 at *
 generalize x.c3=c3 at *
 generalize x.c4=c4 at *
 generalize x.c5=c5 at *
 generalize sh (m1+c5*5)=c6 at *
 refine ⟨by omega,by omega,by omega⟩
theorem carry_val {x:L5} (h:x.Lt 4611686018427387904):x.carry.val+x.c5*P=x.val:=(carry_both h).1
theorem carry_lt {x:L5} (h:x.Lt 4611686018427387904):x.carry.Lt 134217728∧x.carry.a<67108864∧x.carry.c<67108864∧x.carry.d<67108864∧x.carry.e<67108864∧x.carry.b<67141632:=by
 have hh:=(carry_both h).2.1
 have ha:x.carry.a<67108864:=Nat.mod_lt _ (by decide)
 have hc:x.carry.c<67108864:=Nat.mod_lt _ (by decide)
 have hd:x.carry.d<67108864:=Nat.mod_lt _ (by decide)
 have he:x.carry.e<67108864:=Nat.mod_lt _ (by decide)
 exact ⟨⟨by omega,by omega,by omega,by omega,by omega⟩,ha,hc,hd,he,hh⟩
theorem Lt.mono {x:L5} {m n:Nat} (h:x.Lt m) (hm:m≤n):x.Lt n:=⟨Nat.lt_of_lt_of_le h.a hm,Nat.lt_of_lt_of_le h.b hm,Nat.lt_of_lt_of_le h.c hm,Nat.lt_of_lt_of_le h.d hm,Nat.lt_of_lt_of_le h.e hm⟩
def mul (x r:L5):L5:=
 ⟨x.a*r.a+x.b*r.e*5+x.c*r.d*5+x.d*r.c*5+x.e*r.b*5,
  x.a*r.b+x.b*r.a+x.c*r.e*5+x.d*r.d*5+x.e*r.c*5,
  x.a*r.c+x.b*r.b+x.c*r.a+x.d*r.e*5+x.e*r.d*5,
  x.a*r.d+x.b*r.c+x.c*r.b+x.d*r.a+x.e*r.e*5,
  x.a*r.e+x.b*r.d+x.c*r.c+x.d*r.b+x.e*r.a⟩
theorem mul_val (x r:L5):∃ k,(x.mul r).val+k*P=x.val*r.val:=by
 refine ⟨x.b*r.e+x.c*r.d+x.d*r.c+x.e*r.b+(x.c*r.e+x.d*r.d+x.e*r.c)*67108864+(x.d*r.e+x.e*r.d)*4503599627370496+x.e*r.e*302231454903657293676544,?_⟩
 have e:x.val*r.val=(x.a*r.a)+(x.a*r.b+x.b*r.a)*67108864+(x.a*r.c+x.b*r.b+x.c*r.a)*4503599627370496+(x.a*r.d+x.b*r.c+x.c*r.b+x.d*r.a)*302231454903657293676544+(x.a*r.e+x.b*r.d+x.c*r.c+x.d*r.b+x.e*r.a)*20282409603651670423947251286016
   + (x.b*r.e+x.c*r.d+x.d*r.c+x.e*r.b)*1361129467683753853853498429727072845824+(x.c*r.e+x.d*r.d+x.e*r.c)*91343852333181432387730302044767688728495783936+(x.d*r.e+x.e*r.d)*6129982163463555433433388108601236734474956488734408704+x.e*r.e*411376139330301510538742295639337626245683966408394965837152256:=by
  simp only [val]
  generalize x.a=a1
  generalize x.b=a2
  generalize x.c=a3
  generalize x.d=a4
  generalize x.e=a5
  generalize r.a=b1
  generalize r.b=b2
  generalize r.c=b3
  generalize r.d=b4
  generalize r.e=b5
  grind
 rw [e]
 simp only [mul,val,P]
 generalize x.a*r.a=p00
 generalize x.a*r.b=p01
 generalize x.a*r.c=p02
 generalize x.a*r.d=p03
 generalize x.a*r.e=p04
 generalize x.b*r.a=p10
 generalize x.b*r.b=p11
 generalize x.b*r.c=p12
 generalize x.b*r.d=p13
 generalize x.b*r.e=p14
 generalize x.c*r.a=p20
 generalize x.c*r.b=p21
 generalize x.c*r.c=p22
 generalize x.c*r.d=p23
 generalize x.c*r.e=p24
 generalize x.d*r.a=p30
 generalize x.d*r.b=p31
 generalize x.d*r.c=p32
 generalize x.d*r.d=p33
 generalize x.d*r.e=p34
 generalize x.e*r.a=p40
 generalize x.e*r.b=p41
 generalize x.e*r.c=p42
 generalize x.e*r.d=p43
 generalize x.e*r.e=p44
 omega
end L5
section
variable {h0 h:H} {b:Nat} {x r:L5} {Q:H→Prop}
theorem carry_spec (w:Wd h0 h [.blk b x.o]) (k:∀ h',Wd h0 h' [.blk b x.carry.o]→Q h'):poly_limbs_carry (some ⟨b,0,none⟩) h Q:=by
 unfold poly_limbs_carry
 unfold L5.o at w
 refine M.jn (M.times 6 ?_)
 refine M.iter_s ?_
 simp only []
 refine cdt (by omega) ?_
 simp only [bs,lb (w.blk 0 rfl)]
 refine ⟨(by omega),(by omega),?_⟩
 simp only []
 simp only [bs,Int.reduceToNat,addr0_q]
 refine M.vin ?_
 refine ⟨(by omega),(by omega),?_⟩
 simp only []
 simp only [bs,Int.reduceToNat]
 refine M.put_w w 0 rfl rfl (by simp) fun h2 w=>?_
 simp only [bs] at w
 refine ⟨(by omega),(by omega),?_⟩
 simp only [bs,Int.reduceToNat,shr_q,lb (w.blk 0 rfl)]
 refine ⟨(by omega),?_⟩
 refine M.vin ?_
 refine ⟨(by omega),(by omega),?_⟩
 simp only []
 simp only [bs,Int.reduceToNat,and_q]
 refine M.vin ?_
 refine ⟨(by omega),(by omega),?_⟩
 simp only []
 simp only [bs,Int.reduceToNat]
 refine M.put_w w 0 rfl rfl (by simp) fun h4 w=>?_
 simp only [bs] at w
 refine M.vis (1) (by decide) ?_
 refine M.iter_s ?_
 simp only [mul5_q]
 refine cdt (by omega) ?_
 refine ⟨(by omega),(by omega),?_⟩
 simp only [bs,Int.reduceToNat,add_q,lb (w.blk 0 rfl)]
 refine M.vin ?_
 refine ⟨(by omega),(by omega),?_⟩
 simp only []
 simp only [Nat.reduceMul,Int.reduceToNat]
 refine M.put_w w 0 rfl rfl (by simp) fun h6 w=>?_
 simp only [bs] at w
 refine ⟨(by omega),(by omega),?_⟩
 simp only [bs,Int.reduceToNat,shr_q,lb (w.blk 0 rfl)]
 refine ⟨(by omega),?_⟩
 refine M.vin ?_
 refine ⟨(by omega),(by omega),?_⟩
 simp only []
 simp only [bs,Int.reduceToNat,and_q]
 refine M.vin ?_
 refine ⟨(by omega),(by omega),?_⟩
 simp only []
 simp only [Nat.reduceMul,Int.reduceToNat]
 refine M.put_w w 0 rfl rfl (by simp) fun h8 w=>?_
 simp only [bs] at w
 refine M.vis (2) (by decide) ?_
 refine M.iter_s ?_
 simp only [mul5_q]
 refine cdt (by omega) ?_
 refine ⟨(by omega),(by omega),?_⟩
 simp only [bs,Int.reduceToNat,add_q,lb (w.blk 0 rfl)]
 refine M.vin ?_
 refine ⟨(by omega),(by omega),?_⟩
 simp only []
 simp only [Nat.reduceMul,Int.reduceToNat]
 refine M.put_w w 0 rfl rfl (by simp) fun h10 w=>?_
 simp only [bs] at w
 refine ⟨(by omega),(by omega),?_⟩
 simp only [bs,Int.reduceToNat,shr_q,lb (w.blk 0 rfl)]
 refine ⟨(by omega),?_⟩
 refine M.vin ?_
 refine ⟨(by omega),(by omega),?_⟩
 simp only []
 simp only [bs,Int.reduceToNat,and_q]
 refine M.vin ?_
 refine ⟨(by omega),(by omega),?_⟩
 simp only []
 simp only [Nat.reduceMul,Int.reduceToNat]
 refine M.put_w w 0 rfl rfl (by simp) fun h12 w=>?_
 simp only [bs] at w
 refine M.vis (3) (by decide) ?_
 refine M.iter_s ?_
 simp only [mul5_q]
 refine cdt (by omega) ?_
 refine ⟨(by omega),(by omega),?_⟩
 simp only [bs,Int.reduceToNat,add_q,lb (w.blk 0 rfl)]
 refine M.vin ?_
 refine ⟨(by omega),(by omega),?_⟩
 simp only []
 simp only [Nat.reduceMul,Int.reduceToNat]
 refine M.put_w w 0 rfl rfl (by simp) fun h14 w=>?_
 simp only [bs] at w
 refine ⟨(by omega),(by omega),?_⟩
 simp only [bs,Int.reduceToNat,shr_q,lb (w.blk 0 rfl)]
 refine ⟨(by omega),?_⟩
 refine M.vin ?_
 refine ⟨(by omega),(by omega),?_⟩
 simp only []
 simp only [bs,Int.reduceToNat,and_q]
 refine M.vin ?_
 refine ⟨(by omega),(by omega),?_⟩
 simp only []
 simp only [Nat.reduceMul,Int.reduceToNat]
 refine M.put_w w 0 rfl rfl (by simp) fun h16 w=>?_
 simp only [bs] at w
 refine M.vis (4) (by decide) ?_
 refine M.iter_s ?_
 simp only [mul5_q]
 refine cdt (by omega) ?_
 refine ⟨(by omega),(by omega),?_⟩
 simp only [bs,Int.reduceToNat,add_q,lb (w.blk 0 rfl)]
 refine M.vin ?_
 refine ⟨(by omega),(by omega),?_⟩
 simp only []
 simp only [Nat.reduceMul,Int.reduceToNat]
 refine M.put_w w 0 rfl rfl (by simp) fun h18 w=>?_
 simp only [bs] at w
 refine ⟨(by omega),(by omega),?_⟩
 simp only [bs,Int.reduceToNat,shr_q,lb (w.blk 0 rfl)]
 refine ⟨(by omega),?_⟩
 refine M.vin ?_
 refine ⟨(by omega),(by omega),?_⟩
 simp only []
 simp only [bs,Int.reduceToNat,and_q]
 refine M.vin ?_
 refine ⟨(by omega),(by omega),?_⟩
 simp only []
 simp only [Nat.reduceMul,Int.reduceToNat]
 refine M.put_w w 0 rfl rfl (by simp) fun h20 w=>?_
 simp only [bs] at w
 refine M.vis (5) (by decide) ?_
 refine M.iter_s ?_
 simp only [mul5_q]
 refine cdf (by omega) ?_
 refine ⟨(by omega),(by omega),?_⟩
 simp only [bs,Int.reduceToNat,lb (w.blk 0 rfl)]
 refine M.vin ?_
 simp only [add_q]
 refine M.vin ?_
 refine ⟨(by omega),(by omega),?_⟩
 simp only []
 simp only [bs,Int.reduceToNat]
 refine M.put_w w 0 rfl rfl (by simp) fun h22 w=>?_
 simp only [bs] at w
 refine ⟨(by omega),(by omega),?_⟩
 simp only [bs,Int.reduceToNat,lb (w.blk 0 rfl)]
 refine ⟨(by omega),(by omega),?_⟩
 simp only []
 simp only [bs,Int.reduceToNat,shr_q]
 refine ⟨(by omega),?_⟩
 refine M.vin ?_
 simp only [add_q]
 refine M.vin ?_
 refine ⟨(by omega),(by omega),?_⟩
 simp only []
 simp only [Nat.reduceMul,Int.reduceToNat]
 refine M.put_w w 0 rfl rfl (by simp) fun h24 w=>?_
 simp only [bs] at w
 refine ⟨(by omega),(by omega),?_⟩
 simp only [bs,Int.reduceToNat,and_q,lb (w.blk 0 rfl)]
 refine M.vin ?_
 refine ⟨(by omega),(by omega),?_⟩
 simp only []
 simp only [bs,Int.reduceToNat]
 refine M.put_w w 0 rfl rfl (by simp) fun h26 w=>?_
 simp only [bs] at w
 exact k _ w
end
end Go.Proofs.YthegnmanjdlmjaaGreatDoor
namespace Go.Proofs.YthegnmanjdlmjaaGreatDoor
open Go.Sh Go.RowKit
section
variable {h0 h:H} {b:Nat} {x r:L5} {Q:H→Prop}
theorem times_spec (w:Wd h0 h [.blk b x.o]) (k:∀ h',Wd h0 h' [.blk b (x.mul r).carry.o]→Q h'):poly_limbs_times (some ⟨b,0,none⟩) (q64 r.a) (q64 r.b) (q64 r.c) (q64 r.d) (q64 r.e) h Q:=by
 unfold poly_limbs_times poly_limbs_times.g
 unfold L5.o at w
 refine M.new_w w fun b2 h1 w=>?_
 refine M.new_w w fun b4 h3 w=>?_
 refine M.jn (M.times 6 ?_)
 refine M.iter_s ?_
 refine cdt (by decide) ?_
 simp only [bs,lb (w.blk 0 rfl),lb (w.blk 1 rfl)]
 refine ⟨(by omega),(by omega),?_⟩
 simp only []
 simp only [bs,Int.reduceToNat]
 refine M.times 6 ?_
 refine M.iter_s ?_
 refine cdt (by omega) ?_
 refine ⟨(by omega),(by omega),?_⟩
 simp only []
 simp only [bs,Int.reduceToNat,mul_q,lb (w.blk 2 rfl)]
 refine M.vis (0) (by decide) ?_
 refine cdt (by omega) ?_
 refine M.vis (0) (by decide) ?_
 refine ⟨(by omega),(by omega),?_⟩
 simp only []
 simp only [bs,Int.reduceToNat]
 refine M.vin ?_
 simp only [add0_q]
 refine M.vin ?_
 refine ⟨(by omega),(by omega),?_⟩
 simp only []
 simp only [bs,Int.reduceToNat]
 refine M.put_w w 2 rfl rfl (by simp) fun h4 w=>?_
 simp only [bs] at w
 refine M.vis (1) (by decide) ?_
 refine M.iter_s ?_
 refine cdt (by omega) ?_
 refine ⟨(by omega),(by omega),?_⟩
 simp only []
 simp only [bs,Int.reduceToNat,mul_q,lb (w.blk 2 rfl)]
 refine M.vis (1) (by decide) ?_
 refine cdt (by omega) ?_
 refine M.vis (1) (by decide) ?_
 refine ⟨(by omega),(by omega),?_⟩
 simp only []
 simp only [bs,Int.reduceToNat]
 refine M.vin ?_
 simp only [add0_q]
 refine M.vin ?_
 refine ⟨(by omega),(by omega),?_⟩
 simp only []
 simp only [Nat.reduceMul,Int.reduceToNat]
 refine M.put_w w 2 rfl rfl (by simp) fun h6 w=>?_
 simp only [bs] at w
 refine M.vis (2) (by decide) ?_
 refine M.iter_s ?_
 refine cdt (by omega) ?_
 refine ⟨(by omega),(by omega),?_⟩
 simp only []
 simp only [bs,Int.reduceToNat,mul_q,lb (w.blk 2 rfl)]
 refine M.vis (2) (by decide) ?_
 refine cdt (by omega) ?_
 refine M.vis (2) (by decide) ?_
 refine ⟨(by omega),(by omega),?_⟩
 simp only []
 simp only [bs,Int.reduceToNat]
 refine M.vin ?_
 simp only [add0_q]
 refine M.vin ?_
 refine ⟨(by omega),(by omega),?_⟩
 simp only []
 simp only [Nat.reduceMul,Int.reduceToNat]
 refine M.put_w w 2 rfl rfl (by simp) fun h8 w=>?_
 simp only [bs] at w
 refine M.vis (3) (by decide) ?_
 refine M.iter_s ?_
 refine cdt (by omega) ?_
 refine ⟨(by omega),(by omega),?_⟩
 simp only []
 simp only [bs,Int.reduceToNat,mul_q,lb (w.blk 2 rfl)]
 refine M.vis (3) (by decide) ?_
 refine cdt (by omega) ?_
 refine M.vis (3) (by decide) ?_
 refine ⟨(by omega),(by omega),?_⟩
 simp only []
 simp only [bs,Int.reduceToNat]
 refine M.vin ?_
 simp only [add0_q]
 refine M.vin ?_
 refine ⟨(by omega),(by omega),?_⟩
 simp only []
 simp only [Nat.reduceMul,Int.reduceToNat]
 refine M.put_w w 2 rfl rfl (by simp) fun h10 w=>?_
 simp only [bs] at w
 refine M.vis (4) (by decide) ?_
 refine M.iter_s ?_
 refine cdt (by omega) ?_
 refine ⟨(by omega),(by omega),?_⟩
 simp only []
 simp only [bs,Int.reduceToNat,mul_q,lb (w.blk 2 rfl)]
 refine M.vis (4) (by decide) ?_
 refine cdt (by omega) ?_
 refine M.vis (4) (by decide) ?_
 refine ⟨(by omega),(by omega),?_⟩
 simp only []
 simp only [bs,Int.reduceToNat]
 refine M.vin ?_
 simp only [add0_q]
 refine M.vin ?_
 refine ⟨(by omega),(by omega),?_⟩
 simp only []
 simp only [Nat.reduceMul,Int.reduceToNat]
 refine M.put_w w 2 rfl rfl (by simp) fun h12 w=>?_
 simp only [bs] at w
 refine M.vis (5) (by decide) ?_
 refine M.iter_s ?_
 refine cdf (by omega) ?_
 refine M.vis (1) (by decide) ?_
 refine M.iter_s ?_
 refine cdt (by omega) ?_
 refine ⟨(by omega),(by omega),?_⟩
 simp only [bs,Int.reduceToNat,lb (w.blk 0 rfl),lb (w.blk 1 rfl)]
 refine M.times 6 ?_
 refine M.iter_s ?_
 refine cdt (by omega) ?_
 refine ⟨(by omega),(by omega),?_⟩
 simp only []
 simp only [bs,Int.reduceToNat,mul_q,lb (w.blk 2 rfl)]
 refine M.vis (1) (by decide) ?_
 refine cdt (by omega) ?_
 refine M.vis (1) (by decide) ?_
 refine ⟨(by omega),(by omega),?_⟩
 simp only []
 simp only [bs,Int.reduceToNat]
 refine M.vin ?_
 simp only [add_q]
 refine M.vin ?_
 refine ⟨(by omega),(by omega),?_⟩
 simp only []
 simp only [Nat.reduceMul,Int.reduceToNat]
 refine M.put_w w 2 rfl rfl (by simp) fun h5 w=>?_
 simp only [bs] at w
 refine M.vis (1) (by decide) ?_
 refine M.iter_s ?_
 refine cdt (by omega) ?_
 refine ⟨(by omega),(by omega),?_⟩
 simp only []
 simp only [bs,Int.reduceToNat,mul_q,lb (w.blk 2 rfl)]
 refine M.vis (2) (by decide) ?_
 refine cdt (by omega) ?_
 refine M.vis (2) (by decide) ?_
 refine ⟨(by omega),(by omega),?_⟩
 simp only []
 simp only [bs,Int.reduceToNat]
 refine M.vin ?_
 simp only [add_q]
 refine M.vin ?_
 refine ⟨(by omega),(by omega),?_⟩
 simp only []
 simp only [Nat.reduceMul,Int.reduceToNat]
 refine M.put_w w 2 rfl rfl (by simp) fun h9 w=>?_
 simp only [bs] at w
 refine M.vis (2) (by decide) ?_
 refine M.iter_s ?_
 refine cdt (by omega) ?_
 refine ⟨(by omega),(by omega),?_⟩
 simp only []
 simp only [bs,Int.reduceToNat,mul_q,lb (w.blk 2 rfl)]
 refine M.vis (3) (by decide) ?_
 refine cdt (by omega) ?_
 refine M.vis (3) (by decide) ?_
 refine ⟨(by omega),(by omega),?_⟩
 simp only []
 simp only [bs,Int.reduceToNat]
 refine M.vin ?_
 simp only [add_q]
 refine M.vin ?_
 refine ⟨(by omega),(by omega),?_⟩
 simp only []
 simp only [Nat.reduceMul,Int.reduceToNat]
 refine M.put_w w 2 rfl rfl (by simp) fun h13 w=>?_
 simp only [bs] at w
 refine M.vis (3) (by decide) ?_
 refine M.iter_s ?_
 refine cdt (by omega) ?_
 refine ⟨(by omega),(by omega),?_⟩
 simp only []
 simp only [bs,Int.reduceToNat,mul_q,lb (w.blk 2 rfl)]
 refine M.vis (4) (by decide) ?_
 refine cdt (by omega) ?_
 refine M.vis (4) (by decide) ?_
 refine ⟨(by omega),(by omega),?_⟩
 simp only []
 simp only [bs,Int.reduceToNat]
 refine M.vin ?_
 simp only [add_q]
 refine M.vin ?_
 refine ⟨(by omega),(by omega),?_⟩
 simp only []
 simp only [Nat.reduceMul,Int.reduceToNat]
 refine M.put_w w 2 rfl rfl (by simp) fun h15 w=>?_
 simp only [bs] at w
 refine M.vis (4) (by decide) ?_
 refine M.iter_s ?_
 refine cdt (by omega) ?_
 refine ⟨(by omega),(by omega),?_⟩
 simp only []
 simp only [bs,Int.reduceToNat,mul_q,lb (w.blk 2 rfl)]
 refine M.vis (5) (by decide) ?_
 refine cdf (by omega) ?_
 refine M.vis (5) (by decide) ?_
 refine M.vis (0) (by decide) ?_
 refine ⟨(by omega),(by omega),?_⟩
 simp only []
 simp only [bs,Int.reduceToNat]
 refine M.vin ?_
 simp only [mul5_q]
 refine M.vin ?_
 simp only [add_q]
 refine M.vin ?_
 refine ⟨(by omega),(by omega),?_⟩
 simp only []
 simp only [bs,Int.reduceToNat]
 refine M.put_w w 2 rfl rfl (by simp) fun h17 w=>?_
 simp only [bs] at w
 refine M.vis (5) (by decide) ?_
 refine M.iter_s ?_
 refine cdf (by omega) ?_
 refine M.vis (2) (by decide) ?_
 refine M.iter_s ?_
 refine cdt (by omega) ?_
 refine ⟨(by omega),(by omega),?_⟩
 simp only [bs,Int.reduceToNat,lb (w.blk 0 rfl),lb (w.blk 1 rfl)]
 refine M.times 6 ?_
 refine M.iter_s ?_
 refine cdt (by omega) ?_
 refine ⟨(by omega),(by omega),?_⟩
 simp only []
 simp only [bs,Int.reduceToNat,mul_q,lb (w.blk 2 rfl)]
 refine M.vis (2) (by decide) ?_
 refine cdt (by omega) ?_
 refine M.vis (2) (by decide) ?_
 refine ⟨(by omega),(by omega),?_⟩
 simp only []
 simp only [bs,Int.reduceToNat]
 refine M.vin ?_
 simp only [add_q]
 refine M.vin ?_
 refine ⟨(by omega),(by omega),?_⟩
 simp only []
 simp only [Nat.reduceMul,Int.reduceToNat]
 refine M.put_w w 2 rfl rfl (by simp) fun h7 w=>?_
 simp only [bs] at w
 refine M.vis (1) (by decide) ?_
 refine M.iter_s ?_
 refine cdt (by omega) ?_
 refine ⟨(by omega),(by omega),?_⟩
 simp only []
 simp only [bs,Int.reduceToNat,mul_q,lb (w.blk 2 rfl)]
 refine M.vis (3) (by decide) ?_
 refine cdt (by omega) ?_
 refine M.vis (3) (by decide) ?_
 refine ⟨(by omega),(by omega),?_⟩
 simp only []
 simp only [bs,Int.reduceToNat]
 refine M.vin ?_
 simp only [add_q]
 refine M.vin ?_
 refine ⟨(by omega),(by omega),?_⟩
 simp only []
 simp only [Nat.reduceMul,Int.reduceToNat]
 refine M.put_w w 2 rfl rfl (by simp) fun h14 w=>?_
 simp only [bs] at w
 refine M.vis (2) (by decide) ?_
 refine M.iter_s ?_
 refine cdt (by omega) ?_
 refine ⟨(by omega),(by omega),?_⟩
 simp only []
 simp only [bs,Int.reduceToNat,mul_q,lb (w.blk 2 rfl)]
 refine M.vis (4) (by decide) ?_
 refine cdt (by omega) ?_
 refine M.vis (4) (by decide) ?_
 refine ⟨(by omega),(by omega),?_⟩
 simp only []
 simp only [bs,Int.reduceToNat]
 refine M.vin ?_
 simp only [add_q]
 refine M.vin ?_
 refine ⟨(by omega),(by omega),?_⟩
 simp only []
 simp only [Nat.reduceMul,Int.reduceToNat]
 refine M.put_w w 2 rfl rfl (by simp) fun h18 w=>?_
 simp only [bs] at w
 refine M.vis (3) (by decide) ?_
 refine M.iter_s ?_
 refine cdt (by omega) ?_
 refine ⟨(by omega),(by omega),?_⟩
 simp only []
 simp only [bs,Int.reduceToNat,mul_q,lb (w.blk 2 rfl)]
 refine M.vis (5) (by decide) ?_
 refine cdf (by omega) ?_
 refine M.vis (5) (by decide) ?_
 refine M.vis (0) (by decide) ?_
 refine ⟨(by omega),(by omega),?_⟩
 simp only []
 simp only [bs,Int.reduceToNat]
 refine M.vin ?_
 simp only [mul5_q]
 refine M.vin ?_
 simp only [add_q]
 refine M.vin ?_
 refine ⟨(by omega),(by omega),?_⟩
 simp only []
 simp only [bs,Int.reduceToNat]
 refine M.put_w w 2 rfl rfl (by simp) fun h20 w=>?_
 simp only [bs] at w
 refine M.vis (4) (by decide) ?_
 refine M.iter_s ?_
 refine cdt (by omega) ?_
 refine ⟨(by omega),(by omega),?_⟩
 simp only []
 simp only [bs,Int.reduceToNat,mul_q,lb (w.blk 2 rfl)]
 refine M.vis (6) (by decide) ?_
 refine cdf (by omega) ?_
 refine M.vis (6) (by decide) ?_
 refine M.vis (1) (by decide) ?_
 refine ⟨(by omega),(by omega),?_⟩
 simp only []
 simp only [bs,Int.reduceToNat]
 refine M.vin ?_
 simp only [mul5_q]
 refine M.vin ?_
 simp only [add_q]
 refine M.vin ?_
 refine ⟨(by omega),(by omega),?_⟩
 simp only []
 simp only [Nat.reduceMul,Int.reduceToNat]
 refine M.put_w w 2 rfl rfl (by simp) fun h22 w=>?_
 simp only [bs] at w
 refine M.vis (5) (by decide) ?_
 refine M.iter_s ?_
 refine cdf (by omega) ?_
 refine M.vis (3) (by decide) ?_
 refine M.iter_s ?_
 refine cdt (by omega) ?_
 refine ⟨(by omega),(by omega),?_⟩
 simp only [bs,Int.reduceToNat,lb (w.blk 0 rfl),lb (w.blk 1 rfl)]
 refine M.times 6 ?_
 refine M.iter_s ?_
 refine cdt (by omega) ?_
 refine ⟨(by omega),(by omega),?_⟩
 simp only []
 simp only [bs,Int.reduceToNat,mul_q,lb (w.blk 2 rfl)]
 refine M.vis (3) (by decide) ?_
 refine cdt (by omega) ?_
 refine M.vis (3) (by decide) ?_
 refine ⟨(by omega),(by omega),?_⟩
 simp only []
 simp only [bs,Int.reduceToNat]
 refine M.vin ?_
 simp only [add_q]
 refine M.vin ?_
 refine ⟨(by omega),(by omega),?_⟩
 simp only []
 simp only [Nat.reduceMul,Int.reduceToNat]
 refine M.put_w w 2 rfl rfl (by simp) fun h11 w=>?_
 simp only [bs] at w
 refine M.vis (1) (by decide) ?_
 refine M.iter_s ?_
 refine cdt (by omega) ?_
 refine ⟨(by omega),(by omega),?_⟩
 simp only []
 simp only [bs,Int.reduceToNat,mul_q,lb (w.blk 2 rfl)]
 refine M.vis (4) (by decide) ?_
 refine cdt (by omega) ?_
 refine M.vis (4) (by decide) ?_
 refine ⟨(by omega),(by omega),?_⟩
 simp only []
 simp only [bs,Int.reduceToNat]
 refine M.vin ?_
 simp only [add_q]
 refine M.vin ?_
 refine ⟨(by omega),(by omega),?_⟩
 simp only []
 simp only [Nat.reduceMul,Int.reduceToNat]
 refine M.put_w w 2 rfl rfl (by simp) fun h19 w=>?_
 simp only [bs] at w
 refine M.vis (2) (by decide) ?_
 refine M.iter_s ?_
 refine cdt (by omega) ?_
 refine ⟨(by omega),(by omega),?_⟩
 simp only []
 simp only [bs,Int.reduceToNat,mul_q,lb (w.blk 2 rfl)]
 refine M.vis (5) (by decide) ?_
 refine cdf (by omega) ?_
 refine M.vis (5) (by decide) ?_
 refine M.vis (0) (by decide) ?_
 refine ⟨(by omega),(by omega),?_⟩
 simp only []
 simp only [bs,Int.reduceToNat]
 refine M.vin ?_
 simp only [mul5_q]
 refine M.vin ?_
 simp only [add_q]
 refine M.vin ?_
 refine ⟨(by omega),(by omega),?_⟩
 simp only []
 simp only [bs,Int.reduceToNat]
 refine M.put_w w 2 rfl rfl (by simp) fun h23 w=>?_
 simp only [bs] at w
 refine M.vis (3) (by decide) ?_
 refine M.iter_s ?_
 refine cdt (by omega) ?_
 refine ⟨(by omega),(by omega),?_⟩
 simp only []
 simp only [bs,Int.reduceToNat,mul_q,lb (w.blk 2 rfl)]
 refine M.vis (6) (by decide) ?_
 refine cdf (by omega) ?_
 refine M.vis (6) (by decide) ?_
 refine M.vis (1) (by decide) ?_
 refine ⟨(by omega),(by omega),?_⟩
 simp only []
 simp only [bs,Int.reduceToNat]
 refine M.vin ?_
 simp only [mul5_q]
 refine M.vin ?_
 simp only [add_q]
 refine M.vin ?_
 refine ⟨(by omega),(by omega),?_⟩
 simp only []
 simp only [Nat.reduceMul,Int.reduceToNat]
 refine M.put_w w 2 rfl rfl (by simp) fun h25 w=>?_
 simp only [bs] at w
 refine M.vis (4) (by decide) ?_
 refine M.iter_s ?_
 refine cdt (by omega) ?_
 refine ⟨(by omega),(by omega),?_⟩
 simp only []
 simp only [bs,Int.reduceToNat,mul_q,lb (w.blk 2 rfl)]
 refine M.vis (7) (by decide) ?_
 refine cdf (by omega) ?_
 refine M.vis (7) (by decide) ?_
 refine M.vis (2) (by decide) ?_
 refine ⟨(by omega),(by omega),?_⟩
 simp only []
 simp only [bs,Int.reduceToNat]
 refine M.vin ?_
 simp only [mul5_q]
 refine M.vin ?_
 simp only [add_q]
 refine M.vin ?_
 refine ⟨(by omega),(by omega),?_⟩
 simp only []
 simp only [Nat.reduceMul,Int.reduceToNat]
 refine M.put_w w 2 rfl rfl (by simp) fun h27 w=>?_
 simp only [bs] at w
 refine M.vis (5) (by decide) ?_
 refine M.iter_s ?_
 refine cdf (by omega) ?_
 refine M.vis (4) (by decide) ?_
 refine M.iter_s ?_
 refine cdt (by omega) ?_
 refine ⟨(by omega),(by omega),?_⟩
 simp only [bs,Int.reduceToNat,lb (w.blk 0 rfl),lb (w.blk 1 rfl)]
 refine M.times 6 ?_
 refine M.iter_s ?_
 refine cdt (by omega) ?_
 refine ⟨(by omega),(by omega),?_⟩
 simp only []
 simp only [bs,Int.reduceToNat,mul_q,lb (w.blk 2 rfl)]
 refine M.vis (4) (by decide) ?_
 refine cdt (by omega) ?_
 refine M.vis (4) (by decide) ?_
 refine ⟨(by omega),(by omega),?_⟩
 simp only []
 simp only [bs,Int.reduceToNat]
 refine M.vin ?_
 simp only [add_q]
 refine M.vin ?_
 refine ⟨(by omega),(by omega),?_⟩
 simp only []
 simp only [Nat.reduceMul,Int.reduceToNat]
 refine M.put_w w 2 rfl rfl (by simp) fun h16 w=>?_
 simp only [bs] at w
 refine M.vis (1) (by decide) ?_
 refine M.iter_s ?_
 refine cdt (by omega) ?_
 refine ⟨(by omega),(by omega),?_⟩
 simp only []
 simp only [bs,Int.reduceToNat,mul_q,lb (w.blk 2 rfl)]
 refine M.vis (5) (by decide) ?_
 refine cdf (by omega) ?_
 refine M.vis (5) (by decide) ?_
 refine M.vis (0) (by decide) ?_
 refine ⟨(by omega),(by omega),?_⟩
 simp only []
 simp only [bs,Int.reduceToNat]
 refine M.vin ?_
 simp only [mul5_q]
 refine M.vin ?_
 simp only [add_q]
 refine M.vin ?_
 refine ⟨(by omega),(by omega),?_⟩
 simp only []
 simp only [bs,Int.reduceToNat]
 refine M.put_w w 2 rfl rfl (by simp) fun h24 w=>?_
 simp only [bs] at w
 refine M.vis (2) (by decide) ?_
 refine M.iter_s ?_
 refine cdt (by omega) ?_
 refine ⟨(by omega),(by omega),?_⟩
 simp only []
 simp only [bs,Int.reduceToNat,mul_q,lb (w.blk 2 rfl)]
 refine M.vis (6) (by decide) ?_
 refine cdf (by omega) ?_
 refine M.vis (6) (by decide) ?_
 refine M.vis (1) (by decide) ?_
 refine ⟨(by omega),(by omega),?_⟩
 simp only []
 simp only [bs,Int.reduceToNat]
 refine M.vin ?_
 simp only [mul5_q]
 refine M.vin ?_
 simp only [add_q]
 refine M.vin ?_
 refine ⟨(by omega),(by omega),?_⟩
 simp only []
 simp only [Nat.reduceMul,Int.reduceToNat]
 refine M.put_w w 2 rfl rfl (by simp) fun h28 w=>?_
 simp only [bs] at w
 refine M.vis (3) (by decide) ?_
 refine M.iter_s ?_
 refine cdt (by omega) ?_
 refine ⟨(by omega),(by omega),?_⟩
 simp only []
 simp only [bs,Int.reduceToNat,mul_q,lb (w.blk 2 rfl)]
 refine M.vis (7) (by decide) ?_
 refine cdf (by omega) ?_
 refine M.vis (7) (by decide) ?_
 refine M.vis (2) (by decide) ?_
 refine ⟨(by omega),(by omega),?_⟩
 simp only []
 simp only [bs,Int.reduceToNat]
 refine M.vin ?_
 simp only [mul5_q]
 refine M.vin ?_
 simp only [add_q]
 refine M.vin ?_
 refine ⟨(by omega),(by omega),?_⟩
 simp only []
 simp only [Nat.reduceMul,Int.reduceToNat]
 refine M.put_w w 2 rfl rfl (by simp) fun h30 w=>?_
 simp only [bs] at w
 refine M.vis (4) (by decide) ?_
 refine M.iter_s ?_
 refine cdt (by omega) ?_
 refine ⟨(by omega),(by omega),?_⟩
 simp only []
 simp only [bs,Int.reduceToNat,mul_q,lb (w.blk 2 rfl)]
 refine M.vis (8) (by decide) ?_
 refine cdf (by omega) ?_
 refine M.vis (8) (by decide) ?_
 refine M.vis (3) (by decide) ?_
 refine ⟨(by omega),(by omega),?_⟩
 simp only []
 simp only [bs,Int.reduceToNat]
 refine M.vin ?_
 simp only [mul5_q]
 refine M.vin ?_
 simp only [add_q]
 refine M.vin ?_
 refine ⟨(by omega),(by omega),?_⟩
 simp only []
 simp only [Nat.reduceMul,Int.reduceToNat]
 refine M.put_w w 2 rfl rfl (by simp) fun h32 w=>?_
 simp only [bs] at w
 refine M.vis (5) (by decide) ?_
 refine M.iter_s ?_
 refine cdf (by omega) ?_
 refine M.vis (5) (by decide) ?_
 refine M.iter_s ?_
 refine cdf (by omega) ?_
 have w:Wd h0 _ [.blk b x.o,_,.blk b4 (x.mul r).o]:=w
 obtain ⟨hx,k0,k1,wx,wr,back⟩:=w.on (i:=2) rfl
 refine carry_spec wx fun h9 w1=>?_
 have w:=back _ _ w1
 generalize (x.mul r).carry=y at *
 unfold L5.o at w
 simp only [bs,lb (w.blk 2 rfl)]
 refine ⟨(rfl),?_⟩
 refine M.puts_w0 w 0 rfl (by simp [isPlainCell]) (by simp) fun h2 w=>?_
 simp only [bs] at w
 exact k _ ((w.drop (i:=1) rfl).drop (i:=1) rfl)
end
end Go.Proofs.YthegnmanjdlmjaaGreatDoor
namespace Go.Proofs.YthegnmanjdlmjaaGreatDoor
open Go.Sh Go.RowKit
namespace L5
theorem two_lt {x:L5} (h:x.Lt 4611686018427387904):x.carry.carry.Lt 67108864:=by
 obtain ⟨k,ka,kc,kd,ke,kb⟩:=carry_lt h
 generalize x.carry=y at *
 have ha:y.carry.a<67108864:=Nat.mod_lt _ (by decide)
 have hc:y.carry.c<67108864:=Nat.mod_lt _ (by decide)
 have hd:y.carry.d<67108864:=Nat.mod_lt _ (by decide)
 have he:y.carry.e<67108864:=Nat.mod_lt _ (by decide)
 refine ⟨ha,?_,hc,hd,he⟩
 obtain ⟨m1,e1,l1,s1⟩:=shs y.a (by omega)
 have r1:y.c1=sh y.a:=rfl
 have r2:y.c2=sh (y.b+y.c1):=rfl
 have r3:y.c3=sh (y.c+y.c2):=rfl
 have r4:y.c4=sh (y.d+y.c3):=rfl
 have r5:y.c5=sh (y.e+y.c4):=rfl
 rw [←r1] at s1
 obtain ⟨m2,e2,l2,s2⟩:=shs (y.b+y.c1) (by omega)
 rw [←r2] at s2
 obtain ⟨m3,e3,l3,s3⟩:=shs (y.c+y.c2) (by omega)
 rw [←r3] at s3
 obtain ⟨m4,e4,l4,s4⟩:=shs (y.d+y.c3) (by omega)
 rw [←r4] at s4
 obtain ⟨m5,e5,l5,s5⟩:=shs (y.e+y.c4) (by omega)
 rw [←r5] at s5
 obtain ⟨m6,e6,l6,s6⟩:=shs (m1+y.c5*5) (by omega)
 simp only [carry,e1,e2]
 clear r1 r2 r3 r4 r5 e1 e2 e3 e4 e5 e6
 generalize y.c1=c1 at *
 generalize y.c2=c2 at *
 generalize y.c3=c3 at *
 generalize y.c4=c4 at *
 generalize y.c5=c5 at *
 generalize sh (m1+c5*5)=c6 at *
 omega
theorem two_val {x:L5} (h:x.Lt 4611686018427387904):x.carry.carry.val % P=x.val % P:=by
 have h1:=carry_val h
 have h2:=carry_val ((carry_lt h).1.mono (by decide:134217728≤4611686018427387904))
 rw [←h1,←h2,Nat.add_mul_mod_self_right,Nat.add_mul_mod_self_right]
def five (z:L5):L5:=
 ⟨(z.a+5) % 67108864,(z.b+sh (z.a+5)) % 67108864,(z.c+sh (z.b+sh (z.a+5))) % 67108864,(z.d+sh (z.c+sh (z.b+sh (z.a+5)))) % 67108864,z.e+sh (z.d+sh (z.c+sh (z.b+sh (z.a+5))))⟩
def cut (z:L5):L5:={ z with e:=z.e % 67108864 }
theorem five_val {z:L5} (h:z.Lt 67108864):z.five.val=z.val+5∧z.five.e<134217728∧z.five.cut.Lt 67108864:=by
 obtain ⟨h1,h2,h3,h4,h5⟩:=h
 obtain ⟨m1,e1,l1,s1⟩:=shs (z.a+5) (by omega)
 obtain ⟨m2,e2,l2,s2⟩:=shs (z.b+sh (z.a+5)) (by omega)
 obtain ⟨m3,e3,l3,s3⟩:=shs (z.c+sh (z.b+sh (z.a+5))) (by omega)
 obtain ⟨m4,e4,l4,s4⟩:=shs (z.d+sh (z.c+sh (z.b+sh (z.a+5)))) (by omega)
 refine ⟨?_,?_,⟨Nat.mod_lt _ (by decide),Nat.mod_lt _ (by decide),Nat.mod_lt _ (by decide),Nat.mod_lt _ (by decide),Nat.mod_lt _ (by decide)⟩⟩
 ·simp only [five,val,e1,e2,e3,e4]
  omega
 ·simp only [five]
  omega
theorem least_ge {z:L5} (h:z.Lt 67108864) (hs:sh z.five.e≠0):z.five.cut.val=z.val % P:=by
 obtain ⟨f1,f2,_⟩:=five_val h
 obtain ⟨m,e,l,s⟩:=shs z.five.e (by omega)
 have hv:z.five.cut.val+1361129467683753853853498429727072845824=z.val+5:=by
  rw [←f1]
  simp only [cut,val,e]
  omega
 have hz:z.val<1361129467683753853853498429727072845824:=by
  obtain ⟨h1,h2,h3,h4,h5⟩:=h
  simp only [val]; omega
 have:z.val=z.five.cut.val+P:=by simp only [P]; omega
 rw [this,Nat.add_mod_right,Nat.mod_eq_of_lt (by simp only [P] at *; omega)]
theorem least_lt {z:L5} (h:z.Lt 67108864) (hs:sh z.five.e=0):z.val=z.val % P:=by
 obtain ⟨f1,f2,f3⟩:=five_val h
 obtain ⟨m,e,l,s⟩:=shs z.five.e (by omega)
 have hb:z.five.val<1361129467683753853853498429727072845824:=by
  have a1:=f3.a
  have a2:=f3.b
  have a3:=f3.c
  have a4:=f3.d
  simp only [cut] at a1 a2 a3 a4
  simp only [val]; omega
 rw [Nat.mod_eq_of_lt (by simp only [P]; omega)]
end L5
section
variable {h0 h:H} {b:Nat} {x:L5} {Q:H→Prop}
theorem least_spec (w:Wd h0 h [.blk b x.o]) (hx:x.Lt 4611686018427387904) (k:∀ h' (y:L5),y.Lt 67108864→y.val=x.val % L5.P→Wd h0 h' [.blk b y.o]→Q h'):poly_limbs_least (some ⟨b,0,none⟩) h Q:=by
 unfold poly_limbs_least poly_limbs_least.g
 refine carry_spec w fun h1 w=>carry_spec w fun h2 w=>?_
 have hz:=L5.two_lt hx
 have hv:=L5.two_val hx
 generalize x.carry.carry=z at *
 unfold L5.o at w
 simp only [bs,lb (w.blk 0 rfl)]
 refine M.new_w w fun b4 h3 w=>?_
 refine ⟨(rfl),?_⟩
 refine M.puts_w0 w 1 rfl (by simp [isPlainCell]) (by simp) fun h5 w=>?_
 simp only [bs] at w
 refine ⟨(by omega),(by omega),?_⟩
 simp only [bs,Int.reduceToNat,add5_q,lb (w.blk 1 rfl)]
 refine M.vin ?_
 refine ⟨(by omega),(by omega),?_⟩
 simp only []
 simp only [bs,Int.reduceToNat]
 refine M.put_w w 1 rfl rfl (by simp) fun h7 w=>?_
 simp only [bs] at w
 refine M.jn (M.times 5 ?_)
 refine M.iter_s ?_
 refine cdt (by omega) ?_
 refine M.vis (1) (by decide) ?_
 refine ⟨(by omega),(by omega),?_⟩
 simp only [bs,Int.reduceToNat,lb (w.blk 1 rfl)]
 refine ⟨(by omega),(by omega),?_⟩
 simp only []
 simp only [bs,Int.reduceToNat,shr_q]
 refine ⟨(by omega),?_⟩
 refine M.vin ?_
 simp only [add_q]
 refine M.vin ?_
 refine ⟨(by omega),(by omega),?_⟩
 simp only []
 simp only [Nat.reduceMul,Int.reduceToNat]
 refine M.put_w w 1 rfl rfl (by simp) fun h6 w=>?_
 simp only [bs] at w
 refine ⟨(by omega),(by omega),?_⟩
 simp only [bs,Int.reduceToNat,and_q,lb (w.blk 1 rfl)]
 refine M.vin ?_
 refine ⟨(by omega),(by omega),?_⟩
 simp only []
 simp only [bs,Int.reduceToNat]
 refine M.put_w w 1 rfl rfl (by simp) fun h9 w=>?_
 simp only [bs] at w
 refine M.vis (1) (by decide) ?_
 refine M.iter_s ?_
 refine cdt (by omega) ?_
 refine M.vis (2) (by decide) ?_
 refine ⟨(by omega),(by omega),?_⟩
 simp only [bs,Int.reduceToNat,lb (w.blk 1 rfl)]
 refine ⟨(by omega),(by omega),?_⟩
 simp only []
 simp only [bs,Int.reduceToNat,shr_q]
 refine ⟨(by omega),?_⟩
 refine M.vin ?_
 simp only [add_q]
 refine M.vin ?_
 refine ⟨(by omega),(by omega),?_⟩
 simp only []
 simp only [Nat.reduceMul,Int.reduceToNat]
 refine M.put_w w 1 rfl rfl (by simp) fun h11 w=>?_
 simp only [bs] at w
 refine ⟨(by omega),(by omega),?_⟩
 simp only [bs,Int.reduceToNat,and_q,lb (w.blk 1 rfl)]
 refine M.vin ?_
 refine ⟨(by omega),(by omega),?_⟩
 simp only []
 simp only [Nat.reduceMul,Int.reduceToNat]
 refine M.put_w w 1 rfl rfl (by simp) fun h13 w=>?_
 simp only [bs] at w
 refine M.vis (2) (by decide) ?_
 refine M.iter_s ?_
 refine cdt (by omega) ?_
 refine M.vis (3) (by decide) ?_
 refine ⟨(by omega),(by omega),?_⟩
 simp only [bs,Int.reduceToNat,lb (w.blk 1 rfl)]
 refine ⟨(by omega),(by omega),?_⟩
 simp only []
 simp only [bs,Int.reduceToNat,shr_q]
 refine ⟨(by omega),?_⟩
 refine M.vin ?_
 simp only [add_q]
 refine M.vin ?_
 refine ⟨(by omega),(by omega),?_⟩
 simp only []
 simp only [Nat.reduceMul,Int.reduceToNat]
 refine M.put_w w 1 rfl rfl (by simp) fun h15 w=>?_
 simp only [bs] at w
 refine ⟨(by omega),(by omega),?_⟩
 simp only [bs,Int.reduceToNat,and_q,lb (w.blk 1 rfl)]
 refine M.vin ?_
 refine ⟨(by omega),(by omega),?_⟩
 simp only []
 simp only [Nat.reduceMul,Int.reduceToNat]
 refine M.put_w w 1 rfl rfl (by simp) fun h17 w=>?_
 simp only [bs] at w
 refine M.vis (3) (by decide) ?_
 refine M.iter_s ?_
 refine cdt (by omega) ?_
 refine M.vis (4) (by decide) ?_
 refine ⟨(by omega),(by omega),?_⟩
 simp only [bs,Int.reduceToNat,lb (w.blk 1 rfl)]
 refine ⟨(by omega),(by omega),?_⟩
 simp only []
 simp only [bs,Int.reduceToNat,shr_q]
 refine ⟨(by omega),?_⟩
 refine M.vin ?_
 simp only [add_q]
 refine M.vin ?_
 refine ⟨(by omega),(by omega),?_⟩
 simp only []
 simp only [Nat.reduceMul,Int.reduceToNat]
 refine M.put_w w 1 rfl rfl (by simp) fun h19 w=>?_
 simp only [bs] at w
 refine ⟨(by omega),(by omega),?_⟩
 simp only [bs,Int.reduceToNat,and_q,lb (w.blk 1 rfl)]
 refine M.vin ?_
 refine ⟨(by omega),(by omega),?_⟩
 simp only []
 simp only [Nat.reduceMul,Int.reduceToNat]
 refine M.put_w w 1 rfl rfl (by simp) fun h21 w=>?_
 simp only [bs] at w
 refine M.vis (4) (by decide) ?_
 refine M.iter_s ?_
 refine cdf (by omega) ?_
 refine ⟨(by omega),(by omega),?_⟩
 simp only [bs,Int.reduceToNat,shr_q,lb (w.blk 1 rfl)]
 refine ⟨(by omega),?_⟩
 refine M.vin ?_
 by_cases hs:L5.sh z.five.e=0
 ·refine cf (show (q64 (L5.sh z.five.e) != 0)=false by rw [hs]; rfl) ?_
  exact k _ z hz (by rw [←hv]; exact L5.least_lt hz hs) (w.drop (i:=1) rfl)
 ·refine ct (show (q64 (L5.sh z.five.e) != 0)=true by
   have:L5.sh z.five.e<18446744073709551616:=by unfold L5.sh; omega
   rw [q64_lt this,bne_iff_ne]; omega) ?_
  refine ⟨(by omega),(by omega),?_⟩
  simp only []
  simp only [bs,Int.reduceToNat,and_q]
  refine M.vin ?_
  refine ⟨(by omega),(by omega),?_⟩
  simp only []
  simp only [Nat.reduceMul,Int.reduceToNat]
  refine M.put_w w 1 rfl rfl (by simp) fun h8 w=>?_
  simp only [bs] at w
  simp only [bs,lb (w.blk 1 rfl)]
  refine ⟨(rfl),?_⟩
  refine M.puts_w0 w 0 rfl (by simp [isPlainCell]) (by simp) fun h10 w=>?_
  simp only [bs] at w
  exact k _ z.five.cut (L5.five_val hz).2.2 (by rw [←hv]; exact L5.least_ge hz hs) (w.drop (i:=1) rfl)
end
end Go.Proofs.YthegnmanjdlmjaaGreatDoor

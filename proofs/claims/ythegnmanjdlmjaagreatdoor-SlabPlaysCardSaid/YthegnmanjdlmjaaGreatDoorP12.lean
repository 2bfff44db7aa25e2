/- The program's slab: the pairs over a slot, and a chunk that is had. The program's slab: a chunk that is had, which chunks are not. Reasoning over the shallow form, 8: rows of a number and a text. The program's slab: which chunks are bad, writes that are made. The program's slab: what is written for no chunks. The document's slab: may there be one, what is written for no chunks, writes that are made. A map of texts as a list of pairs: what Prepare builds. The program's slab: what changes may be. What Prepare answers, in plain words. A tree of digests, in plain words: what is over a leaf, and what a leaf's change changes. The program's slab: Prepare. The slab's law in plain words: what a disk's cells have, and what is had of them. The slab's law in plain words: a slab that is begun, changed, and had. Layer 17's laws: what they begin with. Layer 17's laws: a chunk that is sealed, put, and had. Layer 17's laws: a slab that isn't good. Layer 17's laws: what writes nothing. -/
import Derived.Test.YthegnmanjdlmjaaGreatDoorP11
import Derived.Test.YthegnmanjdlmjaaGreatDoorP07
import Derived.Test.YthegnmanjdlmjaaGreatDoorP08
import Derived.Test.YthegnmanjdlmjaaGreatDoorP10
set_option linter.unusedSimpArgs false
set_option linter.unusedVariables false
namespace Go.Proofs.YthegnmanjdlmjaaGreatDoor
open Go.Sh Go.RowKit
def okI (v:Value):Prop:=∃ n,v = .int .i64 n
theorem keysI:Keys Tryz.prog 3 okI:=keys_int Tryz.underlying3
theorem zeroS:∀ w,(zeroValue 9).run Tryz.prog w = .ok (.string ByteArray.empty) w:=fun w=>by kernel_rfl
def MapR (h:H) (x:Option Nat) (g:Int→Option ByteArray):Prop:=
 (x=none∧∀ k,g k=none)∨∃ b n f,x=some b∧MapIs okI h b f n∧∀ k,f (.int .i64 k)=(g k).map Value.string
theorem MapR.keep {h h':H} {x:Option Nat} {g:Int→Option ByteArray} (m:MapR h x g) (k:Keep h h'):MapR h' x g:=by
 rcases m with m | ⟨b,n,f,h1,h2,h3⟩
 ·exact .inl m
 ·exact .inr ⟨b,n,f,h1,h2.keep k,h3⟩
theorem MapR.nil (h:H):MapR h none fun _=>none:=.inl ⟨rfl,fun _=>rfl⟩
theorem lk2_S {h:H} {x:Option Nat} {g:Int→Option ByteArray} {k:Int} {K:Value→Bool→H→Prop} (m:MapR h x g) (kk:K (.string ((g k).getD ByteArray.empty)) (g k).isSome h):M.lk2 Tryz.prog 108 (.map x) (.int .i64 k) h K:=by
 rcases m with ⟨rfl,hg⟩ | ⟨b,n,f,rfl,hm,hf⟩
 ·rw [hg k] at kk
  refine ⟨3,9,#[],_,Tryz.underlying108,.inl ⟨rfl,rfl⟩,keysI.at ⟨k,rfl⟩ (by simp),?_⟩
  exact ⟨.string ByteArray.empty,zeroS,kk⟩
 ·refine lk2_of Tryz.underlying108 keysI zeroS hm ⟨k,rfl⟩ ?_
  rw [hf k]
  cases hg:g k with
  | none=>rw [hg] at kk; exact kk
  | some p=>rw [hg] at kk; exact kk
def gath (f:Int→ByteArray × Int) (acc:List ByteArray):List Int→List ByteArray × Int
 | []=>(acc,0)
 | x::r=>if (f x).2≠0 then ([],(f x).2) else gath f (acc++[(f x).1]) r
theorem gath_len {f:Int→ByteArray × Int}:∀ {l:List Int} {acc:List ByteArray},(gath f acc l).2=0→(gath f acc l).1.length=acc.length+l.length
 | [],acc,_=>rfl
 | x::r,acc,h=>by
  unfold gath at h ⊢
  by_cases h1:(f x).2≠0
  ·rw [if_pos h1] at h; exact absurd h h1
  ·rw [if_neg h1] at h ⊢
   rw [gath_len h]; simp; omega
theorem gath_all {p:ByteArray→Prop} {f:Int→ByteArray × Int} (hf:∀ x,(f x).2=0→p (f x).1):∀ {l:List Int} {acc:List ByteArray},(∀ q ∈ acc,p q)→∀ q ∈ (gath f acc l).1,p q
 | [],acc,ha=>ha
 | x::r,acc,ha=>by
  unfold gath
  by_cases h1:(f x).2≠0
  ·rw [if_pos h1]; simp
  ·rw [if_neg h1]
   refine gath_all hf fun q hq=>?_
   rcases List.mem_append.1 hq with hq | hq
   ·exact ha q hq
   ·rw [List.mem_singleton.1 hq]; exact hf x (Decidable.not_not.1 h1)
theorem drop_za {xs:List Int} {m:Nat} (h:m<xs.length):xs.drop m=za xs m::xs.drop (m+1):=by rw [za_get h,←List.drop_eq_getElem_cons h]
def pairOf (B:BankM) (d:Int) (g:Int→Option ByteArray) (x:Int):ByteArray × Int:=match g x with
 | some p=>(p,0)
 | none=>B.read d (100+x)
def overM (B:BankM) (d n:Int) (g:Int→Option ByteArray) (top:ByteArray) (slot:Int):List ByteArray × ByteArray × Int:=
 let r:=gath (pairOf B d g) [] (pathN n slot)
 if r.2≠0 then ([],ByteArray.empty,r.2) else (r.1,(follow top slot.toNat r.1).1,(follow top slot.toNat r.1).2)
def BankM.Sm (B:BankM):Prop:=∀ d a,(B.read d a).1.size≤2048
section
variable {hx h:H} {b:Nat} {B:BankM} {d n slot:Int} {key top:ByteArray} {x:Option Nat} {g:Int→Option ByteArray}
theorem pairOf_size (sm:B.Sm) (hg:∀ k p,g k=some p→p.size≤500000) (y:Int):(pairOf B d g y).1.size≤500000:=by
 unfold pairOf
 cases hy:g y with
 | none=>have:=sm d (100+y); simp only; omega
 | some p=>exact hg y p hy
theorem path_le {n s:Int} (hd:dep n≠0) (hs:0≤s∧s<n):∀ x ∈ pathN n s,0≤x∧x≤15:=by
 intro x hx
 rw [pathN,List.mem_map] at hx
 obtain ⟨i,hi,rfl⟩:=hx
 have hi:=List.mem_range.1 hi
 have hn:=dep_small hd
 obtain ⟨q,hq⟩:∃ q,dep n-i=q+1:=⟨dep n-i-1,by omega⟩
 have h1:(n+s).toNat / 2 ^ (dep n-i)≤(n+s).toNat / 2:=by
  rw [hq,Nat.pow_succ,Nat.mul_comm,←Nat.div_div_eq_div_mul]
  exact Nat.div_le_self _ _
 refine ⟨Int.natCast_nonneg _,?_⟩
 generalize (n+s).toNat / 2 ^ (dep n-i)=y at *
 omega
theorem over_spec {Q:Option Addr→Nat→Nat→ByteArray→Int→H→Prop} (wx:Wd hx h [bankC b B]) (mr:MapR h x g) (hd:dep n≠0) (hs:0≤slot∧slot<n) (sm:B.Sm) (hg:∀ k p,g k=some p→p.size≤500000) (tb:Tabs h)
  (k:∀ a c h',Wd h h' [.sl 9 1 a (overM B d n g top slot).1.length c (eS.row (overM B d n g top slot).1)]→Q a (overM B d n g top slot).1.length c (overM B d n g top slot).2.1 (overM B d n g top slot).2.2 h'):
  slab_Slab_over (some ⟨b,0,none⟩) d n key top slot x h Q:=by
 unfold slab_Slab_over slab_Slab_over.g
 have w:=Wd.start h
 refine M.new_w w fun b2 h1 w=>?_
 simp only [bs,Nat.reduceMul,lb (w.blk 0 rfl)]
 refine treePath_spec hd hs (tb.keep w.keep) fun a2 c2 h2 w'=>?_
 have w:=w.join w'
 clear w'
 have hpl:=pathN_len n slot
 have hple:=path_le hd hs
 have hdl:=dep_le n
 have hpow:=dep_pow hd
 have hof:overM B d n g top slot=if (gath (pairOf B d g) [] (pathN n slot)).2≠0 then ([],ByteArray.empty,(gath (pairOf B d g) [] (pathN n slot)).2) else ((gath (pairOf B d g) [] (pathN n slot)).1,(follow top slot.toNat (gath (pairOf B d g) [] (pathN n slot)).1).1,(follow top slot.toNat (gath (pairOf B d g) [] (pathN n slot)).1).2):=rfl
 rw [hof] at k
 clear hof
 have hall:=gath_all (p:=fun q=>q.size≤500000) (f:=pairOf B d g) (fun x _=>pairOf_size sm hg x) (l:=pathN n slot) (acc:=[]) (by simp)
 have hlen0:=@gath_len (pairOf B d g) (pathN n slot) []
 generalize hG:gath (pairOf B d g) [] (pathN n slot)=G at *
 refine M.jn ?_
 refine M.loop_of (I:=fun (p:(Option Addr × Nat × Nat) × Int) h'=>∃ (m:Nat) (ps:List ByteArray),m≤dep n∧p.2=(m:Int)∧p.1.2.1=m∧ps.length=m∧G=gath (pairOf B d g) ps ((pathN n slot).drop m) ∧
   Wd h h' [.blk b2 (.cells #[.pointer (some ⟨b,0,none⟩),.int .i64 d,.int .i64 n,.string key] 37),.sl 3 1 a2 (dep n) c2 (eI.row (pathN n slot)),.sl 9 1 p.1.1 p.1.2.1 p.1.2.2 (eS.row ps)]) (μ:=fun p=>(dep n-p.2).toNat) ⟨0,[],by omega,rfl,rfl,rfl,hG.symm,w.nilsl _ _⟩ ?_
 clear w
 rintro ⟨⟨a3,l3,c3⟩,_⟩ h3 J ⟨m,ps,hm,hi,hl,hps,hg2,w⟩ hJ
 simp only at hi hl w ⊢
 subst hi hl
 by_cases hlt:l3<dep n
 ·refine cdt (by omega) ?_
  refine Ro.ldI (w.ro 1 rfl (by decide)) (by omega) (by omega) ?_
  rw [Int.toNat_natCast]
  have hnd:0≤za (pathN n slot) l3∧za (pathN n slot) l3≤15:=by rw [za_get (by omega)]; exact hple _ (List.getElem_mem _)
  have hg3:G=if (pairOf B d g (za (pathN n slot) l3)).2≠0 then ([],(pairOf B d g (za (pathN n slot) l3)).2) else gath (pairOf B d g) (ps++[(pairOf B d g (za (pathN n slot) l3)).1]) ((pathN n slot).drop (l3+1)):=by
   rw [hg2,drop_za (by omega)]; rfl
  generalize za (pathN n slot) l3=nd at *
  refine lk2_S (mr.keep w.keep) ?_
  rw [str_eq]
  refine M.join_of (fun d' h'=>d'=(pairOf B d g nd).1∧(pairOf B d g nd).2=0∧Wd h h' [.blk b2 (.cells #[.pointer (some ⟨b,0,none⟩),.int .i64 d,.int .i64 n,.string key] 37),.sl 3 1 a2 (dep n) c2 (eI.row (pathN n slot)),.sl 9 1 a3 l3 c3 (eS.row ps)]) (fun J2 hJ2=>?_) ?_
  ·cases hgn:g nd with
   | none=>
    have hpo:pairOf B d g nd=B.read d (100+nd):=by unfold pairOf; rw [hgn]
    rw [hpo] at hJ2 hg3
    have v:IntKind.wrap .i64 (100+nd)=100+nd:=by rw [IntKind.wrap_i64]; omega
    refine ct rfl ?_
    simp only [bs,v,lb (w.blk 0 rfl)]
    refine M.vin ?_
    refine bRead (wx.keeps w.keep) ?_
    by_cases e:(B.read d (100+nd)).2=0
    ·exact cf (by rw [bne_eq_false_iff_eq]; exact e) (hJ2 _ _ ⟨rfl,e,w⟩)
    ·refine ct (by rw [bne_iff_ne]; exact e) ?_
     rw [if_pos e] at hg3
     have e2:G.2=(B.read d (100+nd)).2:=by rw [hg3]
     rw [e2,if_pos e] at k
     exact k none 0 _ (((w.drop (i:=0) rfl).drop (i:=0) rfl).drop (i:=0) rfl |>.nilsl _ _)
   | some p=>
    have hpo:pairOf B d g nd=(p,0):=by unfold pairOf; rw [hgn]
    rw [hpo] at hJ2
    exact cf rfl (hJ2 _ _ ⟨rfl,rfl,w⟩)
  clear w
  rintro _ h4 ⟨rfl,e,w⟩
  rw [if_neg (by rw [e]; simp)] at hg3
  have v1:IntKind.wrap .i64 ((l3:Int)+1)=((l3+1:Nat):Int):=by rw [IntKind.wrap_i64]; omega
  refine Wd.push w 2 rfl rfl rfl (by simp [isPlainCell]) (by omega) (by omega) fun a7 c8 h5 w=>?_
  simp only [v1]
  refine M.vin ?_
  refine hJ _ _ ⟨l3+1,ps++[(pairOf B d g nd).1],by omega,rfl,rfl,by simp [hps],hg3,?_⟩ (by simp only; omega)
  rw [eS.row_app,eS.row_one]
  exact w
 ·refine cdf (by omega) ?_
  have hl:l3=dep n:=by omega
  have hG2:G=(ps,0):=by rw [hg2,List.drop_of_length_le (by omega)]; rfl
  rw [hG2] at k hall
  simp only at k hall
  rw [if_neg (by simp)] at k
  have hsl:slot=(slot.toNat:Int):=by omega
  rw [hsl]
  refine Follow_spec (w.ro 2 rfl (by decide)) (by omega) ?_ hall (tb.keep w.keep) fun h4 k4=>?_
  ·rw [hl]; omega
  have w:=w.keeps k4
  have:=k a3 c3 h4
  simp only [hps] at this
  exact this ((w.drop (i:=0) rfl).drop (i:=0) rfl)
end
end Go.Proofs.YthegnmanjdlmjaaGreatDoor
namespace Go.Proofs.YthegnmanjdlmjaaGreatDoor
open Go.Sh Go.RowKit
def leafT (c:ByteArray):ByteArray:=kindT 0 c
def cellM (key:ByteArray) (d slot:Int) (leaf:ByteArray) (c:ByteArray × Int):ByteArray × Int:=
 if c.2≠0 then (ByteArray.empty,c.2) else if leafT c.1≠leaf then (ByteArray.empty,22) else if c.1=ByteArray.empty then (zerosT 32,0)
 else if c.1.size<12 then (ByteArray.empty,3) else openA key (c.1.extract 0 12) (withB d slot) (c.1.extract 12 c.1.size)
def getG (B:BankM) (key:ByteArray) (d n:Int) (top:ByteArray) (slot:Int):ByteArray × Int:=
 if (overM B d n (fun _=>none) top slot).2.2≠0 then (ByteArray.empty,(overM B d n (fun _=>none) top slot).2.2) else cellM key d slot (overM B d n (fun _=>none) top slot).2.1 (B.read d (120+slot))
def getM (B:BankM) (key:ByteArray) (d n:Int) (top:ByteArray) (slot:Int):ByteArray × Int:=
 if mayZ (goodS B d n key) n slot≠0 then (ByteArray.empty,mayZ (goodS B d n key) n slot) else getG B key d n top slot
section
variable {hx h:H} {b:Nat} {B:BankM} {d n slot:Int} {key top:ByteArray}
theorem Get_spec {Q:ByteArray→Int→H→Prop} (wx:Wd hx h [bankC b B]) (sm:B.Sm) (tb:Tabs h) (k:∀ h',Keep h h'→Q (getM B key d n top slot).1 (getM B key d n top slot).2 h'):slab_Slab_Get (some ⟨b,0,none⟩) d n key top slot h Q:=by
 unfold slab_Slab_Get slab_Slab_Get.g
 have w:=Wd.start h
 have ok:=bank_ok wx
 refine M.new_w w fun b2 h1 w=>?_
 simp only [bs,lb (w.blk 0 rfl)]
 refine may_spec (wx.keeps w.keep) (tb.keep w.keep) fun h2 k2=>?_
 have w:=w.keeps k2
 by_cases hm:mayZ (goodS B d n key) n slot=0
 ·obtain ⟨⟨hd,hk,hb⟩,hs⟩:=mayZ_zero.1 hm
  have hn:=dep_small hd
  have hb':=BankM.not_bad.1 hb
  have hsm:=ok.small
  have e1:getM B key d n top slot=getG B key d n top slot:=if_neg (by simp [hm])
  rw [e1] at k
  clear e1
  rw [hm]
  refine cf rfl ?_
  simp only [bs,lb (w.blk 0 rfl)]
  refine over_spec (wx.keeps w.keep) (MapR.nil _) hd hs sm (by simp) (tb.keep w.keep) fun a3 c3 h3 w'=>?_
  have w:=w.join w'
  clear w'
  have e1:getG B key d n top slot=if (overM B d n (fun _=>none) top slot).2.2≠0 then (ByteArray.empty,(overM B d n (fun _=>none) top slot).2.2) else cellM key d slot (overM B d n (fun _=>none) top slot).2.1 (B.read d (120+slot)):=rfl
  rw [e1] at k
  clear e1
  generalize overM B d n (fun _=>none) top slot=o at *
  by_cases ho:o.2.2=0
  ·rw [if_neg (by simp [ho])] at k
   refine cf (by rw [bne_eq_false_iff_eq]; exact ho) ?_
   have v:IntKind.wrap .i64 (120+slot)=120+slot:=by rw [IntKind.wrap_i64]; omega
   simp only [bs,v,lb (w.blk 0 rfl)]
   refine M.vin ?_
   refine bRead (wx.keeps w.keep) ?_
   have hcs:=sm d (120+slot)
   generalize B.read d (120+slot)=c at *
   unfold cellM at k
   by_cases h0:c.2=0
   ·rw [if_neg (by simp [h0])] at k
    refine cf (by rw [bne_eq_false_iff_eq]; exact h0) ?_
    refine Leaf_spec (by omega) (tb.keep w.keep) fun h4 k_=>?_
    have w:=w.keeps k_
    clear k_
    have hlf:kindT 0 c.1=leafT c.1:=rfl
    rw [hlf,strEq_dec]
    by_cases h1:leafT c.1=o.2.1
    ·rw [if_neg (by simp [h1])] at k
     refine cf (by simp [h1]) ?_
     rw [strEq_dec]
     by_cases h2:c.1=ByteArray.empty
     ·rw [if_pos h2] at k
      refine cdt h2 ?_
      refine Rep0_spec (by omega) (by omega) fun h5 k_=>?_
      have w:=w.keeps k_
      clear k_
      exact k _ w.keep
     ·rw [if_neg h2] at k
      refine cdf h2 ?_
      by_cases h3:c.1.size<12
      ·rw [if_pos h3] at k
       exact cdt (by omega) (k _ w.keep)
      ·rw [if_neg h3] at k
       refine cdf (by omega) ?_
       have hs0:=w.blk 0 rfl
       have z:=withB_size d slot
       have z1:(c.1.extract (Int.toNat 0) (Int.toNat 12)).size=12:=by rw [ByteArray.size_extract]; show min 12 _ - 0=12; omega
       have z2:(c.1.extract (Int.toNat 12) c.1.size).size=c.1.size-12:=by rw [ByteArray.size_extract]; show min _ _ - 12=_; omega
       simp only [bs,lb (w.blk 0 rfl)]
       refine ⟨(by omega),(by omega),(by omega),?_⟩
       simp only []
       refine ⟨(by omega),(by omega),(by omega),?_⟩
       simp only [Int.toNat_natCast]
       refine with_spec (by omega) (by omega) fun h6 k_=>?_
       have w:=w.keeps k_
       clear k_
       refine M.still_at hs0 (w.blk 0 rfl) ?_
       refine Open_spec (by omega) (by omega) (by omega) (by omega) fun h7 k_=>?_
       have w:=w.keeps k_
       clear k_
       exact k _ w.keep
    ·rw [if_pos h1] at k
     exact ct (by simp [h1]) (k _ w.keep)
   ·rw [if_pos h0] at k
    exact ct (by rw [bne_iff_ne]; exact h0) (k _ w.keep)
  ·rw [if_pos ho] at k
   exact ct (by rw [bne_iff_ne]; exact ho) (k _ w.keep)
 ·have e1:getM B key d n top slot=(ByteArray.empty,mayZ (goodS B d n key) n slot):=if_pos hm
  rw [e1] at k
  exact ct (by rw [bne_iff_ne]; exact hm) (k _ w.keep)
end
end Go.Proofs.YthegnmanjdlmjaaGreatDoor
namespace Go.Sh
open Go.RowKit
def eP:Enc (Int × ByteArray):=⟨fun p=>[.int .i64 p.1,.string p.2],2,fun _=>rfl,by simp [isPlainCell]⟩
def pa (xs:List (Int × ByteArray)) (i:Nat):Int × ByteArray:=xs.getD i (0,ByteArray.empty)
theorem pa_get {xs:List (Int × ByteArray)} {i:Nat} (h:i<xs.length):pa xs i=xs[i]:=by simp [pa,h]
section
variable {h0 h h':H} {L:List Chunk} {a:Option Addr} {l c:Nat} {z:Int} {e:TypeId} {xs:List (Int × ByteArray)}
theorem Ro.ldP {K:Int→ByteArray→Prop} (f:Ro eP h a l xs) (h0:0≤z) (h1:z<l) (k:K (pa xs z.toNat).1 (pa xs z.toNat).2):
  M.idx a l z fun b j=>M.load h (Addr.add (Addr.add b (j*2)) 0) fun v=>M.int .i64 v fun n=>M.load h (Addr.add (Addr.add b (j*2)) 1) fun v2=>M.str v2 fun s=>K n s:=by
 refine f.at h0 h1 fun b hi hc=>?_
 have c0:h.cell ((b.add (z.toNat * 2)).add 0)=some (.int .i64 (xs[z.toNat]).1):=hc 0 (by decide)
 have c1:h.cell ((b.add (z.toNat * 2)).add 1)=some (.string (xs[z.toNat]).2):=hc 1 (by decide)
 rw [lc c0,int_eq,lc c1,str_eq,←pa_get hi]
 exact k
theorem Ro.ldP1 {K:Int→Prop} (f:Ro eP h a l xs) (h0:0≤z) (h1:z<l) (k:K (pa xs z.toNat).1):
  M.idx a l z fun b j=>M.load h (Addr.add (Addr.add b (j*2)) 0) fun v=>M.int .i64 v K:=by
 refine f.at h0 h1 fun b hi hc=>?_
 have c0:h.cell ((b.add (z.toNat * 2)).add 0)=some (.int .i64 (xs[z.toNat]).1):=hc 0 (by decide)
 rw [lc c0,int_eq,←pa_get hi]
 exact k
theorem Ro.ldP2 {K:ByteArray→Prop} (f:Ro eP h a l xs) (h0:0≤z) (h1:z<l) (k:K (pa xs z.toNat).2):
  M.idx a l z fun b j=>M.load h (Addr.add (Addr.add b (j*2)) 1) fun v=>M.str v K:=by
 refine f.at h0 h1 fun b hi hc=>?_
 have c1:h.cell ((b.add (z.toNat * 2)).add 1)=some (.string (xs[z.toNat]).2):=hc 1 (by decide)
 rw [lc c1,str_eq,←pa_get hi]
 exact k
theorem Wd.toSl {α:Type} {E:Enc α} {b n:Nat} {cs:Array Value} {ys:List α} (w:Wd h0 h L) (i:Nat) (hi:L[i]? = some (.blk b (.cells cs e (0,0)))) (hc:cs=(E.row ys).toArray) (hn:ys.length=n):Wd h0 h (L.set i (.sl e E.sz (some ⟨b,0,none⟩) n n (E.row ys))):=by
 subst hc hn
 refine w.weaken hi fun F h ⟨hF,hb⟩=>.inr ⟨b,[],rfl,hF,?_,E.row_len ys,by rw [List.append_nil]; exact E.row_len ys⟩
 rw [List.append_nil]
 exact .of hb
end
end Go.Sh
namespace Go.Proofs.YthegnmanjdlmjaaGreatDoor
open Go.Sh Go.RowKit
def badM (B:BankM) (key:ByteArray) (d n:Int) (top:ByteArray):List Int:=
 if ¬ goodS B d n key then [] else ((List.range n.toNat).filter fun i=>(getM B key d n top (i:Nat)).2≠0).map fun i=>((i:Nat):Int)
section
variable {hx h:H} {b:Nat} {B:BankM} {d n slot:Int} {key top:ByteArray}
theorem Bad_spec {Q:Option Addr→Nat→Nat→H→Prop} (wx:Wd hx h [bankC b B]) (sm:B.Sm) (tb:Tabs h) (k:∀ a c h',Wd h h' [.sl 3 1 a (badM B key d n top).length c (eI.row (badM B key d n top))]→Q a (badM B key d n top).length c h'):
  slab_Slab_Bad (some ⟨b,0,none⟩) d n key top h Q:=by
 unfold slab_Slab_Bad slab_Slab_Bad.g
 have w:=Wd.start h
 refine M.new_w w fun b2 h1 w=>?_
 simp only [bs,Nat.reduceMul,lb (w.blk 0 rfl)]
 refine good_spec (wx.keeps w.keep) (tb.keep w.keep) fun h2 k2=>?_
 have w:=w.keeps k2
 unfold badM at k
 by_cases g:goodS B d n key
 ·rw [if_neg (by simp [g])] at k
  have hn:=dep_small g.1
  refine cf (by simp [g]) ?_
  simp only [bs,lb (w.blk 0 rfl)]
  refine M.loop_of (I:=fun (p:(Option Addr × Nat × Nat) × Int) h'=>∃ m:Nat,m≤n.toNat∧p.2=(m:Int)∧p.1.2.1=(((List.range m).filter fun i=>(getM B key d n top (i:Nat)).2≠0).map fun i=>((i:Nat):Int)).length ∧
   Wd h h' [.blk b2 (.cells #[.pointer (some ⟨b,0,none⟩),.int .i64 d,.int .i64 n,.string key] 37),.sl 3 1 p.1.1 p.1.2.1 p.1.2.2 (eI.row (((List.range m).filter fun i=>(getM B key d n top (i:Nat)).2≠0).map fun i=>((i:Nat):Int)))]) (μ:=fun p=>(n-p.2).toNat) ⟨0,by omega,rfl,rfl,w.nilsl _ _⟩ ?_
  clear w
  rintro ⟨⟨a3,l3,c3⟩,_⟩ h3 J ⟨m,hm,hi,hl,w⟩ hJ
  simp only at hi hl w ⊢
  subst hi
  have hlm:l3≤m:=by
   rw [hl,List.length_map]
   exact Nat.le_trans (List.length_filter_le _ _) (by simp)
  by_cases hlt:(m:Int)<n
  ·refine cdt hlt ?_
   have v1:IntKind.wrap .i64 ((m:Int)+1)=((m+1:Nat):Int):=by rw [IntKind.wrap_i64]; omega
   simp only [bs,lb (w.blk 0 rfl)]
   refine Get_spec (wx.keeps w.keep) sm (tb.keep w.keep) fun h4 k4=>?_
   have w:=w.keeps k4
   by_cases e:(getM B key d n top (m:Nat)).2=0
   ·refine cf (by rw [bne_eq_false_iff_eq]; exact e) (M.vis _ v1 ?_)
    have er:(List.range (m+1)).filter (fun i=>(getM B key d n top (i:Nat)).2≠0)=(List.range m).filter fun i=>(getM B key d n top (i:Nat)).2≠0:=by
     rw [List.range_succ,List.filter_append,List.filter_cons_of_neg (by simpa using e)]; simp
    refine hJ _ _ ⟨m+1,by omega,rfl,by rw [er]; exact hl,by rw [er]; exact w⟩ (by simp only; omega)
   ·refine ct (by rw [bne_iff_ne]; exact e) ?_
    have er:(List.range (m+1)).filter (fun i=>(getM B key d n top (i:Nat)).2≠0)=((List.range m).filter fun i=>(getM B key d n top (i:Nat)).2≠0)++[m]:=by
     rw [List.range_succ,List.filter_append,List.filter_cons_of_pos (by simpa using e)]; rfl
    refine Wd.push w 1 rfl rfl rfl (by simp [isPlainCell]) (by omega) (by omega) fun a7 c8 h5 w=>?_
    simp only [v1]
    refine M.vin ?_
    refine hJ _ _ ⟨m+1,by omega,rfl,by rw [er,List.map_append,List.length_append,←hl]; rfl,?_⟩ (by simp only; omega)
    rw [er,List.map_append,eI.row_app]
    exact w
  ·refine cdf hlt ?_
   obtain rfl:m=n.toNat:=by omega
   subst hl
   exact k _ _ _ (w.drop (i:=0) rfl)
 ·rw [if_pos g] at k
  exact ct (by simp [g]) (k none 0 _ ((w.drop (i:=0) rfl).nilsl _ _))
end
structure Room (B:BankM) (k:Nat):Prop where
 steps:B.steps+k<1000000000
 left:B.left≤9223372036854775807
 waits:∀ D ∈ B.ds,D.W.length+k<1000000000
theorem Room.mono {B:BankM} {k m:Nat} (r:Room B k) (hm:m≤k):Room B m:=⟨by have:=r.steps; omega,r.left,fun D hD=>by have:=r.waits D hD; omega⟩
theorem Room.disk {B:BankM} {k:Nat} (r:Room B k) (i:Int):(B.disk i).W.length<1000000000:=by
 unfold BankM.disk
 rw [List.getD_eq_getElem?_getD]
 cases e:B.ds[i.toNat]? with
 | none=>simp
 | some D=>have:=r.waits D (List.mem_of_getElem? e); simp only [Option.getD_some]; omega
theorem spend_le (B:BankM) (ok:0≤B.left):B.spend.2.steps≤B.steps+1∧B.spend.2.left≤B.left:=by
 unfold BankM.spend
 split
 ·exact ⟨show B.steps≤B.steps+1 by omega,Int.le_refl _⟩
 ·refine ⟨Int.le_refl _,?_⟩
  simp only
  split <;> omega
theorem room_set {B B1:BankM} {k:Nat} {i:Int} {D':DiskM} (r:Room B (k+1)) (h1:B1.ds=B.ds) (h2:B1.steps≤B.steps+1) (h3:B1.left≤B.left) (hD:D'.W.length+k<1000000000):Room (B1.set i D') k:=by
 refine ⟨by have:=r.steps; simp only [BankM.set]; omega,by have:=r.left; simp only [BankM.set]; omega,fun D hm=>?_⟩
 simp only [BankM.set,h1] at hm
 rcases List.mem_or_eq_of_mem_set hm with hm | rfl
 ·have:=r.waits D hm; omega
 ·exact hD
theorem room_write {B:BankM} {k:Nat} (ok:0≤B.left) (r:Room B (k+1)) (i at_:Int) (s:ByteArray):Room (B.write i at_ s).2 k:=by
 unfold BankM.write
 split
 ·exact r.mono (by omega)
 ·rename_i hb
  split
  ·exact r.mono (by omega)
  ·have h1:=r.waits _ (disk_mem hb)
   have h2:=(B.disk i).write_len at_ s
   exact room_set r B.spend_ds (spend_le B ok).1 (spend_le B ok).2 (by omega)
theorem room_flush {B:BankM} {k:Nat} (ok:0≤B.left) (r:Room B (k+1)) (i:Int):Room (B.flush i).2 k:=by
 unfold BankM.flush
 split
 ·exact r.mono (by omega)
 ·rename_i hb
  split
  ·exact r.mono (by omega)
  ·have h1:=r.waits _ (disk_mem hb)
   have h2:=(B.disk i).flush_len
   exact room_set r B.spend_ds (spend_le B ok).1 (spend_le B ok).2 (by omega)
def writesM (B:BankM) (d:Int):List (Int × ByteArray)→Int × BankM
 | []=>B.flush d
 | p::r=>if (B.write d p.1 p.2).1≠0 then B.write d p.1 p.2 else writesM (B.write d p.1 p.2).2 d r
def applyM (B:BankM) (key:ByteArray) (d n:Int) (l:List (Int × ByteArray)):Int × BankM:=if ¬ goodS B d n key then (4,B) else writesM B d l
theorem drop_pa {xs:List (Int × ByteArray)} {m:Nat} (h:m<xs.length):xs.drop m=pa xs m::xs.drop (m+1):=by rw [pa_get h,←List.drop_eq_getElem_cons h]
section
variable {h0 h:H} {b:Nat} {B:BankM} {d n slot:Int} {key top:ByteArray} {xs:List (Int × ByteArray)} {a:Option Addr} {l c:Nat}
theorem Apply_spec {Q:Int→H→Prop} (w0:Wd h0 h [bankC b B]) (f:Ro eP h0 a l xs) (rm:Room B (xs.length+1)) (tb:Tabs h0) (k:∀ h',Wd h0 h' [bankC b (applyM B key d n xs).2]→Q (applyM B key d n xs).1 h'):slab_Slab_Apply (some ⟨b,0,none⟩) d n key a l c h Q:=by
 unfold slab_Slab_Apply slab_Slab_Apply.g
 have w:=w0
 have hlen:=f.len
 have ok:=bank_ok w0
 have hl9:l<1000000000:=by have:=rm.steps; have:=ok.st0; omega
 refine M.new_w w fun b2 h1 w=>?_
 simp only [bs,lb (w.blk 1 rfl)]
 obtain ⟨hx,k0,k1,wx,wr,_⟩:=w.on (i:=0) rfl
 refine good_spec wx (tb.keep w.keep) fun h2 k2=>?_
 have w:=w.keeps k2
 unfold applyM at k
 by_cases g:goodS B d n key
 ·rw [if_neg (by simp [g])] at k
  refine cf (by simp [g]) (M.jn ?_)
  refine M.loop_of (I:=fun (i:Int) h'=>∃ (m:Nat) (B':BankM),m≤l∧i=(m:Int)∧Room B' (xs.length-m+1)∧writesM B d xs=writesM B' d (xs.drop m) ∧
   Wd h0 h' [bankC b B',.blk b2 (.cells #[.pointer (some ⟨b,0,none⟩),.int .i64 d,.int .i64 n,.string key] 37)]) (μ:=fun i=>(l-i).toNat) ⟨0,B,by omega,rfl,rm,rfl,w⟩ ?_
  clear w wx wr
  rintro _ h3 J ⟨m,B',hm,rfl,rm',hw,w⟩ hJ
  by_cases hlt:m<l
  ·refine cdt (by omega) ?_
   have v1:IntKind.wrap .i64 ((m:Int)+1)=((m+1:Nat):Int):=by rw [IntKind.wrap_i64]; omega
   refine Ro.ldP (f.keep w.keep) (by omega) (by omega) ?_
   refine M.new_w w fun b5 h4 w=>?_
   refine ⟨(rfl),?_⟩
   refine M.puts_w0 w 2 rfl (by simp [isPlainCell]) (by simp) fun h6 w=>?_
   simp only [bs,Int.toNat_natCast] at w
   simp only [bs,lb (w.blk 1 rfl),lb (w.blk 2 rfl)]
   obtain ⟨hx,k0,k1,wx,wr,back⟩:=w.on (i:=0) rfl
   have ok':=bank_ok wx
   rw [drop_pa (by omega),writesM] at hw
   refine bWrite wx (by have:=rm'.steps; omega) rm'.left (rm'.disk d) fun h7 w1=>?_
   have w:=back _ _ w1
   simp only [bs] at w
   by_cases e:(B'.write d (pa xs m).1 (pa xs m).2).1=0
   ·rw [if_neg (by simp [e])] at hw
    refine cf (by rw [bne_eq_false_iff_eq]; exact e) (M.vis _ v1 ?_)
    exact hJ _ _ ⟨m+1,_,by omega,rfl,(room_write ok'.left rm' d _ _).mono (by omega),hw,w.drop (i:=2) rfl⟩ (by omega)
   ·rw [if_pos e] at hw
    rw [hw] at k
    exact ct (by rw [bne_iff_ne]; exact e) (k _ ((w.drop (i:=1) rfl).drop (i:=1) rfl))
  ·refine cdf (by omega) ?_
   simp only [bs,lb (w.blk 1 rfl)]
   obtain ⟨hx,k0,k1,wx,wr,back⟩:=w.on (i:=0) rfl
   rw [List.drop_of_length_le (by omega),writesM] at hw
   rw [hw] at k
   refine bFlush wx (by have:=rm'.steps; omega) rm'.left fun h7 w1=>?_
   have w:=back _ _ w1
   exact k _ (w.drop (i:=1) rfl)
 ·rw [if_pos g] at k
  exact ct (by simp [g]) (k _ (w.drop (i:=1) rfl))
end
end Go.Proofs.YthegnmanjdlmjaaGreatDoor
namespace Go.Proofs.YthegnmanjdlmjaaGreatDoor
open Go.Sh Go.RowKit
section
variable {h:H} {n:Int} {s:ByteArray}
theorem Mul1_spec {Q:Int→Int→H→Prop} (hd:dep n≠0) (k:Q 0 n h):math_bits_Mul 1 n h Q:=by
 unfold math_bits_Mul math_bits_Mul.g
 unfold math_bits_Mul64
 rcases dep_ne hd with rfl | rfl | rfl | rfl
 ·refine M.vis (1) (by decide) ?_
  refine ⟨(by omega),?_⟩
  refine M.vis (0) (by decide) ?_
  refine M.vis (2) (by decide) ?_
  refine ⟨(by omega),?_⟩
  refine M.vis (0) (by decide) ?_
  refine M.vis (2) (by decide) ?_
  refine M.vis (0) (by decide) ?_
  refine ⟨(by omega),?_⟩
  refine M.vis (0) (by decide) ?_
  refine M.vis (0) (by decide) ?_
  refine M.vis (0) (by decide) ?_
  refine ⟨(by omega),?_⟩
  refine M.vis (0) (by decide) ?_
  refine M.vis (0) (by decide) ?_
  refine M.vis (0) (by decide) ?_
  refine M.vis (0) (by decide) ?_
  refine M.vis (0) (by decide) ?_
  refine ⟨(by omega),?_⟩
  refine M.vis (0) (by decide) ?_
  refine M.vis (0) (by decide) ?_
  refine M.vis (2) (by decide) ?_
  exact k
 ·refine M.vis (1) (by decide) ?_
  refine ⟨(by omega),?_⟩
  refine M.vis (0) (by decide) ?_
  refine M.vis (4) (by decide) ?_
  refine ⟨(by omega),?_⟩
  refine M.vis (0) (by decide) ?_
  refine M.vis (4) (by decide) ?_
  refine M.vis (0) (by decide) ?_
  refine ⟨(by omega),?_⟩
  refine M.vis (0) (by decide) ?_
  refine M.vis (0) (by decide) ?_
  refine M.vis (0) (by decide) ?_
  refine ⟨(by omega),?_⟩
  refine M.vis (0) (by decide) ?_
  refine M.vis (0) (by decide) ?_
  refine M.vis (0) (by decide) ?_
  refine M.vis (0) (by decide) ?_
  refine M.vis (0) (by decide) ?_
  refine ⟨(by omega),?_⟩
  refine M.vis (0) (by decide) ?_
  refine M.vis (0) (by decide) ?_
  refine M.vis (4) (by decide) ?_
  exact k
 ·refine M.vis (1) (by decide) ?_
  refine ⟨(by omega),?_⟩
  refine M.vis (0) (by decide) ?_
  refine M.vis (8) (by decide) ?_
  refine ⟨(by omega),?_⟩
  refine M.vis (0) (by decide) ?_
  refine M.vis (8) (by decide) ?_
  refine M.vis (0) (by decide) ?_
  refine ⟨(by omega),?_⟩
  refine M.vis (0) (by decide) ?_
  refine M.vis (0) (by decide) ?_
  refine M.vis (0) (by decide) ?_
  refine ⟨(by omega),?_⟩
  refine M.vis (0) (by decide) ?_
  refine M.vis (0) (by decide) ?_
  refine M.vis (0) (by decide) ?_
  refine M.vis (0) (by decide) ?_
  refine M.vis (0) (by decide) ?_
  refine ⟨(by omega),?_⟩
  refine M.vis (0) (by decide) ?_
  refine M.vis (0) (by decide) ?_
  refine M.vis (8) (by decide) ?_
  exact k
 ·refine M.vis (1) (by decide) ?_
  refine ⟨(by omega),?_⟩
  refine M.vis (0) (by decide) ?_
  refine M.vis (16) (by decide) ?_
  refine ⟨(by omega),?_⟩
  refine M.vis (0) (by decide) ?_
  refine M.vis (16) (by decide) ?_
  refine M.vis (0) (by decide) ?_
  refine ⟨(by omega),?_⟩
  refine M.vis (0) (by decide) ?_
  refine M.vis (0) (by decide) ?_
  refine M.vis (0) (by decide) ?_
  refine ⟨(by omega),?_⟩
  refine M.vis (0) (by decide) ?_
  refine M.vis (0) (by decide) ?_
  refine M.vis (0) (by decide) ?_
  refine M.vis (0) (by decide) ?_
  refine M.vis (0) (by decide) ?_
  refine ⟨(by omega),?_⟩
  refine M.vis (0) (by decide) ?_
  refine M.vis (0) (by decide) ?_
  refine M.vis (16) (by decide) ?_
  exact k
theorem splice_list (xs vs:List Value) (o:Nat) (h:o+vs.length≤xs.length):splice xs.toArray o vs=(xs.take o++vs++xs.drop (o+vs.length)).toArray:=by
 apply Array.ext_getElem?
 intro x
 rw [splice_get _ _ _ (by simpa using h)]
 simp only [List.getElem?_toArray]
 by_cases hx:o≤x∧x<o+vs.length
 ·rw [if_pos hx,List.getElem?_append_left (by simp; omega),List.getElem?_append_right (by simp; omega)]
  congr 1; simp; omega
 ·rw [if_neg hx]
  by_cases h1:x<o
  ·rw [List.getElem?_append_left (by simp; omega),List.getElem?_append_left (by simp; omega),List.getElem?_take,if_pos h1]
  ·rw [List.getElem?_append_right (by simp; omega),List.getElem?_drop]
   congr 1; simp; omega
def repS (s:ByteArray) (d n:Nat):List Value:=List.replicate d (.string s)++List.replicate (n-d) (.string ByteArray.empty)
theorem repS_len (s:ByteArray) (d n:Nat) (h:d≤n):(repS s d n).length=n:=by simp [repS]; omega
theorem repS_copy (s:ByteArray) (d n m:Nat) (h:d+m≤n):splice (repS s d n).toArray d (List.replicate m (.string s))=(repS s (d+m) n).toArray:=by
 rw [splice_list _ _ _ (by rw [repS_len _ _ _ (by omega),List.length_replicate]; exact h)]
 congr 1
 have e1:(repS s d n).take d=List.replicate d (.string s):=by rw [repS,List.take_append_of_le_length (by simp),List.take_of_length_le (by simp)]
 have e2:(repS s d n).drop (d+(List.replicate m (Value.string s)).length)=List.replicate (n-(d+m)) (.string ByteArray.empty):=by
  rw [repS,List.drop_append,List.drop_of_length_le (by simp),List.nil_append,List.drop_replicate]
  congr 1; simp; omega
 rw [e1,e2,List.replicate_append_replicate,repS]
theorem repS_take (s:ByteArray) (d n m:Nat) (h:m≤d):((repS s d n).drop 0).take m=List.replicate m (.string s):=by
 rw [List.drop_zero,repS,List.take_append_of_le_length (by simpa using h),List.take_replicate,Nat.min_eq_left h]
theorem Repeat1_spec {b:Nat} {f:Nat × Nat} {Q:Option Addr→Nat→Nat→H→Prop} (hb:h b=some (.cells #[.string s] 9 f)) (hd:dep n≠0) (k:∀ a c h',Wd h h' [.sl 9 1 a n.toNat c (eS.row (List.replicate n.toNat s))]→Q a n.toNat c h'):
  slices_Repeatstring_string (some ⟨b,0,none⟩) 1 1 n h Q:=by
 unfold slices_Repeatstring_string slices_Repeatstring_string.g
 have w:=Wd.start h
 have hn:=dep_small hd
 refine M.jn (cdf (by omega) (M.vis 1 rfl (M.vis n (u64' (by omega) (by omega)) ?_)))
 refine Mul1_spec hd ?_
 refine M.jn ?_
 refine M.jn ?_
 refine cdf (by omega) ?_
 refine cdf (by omega) ?_
 refine M.vis n (i64' (by omega) (by omega)) ?_
 refine M.mk_w w (by omega) (by omega) (by omega) (by omega) fun b2 h2 w=>?_
 obtain ⟨N,rfl⟩:=Int.eq_ofNat_of_zero_le (show 0≤n by omega)
 simp only [Int.toNat_natCast] at w k ⊢
 have e0:zerosOf [Value.string ByteArray.empty] N=List.replicate N (.string ByteArray.empty):=by rw [zs.1,eS_row,List.map_replicate]
 rw [e0] at w
 rw [Nat.min_eq_left (show 1≤N by omega)]
 refine M.cellsOf_at (w.keep _ _ hb) (by simp) ?_
 have ec:splice (List.replicate N (Value.string ByteArray.empty)).toArray 0 ((((#[Value.string s]:Array Value).toList).drop 0).take (1*1))=(repS s 1 N).toArray:=by
  have:=repS_copy s 0 N 1 (by omega)
  have e:repS s 0 N=List.replicate N (.string ByteArray.empty):=by simp [repS]
  rw [e] at this
  exact this
 refine M.copy_w w 0 rfl (by simp [isPlainCell]) (by simp; omega) fun h3 w=>?_
 simp only [List.nil_append,List.set_cons_zero] at w
 rw [ec] at w
 refine M.loop_of (I:=fun (i:Int) h'=>∃ d:Nat,1≤d∧d≤N∧i=(d:Int)∧Wd h h' [.blk b2 (.cells (repS s d N).toArray 9)]) (μ:=fun i=>(N-i).toNat) ⟨1,by omega,by omega,rfl,w⟩ ?_
 clear w
 rintro _ h4 J ⟨d,d1,d2,rfl,w⟩ hJ
 by_cases hlt:d<N
 ·refine cdt (by omega) ?_
  refine M.sub_in d N rfl rfl (by omega) (by omega) (by omega) ?_
  refine M.sub0 (by omega) (by omega) ?_
  simp only [Int.toNat_natCast,Nat.zero_add,Nat.mul_one]
  obtain ⟨m,hm⟩:∃ m,min d (N-d)=m:=⟨_,rfl⟩
  rw [hm]
  refine M.cellsOf_at (w.blk 0 rfl) (by rw [List.size_toArray,repS_len _ _ _ d2]; omega) ?_
  rw [List.toList_toArray,repS_take _ _ _ _ (by omega)]
  refine M.copy_w w 0 rfl (by simp [isPlainCell]) (by rw [List.size_toArray,repS_len _ _ _ d2,List.length_replicate]; omega) fun h5 w=>?_
  rw [repS_copy _ _ _ _ (by omega)] at w
  refine M.vis ((d+m:Nat):Int) (by rw [IntKind.wrap_i64]; omega) ?_
  exact hJ _ _ ⟨d+m,by omega,by omega,rfl,w⟩ (by omega)
 ·refine cdf (by omega) ?_
  obtain rfl:d=N:=by omega
  have hcs:(repS s d d).toArray=(eS.row (List.replicate d s)).toArray:=by
   rw [eS_row,List.map_replicate,repS,Nat.sub_self,List.replicate_zero,List.append_nil]
  have w:=w.toSl (E:=eS) 0 rfl hcs List.length_replicate
  exact k _ _ _ w
end
def blankL (n:Int):List ByteArray:=List.replicate n.toNat (leafT ByteArray.empty)
def blankW (n:Int):List (Int × ByteArray):=((List.range (n.toNat-1)).map fun i=>(100+((i+1:Nat):Int),pairD (blankL n) (i+1)))++(List.range n.toNat).map fun i=>(120+((i:Nat):Int),ByteArray.empty)
def blankT (n:Int):ByteArray:=nodeD (blankL n) 1
theorem blankL_len (n:Int):(blankL n).length=n.toNat:=by simp [blankL]
theorem blankL_size (n:Int):∀ p ∈ blankL n,p.size=32:=by
 intro p hp
 rw [(List.mem_replicate.1 hp).2]
 exact kindT_size _ _
section
variable {hx h:H} {b:Nat} {B:BankM} {d n slot:Int} {key top:ByteArray}
theorem Blank_bad {Q:Option Addr→Nat→Nat→ByteArray→Int→H→Prop} (wx:Wd hx h [bankC b B]) (g:¬ goodS B d n key) (tb:Tabs h) (k:∀ h',Keep h h'→Q none 0 0 ByteArray.empty 4 h'):slab_Slab_Blank (some ⟨b,0,none⟩) d n key h Q:=by
 unfold slab_Slab_Blank slab_Slab_Blank.g
 have w:=Wd.start h
 refine M.new_w w fun b2 h1 w=>?_
 simp only [bs,Nat.reduceMul,lb (w.blk 0 rfl)]
 refine good_spec (wx.keeps w.keep) (tb.keep w.keep) fun h2 k2=>?_
 exact ct (by simp [g]) (k _ (w.keep.trans k2))
theorem Blank_spec {Q:Option Addr→Nat→Nat→ByteArray→Int→H→Prop} (wx:Wd hx h [bankC b B]) (g:goodS B d n key) (tb:Tabs h) (k:∀ a c h',Wd h h' [.sl 116 2 a (blankW n).length c (eP.row (blankW n))]→Q a (blankW n).length c (blankT n) 0 h'):slab_Slab_Blank (some ⟨b,0,none⟩) d n key h Q:=by
 unfold slab_Slab_Blank slab_Slab_Blank.g
 have w:=Wd.start h
 have hn:=dep_small g.1
 refine M.new_w w fun b2 h1 w=>?_
 simp only [bs,Nat.reduceMul,lb (w.blk 0 rfl)]
 refine good_spec (wx.keeps w.keep) (tb.keep w.keep) fun h2 k2=>?_
 have w:=w.keeps k2
 refine cf (by simp [g]) ?_
 have hs0:=w.blk 0 rfl
 have esz:ByteArray.empty.size=0:=rfl
 simp only [bs,lb (w.blk 0 rfl)]
 refine Leaf_spec (by omega) (tb.keep w.keep) fun h3 k_=>?_
 have w:=w.keeps k_
 clear k_
 refine M.still_at hs0 (w.blk 0 rfl) ?_
 refine M.new_k w fun b5 h4 kk6 w=>?_
 refine M.still_at hs0 (w.blk 0 rfl) ?_
 refine Repeat1_spec (w.blk 1 rfl) g.1 fun a3 c3 h5 w'=>?_
 have w:=w.join w'
 clear w'
 have hN:n=(n.toNat:Int):=by omega
 have eb:eS.row (List.replicate n.toNat (kindT 0 ByteArray.empty))=eS.row (blankL n):=rfl
 rw [eb] at w
 have hdN:dep (n.toNat:Int)≠0:=by rw [←hN]; exact g.1
 refine Build_spec (w.ro 2 rfl (by decide)) hdN (blankL_size n) (tb.keep w.keep) fun a4 c4 h6 w'=>?_
 have w:=w.join w'
 clear w'
 have hbl:(buildP (blankL n)).length=n.toNat:=by simp [buildP,blankL_len]
 have w:=((w.drop (i:=1) rfl).drop (i:=1) rfl)
 have hat:∀ i,0<i→i<n.toNat→sa (buildP (blankL n)) i=pairD (blankL n) i:=by
  intro i h0 h1
  rw [buildP,sa_range _ (by rw [blankL_len]; exact h1),if_neg (by omega)]
 have htop:nodeD (blankL n) 1=blankT n:=rfl
 rw [htop]
 generalize hW1:(fun i:Nat=>((100+((i+1:Nat):Int),pairD (blankL n) (i+1)):Int × ByteArray))=W1 at *
 generalize hW2:(fun i:Nat=>((120+((i:Nat):Int),ByteArray.empty):Int × ByteArray))=W2 at *
 have hbw:blankW n=(List.range (n.toNat-1)).map W1++(List.range n.toNat).map W2:=by rw [blankW,←hW1,←hW2]
 rw [hbw] at k
 generalize blankT n=tp at *
 generalize buildP (blankL n)=bp at *
 generalize hNN:n.toNat=N at *
 refine M.jn ?_
 refine M.loop_of (I:=fun (p:(Option Addr × Nat × Nat) × Int) h'=>∃ m:Nat,m+1≤N∧p.2=((m+1:Nat):Int)∧p.1.2.1=m ∧
   Wd h h' [.blk b2 (.cells #[.pointer (some ⟨b,0,none⟩),.int .i64 d,.int .i64 n,.string key] 37),.sl 9 1 a4 N c4 (eS.row bp),.sl 116 2 p.1.1 p.1.2.1 p.1.2.2 (eP.row ((List.range m).map W1))]) (μ:=fun p=>(N-p.2).toNat) ⟨0,by omega,rfl,rfl,w.nilsl _ _⟩ ?_
 clear w
 rintro ⟨⟨a5,l5,c5⟩,_⟩ h7 J ⟨m,hm,hi,hl,w⟩ hJ
 simp only at hi hl w ⊢
 subst hi hl
 simp only [bs,lb (w.blk 0 rfl)]
 by_cases hlt:l5+1<N
 ·refine cdt (by omega) ?_
  have v1:IntKind.wrap .i64 (((l5+1:Nat):Int)+1)=((l5+1+1:Nat):Int):=by rw [IntKind.wrap_i64]; omega
  have v2:IntKind.wrap .i64 (100+((l5+1:Nat):Int))=100+((l5+1:Nat):Int):=by rw [IntKind.wrap_i64]; omega
  have ha:=hat (l5+1) (by omega) hlt
  simp only [v1,v2]
  refine M.vin ?_
  refine Ro.ldS (w.ro 1 rfl (by decide)) (by omega) (by omega) ?_
  refine Wd.push w 2 rfl rfl rfl (by simp [isPlainCell]) (by omega) (by omega) fun a10 c11 h8 w=>?_
  refine M.vin ?_
  simp only [Int.toNat_natCast,ha] at w
  refine hJ _ _ ⟨l5+1,by omega,rfl,rfl,?_⟩ (by simp only; omega)
  rw [List.range_succ,List.map_append,eP.row_app]
  have:eP.row (List.map W1 [l5])=[.int .i64 (100+((l5+1:Nat):Int)),.string (pairD (blankL n) (l5+1))]:=by rw [←hW1]; rfl
  rw [this]
  exact w
 ·refine cdf (by omega) ?_
  have hl5:l5=N-1:=by omega
  rw [←hl5] at k
  clear hJ J
  refine M.jn ?_
  refine M.loop_of (I:=fun (p:(Option Addr × Nat × Nat) × Int) h'=>∃ m:Nat,m≤N∧p.2=(m:Int)∧p.1.2.1=l5+m ∧
   Wd h h' [.blk b2 (.cells #[.pointer (some ⟨b,0,none⟩),.int .i64 d,.int .i64 n,.string key] 37),.sl 9 1 a4 N c4 (eS.row bp),.sl 116 2 p.1.1 p.1.2.1 p.1.2.2 (eP.row ((List.range l5).map W1++(List.range m).map W2))]) (μ:=fun p=>(N-p.2).toNat) ⟨0,by omega,rfl,rfl,by simpa using w⟩ ?_
  clear w
  rintro ⟨⟨a6,l6,c6⟩,_⟩ h8 J ⟨m,hm2,hi,hl,w⟩ hJ
  simp only at hi hl w ⊢
  subst hi hl
  by_cases hlt2:m<N
  ·refine cdt (by omega) ?_
   have v1:IntKind.wrap .i64 ((m:Int)+1)=((m+1:Nat):Int):=by rw [IntKind.wrap_i64]; omega
   have v2:IntKind.wrap .i64 (120+(m:Int))=120+(m:Int):=by rw [IntKind.wrap_i64]; omega
   simp only [v1,v2]
   refine M.vin ?_
   refine Wd.push w 2 rfl rfl rfl (by simp [isPlainCell]) (by omega) (by omega) fun a11 c12 h9 w=>?_
   refine M.vin ?_
   refine hJ _ _ ⟨m+1,by omega,rfl,by simp only; omega,?_⟩ (by simp only; omega)
   rw [List.range_succ,List.map_append,←List.append_assoc,eP.row_app]
   have:eP.row (List.map W2 [m])=[.int .i64 (120+(m:Int)),.string ByteArray.empty]:=by rw [←hW2]; rfl
   rw [this]
   exact w
  ·refine cdf (by omega) ?_
   obtain rfl:m=N:=by omega
   have:=k a6 c6 h8
   simp only [List.length_append,List.length_map,List.length_range] at this
   exact this ((w.drop (i:=0) rfl).drop (i:=0) rfl)
end
end Go.Proofs.YthegnmanjdlmjaaGreatDoor
namespace Go.Proofs.YthegnmanjdlmjaaGreatDoor
open Go.Sh Go.RowKit
section
variable {hx h0 h:H} {b:Nat} {B:BankM} {d n slot:Int} {key top:ByteArray} {xs:List (Int × ByteArray)} {a:Option Addr} {l c:Nat}
theorem rbank_ok (w:Wd h0 h [rbankC b B]):B.Ok:=by
 obtain ⟨_,⟨ok,_⟩,_⟩:=w.opn 0 rfl
 exact ok
theorem rGood_spec {Q:Bool→H→Prop} (wx:Wd hx h [rbankC b B]) (k:∀ h',Keep h h'→Q (decide (goodS B d n key)) h'):ref17_Good (some ⟨b,0,none⟩) d n key h Q:=by
 unfold ref17_Good ref17_Good.g
 have w:=Wd.start h
 refine M.new_w w fun b2 h1 w=>?_
 simp only [bs,lb (w.blk 0 rfl)]
 refine refDepth_spec ?_
 refine M.jn ?_
 by_cases hd:dep n=0
 ·rw [decide_eq_false (show ¬ goodS B d n key from fun g=>g.1 hd)] at k
  refine cdf (by omega) ?_
  exact k _ w.keep
 ·refine cdt (by omega) ?_
  simp only [bs,lb (w.blk 0 rfl)]
  by_cases hk:key.size=32
  ·refine ct (by rw [hk]; rfl) ?_
   refine ct (rfl) ?_
   by_cases h0:0≤d
   ·refine cdt h0 ?_
    have wb:=wx.keeps w.keep
    obtain ⟨⟨a2,c2,ps⟩,⟨ok,hl⟩,wb⟩:=wb.opn 0 rfl
    simp only [lb (wb.blk 0 rfl),bs]
    have e:decide (goodS B d n key)=decide (d<(B.ds.length:Int)):=by
     rw [Bool.eq_iff_iff,decide_eq_true_iff,decide_eq_true_iff]
     constructor
     ·exact fun g=>(BankM.not_bad.1 g.2.2).2
     ·exact fun g=>⟨hd,hk,BankM.not_bad.2 ⟨h0,g⟩⟩
    have:=k _ w.keep
    rw [e] at this
    exact this
   ·rw [decide_eq_false (show ¬ goodS B d n key from fun g=>h0 (BankM.not_bad.1 g.2.2).1)] at k
    exact cdf h0 (k _ w.keep)
  ·refine cf (by rw [beq_eq_false_iff_ne]; omega) ?_
   rw [decide_eq_false (show ¬ goodS B d n key from fun g=>hk g.2.1)] at k
   exact k _ w.keep
theorem rApply_spec {Q:Int→H→Prop} (w0:Wd h0 h [rbankC b B]) (f:Ro eP h0 a l xs) (rm:Room B (xs.length+1)) (k:∀ h',Wd h0 h' [rbankC b (applyM B key d n xs).2]→Q (applyM B key d n xs).1 h'):ref17_Apply (some ⟨b,0,none⟩) d n key a l c h Q:=by
 unfold ref17_Apply ref17_Apply.g
 have w:=w0
 have hlen:=f.len
 have ok:=rbank_ok w0
 have hl9:l<1000000000:=by have:=rm.steps; have:=ok.st0; omega
 refine M.new_w w fun b2 h1 w=>?_
 simp only [bs,lb (w.blk 1 rfl)]
 obtain ⟨hx,k0,k1,wx,wr,_⟩:=w.on (i:=0) rfl
 refine rGood_spec wx fun h2 k2=>?_
 have w:=w.keeps k2
 unfold applyM at k
 by_cases g:goodS B d n key
 ·rw [if_neg (by simp [g])] at k
  refine cf (by simp [g]) (M.jn ?_)
  refine M.loop_of (I:=fun (i:Int) h'=>∃ (m:Nat) (B':BankM),m≤l∧i=(m:Int)∧Room B' (xs.length-m+1)∧writesM B d xs=writesM B' d (xs.drop m) ∧
   Wd h0 h' [rbankC b B',.blk b2 (.cells #[.pointer (some ⟨b,0,none⟩),.int .i64 d,.int .i64 n,.string key] 40)]) (μ:=fun i=>(l-i).toNat) ⟨0,B,by omega,rfl,rm,rfl,w⟩ ?_
  clear w wx wr
  rintro _ h3 J ⟨m,B',hm,rfl,rm',hw,w⟩ hJ
  by_cases hlt:m<l
  ·refine cdt (by omega) ?_
   have v1:IntKind.wrap .i64 ((m:Int)+1)=((m+1:Nat):Int):=by rw [IntKind.wrap_i64]; omega
   simp only [bs,lb (w.blk 1 rfl)]
   refine Ro.ldP1 (f.keep w.keep) (by omega) (by omega) ?_
   simp only [Int.toNat_natCast]
   refine Ro.ldP2 (f.keep w.keep) (by omega) (by omega) ?_
   simp only [Int.toNat_natCast]
   obtain ⟨hx,k0,k1,wx,wr,back⟩:=w.on (i:=0) rfl
   have ok':=rbank_ok wx
   rw [drop_pa (by omega),writesM] at hw
   refine rbWrite wx (by have:=rm'.steps; omega) rm'.left (rm'.disk d) fun h7 w1=>?_
   have w:=back _ _ w1
   simp only [bs] at w
   by_cases e:(B'.write d (pa xs m).1 (pa xs m).2).1=0
   ·rw [if_neg (by simp [e])] at hw
    refine cf (by rw [bne_eq_false_iff_eq]; exact e) (M.vis _ v1 ?_)
    exact hJ _ _ ⟨m+1,_,by omega,rfl,(room_write ok'.left rm' d _ _).mono (by omega),hw,w⟩ (by omega)
   ·rw [if_pos e] at hw
    rw [hw] at k
    exact ct (by rw [bne_iff_ne]; exact e) (k _ (w.drop (i:=1) rfl))
  ·refine cdf (by omega) ?_
   simp only [bs,lb (w.blk 1 rfl)]
   obtain ⟨hx,k0,k1,wx,wr,back⟩:=w.on (i:=0) rfl
   rw [List.drop_of_length_le (by omega),writesM] at hw
   rw [hw] at k
   refine rbFlush wx (by have:=rm'.steps; omega) rm'.left (rm'.disk d) fun h7 w1=>?_
   have w:=back _ _ w1
   exact k _ (w.drop (i:=1) rfl)
 ·rw [if_pos g] at k
  exact ct (by simp [g]) (k _ (w.drop (i:=1) rfl))
theorem rBlank_bad {Q:Option Addr→Nat→Nat→ByteArray→Int→H→Prop} (wx:Wd hx h [rbankC b B]) (g:¬ goodS B d n key) (k:∀ h',Keep h h'→Q none 0 0 ByteArray.empty 4 h'):ref17_Blank (some ⟨b,0,none⟩) d n key h Q:=by
 unfold ref17_Blank ref17_Blank.g
 have w:=Wd.start h
 refine M.new_w w fun b2 h1 w=>?_
 simp only [bs,Nat.reduceMul,lb (w.blk 0 rfl)]
 refine rGood_spec (wx.keeps w.keep) fun h2 k2=>?_
 exact ct (by simp [g]) (k _ (w.keep.trans k2))
theorem rBlank_spec {Q:Option Addr→Nat→Nat→ByteArray→Int→H→Prop} (wx:Wd hx h [rbankC b B]) (g:goodS B d n key) (tb:Tabs h) (k:∀ a c h',Wd h h' [.sl 173 2 a (blankW n).length c (eP.row (blankW n))]→Q a (blankW n).length c (blankT n) 0 h'):ref17_Blank (some ⟨b,0,none⟩) d n key h Q:=by
 unfold ref17_Blank ref17_Blank.g
 have w:=Wd.start h
 have hn:=dep_small g.1
 refine M.new_w w fun b2 h1 w=>?_
 simp only [bs,Nat.reduceMul,lb (w.blk 0 rfl)]
 refine rGood_spec (wx.keeps w.keep) fun h2 k2=>?_
 have w:=w.keeps k2
 refine cf (by simp [g]) ?_
 have esz:ByteArray.empty.size=0:=rfl
 refine refKind_spec (by omega) (by omega) (tb.keep w.keep) fun h3 k_=>?_
 have w:=w.keeps k_
 clear k_
 have hlf:kindT (UInt8.ofNat (Int.toNat 0)) ByteArray.empty=leafT ByteArray.empty:=rfl
 rw [hlf]
 have hN:n=(n.toNat:Int):=by omega
 have hdN:dep (n.toNat:Int)≠0:=by rw [←hN]; exact g.1
 refine M.jn ?_
 refine M.loop_of (I:=fun (p:(Option Addr × Nat × Nat) × Int) h'=>∃ m:Nat,m≤n.toNat∧p.2=(m:Int)∧p.1.2.1=m ∧
   Wd h h' [.blk b2 (.cells #[.pointer (some ⟨b,0,none⟩),.int .i64 d,.int .i64 n,.string key] 40),.sl 9 1 p.1.1 p.1.2.1 p.1.2.2 (eS.row (List.replicate m (leafT ByteArray.empty)))]) (μ:=fun p=>(n-p.2).toNat) ⟨0,by omega,rfl,rfl,w.nilsl _ _⟩ ?_
 clear w
 rintro ⟨⟨a3,l3,c3⟩,_⟩ h3 J ⟨m,hm,hi,hl,w⟩ hJ
 simp only at hi hl w ⊢
 subst hi hl
 simp only [bs,lb (w.blk 0 rfl)]
 by_cases hlt:(l3:Int)<n
 ·refine cdt hlt ?_
  have v1:IntKind.wrap .i64 ((l3:Int)+1)=((l3+1:Nat):Int):=by rw [IntKind.wrap_i64]; omega
  refine Wd.push w 1 rfl rfl rfl (by simp [isPlainCell]) (by omega) (by omega) fun a6 c7 h4 w=>?_
  simp only [v1]
  refine M.vin ?_
  refine hJ _ _ ⟨l3+1,by omega,rfl,rfl,?_⟩ (by simp only; omega)
  rw [List.replicate_succ',eS.row_app,eS.row_one]
  exact w
 refine cdf hlt ?_
 obtain rfl:l3=n.toNat:=by omega
 have eb:List.replicate n.toNat (leafT ByteArray.empty)=blankL n:=rfl
 rw [eb] at w
 refine refBuild_spec (c:=c3) (w.ro 1 rfl (by decide)) hdN (blankL_size n) (tb.keep w.keep) fun a4 c4 h6 w'=>?_
 have w:=w.join w'
 clear w'
 have hbl:(buildP (blankL n)).length=n.toNat:=by simp [buildP,blankL_len]
 have w:=(w.drop (i:=1) rfl)
 have hat:∀ i,0<i→i<n.toNat→sa (buildP (blankL n)) i=pairD (blankL n) i:=by
  intro i h0 h1
  rw [buildP,sa_range _ (by rw [blankL_len]; exact h1),if_neg (by omega)]
 have htop:nodeD (blankL n) 1=blankT n:=rfl
 rw [htop]
 generalize hW1:(fun i:Nat=>((100+((i+1:Nat):Int),pairD (blankL n) (i+1)):Int × ByteArray))=W1 at *
 generalize hW2:(fun i:Nat=>((120+((i:Nat):Int),ByteArray.empty):Int × ByteArray))=W2 at *
 have hbw:blankW n=(List.range (n.toNat-1)).map W1++(List.range n.toNat).map W2:=by rw [blankW,←hW1,←hW2]
 rw [hbw] at k
 generalize blankT n=tp at *
 generalize buildP (blankL n)=bp at *
 clear hJ J
 generalize hNN:n.toNat=N at *
 refine M.jn ?_
 refine M.loop_of (I:=fun (p:(Option Addr × Nat × Nat) × Int) h'=>∃ m:Nat,m+1≤N∧p.2=((m+1:Nat):Int)∧p.1.2.1=m ∧
   Wd h h' [.blk b2 (.cells #[.pointer (some ⟨b,0,none⟩),.int .i64 d,.int .i64 n,.string key] 40),.sl 9 1 a4 N c4 (eS.row bp),.sl 173 2 p.1.1 p.1.2.1 p.1.2.2 (eP.row ((List.range m).map W1))]) (μ:=fun p=>(N-p.2).toNat) ⟨0,by omega,rfl,rfl,w.nilsl _ _⟩ ?_
 clear w
 rintro ⟨⟨a5,l5,c5⟩,_⟩ h7 J ⟨m,hm,hi,hl,w⟩ hJ
 simp only at hi hl w ⊢
 subst hi hl
 simp only [bs,lb (w.blk 0 rfl)]
 by_cases hlt:l5+1<N
 ·refine cdt (by omega) ?_
  have v1:IntKind.wrap .i64 (((l5+1:Nat):Int)+1)=((l5+1+1:Nat):Int):=by rw [IntKind.wrap_i64]; omega
  have v2:IntKind.wrap .i64 (100+((l5+1:Nat):Int))=100+((l5+1:Nat):Int):=by rw [IntKind.wrap_i64]; omega
  have ha:=hat (l5+1) (by omega) hlt
  simp only [v1,v2]
  refine M.vin ?_
  refine Ro.ldS (w.ro 1 rfl (by decide)) (by omega) (by omega) ?_
  refine Wd.push w 2 rfl rfl rfl (by simp [isPlainCell]) (by omega) (by omega) fun a6 c7 h4 w=>?_
  refine M.vin ?_
  simp only [Int.toNat_natCast,ha] at w
  refine hJ _ _ ⟨l5+1,by omega,rfl,rfl,?_⟩ (by simp only; omega)
  rw [List.range_succ,List.map_append,eP.row_app]
  have:eP.row (List.map W1 [l5])=[.int .i64 (100+((l5+1:Nat):Int)),.string (pairD (blankL n) (l5+1))]:=by rw [←hW1]; rfl
  rw [this]
  exact w
 ·refine cdf (by omega) ?_
  have hl5:l5=N-1:=by omega
  rw [←hl5] at k
  clear hJ J
  refine M.jn ?_
  refine M.loop_of (I:=fun (p:(Option Addr × Nat × Nat) × Int) h'=>∃ m:Nat,m≤N∧p.2=(m:Int)∧p.1.2.1=l5+m ∧
   Wd h h' [.blk b2 (.cells #[.pointer (some ⟨b,0,none⟩),.int .i64 d,.int .i64 n,.string key] 40),.sl 9 1 a4 N c4 (eS.row bp),.sl 173 2 p.1.1 p.1.2.1 p.1.2.2 (eP.row ((List.range l5).map W1++(List.range m).map W2))]) (μ:=fun p=>(N-p.2).toNat) ⟨0,by omega,rfl,rfl,by simpa using w⟩ ?_
  clear w
  rintro ⟨⟨a6,l6,c6⟩,_⟩ h8 J ⟨m,hm2,hi,hl,w⟩ hJ
  simp only at hi hl w ⊢
  subst hi hl
  simp only [bs,lb (w.blk 0 rfl)]
  by_cases hlt2:m<N
  ·refine cdt (by omega) ?_
   have v1:IntKind.wrap .i64 ((m:Int)+1)=((m+1:Nat):Int):=by rw [IntKind.wrap_i64]; omega
   have v2:IntKind.wrap .i64 (120+(m:Int))=120+(m:Int):=by rw [IntKind.wrap_i64]; omega
   simp only [v1,v2]
   refine M.vin ?_
   refine Wd.push w 2 rfl rfl rfl (by simp [isPlainCell]) (by omega) (by omega) fun a7 c8 h4 w=>?_
   refine M.vin ?_
   refine hJ _ _ ⟨m+1,by omega,rfl,by simp only; omega,?_⟩ (by simp only; omega)
   rw [List.range_succ,List.map_append,←List.append_assoc,eP.row_app]
   have:eP.row (List.map W2 [m])=[.int .i64 (120+(m:Int)),.string ByteArray.empty]:=by rw [←hW2]; rfl
   rw [this]
   exact w
  ·refine cdf (by omega) ?_
   obtain rfl:m=N:=by omega
   have:=k a6 c6 h8
   simp only [List.length_append,List.length_map,List.length_range] at this
   exact this ((w.drop (i:=0) rfl).drop (i:=0) rfl)
end
end Go.Proofs.YthegnmanjdlmjaaGreatDoor
namespace Go.Proofs.YthegnmanjdlmjaaGreatDoor
open Go.Sh Go.RowKit
def MapS:List MapEntry→List (Int × ByteArray)→Prop
 | [],[]=>True
 | e::l,q::r=>e.key = .int .i64 q.1∧e.val = .string q.2∧MapS l r
 | _,_=>False
def getA:List (Int × ByteArray)→Int→Option ByteArray
 | [],_=>none
 | q::r,k=>if k=q.1 then some q.2 else getA r k
def insA:List (Int × ByteArray)→Int→ByteArray→List (Int × ByteArray)
 | [],k,v=>[(k,v)]
 | q::r,k,v=>if k=q.1 then (k,v)::r else q::insA r k v
theorem insA_get {k:Int} {v:ByteArray}:∀ {m:List (Int × ByteArray)} {x:Int},getA (insA m k v) x=if x=k then some v else getA m x
 | [],x=>by simp only [insA,getA]
 | q::r,x=>by
  unfold insA
  by_cases h:k=q.1
  ·rw [if_pos h]; simp only [getA]
   by_cases hx:x=k
   ·rw [if_pos hx,if_pos hx]
   ·rw [if_neg hx,if_neg hx,if_neg (fun e=>hx (e.trans h.symm))]
  ·rw [if_neg h]
   simp only [getA]
   by_cases hx:x=q.1
   ·rw [if_pos hx,if_pos hx,if_neg (fun e=>h (e.symm.trans hx))]
   ·rw [if_neg hx,if_neg hx]; exact insA_get
theorem insA_keys {k:Int} {v:ByteArray}:∀ {m:List (Int × ByteArray)},(insA m k v).map (·.1)=if k ∈ m.map (·.1) then m.map (·.1) else m.map (·.1)++[k]
 | []=>by simp [insA]
 | q::r=>by
  unfold insA
  by_cases h:k=q.1
  ·rw [if_pos h]; simp [h]
  ·rw [if_neg h,List.map_cons,insA_keys,List.map_cons]
   by_cases h2:k ∈ r.map (·.1)
   ·rw [if_pos h2,if_pos (List.mem_cons_of_mem _ h2)]
   ·rw [if_neg h2,if_neg (by simp only [List.mem_cons,not_or]; exact ⟨h,h2⟩)]; rfl
theorem insA_nodup {k:Int} {v:ByteArray} {m:List (Int × ByteArray)} (h:(m.map (·.1)).Nodup):((insA m k v).map (·.1)).Nodup:=by
 rw [insA_keys]
 by_cases h2:k ∈ m.map (·.1)
 ·rw [if_pos h2]; exact h
 ·rw [if_neg h2,List.nodup_append]
  exact ⟨h,by simp,fun a ha b hb e=>h2 (by rw [List.mem_singleton.1 hb] at e; rw [←e]; exact ha)⟩
theorem insA_all {p:Int × ByteArray→Prop} {k:Int} {v:ByteArray} (hk:p (k,v)):∀ {m:List (Int × ByteArray)},(∀ q ∈ m,p q)→∀ q ∈ insA m k v,p q
 | [],_,q,hq=>by simp only [insA,List.mem_singleton] at hq; rw [hq]; exact hk
 | a::r,h,q,hq=>by
  unfold insA at hq
  by_cases e:k=a.1
  ·rw [if_pos e,List.mem_cons] at hq
   rcases hq with rfl | hq
   ·exact hk
   ·exact h _ (by simp [hq])
  ·rw [if_neg e,List.mem_cons] at hq
   rcases hq with rfl | hq
   ·exact h _ (by simp)
   ·exact insA_all hk (fun q hq=>h q (by simp [hq])) q hq
theorem MapS.len:∀ {l:List MapEntry} {m:List (Int × ByteArray)},MapS l m→l.length=m.length
 | [],[],_=>rfl
 | _ :: _,_ :: _,h=>congrArg (· + 1) (MapS.len h.2.2)
theorem MapS.keys:∀ {l:List MapEntry} {m:List (Int × ByteArray)},MapS l m→l.map (·.key)=m.map fun q=>Value.int .i64 q.1
 | [],[],_=>rfl
 | _ :: _,_ :: _,h=>by rw [List.map_cons,List.map_cons,h.1,MapS.keys h.2.2]
theorem MapS.ok:∀ {l:List MapEntry} {m:List (Int × ByteArray)},MapS l m→∀ e ∈ l,okI e.key
 | [],[],_,e,he=>by simp at he
 | a::l,q::m,h,e,he=>by
  rcases List.mem_cons.1 he with rfl | he
  ·exact ⟨_,h.1⟩
  ·exact MapS.ok h.2.2 e he
theorem MapS.find {k:Int}:∀ {l:List MapEntry} {m:List (Int × ByteArray)} {i:Nat},MapS l m→(findE (.int .i64 k) l i).map (·.2)=(getA m k).map Value.string
 | [],[],i,_=>rfl
 | e::l,q::m,i,h=>by
  unfold findE getA
  rw [h.1]
  by_cases hk:k=q.1
  ·rw [if_pos (by rw [hk]),if_pos hk,Option.map_some,Option.map_some,h.2.1]
  ·rw [if_neg (by simpa using hk),if_neg hk]
   exact MapS.find h.2.2
theorem MapS.ins {k:Int} {v:ByteArray} {c:Nat}:∀ {l:List MapEntry} {m:List (Int × ByteArray)} {i:Nat},MapS l m→match findE (.int .i64 k) l i with
  | some (j,_)=>i≤j∧MapS (l.modify (j-i) fun e=>{ e with key:=.int .i64 k,val:=.string v }) (insA m k v)
  | none=>MapS (l++[{ key:=.int .i64 k,val:=.string v,born:=c }]) (insA m k v)
 | [],[],i,_=>⟨rfl,rfl,trivial⟩
 | e::l,q::m,i,h=>by
  unfold findE insA
  rw [h.1]
  by_cases hk:k=q.1
  ·rw [if_pos (by rw [hk]),if_pos hk]
   simp only [Nat.sub_self,List.modify_zero_cons,Nat.le_refl,true_and]
   exact ⟨rfl,rfl,h.2.2⟩
  ·rw [if_neg (by simpa using hk),if_neg hk]
   have:=MapS.ins (k:=k) (v:=v) (c:=c) (i:=i+1) h.2.2
   cases hf:findE (.int .i64 k) l (i+1) with
   | none=>rw [hf] at this; exact ⟨h.1,h.2.1,this⟩
   | some p=>
    rw [hf] at this
    obtain ⟨j,u⟩:=p
    simp only at this ⊢
    refine ⟨by omega,?_⟩
    rw [show j-i=(j-(i+1))+1 by omega,List.modify_succ_cons]
    exact ⟨h.1,h.2.1,this.2⟩
theorem Aged.nil (c:Nat):Aged [] c:=⟨by simp,by simp⟩
theorem Aged.push {l:List MapEntry} {c:Nat} (h:Aged l c) (k v:Value):Aged (l++[{ key:=k,val:=v,born:=c }]) (c+1):=by
 refine ⟨fun x hx=>?_,?_⟩
 ·rcases List.mem_append.1 hx with hx | hx
  ·exact Nat.lt_succ_of_lt (h.1 x hx)
  ·rw [List.mem_singleton.1 hx]; exact Nat.lt_succ_self c
 ·rw [List.map_append,List.nodup_append]
  refine ⟨h.2,by simp,fun a ha b hb e=>?_⟩
  obtain ⟨x,hx,rfl⟩:=List.mem_map.1 ha
  have hb2:b=c:=by simpa using hb
  have:=h.1 x hx
  omega
theorem born_modify (k v:Value):∀ (l:List MapEntry) (j:Nat),(l.modify j fun e=>{ e with key:=k,val:=v }).map (·.born)=l.map (·.born)
 | [],j=>by cases j <;> rfl
 | _ :: _,0=>rfl
 | e::l,j+1=>by rw [List.modify_succ_cons,List.map_cons,List.map_cons,born_modify k v l j]
theorem Aged.modify {l:List MapEntry} {c:Nat} (h:Aged l c) (k v:Value) (j:Nat):Aged (l.modify j fun e=>{ e with key:=k,val:=v }) c:=by
 have hb:=born_modify k v l j
 refine ⟨fun x hx=>?_,by rw [hb]; exact h.2⟩
 have:x.born ∈ (l.modify j fun e=>{ e with key:=k,val:=v }).map (·.born):=List.mem_map.2 ⟨x,hx,rfl⟩
 rw [hb] at this
 obtain ⟨y,hy,e⟩:=List.mem_map.1 this
 rw [←e]; exact h.1 y hy
theorem findE_at {k:Value}:∀ {l:List MapEntry} {i j:Nat},(findE k l i).map (·.2)=(findE k l j).map (·.2)
 | [],_,_=>rfl
 | e::r,i,j=>by
  unfold findE
  by_cases h:k=e.key
  ·rw [if_pos h,if_pos h]; rfl
  ·rw [if_neg h,if_neg h]; exact findE_at
def mpC (b:Nat) (m:List (Int × ByteArray)):Chunk:=Wd.obj (α:=Array MapEntry × Nat) (fun p=>MapS p.1.toList m∧Aged p.1.toList p.2) fun p=>[.blk b (.map p.1 p.2)]
section
variable {h0 h:H} {L:List Chunk} {b:Nat} {m:List (Int × ByteArray)}
theorem mpC_at {i:Nat} (w:Wd h0 h L) (hi:L[i]? = some (mpC b m)):∃ es c,h b=some (.map es c)∧MapS es.toList m∧Aged es.toList c:=by
 obtain ⟨v,hv,w⟩:=w.opn i hi
 exact ⟨v.1,v.2,w.blk (L.eraseIdx i).length (by simp),hv⟩
theorem mpC_R {i:Nat} (w:Wd h0 h L) (hi:L[i]? = some (mpC b m)):MapR h (some b) (getA m):=by
 obtain ⟨es,c,hb,hs,hag⟩:=mpC_at w hi
 exact .inr ⟨b,es.size,fun k=>(findE k es.toList 0).map (·.2),rfl,⟨es,c,hb,hs.ok,rfl,fun k i=>findE_at⟩,fun k=>hs.find⟩
theorem mp_new (w:Wd h0 h (L++[.blk b (.map #[] 0)])):Wd h0 h (L++[mpC b []]):=by
 have:=w.close (p:=fun (p:Array MapEntry × Nat)=>MapS p.1.toList []∧Aged p.1.toList p.2) (cs:=fun p=>[.blk b (.map p.1 p.2)]) L.length (#[],0) (by simp) ⟨trivial,.nil 0⟩
 rw [List.take_left'] at this
 ·exact this
 ·rfl
theorem mput_w {ty et:TypeId} {i:Nat} {k:Int} {v:ByteArray} {K:H→Prop} (hu:Tryz.prog.underlying ty=some (.map 3 et)) (w:Wd h0 h L) (hi:L[i]? = some (mpC b m))
  (kk:∀ h',Wd h0 h' (L.eraseIdx i++[mpC b (insA m k v)])→K h'):M.mput Tryz.prog ty (.map (some b)) (.int .i64 k) (.string v) h K:=by
 obtain ⟨p,⟨hs,hag⟩,w⟩:=w.opn i hi
 obtain ⟨es,c⟩:=p
 simp only at hs hag w
 have hl:(L.eraseIdx i++[Chunk.blk b (.map es c)])[(L.eraseIdx i).length]? = some (.blk b (.map es c)):=by simp
 have hb:=w.blk _ hl
 have fin:∀ es' c',MapS es'.toList (insA m k v)→Aged es'.toList c'→K (h.upd b (.map es' c')):=fun es' c' h1 h2=>by
  refine kk _ ?_
  have w2:=w.upd hl (.map es' c')
  rw [List.set_append_right _ _ (Nat.le_refl _),Nat.sub_self,List.set_cons_zero] at w2
  have:=w2.close (p:=fun (p:Array MapEntry × Nat)=>MapS p.1.toList (insA m k v)∧Aged p.1.toList p.2) (cs:=fun p=>[.blk b (.map p.1 p.2)]) (L.eraseIdx i).length (es',c') (by simp) ⟨h1,h2⟩
  rw [List.take_left'] at this
  ·exact this
  ·rfl
 refine ⟨3,et,b,es,c,_,hu,rfl,hb,keysI.at ⟨k,rfl⟩ hs.ok,?_⟩
 have hI:=hs.ins (k:=k) (v:=v) (c:=c) (i:=0)
 cases hf:findE (.int .i64 k) es.toList 0 with
 | none=>
  rw [hf] at hI
  exact fin _ _ (by rw [Array.toList_push]; exact hI) (by rw [Array.toList_push]; exact hag.push _ _)
 | some q=>
  obtain ⟨j,u⟩:=q
  rw [hf] at hI
  obtain ⟨e,_,he,hek,_⟩:=findE_some hf
  rw [Nat.sub_zero] at he
  refine ⟨?_,fin _ _ (by rw [Array.toList_modify]; exact hI.2) (by rw [Array.toList_modify]; exact hag.modify _ _ _)⟩
  have:es[j]? = some e:=by simpa using he
  rw [this]
  simp only [Option.map_some,Option.getD_some,hek]
  exact keysI.same _ ⟨k,rfl⟩
theorem lkA {ty:TypeId} {i:Nat} {k:Int} {K:Value→H→Prop} (hu:Tryz.prog.underlying ty=some (.map 3 9)) (w:Wd h0 h L) (hi:L[i]? = some (mpC b m)) (kk:K (.string ((getA m k).getD ByteArray.empty)) h):M.lk Tryz.prog ty (.map (some b)) (.int .i64 k) h K:=by
 obtain ⟨es,c,hb,hs,hag⟩:=mpC_at w hi
 refine lk_of (f:=fun k=>(findE k es.toList 0).map (·.2)) hu keysI zeroS ⟨es,c,hb,hs.ok,rfl,fun k i=>findE_at⟩ ⟨k,rfl⟩ ?_
 simp only [hs.find]
 cases hg:getA m k with
 | none=>rw [hg] at kk; exact kk
 | some p=>rw [hg] at kk; exact kk
theorem rising_spec {i:Nat} {Q:Option Addr→Nat→Nat→H→Prop} (w:Wd h0 h L) (hi:L[i]? = some (mpC b m)) (hn:(m.map (·.1)).Nodup) (hr:∀ q ∈ m,0≤q.1∧q.1≤15) (hm:m.length≤1000)
  (k:∀ a c h',Wd h0 h' (L++[.sl 3 1 a m.length c (eI.row (sortZ (m.map (·.1))))])→Q a m.length c h'):slab_rising (some b) h Q:=by
 obtain ⟨es,c,hb,hs,hag⟩:=mpC_at w hi
 have hl:es.size=m.length:=by rw [←Array.length_toList]; exact hs.len
 refine ⟨b,es,c,rfl,hb,hag,m.map (·.1),by rw [hs.keys,List.map_map]; rfl,fun x hx=>?_,hn,by omega,fun a c' h' w'=>?_⟩
 ·obtain ⟨q,hq,rfl⟩:=List.mem_map.1 hx
  have:=hr q hq
  omega
 ·rw [hl] at w' ⊢
  refine k a c' h' (w.join ?_)
  rw [eI_row]
  exact w'
end
end Go.Proofs.YthegnmanjdlmjaaGreatDoor
namespace Go.Proofs.YthegnmanjdlmjaaGreatDoor
open Go.Sh Go.RowKit
def chkL (g:Prop) [Decidable g] (n:Int):List (Int × ByteArray)→Int
 | []=>0
 | p::r=>if mayZ g n p.1≠0 then mayZ g n p.1 else if p.2.size > 2032 then 5 else chkL g n r
def checkM (g:Prop) [Decidable g] (n:Int) (l:List (Int × ByteArray)):Int:=if ¬ g then 4 else chkL g n l
theorem chkL_all {g:Prop} [Decidable g] {n:Int}:∀ {l:List (Int × ByteArray)},chkL g n l=0→∀ p ∈ l,0≤p.1∧p.1<n∧p.2.size≤2032
 | [],_,p,hp=>by simp at hp
 | q::r,h,p,hp=>by
  unfold chkL at h
  by_cases h1:mayZ g n q.1≠0
  ·rw [if_pos h1] at h; exact absurd h h1
  ·rw [if_neg h1] at h
   by_cases h2:q.2.size > 2032
   ·rw [if_pos h2] at h; exact absurd h (by decide)
   ·rw [if_neg h2] at h
    rcases List.mem_cons.1 hp with rfl | hp
    ·have:=(mayZ_zero.1 (Decidable.not_not.1 h1)).2
     exact ⟨this.1,this.2,by omega⟩
    ·exact chkL_all h p hp
theorem checkM_all {g:Prop} [Decidable g] {n:Int} {l:List (Int × ByteArray)} (h:checkM g n l=0):g∧∀ p ∈ l,0≤p.1∧p.1<n∧p.2.size≤2032:=by
 unfold checkM at h
 by_cases hg:g
 ·rw [if_neg (by simp [hg])] at h; exact ⟨hg,chkL_all h⟩
 ·rw [if_pos hg] at h; exact absurd h (by decide)
section
variable {hx h:H} {b:Nat} {B:BankM} {d n:Int} {key:ByteArray} {xs:List (Int × ByteArray)} {a:Option Addr} {l c:Nat}
theorem checked_spec {Q:Int→H→Prop} (wx:Wd hx h [bankC b B]) (f:Ro eP h a l xs) (hl9:l<1000000000) (tb:Tabs h) (k:∀ h',Keep h h'→Q (checkM (goodS B d n key) n xs) h'):slab_Slab_checked (some ⟨b,0,none⟩) d n key a l c h Q:=by
 unfold slab_Slab_checked slab_Slab_checked.g
 have w:=Wd.start h
 have hlen:=f.len
 refine M.new_w w fun b2 h1 w=>?_
 simp only [bs,lb (w.blk 0 rfl)]
 refine good_spec (wx.keeps w.keep) (tb.keep w.keep) fun h2 k2=>?_
 have w:=w.keeps k2
 unfold checkM at k
 by_cases g:goodS B d n key
 ·rw [if_neg (by simp [g])] at k
  refine cf (by simp [g]) ?_
  refine M.loop_of (I:=fun (i:Int) h'=>∃ (m:Nat),m≤l∧i=(m:Int)∧chkL (goodS B d n key) n xs=chkL (goodS B d n key) n (xs.drop m) ∧
   Wd h h' [.blk b2 (.cells #[.pointer (some ⟨b,0,none⟩),.int .i64 d,.int .i64 n,.string key] 37)]) (μ:=fun i=>(l-i).toNat) ⟨0,by omega,rfl,rfl,w⟩ ?_
  clear w
  rintro _ h3 J ⟨m,hm,rfl,hw,w⟩ hJ
  by_cases hlt:m<l
  ·refine cdt (by omega) ?_
   have v1:IntKind.wrap .i64 ((m:Int)+1)=((m+1:Nat):Int):=by rw [IntKind.wrap_i64]; omega
   refine Ro.ldP (f.keep w.keep) (by omega) (by omega) ?_
   refine M.new_w w fun b5 h4 w=>?_
   refine ⟨(rfl),?_⟩
   refine M.puts_w0 w 1 rfl (by simp [isPlainCell]) (by simp) fun h6 w=>?_
   simp only [bs,Int.toNat_natCast] at w
   simp only [bs,lb (w.blk 0 rfl),lb (w.blk 1 rfl)]
   rw [drop_pa (by omega),chkL] at hw
   refine may_spec (wx.keeps w.keep) (tb.keep w.keep) fun h7 k7=>?_
   have w:=w.keeps k7
   by_cases e:mayZ (goodS B d n key) n (pa xs m).1=0
   ·rw [if_neg (by simp [e])] at hw
    refine cf (by rw [bne_eq_false_iff_eq]; exact e) ?_
    simp only [bs,lb (w.blk 1 rfl)]
    by_cases e2:(pa xs m).2.size > 2032
    ·rw [if_pos e2] at hw
     rw [hw] at k
     exact cdt (by omega) (k _ w.keep)
    ·rw [if_neg e2] at hw
     refine cdf (by omega) (M.vis _ v1 ?_)
     exact hJ _ _ ⟨m+1,by omega,rfl,hw,w.drop (i:=1) rfl⟩ (by omega)
   ·rw [if_pos e] at hw
    rw [hw] at k
    exact ct (by rw [bne_iff_ne]; exact e) (k _ w.keep)
  ·refine cdf (by omega) ?_
   rw [List.drop_of_length_le (by omega),chkL] at hw
   rw [hw] at k
   exact k _ w.keep
 ·rw [if_pos g] at k
  exact ct (by simp [g]) (k _ w.keep)
end
end Go.Proofs.YthegnmanjdlmjaaGreatDoor
namespace Go.Proofs.YthegnmanjdlmjaaGreatDoor
open Go.Sh Go.RowKit
abbrev KV:=List (Int × ByteArray)
def putAll:KV→List Int→List ByteArray→KV
 | m,k::ks,v::vs=>putAll (insA m k v) ks vs
 | m,_,_=>m
def prepS (B:BankM) (d n:Int):ByteArray→KV→KV→KV→KV × KV × ByteArray × Int
 | top,ch,ce,[]=>(ch,ce,top,0)
 | top,ch,ce,p::r=>
  if (overM B d n (getA ch) top p.1).2.2≠0 then ([],[],ByteArray.empty,(overM B d n (getA ch) top p.1).2.2)
  else prepS B d n (putT p.1.toNat (kindT 0 p.2) (overM B d n (getA ch) top p.1).1).2 (putAll ch (pathN n p.1) (putT p.1.toNat (kindT 0 p.2) (overM B d n (getA ch) top p.1).1).1) (insA ce p.1 p.2) r
def outs (base:Int) (m:KV):KV:=(sortZ (m.map (·.1))).map fun x=>(base+x,(getA m x).getD ByteArray.empty)
def prepM (B:BankM) (key:ByteArray) (d n:Int) (top:ByteArray) (l:KV):KV × ByteArray × Int:=
 if checkM (goodS B d n key) n l≠0 then ([],ByteArray.empty,checkM (goodS B d n key) n l)
 else if (prepS B d n top [] [] l).2.2.2≠0 then ([],ByteArray.empty,(prepS B d n top [] [] l).2.2.2)
 else (outs 100 (prepS B d n top [] [] l).1++outs 120 (prepS B d n top [] [] l).2.1,(prepS B d n top [] [] l).2.2.1,0)
structure OkA (s:Nat) (m:KV):Prop where
 nd:(m.map (·.1)).Nodup
 all:∀ q ∈ m,(0≤q.1∧q.1≤15)∧q.2.size≤s
theorem OkA.nil (s:Nat):OkA s []:=⟨by simp,by simp⟩
theorem OkA.ins {s:Nat} {m:KV} {k:Int} {v:ByteArray} (o:OkA s m) (hk:0≤k∧k≤15) (hv:v.size≤s):OkA s (insA m k v):=⟨insA_nodup o.nd,insA_all ⟨hk,hv⟩ o.all⟩
theorem OkA.puts {s:Nat}:∀ {m:KV} {ks:List Int} {vs:List ByteArray},OkA s m→(∀ k ∈ ks,0≤k∧k≤15)→(∀ v ∈ vs,v.size≤s)→OkA s (putAll m ks vs)
 | m,[],_,o,_,_=>by rw [putAll]; exact o; simp
 | m,_ :: _,[],o,_,_=>by rw [putAll]; exact o; simp
 | m,k::ks,v::vs,o,hk,hv=>by
  have o2:=o.ins (hk k (by simp)) (hv v (by simp))
  rw [putAll]
  exact OkA.puts o2 (fun k h=>hk k (by simp [h])) (fun v h=>hv v (by simp [h]))
theorem getA_mem {k:Int} {p:ByteArray}:∀ {m:KV},getA m k=some p→(k,p) ∈ m
 | [],h=>by simp [getA] at h
 | q::r,h=>by
  unfold getA at h
  by_cases hk:k=q.1
  ·rw [if_pos hk,Option.some.injEq] at h
   rw [List.mem_cons]; exact .inl (by rw [←h,hk])
  ·rw [if_neg hk] at h; exact List.mem_cons_of_mem _ (getA_mem h)
theorem OkA.get {s:Nat} {m:KV} (o:OkA s m) {k:Int} {p:ByteArray} (h:getA m k=some p):p.size≤s:=(o.all _ (getA_mem h)).2
theorem nodup_small:∀ (N:Nat) (l:List Int),l.Nodup→(∀ x ∈ l,0≤x∧x<N)→l.length≤N
 | 0,l,_,h=>by
  cases l with
  | nil=>exact Nat.le_refl _
  | cons x r=>have:=h x (by simp); omega
 | N+1,l,hn,h=>by
  have h1:=nodup_small N (l.erase (N:Int)) (hn.erase _) fun x hx=>by
   have:=(List.Nodup.mem_erase_iff hn).1 hx
   have:=h x this.2
   omega
  by_cases hm:(N:Int) ∈ l
  ·rw [List.length_erase_of_mem hm] at h1; omega
  ·rw [List.erase_of_not_mem hm] at h1; omega
theorem OkA.len {s:Nat} {m:KV} (o:OkA s m):m.length≤16:=by
 have:=nodup_small 16 (m.map (·.1)) o.nd fun x hx=>by
  obtain ⟨q,hq,rfl⟩:=List.mem_map.1 hx
  have:=(o.all q hq).1
  omega
 rwa [List.length_map] at this
theorem sortZ_len (l:List Int):(sortZ l).length=l.length:=List.length_mergeSort _
theorem sortZ_mem {l:List Int} {x:Int}:x ∈ sortZ l↔x ∈ l:=List.mem_mergeSort
theorem outs_len (base:Int) (m:KV):(outs base m).length=m.length:=by rw [outs,List.length_map,sortZ_len,List.length_map]
theorem follow_64 {slot:Nat}:∀ {ps:List ByteArray} {top:ByteArray},(follow top slot ps).2=0→∀ p ∈ ps,p.size=64
 | [],_,_,p,hp=>by simp at hp
 | q::r,top,h,p,hp=>by
  unfold follow at h
  by_cases h1:q.size≠64∨nodeT q≠top
  ·rw [if_pos h1] at h; exact absurd h (by decide)
  ·rw [if_neg h1] at h
   rcases List.mem_cons.1 hp with rfl | hp
   ·exact Decidable.not_not.1 fun e=>h1 (.inl e)
   ·exact follow_64 h p hp
theorem over_64 {B:BankM} {d n slot:Int} {g:Int→Option ByteArray} {top:ByteArray} (h:(overM B d n g top slot).2.2=0):(overM B d n g top slot).1.length=dep n∧∀ p ∈ (overM B d n g top slot).1,p.size=64:=by
 have hl:=@gath_len (pairOf B d g) (pathN n slot) []
 unfold overM at h ⊢
 simp only at h ⊢
 generalize gath (pairOf B d g) [] (pathN n slot)=r at *
 by_cases e:r.2≠0
 ·rw [if_pos e] at h; exact absurd h e
 ·rw [if_neg e] at h ⊢
  refine ⟨?_,follow_64 h⟩
  have:=hl (Decidable.not_not.1 e)
  rw [pathN_len] at this
  simpa using this
end Go.Proofs.YthegnmanjdlmjaaGreatDoor
namespace Go.Proofs.YthegnmanjdlmjaaGreatDoor
open Go.Sh Go.RowKit
def wayN (X:Nat):Nat→List Nat
 | 0=>[]
 | m+1=>X / 2 ^ (m+1)::wayN X m
theorem wayN_len (X:Nat):∀ m,(wayN X m).length=m
 | 0=>rfl
 | m+1=>by rw [wayN,List.length_cons,wayN_len]
theorem wayN_range (X:Nat):∀ m,(List.range m).map (fun i=>X / 2 ^ (m-i))=wayN X m
 | 0=>rfl
 | m+1=>by
  rw [List.range_succ_eq_map,List.map_cons,List.map_map,wayN,←wayN_range X m]
  congr 1
  refine List.map_congr_left fun i _=>?_
  show X / 2 ^ (m+1-(i+1))=_
  rw [Nat.add_sub_add_right]
theorem pathN_way {n:Int} {s:Nat} (hd:dep n≠0):pathN n s=(wayN (2 ^ dep n+s) (dep n)).map fun i:Nat=>(i:Int):=by
 have hn:=dep_pow hd
 have:(n+(s:Int)).toNat=2 ^ dep n+s:=by
  generalize 2 ^ dep n=q at hn ⊢
  omega
 rw [pathN,this,←wayN_range,List.map_map]
 rfl
theorem half_up (X m:Nat):X / 2 ^ (m+1)=X / 2 ^ m / 2:=by rw [Nat.pow_succ,Nat.div_div_eq_div_mul]
theorem half_app {a b:ByteArray} (ha:a.size=32) (hb:b.size=32) (c:Bool):halfB (a++b) c=if c then b else a:=by
 cases c
 ·show (a++b).extract 0 32=a
  rw [←ha]; exact ByteArray.extract_append_eq_left rfl
 ·show (a++b).extract 32 (a++b).size=b
  rw [←ha]
  exact ByteArray.extract_append_eq_right rfl (by rw [ByteArray.size_append])
theorem wayN_bound {k s:Nat} (hs:s<2 ^ k) {m:Nat} (hm:m≤k):0<(2 ^ k+s) / 2 ^ m∧(m≠0→(2 ^ k+s) / 2 ^ m<2 ^ k)∧(2 ^ k+s) / 2 ^ m<2*2 ^ k:=by
 have h1:0<2 ^ m:=Nat.pow_pos (by decide)
 have h2:2 ^ m≤2 ^ k:=Nat.pow_le_pow_right (by decide) hm
 have h4:=Nat.div_le_self (2 ^ k+s) (2 ^ m)
 refine ⟨Nat.div_pos (by omega) h1,fun h=>?_,by omega⟩
 rw [Nat.div_lt_iff_lt_mul h1]
 have h3:2≤2 ^ m:=by
  obtain ⟨q,rfl⟩:∃ q,m=q+1:=⟨m-1,by omega⟩
  have:=Nat.pow_le_pow_right (n:=2) (by decide) (show 1≤q+1 by omega)
  simpa using this
 have:=Nat.mul_le_mul_left (2 ^ k) h3
 omega
section
variable {ls:List ByteArray} {k s:Nat}
theorem follow_way (hl:ls.length=2 ^ k) (hz:∀ p ∈ ls,p.size=32) (hs:s<2 ^ k):∀ m,m≤k→follow (nodeD ls ((2 ^ k+s) / 2 ^ m)) s ((wayN (2 ^ k+s) m).map (pairD ls))=(sa ls s,0)
 | 0,_=>by
  rw [Nat.pow_zero,Nat.div_one,nodeD_leaf (by omega),hl,Nat.add_sub_cancel_left]; rfl
 | m+1,hm=>by
  obtain ⟨b1,b2,b3⟩:=wayN_bound hs hm
  have b2:=b2 (by omega)
  obtain ⟨c1,c2,c3⟩:=wayN_bound hs (show m≤k by omega)
  have hb:=bit_node (d:=k) (s:=s) (k:=m) (by omega)
  have ih:=follow_way hl hz hs m (by omega)
  rw [wayN,List.map_cons,follow,List.length_map,wayN_len,bitT]
  have hup:=half_up (2 ^ k+s) m
  generalize (2 ^ k+s) / 2 ^ (m+1)=i at *
  generalize (2 ^ k+s) / 2 ^ m=j at *
  have p64:=pairD_size hz b1 (by omega)
  rw [nodeD_in b1 (by omega),if_neg (by simp [p64])]
  have e1:=nodeD_size hz (i:=2*i) (by omega) (by omega)
  have e2:=nodeD_size hz (i:=2*i+1) (by omega) (by omega)
  rw [pairD,half_app e1 e2]
  by_cases h:s / 2 ^ m % 2=1
  ·rw [if_pos (by simpa using h),show 2*i+1=j by omega]; exact ih
  ·rw [if_neg (by simpa using h),show 2*i=j by omega]; exact ih
theorem sa_set {x:ByteArray} {j:Nat} (hs:s<ls.length):sa (ls.set s x) j=if j=s then x else sa ls j:=by
 unfold sa
 rw [List.getD_eq_getElem?_getD,List.getElem?_set,List.getD_eq_getElem?_getD]
 by_cases h:s=j
 ·subst h; rw [if_pos rfl,if_pos hs,if_pos rfl]; rfl
 ·rw [if_neg h,if_neg (fun e=>h e.symm)]
theorem nodeD_off {x:ByteArray} (hs:s<ls.length):∀ (f i:Nat),ls.length≤i+f→0<i→(∀ m,(ls.length+s) / 2 ^ m≠i)→nodeD (ls.set s x) i=nodeD ls i
 | f,i,hf,h0,hm=>by
  by_cases hi:i<ls.length
  ·obtain ⟨f,rfl⟩:∃ q,f=q+1:=⟨f-1,by omega⟩
   rw [nodeD_in h0 hi,nodeD_in h0 (by rw [List.length_set]; exact hi),pairD,pairD,
    nodeD_off hs f (2*i) (by omega) (by omega) (fun m e=>hm (m+1) (by rw [half_up,e]; omega)),nodeD_off hs f (2*i+1) (by omega) (by omega) (fun m e=>hm (m+1) (by rw [half_up,e]; omega))]
  ·rw [nodeD_leaf (by rw [List.length_set]; omega),nodeD_leaf (ls:=ls) (by omega),List.length_set,sa_set hs,if_neg]
   intro e
   exact hm 0 (by rw [Nat.pow_zero,Nat.div_one]; omega)
theorem pairD_off {x:ByteArray} (hs:s<ls.length) {i:Nat} (h0:0<i) (hm:∀ m,(ls.length+s) / 2 ^ m≠i):pairD (ls.set s x) i=pairD ls i:=by
 rw [pairD,pairD,nodeD_off hs ls.length (2*i) (by omega) (by omega) (fun m e=>hm (m+1) (by rw [half_up,e]; omega)),nodeD_off hs ls.length (2*i+1) (by omega) (by omega) (fun m e=>hm (m+1) (by rw [half_up,e]; omega))]
theorem div_lt_of {X:Nat} (hX:0<X) {a b:Nat} (h:a<b):X / 2 ^ b<X / 2 ^ a∨X / 2 ^ a=0:=by
 by_cases h0:X / 2 ^ a=0
 ·exact .inr h0
 ·left
  have h1:X / 2 ^ b≤X / 2 ^ (a+1):=Nat.div_le_div_left (Nat.pow_le_pow_right (by decide) h) (Nat.pow_pos (by decide))
  rw [half_up] at h1
  generalize X / 2 ^ a=u at *
  generalize X / 2 ^ b=v at *
  omega
theorem put_way {x:ByteArray} (hl:ls.length=2 ^ k) (hz:∀ p ∈ ls,p.size=32) (hs:s<2 ^ k):∀ m,m≤k→putT s x ((wayN (2 ^ k+s) m).map (pairD ls))=((wayN (2 ^ k+s) m).map (pairD (ls.set s x)),nodeD (ls.set s x) ((2 ^ k+s) / 2 ^ m))
 | 0,_=>by
  rw [Nat.pow_zero,Nat.div_one,nodeD_leaf (by rw [List.length_set]; omega),List.length_set,hl,Nat.add_sub_cancel_left,sa_set (by omega),if_pos rfl]; rfl
 | m+1,hm=>by
  obtain ⟨b1,b2,b3⟩:=wayN_bound hs hm
  have b2:=b2 (by omega)
  obtain ⟨c1,c2,c3⟩:=wayN_bound hs (show m≤k by omega)
  have hb:=bit_node (d:=k) (s:=s) (k:=m) (by omega)
  have ih:=put_way (x:=x) hl hz hs m (by omega)
  rw [wayN,List.map_cons,putT_cons,putX,ih,List.length_map,wayN_len,bitT]
  have hup:=half_up (2 ^ k+s) m
  have hoff:∀ q:Nat,0<q→q≠(2 ^ k+s) / 2 ^ m→q / 2=(2 ^ k+s) / 2 ^ (m+1)→nodeD (ls.set s x) q=nodeD ls q:=by
   intro q h0 hq h2
   refine nodeD_off (by omega) ls.length q (by omega) h0 fun t ht=>?_
   rw [hl] at ht
   have hX:0<2 ^ k+s:=by have:0<2 ^ k:=Nat.pow_pos (by decide); omega
   rcases Nat.lt_trichotomy t m with h | h | h
   ·have:=div_lt_of hX h
    have h3:(2 ^ k+s) / 2 ^ m≤(2 ^ k+s) / 2 ^ (t+1):=Nat.div_le_div_left (Nat.pow_le_pow_right (by decide) h) (Nat.pow_pos (by decide))
    rw [half_up,ht,h2,hup] at h3
    omega
   ·rw [h] at ht; exact hq ht.symm
   ·have h3:(2 ^ k+s) / 2 ^ t≤(2 ^ k+s) / 2 ^ (m+1):=Nat.div_le_div_left (Nat.pow_le_pow_right (by decide) h) (Nat.pow_pos (by decide))
    rw [ht,←h2] at h3
    omega
  have e1:=nodeD_size hz (i:=2*((2 ^ k+s) / 2 ^ (m+1))) (by omega) (by omega)
  have e2:=nodeD_size hz (i:=2*((2 ^ k+s) / 2 ^ (m+1))+1) (by omega) (by omega)
  have key:(bif decide (s / 2 ^ m % 2=1) then (pairD ls ((2 ^ k+s) / 2 ^ (m+1))).extract 0 32++nodeD (ls.set s x) ((2 ^ k+s) / 2 ^ m) else nodeD (ls.set s x) ((2 ^ k+s) / 2 ^ m)++(pairD ls ((2 ^ k+s) / 2 ^ (m+1))).extract 32 (pairD ls ((2 ^ k+s) / 2 ^ (m+1))).size)=pairD (ls.set s x) ((2 ^ k+s) / 2 ^ (m+1)):=by
   have g1:=half_app e1 e2 false
   have g2:=half_app e1 e2 true
   have g1':(pairD ls ((2 ^ k+s) / 2 ^ (m+1))).extract 0 32=nodeD ls (2*((2 ^ k+s) / 2 ^ (m+1))):=g1
   have g2':(pairD ls ((2 ^ k+s) / 2 ^ (m+1))).extract 32 (pairD ls ((2 ^ k+s) / 2 ^ (m+1))).size=nodeD ls (2*((2 ^ k+s) / 2 ^ (m+1))+1):=g2
   rw [g1',g2',pairD]
   by_cases h:s / 2 ^ m % 2=1
   ·rw [decide_eq_true h,cond_true,hoff (2*((2 ^ k+s) / 2 ^ (m+1))) (by omega) (by omega) (by omega),show 2*((2 ^ k+s) / 2 ^ (m+1))+1=(2 ^ k+s) / 2 ^ m by omega]
   ·rw [decide_eq_false h,cond_false,hoff (2*((2 ^ k+s) / 2 ^ (m+1))+1) (by omega) (by omega) (by omega),show 2*((2 ^ k+s) / 2 ^ (m+1))=(2 ^ k+s) / 2 ^ m by omega]
  rw [key,nodeD_in b1 (by rw [List.length_set]; omega)]
  rfl
end
end Go.Proofs.YthegnmanjdlmjaaGreatDoor
namespace Go.Proofs.YthegnmanjdlmjaaGreatDoor
open Go.Sh Go.RowKit
theorem take_za {K:List Int} {j:Nat} (h:j<K.length):K.take (j+1)=K.take j++[za K j]:=by rw [za_get h,List.take_append_getElem]
theorem bnd_rows {P:Int→Prop} {l:List Int} (h:∀ x ∈ l,P x) {i:Nat} (hi:i<l.length):P (za l i):=by rw [za_get hi]; exact h _ (List.getElem_mem _)
section
variable {hx h:H} {b:Nat} {B:BankM} {d n:Int} {key top:ByteArray} {xs:List (Int × ByteArray)} {a:Option Addr} {l c:Nat}
theorem Prepare_spec {Q:Option Addr→Nat→Nat→ByteArray→Int→H→Prop} (wx:Wd hx h [bankC b B]) (f:Ro eP h a l xs) (hl9:l<1000000000) (sm:B.Sm) (tb:Tabs h)
  (k:∀ a c h',Wd h h' [.sl 116 2 a (prepM B key d n top xs).1.length c (eP.row (prepM B key d n top xs).1)]→Q a (prepM B key d n top xs).1.length c (prepM B key d n top xs).2.1 (prepM B key d n top xs).2.2 h'):
  slab_Slab_Prepare (some ⟨b,0,none⟩) d n key top a l c h Q:=by
 unfold slab_Slab_Prepare slab_Slab_Prepare.g
 have w:=Wd.start h
 have hlen:=f.len
 refine M.new_w w fun b2 h1 w=>?_
 simp only [bs,Nat.reduceMul,lb (w.blk 0 rfl)]
 refine checked_spec (wx.keeps w.keep) (f.keep w.keep) hl9 (tb.keep w.keep) fun h2 k2=>?_
 have w:=w.keeps k2
 unfold prepM at k
 by_cases g:checkM (goodS B d n key) n xs=0
 ·rw [if_neg (by simp [g])] at k
  refine cf (by rw [bne_eq_false_iff_eq]; exact g) ?_
  obtain ⟨⟨hd,hk,hb⟩,hall⟩:=checkM_all g
  clear g
  have hn:=dep_small hd
  have hdl:=dep_le n
  have hd1:=dep_pow hd
  refine M.new_w w fun b3 h3 w=>?_
  have w:=mp_new w
  refine M.new_w w fun b4 h4 w=>?_
  have w:=mp_new w
  simp only [bs] at w
  refine M.join_of (fun tp h'=>∃ ch ce,prepS B d n top [] [] xs=(ch,ce,tp,0)∧OkA 64 ch∧OkA 2032 ce∧Wd h h' [.blk b2 (.cells #[.pointer (some ⟨b,0,none⟩),.int .i64 d,.int .i64 n,.string key] 37),mpC b3 ch,mpC b4 ce]) (fun J0 hJ0=>?_) ?_
  ·refine M.loop_of (I:=fun (p:ByteArray × Int) h'=>∃ (m:Nat) (ch ce:KV),m≤l∧p.2=(m:Int)∧prepS B d n top [] [] xs=prepS B d n p.1 ch ce (xs.drop m)∧OkA 64 ch∧OkA 2032 ce ∧
    Wd h h' [.blk b2 (.cells #[.pointer (some ⟨b,0,none⟩),.int .i64 d,.int .i64 n,.string key] 37),mpC b3 ch,mpC b4 ce]) (μ:=fun p=>(l-p.2).toNat) ⟨0,[],[],by omega,rfl,rfl,.nil _,.nil _,w⟩ ?_
   clear w
   rintro ⟨tp,_⟩ h5 J ⟨m,ch,ce,hm,hi,hw,oc,oe,w⟩ hJ
   simp only at hi hw ⊢
   subst hi
   by_cases hlt:m<l
   ·refine cdt (by omega) ?_
    have hp:0≤(pa xs m).1∧(pa xs m).1<n∧(pa xs m).2.size≤2032:=by rw [pa_get (by omega)]; exact hall _ (List.getElem_mem _)
    rw [drop_pa (by omega),prepS] at hw
    refine Ro.ldP (f.keep w.keep) (by omega) (by omega) ?_
    refine M.new_w w fun b7 h6 w=>?_
    refine ⟨(rfl),?_⟩
    refine M.puts_w0 w 3 rfl (by simp [isPlainCell]) (by simp) fun h8 w=>?_
    simp only [bs,Int.toNat_natCast] at w
    simp only [bs,lb (w.blk 0 rfl),lb (w.blk 3 rfl)]
    generalize pa xs m=q at *
    obtain ⟨qs,qc⟩:=q
    simp only at hw hp ⊢
    obtain ⟨s,rfl⟩:=Int.eq_ofNat_of_zero_le hp.1
    rw [Int.toNat_natCast] at hw
    have v1:IntKind.wrap .i64 ((m:Int)+1)=((m+1:Nat):Int):=by rw [IntKind.wrap_i64]; omega
    have hov:=@over_64 B d n s (getA ch) tp
    refine over_spec (wx.keeps w.keep) (mpC_R (i:=1) w rfl) hd ⟨hp.1,hp.2.1⟩ sm (fun x p hx=>by have:=oc.get hx; omega) (tb.keep w.keep) fun a5 c5 h8 w'=>?_
    have w:=w.join w'
    clear w'
    generalize overM B d n (getA ch) tp s=o at *
    by_cases e:o.2.2=0
    ·rw [if_neg (by simp [e])] at hw
     refine cf (by rw [bne_eq_false_iff_eq]; exact e) ?_
     obtain ⟨ho1,ho2⟩:=hov e
     have hs0:=w.blk 3 rfl
     simp only [bs,lb (w.blk 3 rfl)]
     refine Leaf_spec (by omega) (tb.keep w.keep) fun h7 k_=>?_
     have w:=w.keeps k_
     clear k_
     refine M.still_at hs0 (w.blk 3 rfl) ?_
     rw [ho1] at w ⊢
     refine Put_spec (w.ro 4 rfl (by decide)) ⟨by omega,hdl⟩ (by omega) ho2 (kindT_size _ _) (tb.keep w.keep) fun a6 c6 h8 w'=>?_
     have w:=w.join w'
     clear w'
     simp only [bs,lb (w.blk 0 rfl),lb (w.blk 3 rfl)]
     have hpl:=pathN_len n s
     have hple:=path_le hd (s:=(s:Int)) ⟨by omega,by omega⟩
     refine treePath_spec hd ⟨by omega,by omega⟩ (tb.keep w.keep) fun a7 c7 h9 w'=>?_
     have w:=w.join w'
     clear w'
     have hkz:=kindT_size 0 qc
     have h64:=putT_64 (slot:=s) hkz o.1 ho2
     have hpn:=putT_len s (kindT 0 qc) o.1
     generalize putT s (kindT 0 qc) o.1=pt at *
     generalize pathN n s=pth at *
     rw [ho1] at hpn
     try simp only [bs] at w
     have w:=(((w.drop (i:=4) rfl).mv (i:=1) rfl))
     try simp only [bs] at w
     refine M.join_of (fun _ h'=>Wd h h' [.blk b2 (.cells #[.pointer (some ⟨b,0,none⟩),.int .i64 d,.int .i64 n,.string key] 37),mpC b4 ce,.blk b7 (.cells #[.int .i64 s,.string qc] 45),.sl 9 1 a6 (dep n) c6 (eS.row pt.1),.sl 3 1 a7 (dep n) c7 (eI.row pth),mpC b3 (putAll ch pth pt.1)]) (fun J1 hJ1=>?_) ?_
     ·refine M.loop_of (I:=fun (p:Int) h'=>∃ (j:Nat) (ch':KV),j≤dep n∧p=(j:Int)∧putAll ch pth pt.1=putAll ch' (pth.drop j) (pt.1.drop j) ∧
       Wd h h' [.blk b2 (.cells #[.pointer (some ⟨b,0,none⟩),.int .i64 d,.int .i64 n,.string key] 37),mpC b4 ce,.blk b7 (.cells #[.int .i64 s,.string qc] 45),.sl 9 1 a6 (dep n) c6 (eS.row pt.1),.sl 3 1 a7 (dep n) c7 (eI.row pth),mpC b3 ch']) (μ:=fun p=>(dep n-p).toNat) ⟨0,ch,by omega,rfl,rfl,w⟩ ?_
      clear w
      rintro _ h10 J3 ⟨j,ch',hj,rfl,hpa,w⟩ hJ3
      by_cases hlj:j<dep n
      ·refine cdt (by omega) ?_
       have v2:IntKind.wrap .i64 ((j:Int)+1)=((j+1:Nat):Int):=by rw [IntKind.wrap_i64]; omega
       rw [drop_za (by omega),drop_sa (by omega),putAll] at hpa
       refine Ro.ldI (w.ro 4 rfl (by decide)) (by omega) (by omega) ?_
       simp only [Int.toNat_natCast]
       refine Ro.ldS (w.ro 3 rfl (by decide)) (by omega) (by omega) ?_
       refine mput_w Tryz.underlying108 w (i:=5) rfl fun h11 w=>?_
       refine M.vis _ v2 (hJ3 _ _ ⟨j+1,_,by omega,rfl,hpa,w⟩ (by omega))
      ·refine cdf (by omega) ?_
       rw [List.drop_of_length_le (by omega),List.drop_of_length_le (by omega)] at hpa
       have hpa2:putAll ch pth pt.1=ch':=hpa
       refine hJ1 _ _ ?_
       rw [hpa2]
       exact w
     ·clear w
      rintro _ h10 w
      simp only [bs,lb (w.blk 2 rfl)]
      refine mput_w Tryz.underlying107 w (i:=1) rfl fun h11 w=>?_
      refine M.vis _ v1 (hJ _ _ ⟨m+1,putAll ch pth pt.1,insA ce s qc,by omega,rfl,hw,oc.puts hple fun v hv=>Nat.le_of_eq (h64 v hv),oe.ins (by omega) hp.2.2,?_⟩ (by simp only; omega))
      have w:=(((w.drop (i:=1) rfl).drop (i:=1) rfl).drop (i:=1) rfl)
      exact w
    ·rw [if_pos e] at hw
     rw [hw,if_pos e] at k
     refine ct (by rw [bne_iff_ne]; exact e) (k none 0 _ ?_)
     exact ((((w.drop (i:=0) rfl).drop (i:=0) rfl).drop (i:=0) rfl).drop (i:=0) rfl |>.drop (i:=0) rfl).nilsl _ _
   ·refine cdf (by omega) ?_
    rw [List.drop_of_length_le (by omega),prepS] at hw
    exact hJ0 _ _ ⟨ch,ce,hw,oc,oe,w⟩
  ·clear w
   rintro tp h5 ⟨ch,ce,hpr,oc,oe,w⟩
   rw [hpr,if_neg (by simp)] at k
   simp only at k
   clear hpr
   refine M.join_of (fun (p:Option Addr × Nat × Nat) h'=>p.2.1=ch.length∧Wd h h' [.blk b2 (.cells #[.pointer (some ⟨b,0,none⟩),.int .i64 d,.int .i64 n,.string key] 37),mpC b3 ch,mpC b4 ce,.sl 116 2 p.1 p.2.1 p.2.2 (eP.row (outs 100 ch))]) (fun J0 hJ0=>?_) ?_
   ·refine rising_spec w (i:=1) rfl oc.nd (fun q hq=>(oc.all q hq).1) (by have:=oc.len; omega) fun a8 c8 h6 w=>?_
    have hcl:=oc.len
    have hkl:(sortZ (ch.map (·.1))).length=ch.length:=by rw [sortZ_len,List.length_map]
    have hkr:∀ x ∈ sortZ (ch.map (·.1)),0≤x∧x≤15:=fun x hx=>by
     obtain ⟨q,hq,rfl⟩:=List.mem_map.1 (sortZ_mem.1 hx)
     exact (oc.all q hq).1
    have hou:outs 100 ch=(sortZ (ch.map (·.1))).map fun x=>(100+x,(getA ch x).getD ByteArray.empty):=rfl
    rw [hou] at hJ0
    generalize hF:(fun x:Int=>((100+x,(getA ch x).getD ByteArray.empty):Int × ByteArray))=F at *
    generalize sortZ (ch.map (·.1))=K at *
    try simp only [bs] at w
    refine M.loop_of (I:=fun (p:(Option Addr × Nat × Nat) × Int) h'=>∃ j:Nat,j≤ch.length∧p.2=(j:Int)∧j=p.1.2.1∧Wd h h' [.blk b2 (.cells #[.pointer (some ⟨b,0,none⟩),.int .i64 d,.int .i64 n,.string key] 37),mpC b3 ch,mpC b4 ce,.sl 3 1 a8 ch.length c8 (eI.row K),.sl 116 2 p.1.1 p.1.2.1 p.1.2.2 (eP.row ((K.take j).map F))]) (μ:=fun p=>(ch.length-p.2).toNat) ⟨0,by omega,rfl,rfl,w.nilsl _ _⟩ ?_
    clear w
    rintro ⟨⟨a9,l9,c9⟩,_⟩ h7 J ⟨j,hj,hi,hl,w⟩ hJ
    simp only at hi hl w ⊢
    subst hi hl
    by_cases hlt:j<ch.length
    ·refine cdt (by omega) ?_
     have v1:IntKind.wrap .i64 ((j:Int)+1)=((j+1:Nat):Int):=by rw [IntKind.wrap_i64]; omega
     have hkj:=bnd_rows hkr (i:=j) (by omega)
     have v2:IntKind.wrap .i64 (100+za K j)=100+za K j:=by rw [IntKind.wrap_i64]; omega
     refine Ro.ldI (w.ro 3 rfl (by decide)) (by omega) (by omega) ?_
     simp only [Int.toNat_natCast,v2]
     refine M.vin ?_
     refine lkA Tryz.underlying108 w (i:=1) rfl ?_
     simp only [bs,v1]
     refine Wd.push w 4 rfl rfl rfl (by simp [isPlainCell]) (by omega) (by omega) fun a10 c11 h8 w=>?_
     refine M.vin ?_
     refine hJ _ _ ⟨j+1,by omega,rfl,rfl,?_⟩ (by simp only; omega)
     have e1:eP.row (List.map F [za K j])=[.int .i64 (100+za K j),.string ((getA ch (za K j)).getD ByteArray.empty)]:=by rw [←hF]; rfl
     rw [take_za (by omega),List.map_append,eP.row_app,e1]
     exact w
    ·refine cdf (by omega) ?_
     obtain rfl:j=ch.length:=by omega
     rw [←hkl,List.take_length] at w
     rw [hkl] at w
     exact hJ0 _ _ ⟨rfl,w.drop (i:=3) rfl⟩
   ·clear w
    rintro ⟨a0,l0,c0⟩ h6 ⟨hl0,w⟩
    simp only at hl0 w ⊢
    have hcl0:=oc.len
    refine M.join_of (fun (p:Option Addr × Nat × Nat) h'=>p.2.1=ch.length+ce.length∧Wd h h' [.blk b2 (.cells #[.pointer (some ⟨b,0,none⟩),.int .i64 d,.int .i64 n,.string key] 37),mpC b3 ch,mpC b4 ce,.sl 116 2 p.1 p.2.1 p.2.2 (eP.row (outs 100 ch++outs 120 ce))]) (fun J0 hJ0=>?_) ?_
    ·refine rising_spec w (i:=2) rfl oe.nd (fun q hq=>(oe.all q hq).1) (by have:=oe.len; omega) fun a8 c8 h6 w=>?_
     have hcl:=oe.len
     have hkl:(sortZ (ce.map (·.1))).length=ce.length:=by rw [sortZ_len,List.length_map]
     have hkr:∀ x ∈ sortZ (ce.map (·.1)),0≤x∧x≤15:=fun x hx=>by
      obtain ⟨q,hq,rfl⟩:=List.mem_map.1 (sortZ_mem.1 hx)
      exact (oe.all q hq).1
     have hou:outs 120 ce=(sortZ (ce.map (·.1))).map fun x=>(120+x,(getA ce x).getD ByteArray.empty):=rfl
     rw [hou] at hJ0
     generalize hF:(fun x:Int=>((120+x,(getA ce x).getD ByteArray.empty):Int × ByteArray))=F at *
     generalize sortZ (ce.map (·.1))=K at *
     try simp only [bs] at w
     refine M.loop_of (I:=fun (p:(Option Addr × Nat × Nat) × Int) h'=>∃ j:Nat,j≤ce.length∧p.2=(j:Int)∧p.1.2.1=ch.length+j∧Wd h h' [.blk b2 (.cells #[.pointer (some ⟨b,0,none⟩),.int .i64 d,.int .i64 n,.string key] 37),mpC b3 ch,mpC b4 ce,.sl 116 2 p.1.1 p.1.2.1 p.1.2.2 (eP.row (outs 100 ch++(K.take j).map F)),.sl 3 1 a8 ce.length c8 (eI.row K)]) (μ:=fun p=>(ce.length-p.2).toNat) ⟨0,by omega,rfl,by simpa using hl0,by simpa using w⟩ ?_
     clear w
     rintro ⟨⟨a9,l9,c9⟩,_⟩ h7 J ⟨j,hj,hi,hl,w⟩ hJ
     simp only at hi hl w ⊢
     subst hi hl
     by_cases hlt:j<ce.length
     ·refine cdt (by omega) ?_
      have v1:IntKind.wrap .i64 ((j:Int)+1)=((j+1:Nat):Int):=by rw [IntKind.wrap_i64]; omega
      have hkj:=bnd_rows hkr (i:=j) (by omega)
      have v2:IntKind.wrap .i64 (120+za K j)=120+za K j:=by rw [IntKind.wrap_i64]; omega
      refine Ro.ldI (w.ro 4 rfl (by decide)) (by omega) (by omega) ?_
      simp only [Int.toNat_natCast,v2]
      refine M.vin ?_
      refine lkA Tryz.underlying107 w (i:=2) rfl ?_
      simp only [bs,v1]
      refine Wd.push w 3 rfl rfl rfl (by simp [isPlainCell]) (by omega) (by omega) fun a10 c11 h8 w=>?_
      refine M.vin ?_
      refine hJ _ _ ⟨j+1,by omega,rfl,rfl,?_⟩ (by simp only; omega)
      have e1:eP.row (List.map F [za K j])=[.int .i64 (120+za K j),.string ((getA ce (za K j)).getD ByteArray.empty)]:=by rw [←hF]; rfl
      rw [take_za (by omega),List.map_append,←List.append_assoc,eP.row_app,e1]
      exact w
     ·refine cdf (by omega) ?_
      obtain rfl:j=ce.length:=by omega
      rw [←hkl,List.take_length] at w
      rw [hkl] at w
      exact hJ0 _ _ ⟨by simp only,w.drop (i:=4) rfl⟩
    ·clear w
     rintro ⟨a1,l1,c1⟩ h6 ⟨hl1,w⟩
     simp only at hl1 w ⊢
     have:=k a1 c1 h6
     rw [List.length_append,outs_len,outs_len,←hl1] at this
     exact this (((w.drop (i:=0) rfl).drop (i:=0) rfl).drop (i:=0) rfl)
 ·rw [if_pos g] at k
  exact ct (by rw [bne_iff_ne]; exact g) (k none 0 _ ((w.drop (i:=0) rfl).nilsl _ _))
end
end Go.Proofs.YthegnmanjdlmjaaGreatDoor
namespace Go.Proofs.YthegnmanjdlmjaaGreatDoor
open Go.Sh Go.RowKit
def BankM.Tiny (B:BankM):Prop:=∀ D ∈ B.ds,(∀ s ∈ D.N,s.size≤2048)∧(∀ s ∈ D.L,s.size≤2048)∧∀ p ∈ D.W,p.2.size≤2048
theorem getD_size {l:List ByteArray} {m:Nat} (h:∀ s ∈ l,s.size≤m) (i:Nat):(l.getD i ByteArray.empty).size≤m:=by
 rw [List.getD_eq_getElem?_getD]
 cases e:l[i]? with
 | none=>simp
 | some s=>exact h s (List.mem_of_getElem? e)
theorem BankM.Tiny.disk {B:BankM} (t:B.Tiny) (d:Int):(∀ s ∈ (B.disk d).N,s.size≤2048)∧(∀ s ∈ (B.disk d).L,s.size≤2048)∧∀ p ∈ (B.disk d).W,p.2.size≤2048:=by
 unfold BankM.disk
 rw [List.getD_eq_getElem?_getD]
 cases e:B.ds[d.toNat]? with
 | none=>simp
 | some D=>exact t D (List.mem_of_getElem? e)
theorem BankM.Tiny.sm {B:BankM} (t:B.Tiny):B.Sm:=by
 intro d a
 unfold BankM.read DiskM.read
 split
 ·simp
 ·split
  ·simp
  ·split
   ·simp
   ·exact getD_size (t.disk d).1 _
theorem BankM.Tiny.set {B B1:BankM} {i:Int} {D:DiskM} (t:B.Tiny) (h1:B1.ds=B.ds) (hD:(∀ s ∈ D.N,s.size≤2048)∧(∀ s ∈ D.L,s.size≤2048)∧∀ p ∈ D.W,p.2.size≤2048):(B1.set i D).Tiny:=by
 intro D' hm
 simp only [BankM.set,h1] at hm
 rcases List.mem_or_eq_of_mem_set hm with hm | rfl
 ·exact t D' hm
 ·exact hD
theorem set_size {l:List ByteArray} {m i:Nat} {x:ByteArray} (h:∀ s ∈ l,s.size≤m) (hx:x.size≤m):∀ s ∈ l.set i x,s.size≤m:=by
 intro s hs
 rcases List.mem_or_eq_of_mem_set hs with hs | rfl
 ·exact h s hs
 ·exact hx
theorem BankM.Tiny.write {B:BankM} (t:B.Tiny) (d a:Int) (s:ByteArray):(B.write d a s).2.Tiny:=by
 unfold BankM.write
 split
 ·exact t
 ·split
  ·exact t
  ·refine t.set B.spend_ds ?_
   have h:=t.disk d
   unfold DiskM.write
   split
   ·exact h
   ·split
    ·exact h
    ·refine ⟨set_size h.1 (by omega),h.2.1,fun p hp=>?_⟩
     rcases List.mem_append.1 hp with hp | hp
     ·exact h.2.2 p hp
     ·rw [List.mem_singleton.1 hp]; simp only; omega
theorem BankM.Tiny.flush {B:BankM} (t:B.Tiny) (d:Int):(B.flush d).2.Tiny:=by
 unfold BankM.flush
 split
 ·exact t
 ·split
  ·exact t
  ·refine t.set B.spend_ds ?_
   have h:=t.disk d
   unfold DiskM.flush
   split
   ·exact h
   ·exact ⟨h.1,h.1,by simp⟩
theorem tiny_new (n c:Int):(BankM.new n c).Tiny:=by
 intro D hm
 have hm:=List.eq_of_mem_replicate hm
 subst hm
 have:∀ (k:Nat),∀ s ∈ List.replicate k ByteArray.empty,s.size≤2048:=fun k s hs=>by rw [List.eq_of_mem_replicate hs]; decide
 exact ⟨this _,this _,by simp [DiskM.new]⟩
structure Lv (B:BankM) (d:Int):Prop where
 nb:¬ B.bad d
 pw:B.fails=false
 al:(B.disk d).dead=false
 ln:140≤(B.disk d).N.length
 ti:B.Tiny
def cel (B:BankM) (d a:Int):ByteArray:=(B.disk d).N.getD a.toNat ByteArray.empty
section
variable {B:BankM} {d n a:Int} {s:ByteArray}
theorem Lv.np (v:Lv B d):¬ B.noPower:=by simp [BankM.noPower,v.pw]
theorem read_cel (v:Lv B d) (ha:0≤a∧a<140):B.read d a=(cel B d a,0):=by
 have hu:(B.disk d).usable a=0:=DiskM.usable_zero.2 ⟨v.al,ha.1,by have:=v.ln; omega⟩
 unfold BankM.read DiskM.read
 rw [if_neg v.nb,if_neg v.np,if_neg (by simp [hu])]
 rfl
theorem disk_set {B1:BankM} {D:DiskM} (h1:B1.ds=B.ds) (hb:¬ B.bad d):(B1.set d D).disk d=D:=by
 have:=BankM.not_bad.1 hb
 simp only [BankM.disk,BankM.set,h1,List.getD_eq_getElem?_getD]
 rw [List.getElem?_set_self (by omega)]
 rfl
theorem bad_set {B1:BankM} {D:DiskM} (h1:B1.ds=B.ds) {i:Int} (hb:¬ B.bad d):¬ (B1.set i D).bad d:=by
 have:=BankM.not_bad.1 hb
 rw [BankM.not_bad]
 simp only [BankM.set,h1,List.length_set]
 exact this
theorem spend_live (v:Lv B d):B.spend.2 = { B with steps:=B.steps+1 }:=by
 unfold BankM.spend
 rw [if_neg v.np]
 simp [v.pw]
theorem write_live (v:Lv B d) (ha:0≤a∧a<140) (hs:s.size≤2048):
  (B.write d a s).1=0∧Lv (B.write d a s).2 d∧(∀ x,cel (B.write d a s).2 d x=if x.toNat=a.toNat then s else cel B d x)∧(B.write d a s).2.steps=B.steps+1∧(B.write d a s).2.left=B.left:=by
 have hu:(B.disk d).usable a=0:=DiskM.usable_zero.2 ⟨v.al,ha.1,by have:=v.ln; omega⟩
 have hw:(B.disk d).write a s=(0,{ B.disk d with N:=(B.disk d).N.set a.toNat s,W:=(B.disk d).W++[(a,s)] }):=by
  unfold DiskM.write
  rw [if_neg (by simp [hu]),if_neg (by omega)]
 have hB:B.write d a s=(0,({ B with steps:=B.steps+1 }:BankM).set d { B.disk d with N:=(B.disk d).N.set a.toNat s,W:=(B.disk d).W++[(a,s)] }):=by
  unfold BankM.write
  rw [if_neg v.nb,if_neg v.np,hw,spend_live v]
 have ht:=v.ti.write d a s
 rw [hB] at ht ⊢
 have hd:=disk_set (B:=B) (B1:={ B with steps:=B.steps+1 }) (D:={ B.disk d with N:=(B.disk d).N.set a.toNat s,W:=(B.disk d).W++[(a,s)] }) rfl v.nb
 refine ⟨rfl,⟨bad_set rfl v.nb,v.pw,by rw [hd]; exact v.al,by rw [hd]; simp only [List.length_set]; exact v.ln,ht⟩,fun x=>?_,rfl,rfl⟩
 simp only [cel,hd,List.getD_eq_getElem?_getD]
 by_cases h:x.toNat=a.toNat
 ·rw [if_pos h,h,List.getElem?_set_self (by have:=v.ln; omega)]; rfl
 ·rw [if_neg h,List.getElem?_set_ne (fun e=>h e.symm)]
theorem flush_live (v:Lv B d):(B.flush d).1=0∧Lv (B.flush d).2 d∧(∀ x,cel (B.flush d).2 d x=cel B d x)∧(B.flush d).2.steps=B.steps+1∧(B.flush d).2.left=B.left∧((B.flush d).2.disk d).W=[]:=by
 have hw:(B.disk d).flush=(0,{ B.disk d with L:=(B.disk d).N,W:=[] }):=by
  unfold DiskM.flush
  rw [if_neg (by simp [v.al])]
 have hB:B.flush d=(0,({ B with steps:=B.steps+1 }:BankM).set d { B.disk d with L:=(B.disk d).N,W:=[] }):=by
  unfold BankM.flush
  rw [if_neg v.nb,if_neg v.np,hw,spend_live v]
 have ht:=v.ti.flush d
 rw [hB] at ht ⊢
 have hd:=disk_set (B:=B) (B1:={ B with steps:=B.steps+1 }) (D:={ B.disk d with L:=(B.disk d).N,W:=[] }) rfl v.nb
 refine ⟨rfl,⟨bad_set rfl v.nb,v.pw,by rw [hd]; exact v.al,by rw [hd]; exact v.ln,ht⟩,fun x=>?_,rfl,rfl,by rw [hd]⟩
 simp only [cel,hd]
def lastW (l:KV) (x:Int) (c:ByteArray):ByteArray:=l.foldl (fun c p=>if p.1=x then p.2 else c) c
theorem lastW_cons (p:Int × ByteArray) (l:KV) (x:Int) (c:ByteArray):lastW (p::l) x c=lastW l x (if p.1=x then p.2 else c):=rfl
theorem lastW_app (l l':KV) (x:Int) (c:ByteArray):lastW (l++l') x c=lastW l' x (lastW l x c):=List.foldl_append
theorem lastW_none {x:Int}:∀ {l:KV} {c:ByteArray},(∀ p ∈ l,p.1≠x)→lastW l x c=c
 | [],_,_=>rfl
 | p::l,c,h=>by rw [lastW_cons,if_neg (h p (by simp)),lastW_none fun q hq=>h q (by simp [hq])]
theorem lastW_same {x:Int} {v:ByteArray}:∀ {l:KV},(∀ p ∈ l,p.1=x→p.2=v)→lastW l x v=v
 | [],_=>rfl
 | p::l,h=>by
  rw [lastW_cons]
  by_cases e:p.1=x
  ·rw [if_pos e,h p (by simp) e,lastW_same fun q hq=>h q (by simp [hq])]
  ·rw [if_neg e,lastW_same fun q hq=>h q (by simp [hq])]
theorem lastW_all {x:Int} {v:ByteArray}:∀ {l:KV} {c:ByteArray},(∀ p ∈ l,p.1=x→p.2=v)→(∃ p ∈ l,p.1=x)→lastW l x c=v
 | [],_,_,h=>by obtain ⟨p,hp,_⟩:=h; simp at hp
 | p::l,c,h,h2=>by
  rw [lastW_cons]
  by_cases e:p.1=x
  ·rw [if_pos e,h p (by simp) e,lastW_same fun q hq=>h q (by simp [hq])]
  ·rw [if_neg e]
   obtain ⟨q,hq,hx⟩:=h2
   rcases List.mem_cons.1 hq with rfl | hq
   ·exact absurd hx e
   ·exact lastW_all (fun q hq=>h q (by simp [hq])) ⟨q,hq,hx⟩
theorem getA_none {m:KV} {x:Int}:x ∉ m.map (·.1)→getA m x=none:=by
 induction m with
 | nil=>intro _; rfl
 | cons q r ih=>
  intro h
  simp only [List.map_cons,List.mem_cons,not_or] at h
  unfold getA
  rw [if_neg h.1,ih h.2]
theorem getA_some {m:KV} {x:Int}:x ∈ m.map (·.1)→∃ v,getA m x=some v:=by
 induction m with
 | nil=>intro h; simp at h
 | cons q r ih=>
  intro h
  unfold getA
  by_cases e:x=q.1
  ·exact ⟨q.2,by rw [if_pos e]⟩
  ·rw [if_neg e]
   simp only [List.map_cons,List.mem_cons] at h
   exact ih (h.resolve_left e)
theorem lastW_outs (base:Int) (m:KV) (y:Int) (c:ByteArray):lastW (outs base m) (base+y) c=(getA m y).getD c:=by
 by_cases h:y ∈ m.map (·.1)
 ·obtain ⟨v,hv⟩:=getA_some h
  rw [hv]
  refine lastW_all (fun p hp e=>?_) ⟨(base+y,(getA m y).getD ByteArray.empty),?_,rfl⟩
  ·rw [outs,List.mem_map] at hp
   obtain ⟨z,hz,rfl⟩:=hp
   simp only at e ⊢
   obtain rfl:z=y:=by omega
   rw [hv]; rfl
  ·rw [outs,List.mem_map]
   exact ⟨y,sortZ_mem.2 h,rfl⟩
 ·rw [getA_none h]
  refine lastW_none fun p hp e=>h ?_
  rw [outs,List.mem_map] at hp
  obtain ⟨z,hz,rfl⟩:=hp
  simp only at e
  obtain rfl:z=y:=by omega
  exact sortZ_mem.1 hz
theorem outs_mem {base:Int} {s:Nat} {m:KV} (o:OkA s m):∀ p ∈ outs base m,(base≤p.1∧p.1≤base+15)∧p.2.size≤s:=by
 intro p hp
 rw [outs,List.mem_map] at hp
 obtain ⟨z,hz,rfl⟩:=hp
 have hz:=sortZ_mem.1 hz
 obtain ⟨v,hv⟩:=getA_some hz
 have:=o.all _ (getA_mem hv)
 simp only [hv] at this ⊢
 exact ⟨by omega,this.2⟩
def FitW (l:KV):Prop:=∀ p ∈ l,(0≤p.1∧p.1<140)∧p.2.size≤2048
theorem writesM_live:∀ {l:KV} {B:BankM},Lv B d→FitW l→(writesM B d l).1=0∧Lv (writesM B d l).2 d∧(∀ x,0≤x→cel (writesM B d l).2 d x=lastW l x (cel B d x)) ∧
  (writesM B d l).2.steps=B.steps+l.length+1∧(writesM B d l).2.left=B.left∧((writesM B d l).2.disk d).W=[]
 | [],B,v,_=>by
  obtain ⟨h1,h2,h3,h4,h5,h6⟩:=flush_live v
  rw [writesM]
  exact ⟨h1,h2,fun x _=>h3 x,by rw [h4]; simp,h5,h6⟩
 | p::r,B,v,h=>by
  have hp:=h p (by simp)
  obtain ⟨h1,h2,h3,h4,h5⟩:=write_live v hp.1 hp.2
  obtain ⟨g1,g2,g3,g4,g5,g6⟩:=writesM_live (l:=r) h2 fun q hq=>h q (by simp [hq])
  rw [writesM,if_neg (by simp [h1])]
  refine ⟨g1,g2,fun x hx=>?_,by rw [g4,h4,List.length_cons]; omega,by rw [g5,h5],g6⟩
  rw [g3 x hx,h3 x,lastW_cons]
  congr 1
  by_cases e:p.1=x
  ·rw [if_pos e,if_pos (by rw [e])]
  ·rw [if_neg e,if_neg (by omega)]
end
structure Has (B:BankM) (d n:Int) (g:Int→Option ByteArray) (top:ByteArray) (ls:List ByteArray):Prop where
 hd:dep n≠0
 len:ls.length=2 ^ dep n
 sz:∀ p ∈ ls,p.size=32
 top:top=nodeD ls 1
 pairs:∀ i:Nat,0<i→i<2 ^ dep n→pairOf B d g i=(pairD ls i,0)
theorem wayN_mem {X y:Nat}:∀ {m:Nat},y ∈ wayN X m↔∃ t,1≤t∧t≤m∧y=X / 2 ^ t
 | 0=>⟨fun h=>by simp [wayN] at h,fun ⟨t,h1,h2,_⟩=>by omega⟩
 | m+1=>by
  rw [wayN,List.mem_cons,wayN_mem]
  constructor
  ·rintro (h | ⟨t,h1,h2,h3⟩)
   ·exact ⟨m+1,by omega,by omega,h⟩
   ·exact ⟨t,h1,by omega,h3⟩
  ·rintro ⟨t,h1,h2,h3⟩
   by_cases e:t=m+1
   ·exact .inl (by rw [h3,e])
   ·exact .inr ⟨t,h1,by omega,h3⟩
theorem gath_ok {f:Int→ByteArray × Int} {q:Int→ByteArray}:∀ {l:List Int} {acc:List ByteArray},(∀ x ∈ l,f x=(q x,0))→gath f acc l=(acc++l.map q,0)
 | [],acc,_=>by simp [gath]
 | x::r,acc,h=>by
  rw [gath,h x (by simp),if_neg (by simp),gath_ok fun y hy=>h y (by simp [hy])]
  simp
theorem getA_putAll {F:Int→ByteArray} {x:Int}:∀ {ks:List Int} {m:KV},getA (putAll m ks (ks.map F)) x=if x ∈ ks then some (F x) else getA m x
 | [],m=>by rw [putAll]; simp; simp
 | k::ks,m=>by
  rw [List.map_cons,putAll,getA_putAll,insA_get]
  by_cases h1:x ∈ ks
  ·rw [if_pos h1,if_pos (by simp [h1])]
  ·rw [if_neg h1]
   by_cases h2:x=k
   ·subst h2; rw [if_pos rfl,if_pos (by simp)]
   ·rw [if_neg h2,if_neg (by simp [h1,h2])]
section
variable {B:BankM} {d n:Int} {g:Int→Option ByteArray} {top key:ByteArray} {ls:List ByteArray} {s:Nat}
theorem Has.path (hh:Has B d n g top ls) (hs:s<2 ^ dep n):pathN n s=(wayN (2 ^ dep n+s) (dep n)).map fun i:Nat=>(i:Int):=pathN_way hh.hd
theorem way_bnd {k:Nat} (hs:s<2 ^ k) {y:Nat} (hy:y ∈ wayN (2 ^ k+s) k):0<y∧y<2 ^ k:=by
 obtain ⟨t,h1,h2,rfl⟩:=wayN_mem.1 hy
 have:=wayN_bound hs h2
 exact ⟨this.1,this.2.1 (by omega)⟩
theorem over_has (hh:Has B d n g top ls) (hs:s<2 ^ dep n):overM B d n g top s=((wayN (2 ^ dep n+s) (dep n)).map (pairD ls),sa ls s,0):=by
 have e:gath (pairOf B d g) [] (pathN n s)=((wayN (2 ^ dep n+s) (dep n)).map (pairD ls),0):=by
  rw [gath_ok (q:=fun x=>pairD ls x.toNat),hh.path hs,List.map_map,List.nil_append]
  ·rfl
  ·intro x hx
   rw [hh.path hs,List.mem_map] at hx
   obtain ⟨y,hy,rfl⟩:=hx
   have:=way_bnd hs hy
   exact hh.pairs y this.1 this.2
 have f:=follow_way hh.len hh.sz hs (dep n) (Nat.le_refl _)
 have e1:(2 ^ dep n+s) / 2 ^ dep n=1:=by
  rw [Nat.add_div_left _ (Nat.pow_pos (by decide)),Nat.div_eq_of_lt hs]
 rw [e1,←hh.top] at f
 unfold overM
 simp only [e,Int.toNat_natCast,f]
 simp
theorem way_hit {k i:Nat} (hs:s<2 ^ k) (h0:0<i) (hi:i<2 ^ k):i ∉ wayN (2 ^ k+s) k→∀ m,(2 ^ k+s) / 2 ^ m≠i:=by
 intro hn m e
 by_cases h1:m=0
 ·subst h1; rw [Nat.pow_zero,Nat.div_one] at e; omega
 ·by_cases h2:m≤k
  ·exact hn (wayN_mem.2 ⟨m,by omega,h2,e.symm⟩)
  ·have h3:2 ^ (k+1)≤2 ^ m:=Nat.pow_le_pow_right (by decide) (by omega)
   rw [Nat.pow_succ] at h3
   have h4:(2 ^ k+s) / 2 ^ m=0:=Nat.div_eq_of_lt (by omega)
   omega
theorem put_has {ch:KV} {x:ByteArray} (hh:Has B d n (getA ch) top ls) (hs:s<2 ^ dep n) (hx:x.size=32):
  Has B d n (getA (putAll ch (pathN n s) (putT s x ((wayN (2 ^ dep n+s) (dep n)).map (pairD ls))).1)) (putT s x ((wayN (2 ^ dep n+s) (dep n)).map (pairD ls))).2 (ls.set s x) ∧
  ∀ v ∈ (putT s x ((wayN (2 ^ dep n+s) (dep n)).map (pairD ls))).1,v.size≤64:=by
 have e:=put_way (x:=x) hh.len hh.sz hs (dep n) (Nat.le_refl _)
 have e1:(2 ^ dep n+s) / 2 ^ dep n=1:=by
  rw [Nat.add_div_left _ (Nat.pow_pos (by decide)),Nat.div_eq_of_lt hs]
 rw [e1] at e
 have hz:∀ p ∈ ls.set s x,p.size=32:=fun p hp=>by
  rcases List.mem_or_eq_of_mem_set hp with hp | rfl
  ·exact hh.sz p hp
  ·exact hx
 have hl:(ls.set s x).length=2 ^ dep n:=by rw [List.length_set]; exact hh.len
 have ep:(wayN (2 ^ dep n+s) (dep n)).map (pairD (ls.set s x))=(pathN n s).map fun z=>pairD (ls.set s x) z.toNat:=by
  rw [hh.path hs,List.map_map]; rfl
 rw [e]
 refine ⟨⟨hh.hd,hl,hz,rfl,fun i h0 hi=>?_⟩,fun v hv=>?_⟩
 ·simp only [ep]
  unfold pairOf
  rw [getA_putAll]
  by_cases hm:(i:Int) ∈ pathN n s
  ·rw [if_pos hm]; rfl
  ·rw [if_neg hm]
   have hm2:i ∉ wayN (2 ^ dep n+s) (dep n):=fun h=>hm (by rw [hh.path hs,List.mem_map]; exact ⟨i,h,rfl⟩)
   have:=hh.pairs i h0 hi
   rw [pairD_off (by rw [hh.len]; exact hs) h0 (by rw [hh.len]; exact way_hit hs h0 hi hm2)]
   unfold pairOf at this
   exact this
 ·obtain ⟨y,hy,rfl⟩:=List.mem_map.1 hv
  have:=way_bnd hs hy
  exact Nat.le_of_eq (pairD_size hz this.1 (by rw [hl]; exact this.2))
def setL (ls:List ByteArray) (l:KV):List ByteArray:=l.foldl (fun ls p=>ls.set p.1.toNat (kindT 0 p.2)) ls
def setC (cs:List ByteArray) (l:KV):List ByteArray:=l.foldl (fun ls p=>ls.set p.1.toNat p.2) cs
def Chs (n:Int) (l:KV):Prop:=∀ p ∈ l,0≤p.1∧p.1<n∧p.2.size≤2032
theorem prepS_has:∀ {l:KV} {top:ByteArray} {ch ce:KV} {ls:List ByteArray},Has B d n (getA ch) top ls→Chs n l→OkA 64 ch→OkA 2032 ce →
  ∃ ch' ce' top',prepS B d n top ch ce l=(ch',ce',top',0)∧Has B d n (getA ch') top' (setL ls l)∧OkA 64 ch'∧OkA 2032 ce'∧∀ y c,(getA ce' y).getD c=lastW l y ((getA ce y).getD c)
 | [],top,ch,ce,ls,hh,_,o1,o2=>⟨ch,ce,top,rfl,hh,o1,o2,fun _ _=>rfl⟩
 | p::r,top,ch,ce,ls,hh,hc,o1,o2=>by
  obtain ⟨q,x⟩:=p
  have hp:=hc (q,x) (by simp)
  simp only at hp
  obtain ⟨s,rfl⟩:=Int.eq_ofNat_of_zero_le hp.1
  have hn:=dep_pow hh.hd
  have hs:s<2 ^ dep n:=by
   generalize 2 ^ dep n=w at hn ⊢
   omega
  have ho:=over_has hh hs
  obtain ⟨h1,h2⟩:=put_has (x:=kindT 0 x) hh hs (kindT_size _ _)
  have hpl:=path_le hh.hd (s:=(s:Int)) ⟨hp.1,hp.2.1⟩
  have hsm:=dep_small hh.hd
  obtain ⟨ch',ce',top',g1,g2,g3,g4,g5⟩:=prepS_has (l:=r) h1 (fun p hp=>hc p (by simp [hp])) (o1.puts hpl h2) (o2.ins (k:=(s:Int)) (v:=x) (by omega) hp.2.2)
  refine ⟨ch',ce',top',?_,g2,g3,g4,fun y c=>?_⟩
  ·rw [prepS]
   simp only [ho,Int.toNat_natCast]
   rw [if_neg (by simp)]
   exact g1
  ·rw [g5,lastW_cons,insA_get]
   congr 1
   by_cases e:y=(s:Int)
   ·rw [if_pos e,if_pos e.symm]; rfl
   ·rw [if_neg e,if_neg (fun h=>e h.symm)]
theorem setL_map (l:KV):∀ (cs:List ByteArray),setL (cs.map (kindT 0)) l=(setC cs l).map (kindT 0):=by
 induction l with
 | nil=>intro cs; rfl
 | cons p r ih=>
  intro cs
  show setL ((cs.map (kindT 0)).set p.1.toNat (kindT 0 p.2)) r=(setC (cs.set p.1.toNat p.2) r).map (kindT 0)
  rw [←List.map_set,ih]
theorem setC_len (l:KV):∀ (cs:List ByteArray),(setC cs l).length=cs.length:=by
 induction l with
 | nil=>intro cs; rfl
 | cons p r ih=>intro cs; show (setC (cs.set p.1.toNat p.2) r).length=_; rw [ih,List.length_set]
theorem sa_setC:∀ {l:KV} {cs:List ByteArray},(∀ p ∈ l,0≤p.1∧p.1<cs.length)→∀ i:Nat,sa (setC cs l) i=lastW l i (sa cs i)
 | [],cs,_,i=>rfl
 | p::r,cs,h,i=>by
  have hp:=h p (by simp)
  show sa (setC (cs.set p.1.toNat p.2) r) i=_
  rw [sa_setC (fun q hq=>by rw [List.length_set]; exact h q (by simp [hq])),lastW_cons,sa_set (by omega)]
  congr 1
  by_cases e:p.1=(i:Int)
  ·rw [if_pos e,if_pos (by omega)]
  ·rw [if_neg e,if_neg (by omega)]
structure Holds (B:BankM) (d n:Int) (top:ByteArray) (cs:List ByteArray):Prop where
 has:Has B d n (fun _=>none) top (cs.map (kindT 0))
 cell:∀ i:Nat,i<2 ^ dep n→cel B d (120+(i:Int))=sa cs i
theorem Holds.len {cs:List ByteArray} (o:Holds B d n top cs):cs.length=2 ^ dep n:=by rw [←o.has.len,List.length_map]
theorem apply_holds {ch ce:KV} {cs l:List ByteArray} (v:Lv B d) (hh:Has B d n (getA ch) top (l.map (kindT 0))) (o1:OkA 64 ch) (o2:OkA 2032 ce) (hl:l.length=2 ^ dep n)
  (hc:∀ i:Nat,i<2 ^ dep n→(getA ce i).getD (cel B d (120+(i:Int)))=sa l i):
  FitW (outs 100 ch++outs 120 ce)∧Holds (writesM B d (outs 100 ch++outs 120 ce)).2 d n top l:=by
 have fit:FitW (outs 100 ch++outs 120 ce):=by
  intro p hp
  rcases List.mem_append.1 hp with hp | hp
  ·have:=outs_mem o1 p hp; omega
  ·have:=outs_mem o2 p hp; omega
 obtain ⟨h1,h2,h3,h4,h5,h6⟩:=writesM_live v fit
 have hsm:=dep_small hh.hd
 have hn:=dep_pow hh.hd
 refine ⟨fit,⟨⟨hh.hd,hh.len,hh.sz,hh.top,fun i h0 hi=>?_⟩,fun i hi=>?_⟩⟩
 ·have hi16:(i:Int)<16:=by
   generalize 2 ^ dep n=w at hn hi
   omega
  have hp:=hh.pairs i h0 hi
  show BankM.read _ _ _ = _
  rw [read_cel h2 (by omega),h3 _ (by omega),lastW_app,lastW_outs]
  rw [lastW_none (l:=outs 120 ce) fun p hp=>by have:=outs_mem o2 p hp; omega]
  unfold pairOf at hp
  cases e:getA ch i with
  | none=>
   rw [e] at hp
   simp only at hp
   rw [read_cel v (by omega)] at hp
   exact hp
  | some p=>rw [e] at hp; exact hp
 ·have hi16:(i:Int)<16:=by
   generalize 2 ^ dep n=w at hn hi
   omega
  rw [h3 _ (by omega),lastW_app,lastW_outs,lastW_none (l:=outs 100 ch) fun p hp=>by have:=outs_mem o1 p hp; omega]
  exact hc i hi
theorem Holds.none0 {cs:List ByteArray} (o:Holds B d n top cs):Has B d n (getA []) top (cs.map (kindT 0)):=o.has
theorem prep_law {cs:List ByteArray} {l:KV} (v:Lv B d) (hk:key.size=32) (o:Holds B d n top cs) (hc:Chs n l):
  ∃ ws top',prepM B key d n top l=(ws,top',0)∧FitW ws∧ws.length≤32∧Holds (writesM B d ws).2 d n top' (setC cs l):=by
 have g:goodS B d n key:=⟨o.has.hd,hk,v.nb⟩
 have hn:=dep_pow o.has.hd
 obtain ⟨ch,ce,top',h1,h2,h3,h4,h5⟩:=prepS_has o.none0 hc (.nil 64) (.nil 2032)
 rw [setL_map] at h2
 obtain ⟨h6,h7⟩:=apply_holds (cs:=cs) v h2 h3 h4 (by rw [setC_len,o.len]) fun i hi=>by
  rw [h5,sa_setC fun p hp=>by have:=hc p hp; have:=o.len; omega,←o.cell i hi]; rfl
 refine ⟨_,top',?_,h6,?_,h7⟩
 ·have hck:checkM (goodS B d n key) n l=0:=by
   unfold checkM
   rw [if_neg (by simp [g])]
   clear h1 h2 h3 h4 h5 h6 h7
   induction l with
   | nil=>rfl
   | cons p r ih=>
    have hp:=hc p (by simp)
    rw [chkL,if_neg (by simp [mayZ_zero.2 ⟨g,hp.1,hp.2.1⟩]),if_neg (by omega)]
    exact ih fun q hq=>hc q (by simp [hq])
  unfold prepM
  rw [if_neg (by simp [hck]),h1,if_neg (by simp)]
 ·rw [List.length_append,outs_len,outs_len]
  have:=h3.len
  have:=h4.len
  omega
theorem over_holds {cs:List ByteArray} (o:Holds B d n top cs) (hs:s<2 ^ dep n):(overM B d n (fun _=>none) top s).2=(kindT 0 (sa cs s),0):=by
 rw [over_has o.has hs]
 have:s<cs.length:=by rw [o.len]; exact hs
 rw [sa_get (by rw [List.length_map]; exact this),sa_get this,List.getElem_map]
theorem get_holds {cs:List ByteArray} (v:Lv B d) (hk:key.size=32) (o:Holds B d n top cs) (hs:s<2 ^ dep n):getM B key d n top s=cellM key d s (kindT 0 (sa cs s)) (sa cs s,0):=by
 have g:goodS B d n key:=⟨o.has.hd,hk,v.nb⟩
 have hn:=dep_pow o.has.hd
 have hsm:=dep_small o.has.hd
 have h1:0≤(s:Int)∧(s:Int)<n:=by
  generalize 2 ^ dep n=w at hn hs
  omega
 unfold getM getG
 rw [if_neg (by simp [mayZ_zero.2 ⟨g,h1⟩]),over_holds o hs,if_neg (by simp),read_cel v (by omega),o.cell s hs]
theorem cell_empty {slot:Int}:cellM key d slot (kindT 0 ByteArray.empty) (ByteArray.empty,0)=(zerosT 32,0):=by
 unfold cellM leafT
 rw [if_neg (by simp),if_neg (by simp),if_pos rfl]
theorem cell_sealed {slot:Int} {nonce pl:ByteArray} (hz:nonce.size=12):cellM key d slot (kindT 0 (cellOf key d slot nonce pl)) (cellOf key d slot nonce pl,0)=(pl,0):=by
 have h1:=cellOf_size key d slot nonce pl
 unfold cellM leafT
 rw [if_neg (by simp),if_neg (by simp),if_neg (fun e=>by have e:cellOf key d slot nonce pl=ByteArray.empty:=e; rw [e] at h1; simp at h1),if_neg (by simp only; omega)]
 have e1:(cellOf key d slot nonce pl).extract 0 12=nonce:=by
  rw [cellOf,←hz]; exact ByteArray.extract_append_eq_left rfl
 have e2:(cellOf key d slot nonce pl).extract 12 (cellOf key d slot nonce pl).size=sealA key nonce (withB d slot) pl:=by
  rw [cellOf,←hz]; exact ByteArray.extract_append_eq_right rfl (by rw [ByteArray.size_append])
 simp only [e1,e2,openA_seal]
theorem blank_fit (hd:dep n≠0):FitW (blankW n):=by
 have hsm:=dep_small hd
 intro p hp
 rw [blankW,List.mem_append,List.mem_map,List.mem_map] at hp
 rcases hp with ⟨i,hi,rfl⟩ | ⟨i,hi,rfl⟩
 ·have hi:=List.mem_range.1 hi
  have:(pairD (blankL n) (i+1)).size=64:=pairD_size (blankL_size n) (by omega) (by rw [blankL_len]; omega)
  simp only
  omega
 ·have hi:=List.mem_range.1 hi
  have:ByteArray.empty.size=0:=rfl
  simp only
  omega
theorem blank_law (v:Lv B d) (hd:dep n≠0):Holds (writesM B d (blankW n)).2 d n (blankT n) (List.replicate n.toNat ByteArray.empty):=by
 obtain ⟨h1,h2,h3,h4,h5,h6⟩:=writesM_live v (blank_fit hd)
 have hsm:=dep_small hd
 have hn:=dep_pow hd
 have hN:n.toNat=2 ^ dep n:=by
  generalize 2 ^ dep n=w at hn ⊢
  omega
 have hL:(List.replicate n.toNat ByteArray.empty).map (kindT 0)=blankL n:=by rw [List.map_replicate]; rfl
 refine ⟨⟨hd,by rw [List.length_map,List.length_replicate,hN],fun p hp=>?_,?_,fun i h0 hi=>?_⟩,fun i hi=>?_⟩
 ·rw [hL] at hp; exact blankL_size n p hp
 ·rw [hL]; rfl
 ·rw [hL]
  rw [←hN] at hi
  show BankM.read _ _ _ = _
  rw [read_cel h2 (by omega),h3 _ (by omega),lastW_all (v:=pairD (blankL n) i)]
  ·intro p hp e
   rw [blankW,List.mem_append,List.mem_map,List.mem_map] at hp
   rcases hp with ⟨j,hj,rfl⟩ | ⟨j,hj,rfl⟩
   ·simp only at e ⊢
    rw [show j+1=i by omega]
   ·simp only at e
    omega
  ·refine ⟨(100+(i:Int),pairD (blankL n) i),?_,rfl⟩
   rw [blankW,List.mem_append,List.mem_map]
   refine .inl ⟨i-1,List.mem_range.2 (by omega),?_⟩
   rw [show i-1+1=i by omega]
 ·rw [←hN] at hi
  rw [h3 _ (by omega),sa_get (by rw [List.length_replicate]; exact hi),List.getElem_replicate,lastW_all (v:=ByteArray.empty)]
  ·intro p hp e
   rw [blankW,List.mem_append,List.mem_map,List.mem_map] at hp
   rcases hp with ⟨j,hj,rfl⟩ | ⟨j,hj,rfl⟩
   ·have hj:=List.mem_range.1 hj
    simp only at e ⊢
    omega
   ·rfl
  ·refine ⟨(120+(i:Int),ByteArray.empty),?_,rfl⟩
   rw [blankW,List.mem_append]
   refine .inr (List.mem_map.2 ⟨i,List.mem_range.2 hi,rfl⟩)
end
end Go.Proofs.YthegnmanjdlmjaaGreatDoor
namespace Go.Proofs.YthegnmanjdlmjaaGreatDoor
open Go.Sh Go.RowKit
section
variable {B:BankM} {d n:Int} {top key:ByteArray} {cs:List ByteArray} {k:Nat}
theorem room_writesM:∀ {l:KV} {B:BankM},B.Ok→Room B (k+l.length+1)→Room (writesM B d l).2 k
 | [],B,o,r=>by rw [writesM]; exact room_flush o.left (r.mono (by simp)) d
 | p::l,B,o,r=>by
  have h1:=room_write (k:=k+l.length+1) o.left (r.mono (by simp; omega)) d p.1 p.2
  rw [writesM]
  by_cases e:(B.write d p.1 p.2).1≠0
  ·rw [if_pos e]; exact h1.mono (by omega)
  ·rw [if_neg e]; exact room_writesM (BankM.write_ok o _ _ _) h1
theorem writesM_ok:∀ {l:KV} {B:BankM},B.Ok→(writesM B d l).2.Ok
 | [],B,o=>by rw [writesM]; exact BankM.flush_ok o d
 | p::l,B,o=>by
  rw [writesM]
  by_cases e:(B.write d p.1 p.2).1≠0
  ·rw [if_pos e]; exact BankM.write_ok o _ _ _
  ·rw [if_neg e]; exact writesM_ok (BankM.write_ok o _ _ _)
theorem applyM_good {l:KV} (g:goodS B d n key):applyM B key d n l=writesM B d l:=by unfold applyM; rw [if_neg (by simp [g])]
structure Sl (B:BankM) (d n:Int) (key top:ByteArray) (cs:List ByteArray) (k:Nat):Prop where
 lv:Lv B d
 ok:B.Ok
 rm:Room B k
 hk:key.size=32
 ho:Holds B d n top cs
theorem Sl.good (s:Sl B d n key top cs k):goodS B d n key:=⟨s.ho.has.hd,s.hk,s.lv.nb⟩
theorem Sl.hd (s:Sl B d n key top cs k):dep n≠0:=s.ho.has.hd
theorem Sl.sm (s:Sl B d n key top cs k):B.Sm:=s.lv.ti.sm
theorem two_pow_dep (hd:dep n≠0):2 ^ dep n=n.toNat:=by
 have hn:=dep_pow hd
 generalize 2 ^ dep n=w at hn ⊢
 omega
theorem Sl.len (s:Sl B d n key top cs k):cs.length=n.toNat:=by rw [s.ho.len,two_pow_dep s.hd]
theorem Sl.mono {m:Nat} (s:Sl B d n key top cs k) (h:m≤k):Sl B d n key top cs m:=⟨s.lv,s.ok,s.rm.mono h,s.hk,s.ho⟩
theorem new_disk (h01:d=0∨d=1):(BankM.new 2 140).disk d=DiskM.new 140:=by
 rcases h01 with rfl | rfl <;> rfl
theorem lv_new (h01:d=0∨d=1):Lv (BankM.new 2 140) d:=by
 have e:=new_disk h01
 refine ⟨?_,rfl,by rw [e]; rfl,by rw [e]; decide +kernel,tiny_new 2 140⟩
 rcases h01 with rfl | rfl <;> decide
theorem room_new:Room (BankM.new 2 140) 1000000:=by
 refine ⟨by decide,by decide,fun D hD=>?_⟩
 have hD:D ∈ List.replicate (mx 1 (mn 2 12)).toNat (DiskM.new 140):=hD
 rw [List.eq_of_mem_replicate hD]
 decide
theorem blankW_len (hd:dep n≠0):(blankW n).length≤32:=by
 have:=dep_small hd
 simp only [blankW,List.length_append,List.length_map,List.length_range]
 omega
theorem sl_new (hd:dep n≠0) (h01:d=0∨d=1) (hk:key.size=32):(writesM (BankM.new 2 140) d (blankW n)).1=0 ∧
  Sl (writesM (BankM.new 2 140) d (blankW n)).2 d n key (blankT n) (List.replicate n.toNat ByteArray.empty) 999000∧((writesM (BankM.new 2 140) d (blankW n)).2.disk d).W=[]:=by
 have v:=lv_new h01
 obtain ⟨h1,h2,h3,h4,h5,h6⟩:=writesM_live v (blank_fit hd)
 have:=blankW_len hd
 exact ⟨h1,⟨h2,writesM_ok (BankM.new_ok _ _),room_writesM (BankM.new_ok _ _) (room_new.mono (by omega)),hk,blank_law v hd⟩,h6⟩
theorem Sl.step (s:Sl B d n key top cs (k+40)) {l:KV} (hc:Chs n l):∃ ws top',prepM B key d n top l=(ws,top',0)∧ws.length≤32∧(writesM B d ws).1=0∧Sl (writesM B d ws).2 d n key top' (setC cs l) k∧((writesM B d ws).2.disk d).W=[]:=by
 obtain ⟨ws,top',h1,h2,h3,h4⟩:=prep_law s.lv s.hk s.ho hc
 obtain ⟨g1,g2,g3,g4,g5,g6⟩:=writesM_live s.lv h2
 exact ⟨ws,top',h1,h3,g1,⟨g2,writesM_ok s.ok,room_writesM s.ok (s.rm.mono (by omega)),s.hk,h4⟩,g6⟩
theorem Sl.get (s:Sl B d n key top cs k) {i:Nat} (hi:i<n.toNat):getM B key d n top i=cellM key d i (kindT 0 (sa cs i)) (sa cs i,0):=get_holds s.lv s.hk s.ho (by rw [two_pow_dep s.hd]; exact hi)
theorem Sl.sealed (s:Sl B d n key top cs k) {i:Nat} (hi:i<n.toNat) {nonce pl:ByteArray} (h1:nonce.size=12) (h2:pl.size=32):sealM (goodS B d n key) key d n i nonce pl=(cellOf key d i nonce pl,0):=by
 have hm:=(@mayZ_zero (goodS B d n key) _ n i).2 ⟨s.good,by omega,by omega⟩
 unfold sealM
 rw [if_neg (by simp [hm]),if_neg (by simp [h1,h2])]
def Wants (key:ByteArray) (d:Int) (cs want:List ByteArray):Prop:=cs.length=want.length∧∀ i:Nat,i<want.length→(sa want i).size=32∧((sa cs i=ByteArray.empty∧sa want i=zerosT 32)∨∃ nonce,nonce.size=12∧sa cs i=cellOf key d i nonce (sa want i))
theorem sa_rep {n i:Nat} {x:ByteArray} (h:i<n):sa (List.replicate n x) i=x:=by rw [sa_get (by simpa using h),List.getElem_replicate]
theorem wants_new (N:Nat):Wants key d (List.replicate N ByteArray.empty) (List.replicate N (zerosT 32)):=
 ⟨by simp,fun i hi=>by
  have hi:i<N:=by simpa using hi
  rw [sa_rep hi,sa_rep hi]
  exact ⟨zerosT_size 32,.inl ⟨rfl,rfl⟩⟩⟩
theorem Wants.set {want:List ByteArray} {i:Nat} {nonce pl:ByteArray} (w:Wants key d cs want) (hi:i<want.length) (h1:nonce.size=12) (h2:pl.size=32):Wants key d (cs.set i (cellOf key d i nonce pl)) (want.set i pl):=by
 refine ⟨by rw [List.length_set,List.length_set]; exact w.1,fun j hj=>?_⟩
 rw [List.length_set] at hj
 rw [sa_set hi,sa_set (by rw [w.1]; exact hi)]
 by_cases e:j=i
 ·subst e
  rw [if_pos rfl,if_pos rfl]
  exact ⟨h2,.inr ⟨nonce,h1,rfl⟩⟩
 ·rw [if_neg e,if_neg e]
  exact w.2 j hj
theorem Wants.get {want:List ByteArray} (w:Wants key d cs want) (s:Sl B d n key top cs k) {i:Nat} (hi:i<n.toNat):getM B key d n top i=(sa want i,0):=by
 rw [s.get hi]
 obtain ⟨_,⟨h1,h2⟩ | ⟨nonce,h1,h2⟩⟩:=w.2 i (by rw [←w.1,s.len]; exact hi)
 ·rw [h1,h2,cell_empty]
 ·rw [h2,cell_sealed h1]
end
end Go.Proofs.YthegnmanjdlmjaaGreatDoor
namespace Go.Proofs.YthegnmanjdlmjaaGreatDoor
open Go.Sh Go.RowKit
section
variable {h:H} {a a2:Option Addr} {l c c2:Nat} {xs:List (Int × ByteArray)}
theorem same_spec {Q:Bool→H→Prop} (f:Ro eP h a l xs) (g:Ro eP h a2 l xs) (hl9:l<1000000000) (k:Q true h):law17_sameWrites a l c a2 l c2 h Q:=by
 unfold law17_sameWrites
 have hlen:=f.len
 refine cf (by simp) ?_
 refine M.loop_of (I:=fun (i:Int) h'=>∃ m:Nat,m≤l∧i=(m:Int)∧h'=h) (μ:=fun i=>(l-i).toNat) ⟨0,by omega,rfl,rfl⟩ ?_
 rintro _ h5 J ⟨m,hm,rfl,e5⟩ hJ
 subst e5
 by_cases hlt:m<l
 ·refine cdt (by omega) ?_
  have v1:IntKind.wrap .i64 ((m:Int)+1)=((m+1:Nat):Int):=by rw [IntKind.wrap_i64]; omega
  refine M.jn ?_
  have w:=Wd.start h5
  simp only []
  refine Ro.ldP1 f (by omega) (by omega) ?_
  simp only [Int.toNat_natCast]
  refine Ro.ldP1 g (by omega) (by omega) ?_
  simp only [Int.toNat_natCast]
  refine cf (by simp [*]) ?_
  refine Ro.ldP2 f (by omega) (by omega) ?_
  simp only [Int.toNat_natCast]
  refine Ro.ldP2 g (by omega) (by omega) ?_
  simp only [Int.toNat_natCast]
  refine cf (by rw [strEq_iff.2 rfl]; rfl) ?_
  exact M.vis _ v1 (hJ _ _ ⟨m+1,by omega,rfl,rfl⟩ (by omega))
 ·exact cdf (by omega) k
end
def bW (g:Prop) [Decidable g] (n:Int):KV:=if g then blankW n else []
def bT (g:Prop) [Decidable g] (n:Int):ByteArray:=if g then blankT n else ByteArray.empty
def bE (g:Prop) [Decidable g]:Int:=if g then 0 else 4
section
variable {hx h:H} {b:Nat} {B:BankM} {d n:Int} {key:ByteArray}
theorem Blank_any {Q:Option Addr→Nat→Nat→ByteArray→Int→H→Prop} (wx:Wd hx h [bankC b B]) (tb:Tabs h) (k:∀ a c h',Wd h h' [.sl 116 2 a (bW (goodS B d n key) n).length c (eP.row (bW (goodS B d n key) n))]→Q a (bW (goodS B d n key) n).length c (bT (goodS B d n key) n) (bE (goodS B d n key)) h'):slab_Slab_Blank (some ⟨b,0,none⟩) d n key h Q:=by
 unfold bW bT bE at k
 by_cases g:goodS B d n key
 ·simp only [if_pos g] at k
  exact Blank_spec wx g tb k
 ·simp only [if_neg g] at k
  exact Blank_bad wx g tb fun h' kk=>k _ _ _ (((Wd.start h).keeps kk).nilsl _ _)
theorem rBlank_any {Q:Option Addr→Nat→Nat→ByteArray→Int→H→Prop} (wx:Wd hx h [rbankC b B]) (tb:Tabs h) (k:∀ a c h',Wd h h' [.sl 173 2 a (bW (goodS B d n key) n).length c (eP.row (bW (goodS B d n key) n))]→Q a (bW (goodS B d n key) n).length c (bT (goodS B d n key) n) (bE (goodS B d n key)) h'):ref17_Blank (some ⟨b,0,none⟩) d n key h Q:=by
 unfold bW bT bE at k
 by_cases g:goodS B d n key
 ·simp only [if_pos g] at k
  exact rBlank_spec wx g tb k
 ·simp only [if_neg g] at k
  exact rBlank_bad wx g fun h' kk=>k _ _ _ (((Wd.start h).keeps kk).nilsl _ _)
end
theorem bW_len (g:Prop) [Decidable g] {n:Int} (hg:g→dep n≠0):(bW g n).length≤32:=by
 unfold bW
 by_cases h:g
 ·rw [if_pos h]; exact blankW_len (hg h)
 ·rw [if_neg h]; simp
section
variable {h:H} {d n:Int}
theorem begin_spec {Q:Option Addr→Bool→H→Prop} {kz:List Int} (tb:Tabs h) (hz:kz.length=32)
  (k:∀ x p r h',Wd h h' [bankC p (applyM (BankM.new 2 140) (ofBytes kz) d n (bW (goodS (BankM.new 2 140) d n (ofBytes kz)) n)).2,rbankC r (applyM (BankM.new 2 140) (ofBytes kz) d n (bW (goodS (BankM.new 2 140) d n (ofBytes kz)) n)).2,
   .blk x (.cells #[.pointer (some ⟨p,0,none⟩),.int .i64 d,.int .i64 n,.string (ofBytes kz),.pointer (some ⟨r,0,none⟩),.int .i64 d,.int .i64 n,.string (ofBytes kz),.string (bT (goodS (BankM.new 2 140) d n (ofBytes kz)) n)] 42)]→Q (some ⟨x,0,none⟩) true h'):
  law17_begin n d (bvs kz).toArray h Q:=by
 unfold law17_begin law17_begin.g
 have w:=Wd.start h
 refine M.new_w w fun b3 h4 w=>?_
 refine bNew fun p h6 w'=>?_
 have w:=w.join w'
 clear w'
 refine rbNew fun r h8 w'=>?_
 have w:=w.join w'
 clear w'
 have w:=w.mv (i:=0) rfl
 try simp only [bs] at w
 refine M.join_of (fun (q:Addr) h'=>∃ x,q=⟨x,0,none⟩∧Wd h h' [bankC p (BankM.new 2 140),rbankC r (BankM.new 2 140),.blk x (.cells #[.pointer (some ⟨p,0,none⟩),.int .i64 d,.int .i64 n,.string (ofBytes kz),.pointer (some ⟨r,0,none⟩),.int .i64 d,.int .i64 n,.string (ofBytes kz),.string ByteArray.empty] 42)]) (fun J hJ=>?_) ?_
 ·have e32:ofBytes ((kz.drop 0).take 32)=ofBytes kz:=by rw [List.drop_zero,List.take_of_length_le (by omega)]
  refine M.sub_in 0 32 rfl rfl (by decide) (by decide) (by decide) ?_
  refine M.sub_in 0 32 rfl rfl (by decide) (by decide) (by decide) ?_
  refine ⟨?_,?_⟩
  all_goals
   refine M.b2s_at (w.blk 2 rfl) (by simp; omega) ?_
   refine M.b2s_at (w.blk 2 rfl) (by simp; omega) ?_
   simp only [Nat.zero_mul,Nat.add_zero,Nat.sub_zero,Nat.zero_add,e32]
   refine M.new_w w fun x h9 w=>?_
   exact hJ _ _ ⟨x,rfl,w.drop (i:=2) rfl⟩
 ·clear w
  rintro _ h9 ⟨x,rfl,w⟩
  simp only [bs,Nat.reduceAdd,lb (w.blk 2 rfl)]
  obtain ⟨hx,k0,k1,wx,wr,bk⟩:=w.on (i:=0) rfl
  refine Blank_any wx (tb.keep w.keep) fun a3 c3 h10 w'=>?_
  have w:=w.join w'
  clear w' bk wx wr k0 k1 hx
  simp only [bs,lb (w.blk 2 rfl)]
  obtain ⟨hx,k0,k1,wx,wr,bk⟩:=w.on (i:=1) rfl
  refine rBlank_any wx (tb.keep w.keep) fun a4 c4 h11 w'=>?_
  have w:=w.join w'
  clear w' bk wx wr k0 k1 hx
  have hbl:(bW (goodS (BankM.new 2 140) d n (ofBytes kz)) n).length≤32:=bW_len _ fun g=>g.1
  generalize hws:bW (goodS (BankM.new 2 140) d n (ofBytes kz)) n=ws at *
  generalize bT (goodS (BankM.new 2 140) d n (ofBytes kz)) n=tp at *
  generalize bE (goodS (BankM.new 2 140) d n (ofBytes kz))=er at *
  have rm:=room_new
  generalize BankM.new 2 140=B at *
  try simp only [bs] at w
  refine M.join_of (fun (q:Bool) h'=>q=false∧Wd h h' [bankC p (applyM B (ofBytes kz) d n ws).2,rbankC r (applyM B (ofBytes kz) d n ws).2,.blk x (.cells #[.pointer (some ⟨p,0,none⟩),.int .i64 d,.int .i64 n,.string (ofBytes kz),.pointer (some ⟨r,0,none⟩),.int .i64 d,.int .i64 n,.string (ofBytes kz),.string ByteArray.empty] 42)]) (fun J hJ=>?_) ?_
  ·refine same_spec (w.ro 3 rfl (by decide)) (w.ro 4 rfl (by decide)) (by omega) ?_
   refine cf rfl ?_
   refine cf (by rw [strEq_iff.2 rfl]; rfl) ?_
   refine cf (by simp) ?_
   simp only [bs,lb (w.blk 2 rfl)]
   have hs0:=w.blk 2 rfl
   obtain ⟨hx,k0,k1,wx,wr,back⟩:=w.on (i:=0) rfl
   refine Apply_spec wx (wr.ro 2 rfl (by decide)) (rm.mono (by omega)) (tb.keep k0) fun h12 w1=>?_
   have w:=back _ _ w1
   clear back wr wx k1 k0 hx w1
   try simp only [bs] at w
   refine M.still_at hs0 (w.blk 2 rfl) ?_
   obtain ⟨hx,k0,k1,wx,wr,back⟩:=w.on (i:=1) rfl
   refine rApply_spec wx (wr.ro 3 rfl (by decide)) (rm.mono (by omega)) fun h13 w1=>?_
   have w:=back _ _ w1
   clear back wr wx k1 k0 hx w1
   try simp only [bs] at w
   exact hJ _ _ ⟨by simp,(w.drop (i:=4) rfl).drop (i:=3) rfl⟩
  ·clear w
   rintro _ h12 ⟨rfl,w⟩
   refine cf (rfl) ?_
   refine M.put_w w 2 rfl rfl (by simp) fun h1 w=>?_
   simp only [bs] at w
   exact k _ _ _ _ w
end
end Go.Proofs.YthegnmanjdlmjaaGreatDoor
namespace Go.Proofs.YthegnmanjdlmjaaGreatDoor
open Go.Sh Go.RowKit
theorem putAll_two {v1 v2:ByteArray}:(putAll [] [1,3] [v1,v2]).length=2:=by simp [putAll,insA]
theorem prep_len3 {B:BankM} {key top c:ByteArray} {ws:KV} {tp:ByteArray} (h:prepM B key 0 4 top [(2,c)]=(ws,tp,0)):ws.length=3:=by
 unfold prepM at h
 by_cases h1:checkM (goodS B 0 4 key) 4 [(2,c)]≠0
 ·rw [if_pos h1] at h
  simp only [Prod.mk.injEq] at h
  exact absurd h.2.2 h1
 ·rw [if_neg h1] at h
  by_cases h2:(prepS B 0 4 top [] [] [(2,c)]).2.2.2≠0
  ·rw [if_pos h2] at h
   simp only [Prod.mk.injEq] at h
   exact absurd h.2.2 h2
  ·rw [if_neg h2] at h
   simp only [Prod.mk.injEq] at h
   rw [←h.1,List.length_append,outs_len,outs_len]
   simp only [prepS] at h2 ⊢
   by_cases h3:(overM B 0 4 (getA []) top 2).2.2≠0
   ·rw [if_pos h3] at h2; exact absurd h3 h2
   ·rw [if_neg h3]
    simp only
    have hl:=(over_64 (Decidable.not_not.1 h3)).1
    have e2:=putT_len 2 (kindT 0 c) (overM B 0 4 (getA []) top 2).1
    have hp:pathN 4 2=[1,3]:=by decide
    have hd:dep 4=2:=by decide
    rw [hl,hd] at e2
    show (putAll [] (pathN 4 2) (putT 2 (kindT 0 c) (overM B 0 4 (getA []) top 2).1).1).length+_ = 3
    obtain ⟨v1,v2,e⟩:∃ v1 v2,(putT 2 (kindT 0 c) (overM B 0 4 (getA []) top 2).1).1=[v1,v2]:=by
     match hm:(putT 2 (kindT 0 c) (overM B 0 4 (getA []) top 2).1).1,e2 with
     | [v1,v2],_=>exact ⟨v1,v2,rfl⟩
    rw [hp,e,putAll_two]
    rfl
theorem wakes17 {h:H} {Q:Bool→H→Prop} (tb:Tabs h) (k:∀ h',Keep h h'→Q true h'):law17_wakes h Q:=by
 unfold law17_wakes law17_wakes.g
 have hkz:Array.replicate 32 (Value.int .u8 0)=(bvs (List.replicate 32 0)).toArray:=rfl
 have kz0:(ofBytes (List.replicate 32 0)).size=32:=rfl
 have d4:dep 4≠0:=by decide
 rw [hkz]
 refine begin_spec tb (by simp) fun x p r h4 w=>?_
 generalize ofBytes (List.replicate 32 0)=key at *
 have g:goodS (BankM.new 2 140) 0 4 key:=⟨d4,kz0,by decide⟩
 obtain ⟨s1,s2,s3⟩:=sl_new (n:=4) (d:=0) d4 (.inl rfl) kz0
 have e1:bW (goodS (BankM.new 2 140) 0 4 key) 4=blankW 4:=if_pos g
 have e2:bT (goodS (BankM.new 2 140) 0 4 key) 4=blankT 4:=if_pos g
 rw [e1,e2,applyM_good g] at w
 generalize blankT 4=tp0 at *
 generalize (writesM (BankM.new 2 140) 0 (blankW 4)).2=B at *
 clear e1 e2 g s1 s3
 simp only [bs,lb (w.blk 2 rfl)]
 have hn12:ByteArray.size ⟨#[49,50,51,52,53,54,55,56,57,48,49,50]⟩=12:=rfl
 have hp32:ByteArray.size ⟨#[48,49,50,51,52,53,54,55,56,57,97,98,99,100,101,102,48,49,50,51,52,53,54,55,56,57,97,98,99,100,101,102]⟩=32:=rfl
 generalize (⟨#[49,50,51,52,53,54,55,56,57,48,49,50]⟩:ByteArray)=nonce at *
 generalize (⟨#[48,49,50,51,52,53,54,55,56,57,97,98,99,100,101,102,48,49,50,51,52,53,54,55,56,57,97,98,99,100,101,102]⟩:ByteArray)=plain at *
 have es:sealM (goodS B 0 4 key) key 0 4 2 nonce plain=(cellOf key 0 2 nonce plain,0):=s2.sealed (i:=2) (by decide) hn12 hp32
 have hcs:=cellOf_size key 0 2 nonce plain
 have wt:=(wants_new (key:=key) (d:=0) 4).set (i:=2) (by decide) hn12 hp32
 obtain ⟨hx,k0,k1,wx,wr,bk⟩:=w.on (i:=0) rfl
 refine Seal2_spec wx (tb.keep w.keep) fun h5 kk=>?_
 have w:=w.keeps kk
 clear bk wr wx k1 k0 hx
 rw [es]
 simp only
 clear es
 generalize hc:cellOf key 0 2 nonce plain=c at *
 have hch:Chs 4 [((2:Int),c)]:=fun q hq=>by
  rw [List.mem_singleton.1 hq]
  simp only
  omega
 obtain ⟨ws,tp,ep,hwl,ea,s',hW⟩:=Sl.step (k:=900000) (s2.mono (by decide)) hch
 have h3:=prep_len3 ep
 have wt:Wants key 0 (setC (List.replicate 4 ByteArray.empty) [((2:Int),c)]) ((List.replicate 4 (zerosT 32)).set 2 plain):=wt
 have g2:=wt.get s' (i:=2) (by decide)
 have g1:=wt.get s' (i:=1) (by decide)
 have q2:sa ((List.replicate 4 (zerosT 32)).set 2 plain) 2=plain:=rfl
 have q1:sa ((List.replicate 4 (zerosT 32)).set 2 plain) 1=zerosT 32:=rfl
 rw [q2] at g2
 rw [q1] at g1
 have g2:getM (writesM B 0 ws).2 key 0 4 tp 2=(plain,0):=g2
 have g1:getM (writesM B 0 ws).2 key 0 4 tp 1=(zerosT 32,0):=g1
 have hs5:=w.blk 2 rfl
 simp only [bs,lb (w.blk 2 rfl)]
 refine M.new_k w fun b2 h1 kk3 w=>?_
 refine M.still_at hs5 (w.blk 2 rfl) ?_
 refine M.still_at hs5 (w.blk 2 rfl) ?_
 have hr:Ro eP h1 (some ⟨b2,0,none⟩) 1 [((2:Int),c)]:=Ro.of_blk (w.blk 3 rfl) rfl rfl
 obtain ⟨hx,k0,k1,wx,wr,bk⟩:=w.on (i:=0) rfl
 refine Prepare_spec wx hr (by decide) s2.sm (tb.keep w.keep) fun a3 c3 h6 w'=>?_
 have w:=w.join w'
 clear bk wr wx k1 k0 hx w'
 rw [ep] at w ⊢
 simp only at w ⊢
 simp only [bs,lb (w.blk 2 rfl)]
 obtain ⟨hx,k0,k1,wx,wr,bk⟩:=w.on (i:=0) rfl
 refine Apply_spec wx (wr.ro 3 rfl (by decide)) (s2.rm.mono (by omega)) (tb.keep k0) fun h7 w1=>?_
 have w:=bk _ _ w1
 clear bk wr wx k1 k0 hx w1
 rw [applyM_good s2.good] at w ⊢
 rw [ea]
 generalize (writesM B 0 ws).2=B' at *
 try simp only [bs] at w
 simp only [bs,lb (w.blk 2 rfl)]
 obtain ⟨hx,k0,k1,wx,wr,bk⟩:=w.on (i:=0) rfl
 refine Get_spec wx s'.sm (tb.keep w.keep) fun h8 kk=>?_
 have w:=w.keeps kk
 clear bk wr wx k1 k0 hx
 rw [g2]
 simp only
 simp only [bs,lb (w.blk 2 rfl)]
 obtain ⟨hx,k0,k1,wx,wr,bk⟩:=w.on (i:=0) rfl
 refine Get_spec wx s'.sm (tb.keep w.keep) fun h9 kk=>?_
 have w:=w.keeps kk
 clear bk wr wx k1 k0 hx
 rw [g1]
 simp only
 refine M.jn ?_
 refine ct (rfl) ?_
 refine ct (rfl) ?_
 refine ct (rfl) ?_
 refine ct (rfl) ?_
 refine ct (rfl) ?_
 refine ct (strEq_iff.2 rfl) ?_
 refine M.mk_sl w (by omega) (by omega) (by omega) (by omega) rfl fun a1 h2 w=>?_
 simp only [zs] at w ⊢
 refine w.textB 5 rfl ?_
 refine ct (strEq_iff.2 rfl) ?_
 refine ct (by rw [beq_iff_eq]; omega) ?_
 have e3:(((ws.length:Nat):Int) == 3)=true:=by rw [h3]; rfl
 rw [e3]
 exact k _ w.keep
end Go.Proofs.YthegnmanjdlmjaaGreatDoor
namespace Go.Proofs.YthegnmanjdlmjaaGreatDoor
open Go.Sh Go.RowKit
theorem cbe {x y:Int} {A B:Prop} (k1:x=y→A) (k2:x≠y→B):bif x == y then A else B:=cc (fun e=>k1 (beq_iff_eq.1 e)) fun e=>k2 (beq_eq_false_iff_ne.1 e)
end Go.Proofs.YthegnmanjdlmjaaGreatDoor
namespace Go.Proofs.YthegnmanjdlmjaaGreatDoor
open Go.Sh Go.RowKit
structure Act17 where
 do_:Int
 slot:Int
 at_:Int
 data:Int
 ca:Option Addr
 cl:Nat
 cc:Nat
 top:ByteArray
def eA:Enc Act17:=⟨fun m=>[.int .i64 m.do_,.int .i64 m.slot,.int .i64 m.at_,.int .u8 m.data,.slice m.ca m.cl m.cc,.string m.top],6,fun _=>rfl,by simp [isPlainCell]⟩
theorem Ro.atA {h:H} {a:Option Addr} {l:Nat} {xs:List Act17} {z:Int} {K:Addr→Nat→Prop} (f:Ro eA h a l xs) (h0:0≤z) (h1:z<l)
  (k:∀ b m,xs[z.toNat]? = some m→h.cell ((b.add (z.toNat * 6)).add 0)=some (.int .i64 m.do_)→h.cell ((b.add (z.toNat * 6)).add 1)=some (.int .i64 m.slot)→h.cell ((b.add (z.toNat * 6)).add 2)=some (.int .i64 m.at_) →
   h.cell ((b.add (z.toNat * 6)).add 3)=some (.int .u8 m.data)→h.cell ((b.add (z.toNat * 6)).add 4)=some (.slice m.ca m.cl m.cc)→h.cell ((b.add (z.toNat * 6)).add 5)=some (.string m.top)→K b z.toNat):M.idx a l z K:=
 f.at h0 h1 fun b hi hc=>k b _ (List.getElem?_eq_getElem hi) (hc 0 (by decide)) (hc 1 (by decide)) (hc 2 (by decide)) (hc 3 (by decide)) (hc 4 (by decide)) (hc 5 (by decide))
theorem Ro.take {α:Type} {E:Enc α} {h:H} {a:Option Addr} {l:Nat} {xs:List α} (f:Ro E h a l xs) (n:Nat) (hn:n≤l):Ro E h a n (xs.take n):=
 ⟨by rw [List.length_take,f.len]; omega,fun e=>by have:=f.none e; omega,fun b e i hi=>by
  have h1:=f.row b e i (by rw [E.row_len] at hi ⊢; rw [List.length_take] at hi; exact Nat.lt_of_lt_of_le hi (Nat.mul_le_mul_right _ (Nat.min_le_right _ _)))
  rw [h1,←E.row_take]
  rw [E.row_len,List.length_take,f.len,Nat.min_eq_left hn] at hi
  rw [List.getElem?_take,if_pos hi]⟩
end Go.Proofs.YthegnmanjdlmjaaGreatDoor

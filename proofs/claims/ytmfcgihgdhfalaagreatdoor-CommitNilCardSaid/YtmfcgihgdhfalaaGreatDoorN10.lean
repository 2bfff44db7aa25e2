/- What is read of a disk's log (the program's); nonces; anchors. The program's slab: a chunk that is had, which chunks are not. The program's slab: which chunks are bad, writes that are made. The program's slab: what is written for no chunks. A map of texts as a list of pairs: what Prepare builds. The program's slab: what changes may be. What Prepare answers, in plain words. A tree of digests, in plain words: what is over a leaf, and what a leaf's change changes. The program's slab: Prepare. The slab's law in plain words: what a disk's cells have, and what is had of them. The slab's law in plain words: a slab that is begun, changed, and had. A volume in plain words: what it lies on; how it is published, found, replayed, opened, made. What a volume lies on, walked: anchors, nonces, layouts, media (the program's). -/
import Derived.Test.YtmfcgihgdhfalaaGreatDoorN09
import Derived.Test.YtmfcgihgdhfalaaGreatDoorN07
open ByteArray(empty)
open Go.IntKind(wrap)
set_option linter.unusedSimpArgs false
set_option linter.unusedVariables false
namespace Go.Proofs.YtmfcgihgdhfalaaGreatDoor
open Go.Sh Go.RowKit Classical
def nI(s:ByteArray):Option (Int×ByteArray):=
 let r:=(Rd.mk s 0).below 140
 let t:=r.2.text
 if t.2.done=0∧mM ((r.1:Int),t.1)=0 then some ((r.1:Int),t.1)else none
noncomputable def qV(xs:List ByteArray)(sum:ByteArray):List (Int×ByteArray)×Int:=
 if xs=[] then([],4)else if(jb (sa xs 0)).2≠0 then([],(jb (sa xs 0)).2)else if(jb (sa xs 0)).1>xs.length then([],3)
 else if yq (xs.take (jb (sa xs 0)).1.toNat)≠sum then([],22)
 else if ∃s∈(xs.take (jb (sa xs 0)).1.toNat).drop 1,nI s=none then([],4)
 else(((xs.take (jb (sa xs 0)).1.toNat).drop 1).map λs=>(nI s).getD (0,empty),0)
theorem qD{s:ByteArray}(h:(jb s).2=0):1≤(jb s).1∧(jb s).1≤96:=by
 have hlt:=(Rd.mk s 0).qC (b:=96) (by omega);unfold jb at h ⊢;simp only at h ⊢;split at h
 ·simp at h
 ·rename_i g;rw[if_neg g];simp only;omega
section
variable {h0 h:H}{a:Option Addr}{l c:Nat}
theorem Jx{xs:List ByteArray}{sum:ByteArray}{Q:Option Addr->Nat->Nat->Int->H->Prop}(f:Ro eS h a l xs)(hl:l≤100)(hlc:l≤c)(hz:∀s∈xs,s.size≤2048)(tb:Tabs h)
  (k:∀a' c' h',Wd h h' [.sl 261 2 a' (qV xs sum).1.length c' (eP.row (qV xs sum).1)]->Q a' (qV xs sum).1.length c' (qV xs sum).2 h'):gS a l c sum h Q:=by
 unfold gS gS.g;have hx:=f.len;have kn:∀(e:Int) h',bq h h'->qV xs sum=([],e)->Q none 0 0 e h':=λe h' k' g=>by
  rw[g]at k;exact k _ _ _ (((Wd.start h).keeps k').jt _ _)
 by_cases e0:l=0
 ·have:xs=[]:=List.length_eq_zero_iff.1 (by omega);exact ct (by simp[e0]) (kn 4 _ (bq.refl _) (by rw[qV,if_pos this]))
 have hne:xs≠[]:=λe=>by rw[e]at hx;simp at hx;omega
 have h00:=kM (xs:=xs) (i:=0) (by omega);have hz0:=hz (sa xs 0) (by rw[h00];exact List.getElem_mem _);unfold qV at k kn;rw[if_neg hne]at k kn;refine cf (by simp;omega) (f.vu (by omega) (by omega) (AB (by show(sa xs (Int.toNat 0)).size≤_;simp only[Int.reduceToNat];omega) λh1 k1=>?_));simp only[Int.reduceToNat];by_cases e1:(jb (sa xs 0)).2=0;rotate_left
 ·exact ct (by simpa using e1) (kn _ _ k1 (by rw[if_pos e1]))
 have hb:=qD e1;rw[if_neg (by simp[e1])]at k kn;refine cf (by simp[e1]) ?_;by_cases e2:(jb (sa xs 0)).1>(l:Int)
 ·exact eN e2 (kn _ _ k1 (by rw[if_pos (by rw[hx];exact e2)]))
 rw[if_neg (by rw[hx];exact e2)]at k kn;obtain⟨n,hn⟩:∃n:Nat,(jb (sa xs 0)).1=(n:Int)+1:=⟨((jb (sa xs 0)).1-1).toNat,by omega⟩;simp only[hn]at k kn hb e2 ⊢;have hn1:((n:Int)+1).toNat=n+1:=by omega
 rw[hn1]at k kn;refine gI e2 (M.Ov (by omega) (by omega) ?_);rw[hn1];refine CU ((Ro.tk f (n+1) (by omega)).keep k1) (by omega) (λs hs=>hz s (List.mem_of_mem_take hs)) (tb.keep k1) λh2 k2=>?_;have yb:=k1.trans k2;by_cases e3:yq (xs.take (n+1))=sum;rotate_left
 ·exact ct (by rw[kg];simp[e3]) (kn _ _ yb (by rw[if_pos e3]))
 rw[if_neg (by simp[e3])]at k kn;refine cf (by rw[kg];simp[e3]) ?_;generalize hys:(xs.take (n+1)).drop 1=ys at *;have hyl:ys.length=n:=by rw[←hys];simp;omega
 have hyg:∀y,(hy:y<n)->ys[y]'(by omega)=sa xs (y+1):=λy hy=>by
  subst hys;rw[kM (by omega),List.getElem_drop,List.getElem_take];congr 1;omega
 refine M.aO (λd h'=>(∀s∈ys,nI s≠none)∧d.2.1=n∧Wd h h' [.sl 261 2 d.1 d.2.1 d.2.2 (eP.row (ys.map λs=>(nI s).getD (0,empty)))]) (λJ hJ=>M.vis (n:Int) (by rw[IntKind.wrap_i64];omega) ?_) ?_
 ·refine M.aP (I:=λ(p:(Option Addr×Nat×Nat)×Int) h'=>∃y:Nat,y≤n∧p.2=(y:Int)∧(∀s∈ys.take y,nI s≠none)∧p.1.2.1=y∧Wd h h' [.sl 261 2 p.1.1 p.1.2.1 p.1.2.2 (eP.row ((ys.take y).map λs=>(nI s).getD (0,empty)))]) (μ:=λp=>(n-p.2).toNat) ⟨0,by omega,rfl,by simp,rfl,((Wd.start h).keeps yb).jt _ _⟩ ?_;rintro⟨⟨a3,l3,c3⟩,i⟩ h5 J2 ⟨y,hy,rfl,hok,hl3,w⟩ hJ2;simp only at hl3 w ⊢;subst hl3;by_cases g:l3<n
  ·have hgy:=hyg l3 g;have hzy:(sa xs (l3+1)).size≤2048:=hz _ (by rw[kM (by omega)];exact List.getElem_mem _);have hmem:sa xs (l3+1)∈ys:=by rw[←hgy];exact List.getElem_mem _
   have ht:ys.take (l3+1)=ys.take l3++[sa xs (l3+1)]:=by rw[List.take_succ_eq_append_getElem (by omega),hgy]
   refine eN (by omega) (M.vis ((l3+1:Nat):Int) (by rw[IntKind.wrap_i64];omega) ((f.keep w.keep).vu (by omega) (by omega) ?_));rw[Int.toNat_natCast];generalize sa xs (l3+1)=s at *;refine wO λb h6 w6=>?_;have w:=w.join w6;have s1:(Rd.mk s 0).rest.size≤1000000:=by show s.size≤_;omega
   have s2:=mW 140 s1;refine m7 (n:=140) w 1 rfl s1 rfl (by omega) λh7 w=>OQ w 1 rfl s2 λh8 w=>M.aK w λb3 h9 w=>⟨rfl,M.bz w 2 rfl (by simp[ag]) rfl λh10 w=>?_⟩;have hr:nI s=if((Rd.mk s 0).below 140).2.text.2.done=0∧mM ((((Rd.mk s 0).below 140).1:Int),((Rd.mk s 0).below 140).2.text.1)=0 then some ((((Rd.mk s 0).below 140).1:Int),((Rd.mk s 0).below 140).2.text.1)else none:=rfl
   generalize ((Rd.mk s 0).below 140).2.text=t at *;generalize (((Rd.mk s 0).below 140).1:Int)=m at *;refine M.aO (λd h'=>d=decide (nI s=none)∧bq h10 h') (λJ hJ=>DS w 1 rfl ?_) ?_
   ·by_cases q1:t.2.done=0
    ·have hb:=w.blk 2 rfl;refine cf (by simp[q1]) (M.gv hb rfl (M.oL hb rfl (Cv (p:=(m,t.1)) λh11 u7=>hJ _ _ ⟨?_,u7⟩)));by_cases q2:mM (m,t.1)=0
     ·rw[hr,if_pos ⟨q1,q2⟩,decide_eq_false (by simp)];simp[q2]
     ·rw[hr,if_neg (λg=>q2 g.2),decide_eq_true rfl];simpa using q2
    ·exact ct (by simpa using q1) (hJ _ _ ⟨by rw[hr,if_neg (λg=>q1 g.1),decide_eq_true rfl],bq.refl _⟩)
   rintro _ h11 ⟨rfl,u7⟩;have w:=w.keeps u7;by_cases q:nI s=none
   ·exact ct (decide_eq_true q) (kn _ _ w.keep (by rw[if_pos ⟨s,hmem,q⟩]))
   ·have hq:nI s=some (m,t.1):=by
     rw[hr];by_cases qq:t.2.done=0∧mM (m,t.1)=0
     ·rw[if_pos qq]
     ·rw[hr,if_neg qq]at q;exact absurd rfl q
    have hb:=w.blk 2 rfl;refine cf (decide_eq_false q) (M.gv hb rfl (M.oL hb rfl (Wd.push w 0 rfl rfl rfl (eP.iq [(m,t.1)]) (by omega) (by omega) λa9 c9 h12 w=>M.vis ((l3+1:Nat):Int) (by rw[IntKind.wrap_i64];omega) (hJ2 _ _ ⟨l3+1,by omega,rfl,?_,rfl,?_⟩ (by simp only[];omega)))))
    ·intro u hu;rw[ht,List.mem_append,List.mem_singleton]at hu;rcases hu with hu|rfl
     ·exact hok u hu
     ·exact q
    ·have w:=(w.drop (i:=1) rfl).drop (i:=1) rfl;rw[ht,List.map_append,eP.iX];simp only[List.map_cons,List.map_nil,hq,Option.getD_some];exact w
  ·obtain rfl:l3=n:=by omega
   rw[List.take_of_length_le (by omega)]at w hok;exact gI (by omega) (hJ (a3,l3,c3) _ ⟨hok,rfl,w⟩)
 rintro⟨a3,l3,c3⟩ h3 ⟨hok,hl3,w3⟩;simp only at hl3 w3 ⊢;subst hl3;rw[if_neg (λ⟨s,hs,g⟩=>hok s hs g)]at k;have:=k a3 c3 h3 (by rw[List.length_map,hyl];exact w3);rw[List.length_map,hyl]at this;exact this
end
end Go.Proofs.YtmfcgihgdhfalaaGreatDoor
namespace Go.Proofs.YtmfcgihgdhfalaaGreatDoor
open Go.Sh Go.RowKit
def zG(c:ByteArray):ByteArray:=dH 0 c
def Dk(key:ByteArray)(d slot:Int)(leaf:ByteArray)(c:ByteArray×Int):ByteArray×Int:=
 if c.2≠0 then(empty,c.2)else if zG c.1≠leaf then(empty,22)else if c.1=empty then(kL 32,0)
 else if c.1.size<12 then(empty,3)else ux key (c.1.extract 0 12) (zD d slot) (c.1.extract 12 c.1.size)
def NY(B:ak)(key:ByteArray)(d n:Int)(top:ByteArray)(slot:Int):ByteArray×Int:=
 if(lP B d n (λ_=>none) top slot).2.2≠0 then(empty,(lP B d n (λ_=>none) top slot).2.2)else Dk key d slot (lP B d n (λ_=>none) top slot).2.1 (B.read d (120+slot))
def getM(B:ak)(key:ByteArray)(d n:Int)(top:ByteArray)(slot:Int):ByteArray×Int:=
 if wU (iS B d n key) n slot≠0 then(empty,wU (iS B d n key) n slot)else NY B key d n top slot
section
variable {hx h:H}{b:Nat}{B:ak}{d n slot:Int}{key top:ByteArray}
theorem ML{Q:ByteArray->Int->H->Prop}(wx:Wd hx h [dO b B])(sm:B.Sm)(tb:Tabs h)(k:∀h',bq h h'->Q (getM B key d n top slot).1 (getM B key d n top slot).2 h'):fA (some ⟨b,0,none⟩) d n key top slot h Q:=by
 unfold fA fA.g;have w:=Wd.start h;have ok:=xA wx;refine M.aK w λb2 h1 w=>?_;simp only[bs,lb (w.blk 0 rfl)];refine A1 (wx.keeps w.keep) (tb.keep w.keep) λh2 k2=>?_;have w:=w.keeps k2;by_cases hm:wU (iS B d n key) n slot=0
 ·obtain⟨⟨hd,hk,hb⟩,hs⟩:=oz.1 hm;have hn:=iC hd;have hb':=ak.jX.1 hb;have hsm:=ok.small;have e1:getM B key d n top slot=NY B key d n top slot:=if_neg (by simp[hm]);rw[e1]at k;clear e1;rw[hm];refine cf rfl ?_;simp only[bs,lb (w.blk 0 rfl)];refine Dd (wx.keeps w.keep) (D5.nil _) hd hs sm (by simp) (tb.keep w.keep) λa3 c3 h3 w'=>?_;have w:=w.join w';clear w';have e1:NY B key d n top slot=if(lP B d n (λ_=>none) top slot).2.2≠0 then(empty,(lP B d n (λ_=>none) top slot).2.2)else Dk key d slot (lP B d n (λ_=>none) top slot).2.1 (B.read d (120+slot)):=rfl
  rw[e1]at k;clear e1;generalize lP B d n (λ_=>none) top slot=o at *;by_cases ho:o.2.2=0
  ·rw[if_neg (by simp[ho])]at k;refine cf (by rw[bne_eq_false_iff_eq];exact ho) ?_;have v:wrap .i64 (120+slot)=120+slot:=by rw[IntKind.wrap_i64];omega
   simp only[bs,v,lb (w.blk 0 rfl)];refine M.dN ?_;refine IT (wx.keeps w.keep) ?_;have hcs:=sm d (120+slot);generalize B.read d (120+slot)=c at *;unfold Dk at k;by_cases h0:c.2=0
   ·rw[if_neg (by simp[h0])]at k;refine cf (by rw[bne_eq_false_iff_eq];exact h0) ?_;refine yA (by omega) (tb.keep w.keep) λh4 k_=>?_;have w:=w.keeps k_;clear k_;have hlf:dH 0 c.1=zG c.1:=rfl;rw[hlf,kg];by_cases h1:zG c.1=o.2.1
    ·rw[if_neg (by simp[h1])]at k;refine cf (by simp[h1]) ?_;rw[kg];by_cases h2:c.1=empty
     ·rw[if_pos h2]at k;refine eN h2 ?_;refine uV (by omega) (by omega) λh5 k_=>?_;have w:=w.keeps k_;clear k_;exact k _ w.keep
     ·rw[if_neg h2]at k;refine gI h2 ?_;by_cases h3:c.1.size<12
      ·rw[if_pos h3]at k;exact eN (by omega) (k _ w.keep)
      ·rw[if_neg h3]at k;refine gI (by omega) ?_;have hs0:=w.blk 0 rfl;have z:=AE d slot;have z1:(c.1.extract (Int.toNat 0) (Int.toNat 12)).size=12:=by rw[ByteArray.size_extract];show min 12 _-0=12;omega
       have z2:(c.1.extract (Int.toNat 12) c.1.size).size=c.1.size-12:=by rw[ByteArray.size_extract];show min _ _-12=_;omega
       simp only[bs,lb (w.blk 0 rfl)];refine⟨(by omega),(by omega),(by omega),?_⟩;simp only[];refine⟨(by omega),(by omega),(by omega),?_⟩;simp only[Int.toNat_natCast];refine CP (by omega) (by omega) λh6 k_=>?_;have w:=w.keeps k_;clear k_;refine M.still_at hs0 (w.blk 0 rfl) ?_;refine JS (by omega) (by omega) (by omega) (by omega) λh7 k_=>?_;have w:=w.keeps k_;clear k_;exact k _ w.keep
    ·rw[if_pos h1]at k;exact ct (by simp[h1]) (k _ w.keep)
   ·rw[if_pos h0]at k;exact ct (by rw[bne_iff_ne];exact h0) (k _ w.keep)
  ·rw[if_pos ho]at k;exact ct (by rw[bne_iff_ne];exact ho) (k _ w.keep)
 ·have e1:getM B key d n top slot=(empty,wU (iS B d n key) n slot):=if_pos hm;rw[e1]at k;exact ct (by rw[bne_iff_ne];exact hm) (k _ w.keep)
end
structure Room (B:ak) (k:Nat):Prop where
 steps:B.steps+k<1000000000
 left:B.left≤9223372036854775807
 waits:∀D∈B.ds,D.W.length+k<1000000000
theorem Room.mono{B:ak}{k m:Nat}(r:Room B k)(hm:m≤k):Room B m:=⟨by have:=r.steps;omega,r.left,λD hD=>by have:=r.waits D hD;omega⟩
theorem Room.hU{B:ak}{k:Nat}(r:Room B k)(i:Int):(B.hU i).W.length<1000000000:=by
 unfold ak.hU;rw[List.getD_eq_getElem?_getD];cases e:B.ds[i.toNat]? with
 | none=>simp
 | some D=>have:=r.waits D (List.mem_of_getElem? e);simp only[Option.getD_some];omega
theorem uA(B:ak)(ok:0≤B.left):B.iU.2.steps≤B.steps+1∧B.iU.2.left≤B.left:=by
 unfold ak.iU;split
 ·exact⟨show B.steps≤B.steps+1 by omega,Int.le_refl _⟩
 ·refine⟨Int.le_refl _,?_⟩;simp only;split<;>omega
theorem Gh{B B1:ak}{k:Nat}{i:Int}{D':cP}(r:Room B (k+1))(h1:B1.ds=B.ds)(h2:B1.steps≤B.steps+1)(h3:B1.left≤B.left)(hD:D'.W.length+k<1000000000):Room (B1.set i D') k:=by
 refine⟨by have:=r.steps;simp only[ak.set];omega,by have:=r.left;simp only[ak.set];omega,λD hm=>?_⟩;simp only[ak.set,h1]at hm;rcases List.mem_or_eq_of_mem_set hm with hm|rfl
 ·have:=r.waits D hm;omega
 ·exact hD
theorem vH{B:ak}{k:Nat}(ok:0≤B.left)(r:Room B (k+1))(i at_:Int)(s:ByteArray):Room (B.write i at_ s).2 k:=by
 unfold ak.write;split
 ·exact r.mono (by omega)
 ·rename_i hb;split
  ·exact r.mono (by omega)
  ·have h1:=r.waits _ (rL hb);have h2:=(B.hU i).JL at_ s;exact Gh r B.j3 (uA B ok).1 (uA B ok).2 (by omega)
theorem GV{B:ak}{k:Nat}(ok:0≤B.left)(r:Room B (k+1))(i:Int):Room (B.flush i).2 k:=by
 unfold ak.flush;split
 ·exact r.mono (by omega)
 ·rename_i hb;split
  ·exact r.mono (by omega)
  ·have h1:=r.waits _ (rL hb);have h2:=(B.hU i).Ku;exact Gh r B.j3 (uA B ok).1 (uA B ok).2 (by omega)
def dX(B:ak)(d:Int):List (Int×ByteArray)->Int×ak
 | []=>B.flush d
 | p::r=>if(B.write d p.1 p.2).1≠0 then B.write d p.1 p.2 else dX (B.write d p.1 p.2).2 d r
def jN(B:ak)(key:ByteArray)(d n:Int)(l:List (Int×ByteArray)):Int×ak:=if ¬iS B d n key then(4,B)else dX B d l
theorem Af{xs:List (Int×ByteArray)}{m:Nat}(h:m<xs.length):xs.drop m=pa xs m::xs.drop (m+1):=by rw[wK h,←List.drop_eq_getElem_cons h]
section
variable {h0 h:H}{b:Nat}{B:ak}{d n slot:Int}{key top:ByteArray}{xs:List (Int×ByteArray)}{a:Option Addr}{l c:Nat}
theorem vR{Q:Int->H->Prop}(w0:Wd h0 h [dO b B])(f:Ro eP h0 a l xs)(rm:Room B (xs.length+1))(tb:Tabs h0)(k:∀h',Wd h0 h' [dO b (jN B key d n xs).2]->Q (jN B key d n xs).1 h'):bB (some ⟨b,0,none⟩) d n key a l c h Q:=by
 unfold bB;have w:=w0;have hlen:=f.len;have ok:=xA w0;have hl9:l<1000000000:=by have:=rm.steps;have:=ok.Qx;omega
 refine M.aK w λb2 h1 w=>?_;simp only[bs,lb (w.blk 1 rfl)];obtain⟨hx,k0,k1,wx,wr,_⟩:=w.on (i:=0) rfl;refine rV wx (tb.keep w.keep) λh2 k2=>?_;have w:=w.keeps k2;unfold jN at k;by_cases g:iS B d n key
 ·rw[if_neg (by simp[g])]at k;refine cf (by simp[g]) (M.jn ?_)
  refine M.aP (I:=λ(i:Int) h'=>∃(m:Nat) (B':ak),m≤l∧i=(m:Int)∧Room B' (xs.length-m+1)∧dX B d xs=dX B' d (xs.drop m) ∧
   Wd h0 h' [dO b B',.blk b2 (.cells #[.pointer (some ⟨b,0,none⟩),.int .i64 d,.int .i64 n,.string key] 126)]) (μ:=λi=>(l-i).toNat) ⟨0,B,by omega,rfl,rm,rfl,w⟩ ?_
  clear w wx wr;rintro _ h3 J ⟨m,B',hm,rfl,rm',hw,w⟩ hJ;by_cases hlt:m<l
  ·refine eN (by omega) ?_;have v1:wrap .i64 ((m:Int)+1)=((m+1:Nat):Int):=by rw[IntKind.wrap_i64];omega
   refine Ro.RD (f.keep w.keep) (by omega) (by omega) ?_;refine M.aK w λb5 h4 w=>?_;refine⟨(rfl),?_⟩;refine M.bz w 2 rfl (by simp[ag]) (by simp) λh6 w=>?_;simp only[bs,Int.toNat_natCast]at w;simp only[bs,lb (w.blk 1 rfl),lb (w.blk 2 rfl)];obtain⟨hx,k0,k1,wx,wr,back⟩:=w.on (i:=0) rfl;have ok':=xA wx;rw[Af (by omega),dX]at hw;refine GY wx (by have:=rm'.steps;omega) rm'.left (rm'.hU d) λh7 w1=>?_;have w:=back _ _ w1;simp only[bs]at w;by_cases e:(B'.write d (pa xs m).1 (pa xs m).2).1=0
   ·rw[if_neg (by simp[e])]at hw;refine cf (by rw[bne_eq_false_iff_eq];exact e) (M.vis _ v1 ?_);exact hJ _ _ ⟨m+1,_,by omega,rfl,(vH ok'.left rm' d _ _).mono (by omega),hw,w.drop (i:=2) rfl⟩ (by omega)
   ·rw[if_pos e]at hw;rw[hw]at k;exact ct (by rw[bne_iff_ne];exact e) (k _ ((w.drop (i:=1) rfl).drop (i:=1) rfl))
  ·refine gI (by omega) ?_;simp only[bs,lb (w.blk 1 rfl)];obtain⟨hx,k0,k1,wx,wr,back⟩:=w.on (i:=0) rfl;rw[List.drop_of_length_le (by omega),dX]at hw;rw[hw]at k;refine HT wx (by have:=rm'.steps;omega) rm'.left λh7 w1=>?_;have w:=back _ _ w1;exact k _ (w.drop (i:=1) rfl)
 ·rw[if_pos g]at k;exact ct (by simp[g]) (k _ (w.drop (i:=1) rfl))
end
section
variable {h:H}{n:Int}{s:ByteArray}
theorem JY{Q:Int->Int->H->Prop}(hd:dep n≠0)(k:Q 0 n h):fB 1 n h Q:=by
 unfold fB;unfold fM;rcases oE hd with rfl|rfl|rfl|rfl
 ·refine M.vis (1) (by decide) ?_;refine⟨(by omega),?_⟩;refine M.vis (0) (by decide) ?_;refine M.vis (2) (by decide) ?_;refine⟨(by omega),?_⟩;refine M.vis (0) (by decide) ?_;refine M.vis (2) (by decide) ?_;refine M.vis (0) (by decide) ?_;refine⟨(by omega),?_⟩;refine M.vis (0) (by decide) ?_;refine M.vis (0) (by decide) ?_;refine M.vis (0) (by decide) ?_;refine⟨(by omega),?_⟩;refine M.vis (0) (by decide) ?_;refine M.vis (0) (by decide) ?_;refine M.vis (0) (by decide) ?_;refine M.vis (0) (by decide) ?_;refine M.vis (0) (by decide) ?_;refine⟨(by omega),?_⟩;refine M.vis (0) (by decide) ?_;refine M.vis (0) (by decide) ?_;refine M.vis (2) (by decide) ?_;exact k
 ·refine M.vis (1) (by decide) ?_;refine⟨(by omega),?_⟩;refine M.vis (0) (by decide) ?_;refine M.vis (4) (by decide) ?_;refine⟨(by omega),?_⟩;refine M.vis (0) (by decide) ?_;refine M.vis (4) (by decide) ?_;refine M.vis (0) (by decide) ?_;refine⟨(by omega),?_⟩;refine M.vis (0) (by decide) ?_;refine M.vis (0) (by decide) ?_;refine M.vis (0) (by decide) ?_;refine⟨(by omega),?_⟩;refine M.vis (0) (by decide) ?_;refine M.vis (0) (by decide) ?_;refine M.vis (0) (by decide) ?_;refine M.vis (0) (by decide) ?_;refine M.vis (0) (by decide) ?_;refine⟨(by omega),?_⟩;refine M.vis (0) (by decide) ?_;refine M.vis (0) (by decide) ?_;refine M.vis (4) (by decide) ?_;exact k
 ·refine M.vis (1) (by decide) ?_;refine⟨(by omega),?_⟩;refine M.vis (0) (by decide) ?_;refine M.vis (8) (by decide) ?_;refine⟨(by omega),?_⟩;refine M.vis (0) (by decide) ?_;refine M.vis (8) (by decide) ?_;refine M.vis (0) (by decide) ?_;refine⟨(by omega),?_⟩;refine M.vis (0) (by decide) ?_;refine M.vis (0) (by decide) ?_;refine M.vis (0) (by decide) ?_;refine⟨(by omega),?_⟩;refine M.vis (0) (by decide) ?_;refine M.vis (0) (by decide) ?_;refine M.vis (0) (by decide) ?_;refine M.vis (0) (by decide) ?_;refine M.vis (0) (by decide) ?_;refine⟨(by omega),?_⟩;refine M.vis (0) (by decide) ?_;refine M.vis (0) (by decide) ?_;refine M.vis (8) (by decide) ?_;exact k
 ·refine M.vis (1) (by decide) ?_;refine⟨(by omega),?_⟩;refine M.vis (0) (by decide) ?_;refine M.vis (16) (by decide) ?_;refine⟨(by omega),?_⟩;refine M.vis (0) (by decide) ?_;refine M.vis (16) (by decide) ?_;refine M.vis (0) (by decide) ?_;refine⟨(by omega),?_⟩;refine M.vis (0) (by decide) ?_;refine M.vis (0) (by decide) ?_;refine M.vis (0) (by decide) ?_;refine⟨(by omega),?_⟩;refine M.vis (0) (by decide) ?_;refine M.vis (0) (by decide) ?_;refine M.vis (0) (by decide) ?_;refine M.vis (0) (by decide) ?_;refine M.vis (0) (by decide) ?_;refine⟨(by omega),?_⟩;refine M.vis (0) (by decide) ?_;refine M.vis (0) (by decide) ?_;refine M.vis (16) (by decide) ?_;exact k
theorem Gv(xs vs:List Value)(o:Nat)(h:o+vs.length≤xs.length):splice xs.toArray o vs=(xs.take o++vs++xs.drop (o+vs.length)).toArray:=by
 apply Array.ext_getElem?;intro x;rw[nB _ _ _ (by simpa using h)];simp only[List.getElem?_toArray];by_cases hx:o≤x∧x<o+vs.length
 ·rw[if_pos hx,List.getElem?_append_left (by simp;omega),List.getElem?_append_right (by simp;omega)];congr 1;simp;omega
 ·rw[if_neg hx];by_cases h1:x<o
  ·rw[List.getElem?_append_left (by simp;omega),List.getElem?_append_left (by simp;omega),List.getElem?_take,if_pos h1]
  ·rw[List.getElem?_append_right (by simp;omega),List.getElem?_drop];congr 1;simp;omega
def um(s:ByteArray)(d n:Nat):List Value:=List.replicate d (.string s)++List.replicate (n-d) (.string empty)
theorem BC(s:ByteArray)(d n:Nat)(h:d≤n):(um s d n).length=n:=by simp[um];omega
theorem CV(s:ByteArray)(d n m:Nat)(h:d+m≤n):splice (um s d n).toArray d (List.replicate m (.string s))=(um s (d+m) n).toArray:=by
 rw[Gv _ _ _ (by rw[BC _ _ _ (by omega),List.length_replicate];exact h)];congr 1;have e1:(um s d n).take d=List.replicate d (.string s):=by rw[um,List.take_append_of_le_length (by simp),List.take_of_length_le (by simp)]
 have e2:(um s d n).drop (d+(List.replicate m (Value.string s)).length)=List.replicate (n-(d+m)) (.string empty):=by
  rw[um,List.drop_append,List.drop_of_length_le (by simp),List.nil_append,List.drop_replicate];congr 1;simp;omega
 rw[e1,e2,List.replicate_append_replicate,um]
theorem Ka(s:ByteArray)(d n m:Nat)(h:m≤d):((um s d n).drop 0).take m=List.replicate m (.string s):=by
 rw[List.drop_zero,um,List.take_append_of_le_length (by simpa using h),List.take_replicate,Nat.min_eq_left h]
theorem DQ{b:Nat}{f:Nat×Nat}{Q:Option Addr->Nat->Nat->H->Prop}(hb:h b=some (.cells #[.string s] 9 f))(hd:dep n≠0)(k:∀a c h',Wd h h' [.sl 9 1 a n.toNat c (eS.row (List.replicate n.toNat s))]->Q a n.toNat c h'):
  aI (some ⟨b,0,none⟩) 1 1 n h Q:=by
 unfold aI;have w:=Wd.start h;have hn:=iC hd;refine M.jn (gI (by omega) (M.vis 1 rfl (M.vis n (nq (by omega) (by omega)) ?_)));refine JY hd ?_;refine M.jn ?_;refine M.jn ?_;refine gI (by omega) ?_;refine gI (by omega) ?_;refine M.vis n (qJ (by omega) (by omega)) ?_;refine M.zM w (by omega) (by omega) (by omega) (by omega) λb2 h2 w=>?_;obtain⟨N,rfl⟩:=Int.eq_ofNat_of_zero_le (show 0≤n by omega);simp only[Int.toNat_natCast]at w k ⊢;have e0:gx [Value.string empty] N=List.replicate N (.string empty):=by rw[zs.1,MX,List.map_replicate]
 rw[e0]at w;rw[Nat.min_eq_left (show 1≤N by omega)];refine M.wX (w.keep _ _ hb) (by simp) ?_;have ec:splice (List.replicate N (Value.string empty)).toArray 0 ((((#[Value.string s]:Array Value).toList).drop 0).take (1*1))=(um s 1 N).toArray:=by
  have:=CV s 0 N 1 (by omega);have e:um s 0 N=List.replicate N (.string empty):=by simp[um]
  rw[e]at this;exact this
 refine M.vM w 0 rfl (by simp[ag]) (by simp;omega) λh3 w=>?_;simp only[List.nil_append,List.set_cons_zero]at w;rw[ec]at w;refine M.aP (I:=λ(i:Int) h'=>∃d:Nat,1≤d∧d≤N∧i=(d:Int)∧Wd h h' [.blk b2 (.cells (um s d N).toArray 9)]) (μ:=λi=>(N-i).toNat) ⟨1,by omega,by omega,rfl,w⟩ ?_;clear w;rintro _ h4 J ⟨d,d1,d2,rfl,w⟩ hJ;by_cases hlt:d<N
 ·refine eN (by omega) ?_;refine M.sx d N rfl rfl (by omega) (by omega) (by omega) ?_;refine M.Ov (by omega) (by omega) ?_;simp only[Int.toNat_natCast,Nat.zero_add,Nat.mul_one];obtain⟨m,hm⟩:∃m,min d (N-d)=m:=⟨_,rfl⟩;rw[hm];refine M.wX (w.blk 0 rfl) (by rw[List.size_toArray,BC _ _ _ d2];omega) ?_;rw[List.toList_toArray,Ka _ _ _ _ (by omega)];refine M.vM w 0 rfl (by simp[ag]) (by rw[List.size_toArray,BC _ _ _ d2,List.length_replicate];omega) λh5 w=>?_;rw[CV _ _ _ _ (by omega)]at w;refine M.vis ((d+m:Nat):Int) (by rw[IntKind.wrap_i64];omega) ?_;exact hJ _ _ ⟨d+m,by omega,by omega,rfl,w⟩ (by omega)
 ·refine gI (by omega) ?_;obtain rfl:d=N:=by omega
  have hcs:(um s d d).toArray=(eS.row (List.replicate d s)).toArray:=by
   rw[MX,List.map_replicate,um,Nat.sub_self,List.replicate_zero,List.append_nil]
  have w:=w.LR (E:=eS) 0 rfl hcs List.length_replicate;exact k _ _ _ w
end
def j5(n:Int):List ByteArray:=List.replicate n.toNat (zG empty)
def jQ(n:Int):List (Int×ByteArray):=((List.range (n.toNat-1)).map λi=>(100+((i+1:Nat):Int),fU (j5 n) (i+1)))++(List.range n.toNat).map λi=>(120+((i:Nat):Int),empty)
def jx(n:Int):ByteArray:=iz (j5 n) 1
theorem ox(n:Int):(j5 n).length=n.toNat:=by simp[j5]
theorem oM(n:Int):∀p∈j5 n,p.size=32:=by
 intro p hp;rw[(List.mem_replicate.1 hp).2];exact jJ _ _
section
variable {hx h:H}{b:Nat}{B:ak}{d n slot:Int}{key top:ByteArray}
theorem Qs{Q:Option Addr->Nat->Nat->ByteArray->Int->H->Prop}(wx:Wd hx h [dO b B])(g:¬iS B d n key)(tb:Tabs h)(k:∀h',bq h h'->Q none 0 0 empty 4 h'):bU (some ⟨b,0,none⟩) d n key h Q:=by
 unfold bU bU.g;have w:=Wd.start h;refine M.aK w λb2 h1 w=>?_;simp only[bs,Nat.reduceMul,lb (w.blk 0 rfl)];refine rV (wx.keeps w.keep) (tb.keep w.keep) λh2 k2=>?_;exact ct (by simp[g]) (k _ (w.keep.trans k2))
theorem Bl{Q:Option Addr->Nat->Nat->ByteArray->Int->H->Prop}(wx:Wd hx h [dO b B])(g:iS B d n key)(tb:Tabs h)(k:∀a c h',Wd h h' [.sl 261 2 a (jQ n).length c (eP.row (jQ n))]->Q a (jQ n).length c (jx n) 0 h'):bU (some ⟨b,0,none⟩) d n key h Q:=by
 unfold bU bU.g;have w:=Wd.start h;have hn:=iC g.1;refine M.aK w λb2 h1 w=>?_;simp only[bs,Nat.reduceMul,lb (w.blk 0 rfl)];refine rV (wx.keeps w.keep) (tb.keep w.keep) λh2 k2=>?_;have w:=w.keeps k2;refine cf (by simp[g]) ?_;have hs0:=w.blk 0 rfl;have esz:ByteArray.empty.size=0:=rfl;simp only[bs,lb (w.blk 0 rfl)];refine yA (by omega) (tb.keep w.keep) λh3 k_=>?_;have w:=w.keeps k_;clear k_;refine M.still_at hs0 (w.blk 0 rfl) ?_;refine M.qz w λb5 h4 kk6 w=>?_;refine M.still_at hs0 (w.blk 0 rfl) ?_;refine DQ (w.blk 1 rfl) g.1 λa3 c3 h5 w'=>?_;have w:=w.join w';clear w';have hN:n=(n.toNat:Int):=by omega
 have eb:eS.row (List.replicate n.toNat (dH 0 empty))=eS.row (j5 n):=rfl;rw[eb]at w;have hdN:dep (n.toNat:Int)≠0:=by rw[←hN];exact g.1
 refine HC (w.ro 2 rfl (by decide)) hdN (oM n) (tb.keep w.keep) λa4 c4 h6 w'=>?_;have w:=w.join w';clear w';have hbl:(mS (j5 n)).length=n.toNat:=by simp[mS,ox]
 have w:=((w.drop (i:=1) rfl).drop (i:=1) rfl);have hat:∀i,0<i->i<n.toNat->sa (mS (j5 n)) i=fU (j5 n) i:=by
  intro i h0 h1;rw[mS,rE _ (by rw[ox];exact h1),if_neg (by omega)]
 have htop:iz (j5 n) 1=jx n:=rfl;rw[htop];generalize hW1:(λi:Nat=>((100+((i+1:Nat):Int),fU (j5 n) (i+1)):Int×ByteArray))=W1 at *;generalize hW2:(λi:Nat=>((120+((i:Nat):Int),empty):Int×ByteArray))=W2 at *;have hbw:jQ n=(List.range (n.toNat-1)).map W1++(List.range n.toNat).map W2:=by rw[jQ,←hW1,←hW2]
 rw[hbw]at k;generalize jx n=tp at *;generalize mS (j5 n)=bp at *;generalize hNN:n.toNat=N at *;refine M.jn ?_
 refine M.aP (I:=λ(p:(Option Addr×Nat×Nat)×Int) h'=>∃m:Nat,m+1≤N∧p.2=((m+1:Nat):Int)∧p.1.2.1=m ∧
   Wd h h' [.blk b2 (.cells #[.pointer (some ⟨b,0,none⟩),.int .i64 d,.int .i64 n,.string key] 126),.sl 9 1 a4 N c4 (eS.row bp),.sl 261 2 p.1.1 p.1.2.1 p.1.2.2 (eP.row ((List.range m).map W1))]) (μ:=λp=>(N-p.2).toNat) ⟨0,by omega,rfl,rfl,w.jt _ _⟩ ?_
 clear w;rintro⟨⟨a5,l5,c5⟩,_⟩ h7 J ⟨m,hm,hi,hl,w⟩ hJ;simp only at hi hl w ⊢;subst hi hl;simp only[bs,lb (w.blk 0 rfl)];by_cases hlt:l5+1<N
 ·refine eN (by omega) ?_;have v1:wrap .i64 (((l5+1:Nat):Int)+1)=((l5+1+1:Nat):Int):=by rw[IntKind.wrap_i64];omega
  have v2:wrap .i64 (100+((l5+1:Nat):Int))=100+((l5+1:Nat):Int):=by rw[IntKind.wrap_i64];omega
  have ha:=hat (l5+1) (by omega) hlt;simp only[v1,v2];refine M.dN ?_;refine Ro.vu (w.ro 1 rfl (by decide)) (by omega) (by omega) ?_;refine Wd.push w 2 rfl rfl rfl (by simp[ag]) (by omega) (by omega) λa10 c11 h8 w=>?_;refine M.dN ?_;simp only[Int.toNat_natCast,ha]at w;refine hJ _ _ ⟨l5+1,by omega,rfl,rfl,?_⟩ (by simp only;omega);rw[List.range_succ,List.map_append,eP.iX];have:eP.row (List.map W1 [l5])=[.int .i64 (100+((l5+1:Nat):Int)),.string (fU (j5 n) (l5+1))]:=by rw[←hW1];rfl
  rw[this];exact w
 ·refine gI (by omega) ?_;have hl5:l5=N-1:=by omega
  rw[←hl5]at k;clear hJ J;refine M.jn ?_
  refine M.aP (I:=λ(p:(Option Addr×Nat×Nat)×Int) h'=>∃m:Nat,m≤N∧p.2=(m:Int)∧p.1.2.1=l5+m ∧
   Wd h h' [.blk b2 (.cells #[.pointer (some ⟨b,0,none⟩),.int .i64 d,.int .i64 n,.string key] 126),.sl 9 1 a4 N c4 (eS.row bp),.sl 261 2 p.1.1 p.1.2.1 p.1.2.2 (eP.row ((List.range l5).map W1++(List.range m).map W2))]) (μ:=λp=>(N-p.2).toNat) ⟨0,by omega,rfl,rfl,by simpa using w⟩ ?_
  clear w;rintro⟨⟨a6,l6,c6⟩,_⟩ h8 J ⟨m,hm2,hi,hl,w⟩ hJ;simp only at hi hl w ⊢;subst hi hl;by_cases hlt2:m<N
  ·refine eN (by omega) ?_;have v1:wrap .i64 ((m:Int)+1)=((m+1:Nat):Int):=by rw[IntKind.wrap_i64];omega
   have v2:wrap .i64 (120+(m:Int))=120+(m:Int):=by rw[IntKind.wrap_i64];omega
   simp only[v1,v2];refine M.dN ?_;refine Wd.push w 2 rfl rfl rfl (by simp[ag]) (by omega) (by omega) λa11 c12 h9 w=>?_;refine M.dN ?_;refine hJ _ _ ⟨m+1,by omega,rfl,by simp only;omega,?_⟩ (by simp only;omega);rw[List.range_succ,List.map_append,←List.append_assoc,eP.iX];have:eP.row (List.map W2 [m])=[.int .i64 (120+(m:Int)),.string empty]:=by rw[←hW2];rfl
   rw[this];exact w
  ·refine gI (by omega) ?_;obtain rfl:m=N:=by omega
   have:=k a6 c6 h8;simp only[List.length_append,List.length_map,List.length_range]at this;exact this ((w.drop (i:=0) rfl).drop (i:=0) rfl)
end
def qf:List MapEntry->List (Int×ByteArray)->Prop
 | [],[]=>True
 | e::l,q::r=>e.key = .int .i64 q.1∧e.val = .string q.2∧qf l r
 | _,_=>False
def kG:List (Int×ByteArray)->Int->Option ByteArray
 | [],_=>none
 | q::r,k=>if k=q.1 then some q.2 else kG r k
def o8:List (Int×ByteArray)->Int->ByteArray->List (Int×ByteArray)
 | [],k,v=>[(k,v)]
 | q::r,k,v=>if k=q.1 then(k,v)::r else q::o8 r k v
theorem AM{k:Int}{v:ByteArray}:∀{m:List (Int×ByteArray)} {x:Int},kG (o8 m k v) x=if x=k then some v else kG m x
 | [],x=>by simp only[o8,kG]
 | q::r,x=>by
  unfold o8;by_cases h:k=q.1
  ·rw[if_pos h];simp only[kG];by_cases hx:x=k
   ·rw[if_pos hx,if_pos hx]
   ·rw[if_neg hx,if_neg hx,if_neg (λe=>hx (e.trans h.symm))]
  ·rw[if_neg h];simp only[kG];by_cases hx:x=q.1
   ·rw[if_pos hx,if_pos hx,if_neg (λe=>h (e.symm.trans hx))]
   ·rw[if_neg hx,if_neg hx];exact AM
theorem CA{k:Int}{v:ByteArray}:∀{m:List (Int×ByteArray)},(o8 m k v).map (·.1)=if k∈m.map (·.1)then m.map (·.1)else m.map (·.1)++[k]
 | []=>by simp[o8]
 | q::r=>by
  unfold o8;by_cases h:k=q.1
  ·rw[if_pos h];simp[h]
  ·rw[if_neg h,List.map_cons,CA,List.map_cons];by_cases h2:k∈r.map (·.1)
   ·rw[if_pos h2,if_pos (List.mem_cons_of_mem _ h2)]
   ·rw[if_neg h2,if_neg (by simp only[List.mem_cons,not_or];exact⟨h,h2⟩)];rfl
theorem HU{k:Int}{v:ByteArray}{m:List (Int×ByteArray)}(h:(m.map (·.1)).Nodup):((o8 m k v).map (·.1)).Nodup:=by
 rw[CA];by_cases h2:k∈m.map (·.1)
 ·rw[if_pos h2];exact h
 ·rw[if_neg h2,List.nodup_append];exact⟨h,by simp,λa ha b hb e=>h2 (by rw[List.mem_singleton.1 hb]at e;rw[←e];exact ha)⟩
theorem Gs{p:Int×ByteArray->Prop}{k:Int}{v:ByteArray}(hk:p (k,v)):∀{m:List (Int×ByteArray)},(∀q∈m,p q)->∀q∈o8 m k v,p q
 | [],_,q,hq=>by simp only[o8,List.mem_singleton]at hq;rw[hq];exact hk
 | a::r,h,q,hq=>by
  unfold o8 at hq;by_cases e:k=a.1
  ·rw[if_pos e,List.mem_cons]at hq;rcases hq with rfl|hq
   ·exact hk
   ·exact h _ (by simp[hq])
  ·rw[if_neg e,List.mem_cons]at hq;rcases hq with rfl|hq
   ·exact h _ (by simp)
   ·exact Gs hk (λq hq=>h q (by simp[hq])) q hq
theorem qf.len:∀{l:List MapEntry} {m:List (Int×ByteArray)},qf l m->l.length=m.length
 | [],[],_=>rfl
 | _ :: _,_ :: _,h=>congrArg (· + 1) (qf.len h.2.2)
theorem qf.keys:∀{l:List MapEntry} {m:List (Int×ByteArray)},qf l m->l.map (·.key)=m.map λq=>Value.int .i64 q.1
 | [],[],_=>rfl
 | _ :: _,_ :: _,h=>by rw[List.map_cons,List.map_cons,h.1,qf.keys h.2.2]
theorem qf.ok:∀{l:List MapEntry} {m:List (Int×ByteArray)},qf l m->∀e∈l,Qp e.key
 | [],[],_,e,he=>by simp at he
 | a::l,q::m,h,e,he=>by
  rcases List.mem_cons.1 he with rfl|he
  ·exact⟨_,h.1⟩
  ·exact qf.ok h.2.2 e he
theorem qf.find{k:Int}:∀{l:List MapEntry} {m:List (Int×ByteArray)} {i:Nat},qf l m->(ic (.int .i64 k) l i).map (·.2)=(kG m k).map Value.string
 | [],[],i,_=>rfl
 | e::l,q::m,i,h=>by
  unfold ic kG;rw[h.1];by_cases hk:k=q.1
  ·rw[if_pos (by rw[hk]),if_pos hk,Option.map_some,Option.map_some,h.2.1]
  ·rw[if_neg (by simpa using hk),if_neg hk];exact qf.find h.2.2
theorem qf.ins{k:Int}{v:ByteArray}{c:Nat}:∀{l:List MapEntry} {m:List (Int×ByteArray)} {i:Nat},qf l m->match ic (.int .i64 k) l i with
  | some (j,_)=>i≤j∧qf (l.modify (j-i) λe=>{ e with key:=.int .i64 k,val:=.string v }) (o8 m k v)
  | none=>qf (l++[{ key:=.int .i64 k,val:=.string v,born:=c }]) (o8 m k v)
 | [],[],i,_=>⟨rfl,rfl,trivial⟩
 | e::l,q::m,i,h=>by
  unfold ic o8;rw[h.1];by_cases hk:k=q.1
  ·rw[if_pos (by rw[hk]),if_pos hk];simp only[Nat.sub_self,List.modify_zero_cons,Nat.le_refl,true_and];exact⟨rfl,rfl,h.2.2⟩
  ·rw[if_neg (by simpa using hk),if_neg hk];have:=qf.ins (k:=k) (v:=v) (c:=c) (i:=i+1) h.2.2;cases hf:ic (.int .i64 k) l (i+1)with
   | none=>rw[hf]at this;exact⟨h.1,h.2.1,this⟩
   | some p=>
    rw[hf]at this;obtain⟨j,u⟩:=p;simp only at this ⊢;refine⟨by omega,?_⟩;rw[show j-i=(j-(i+1))+1 by omega,List.modify_succ_cons];exact⟨h.1,h.2.1,this.2⟩
theorem qH.nil(c:Nat):qH [] c:=⟨by simp,by simp⟩
theorem qH.push{l:List MapEntry}{c:Nat}(h:qH l c)(k v:Value):qH (l++[{ key:=k,val:=v,born:=c }]) (c+1):=by
 refine⟨λx hx=>?_,?_⟩
 ·rcases List.mem_append.1 hx with hx|hx
  ·exact Nat.lt_succ_of_lt (h.1 x hx)
  ·rw[List.mem_singleton.1 hx];exact Nat.lt_succ_self c
 ·rw[List.map_append,List.nodup_append];refine⟨h.2,by simp,λa ha b hb e=>?_⟩;obtain⟨x,hx,rfl⟩:=List.mem_map.1 ha;have hb2:b=c:=by simpa using hb
  have:=h.1 x hx;omega
theorem yW(k v:Value):∀(l:List MapEntry) (j:Nat),(l.modify j λe=>{ e with key:=k,val:=v }).map (·.born)=l.map (·.born)
 | [],j=>by cases j<;>rfl
 | _ :: _,0=>rfl
 | e::l,j+1=>by rw[List.modify_succ_cons,List.map_cons,List.map_cons,yW k v l j]
theorem qH.modify{l:List MapEntry}{c:Nat}(h:qH l c)(k v:Value)(j:Nat):qH (l.modify j λe=>{ e with key:=k,val:=v }) c:=by
 have hb:=yW k v l j;refine⟨λx hx=>?_,by rw[hb];exact h.2⟩;have:x.born∈(l.modify j λe=>{ e with key:=k,val:=v }).map (·.born):=List.mem_map.2 ⟨x,hx,rfl⟩
 rw[hb]at this;obtain⟨y,hy,e⟩:=List.mem_map.1 this;rw[←e];exact h.1 y hy
theorem nW{k:Value}:∀{l:List MapEntry} {i j:Nat},(ic k l i).map (·.2)=(ic k l j).map (·.2)
 | [],_,_=>rfl
 | e::r,i,j=>by
  unfold ic;by_cases h:k=e.key
  ·rw[if_pos h,if_pos h];rfl
  ·rw[if_neg h,if_neg h];exact nW
def By(b:Nat)(m:List (Int×ByteArray)):Chunk:=Wd.obj (α:=Array MapEntry×Nat) (λp=>qf p.1.toList m∧qH p.1.toList p.2) λp=>[.blk b (.map p.1 p.2)]
section
variable {h0 h:H}{L:List Chunk}{b:Nat}{m:List (Int×ByteArray)}
theorem Ig{i:Nat}(w:Wd h0 h L)(hi:L[i]? = some (By b m)):∃es c,h b=some (.map es c)∧qf es.toList m∧qH es.toList c:=by
 obtain⟨v,hv,w⟩:=w.tw i hi;exact⟨v.1,v.2,w.blk (L.eraseIdx i).length (by simp),hv⟩
theorem QD{i:Nat}(w:Wd h0 h L)(hi:L[i]? = some (By b m)):D5 h (some b) (kG m):=by
 obtain⟨es,c,hb,hs,hag⟩:=Ig w hi;exact .inr ⟨b,es.size,λk=>(ic k es.toList 0).map (·.2),rfl,⟨es,c,hb,hs.ok,rfl,λk i=>nW⟩,λk=>hs.find⟩
theorem Nt(w:Wd h0 h (L++[.blk b (.map #[] 0)])):Wd h0 h (L++[By b []]):=by
 have:=w.close (p:=λ(p:Array MapEntry×Nat)=>qf p.1.toList []∧qH p.1.toList p.2) (cs:=λp=>[.blk b (.map p.1 p.2)]) L.length (#[],0) (by simp) ⟨trivial,.nil 0⟩;rw[List.take_left']at this
 ·exact this
 ·rfl
theorem LA{ty et:TypeId}{i:Nat}{k:Int}{v:ByteArray}{K:H->Prop}(hu:Tryz.prog.underlying ty=some (.map 3 et))(w:Wd h0 h L)(hi:L[i]? = some (By b m))
  (kk:∀h',Wd h0 h' (L.eraseIdx i++[By b (o8 m k v)])->K h'):M.An Tryz.prog ty (.map (some b)) (.int .i64 k) (.string v) h K:=by
 obtain⟨p,⟨hs,hag⟩,w⟩:=w.tw i hi;obtain⟨es,c⟩:=p;simp only at hs hag w;have hl:(L.eraseIdx i++[Chunk.blk b (.map es c)])[(L.eraseIdx i).length]? = some (.blk b (.map es c)):=by simp
 have hb:=w.blk _ hl;have fin:∀es' c',qf es'.toList (o8 m k v)->qH es'.toList c'->K (h.nh b (.map es' c')):=λes' c' h1 h2=>by
  refine kk _ ?_;have w2:=w.nh hl (.map es' c');rw[List.set_append_right _ _ (Nat.le_refl _),Nat.sub_self,List.set_cons_zero]at w2;have:=w2.close (p:=λ(p:Array MapEntry×Nat)=>qf p.1.toList (o8 m k v)∧qH p.1.toList p.2) (cs:=λp=>[.blk b (.map p.1 p.2)]) (L.eraseIdx i).length (es',c') (by simp) ⟨h1,h2⟩;rw[List.take_left']at this
  ·exact this
  ·rfl
 refine⟨3,et,b,es,c,_,hu,rfl,hb,rq.at ⟨k,rfl⟩ hs.ok,?_⟩;have hI:=hs.ins (k:=k) (v:=v) (c:=c) (i:=0);cases hf:ic (.int .i64 k) es.toList 0 with
 | none=>
  rw[hf]at hI;exact fin _ _ (by rw[Array.toList_push];exact hI) (by rw[Array.toList_push];exact hag.push _ _)
 | some q=>
  obtain⟨j,u⟩:=q;rw[hf]at hI;obtain⟨e,_,he,hek,_⟩:=nt hf;rw[Nat.sub_zero]at he;refine⟨?_,fin _ _ (by rw[Array.toList_modify];exact hI.2) (by rw[Array.toList_modify];exact hag.modify _ _ _)⟩;have:es[j]? = some e:=by simpa using he
  rw[this];simp only[Option.map_some,Option.getD_some,hek];exact rq.same _ ⟨k,rfl⟩
theorem SB{ty:TypeId}{i:Nat}{k:Int}{K:Value->H->Prop}(hu:Tryz.prog.underlying ty=some (.map 3 9))(w:Wd h0 h L)(hi:L[i]? = some (By b m))(kk:K (.string ((kG m k).getD empty)) h):M.lk Tryz.prog ty (.map (some b)) (.int .i64 k) h K:=by
 obtain⟨es,c,hb,hs,hag⟩:=Ig w hi;refine MS (f:=λk=>(ic k es.toList 0).map (·.2)) hu rq GI ⟨es,c,hb,hs.ok,rfl,λk i=>nW⟩ ⟨k,rfl⟩ ?_;simp only[hs.find];cases hg:kG m k with
 | none=>rw[hg]at kk;exact kk
 | some p=>rw[hg]at kk;exact kk
theorem y4{i:Nat}{Q:Option Addr->Nat->Nat->H->Prop}(w:Wd h0 h L)(hi:L[i]? = some (By b m))(hn:(m.map (·.1)).Nodup)(hr:∀q∈m,0≤q.1∧q.1≤15)(hm:m.length≤1000)
  (k:∀a c h',Wd h0 h' (L++[.sl 3 1 a m.length c (eI.row (ou (m.map (·.1))))])->Q a m.length c h'):gB (some b) h Q:=by
 obtain⟨es,c,hb,hs,hag⟩:=Ig w hi;have hl:es.size=m.length:=by rw[←Array.length_toList];exact hs.len
 refine⟨b,es,c,rfl,hb,hag,m.map (·.1),by rw[hs.keys,List.map_map];rfl,λx hx=>?_,hn,by omega,λa c' h' w'=>?_⟩
 ·obtain⟨q,hq,rfl⟩:=List.mem_map.1 hx;have:=hr q hq;omega
 ·rw[hl]at w' ⊢;refine k a c' h' (w.join ?_);rw[L8];exact w'
end
def B7(g:Prop)[Decidable g](n:Int):List (Int×ByteArray)->Int
 | []=>0
 | p::r=>if wU g n p.1≠0 then wU g n p.1 else if p.2.size>2032 then 5 else B7 g n r
def qj(g:Prop)[Decidable g](n:Int)(l:List (Int×ByteArray)):Int:=if ¬g then 4 else B7 g n l
theorem Fe{g:Prop}[Decidable g]{n:Int}:∀{l:List (Int×ByteArray)},B7 g n l=0->∀p∈l,0≤p.1∧p.1<n∧p.2.size≤2032
 | [],_,p,hp=>by simp at hp
 | q::r,h,p,hp=>by
  unfold B7 at h;by_cases h1:wU g n q.1≠0
  ·rw[if_pos h1]at h;exact absurd h h1
  ·rw[if_neg h1]at h;by_cases h2:q.2.size>2032
   ·rw[if_pos h2]at h;exact absurd h (by decide)
   ·rw[if_neg h2]at h;rcases List.mem_cons.1 hp with rfl|hp
    ·have:=(oz.1 (Decidable.not_not.1 h1)).2;exact⟨this.1,this.2,by omega⟩
    ·exact Fe h p hp
theorem Hv{g:Prop}[Decidable g]{n:Int}{l:List (Int×ByteArray)}(h:qj g n l=0):g∧∀p∈l,0≤p.1∧p.1<n∧p.2.size≤2032:=by
 unfold qj at h;by_cases hg:g
 ·rw[if_neg (by simp[hg])]at h;exact⟨hg,Fe h⟩
 ·rw[if_pos hg]at h;exact absurd h (by decide)
section
variable {hx h:H}{b:Nat}{B:ak}{d n:Int}{key:ByteArray}{xs:List (Int×ByteArray)}{a:Option Addr}{l c:Nat}
theorem Ef{Q:Int->H->Prop}(wx:Wd hx h [dO b B])(f:Ro eP h a l xs)(hl9:l<1000000000)(tb:Tabs h)(k:∀h',bq h h'->Q (qj (iS B d n key) n xs) h'):cB (some ⟨b,0,none⟩) d n key a l c h Q:=by
 unfold cB;have w:=Wd.start h;have hlen:=f.len;refine M.aK w λb2 h1 w=>?_;simp only[bs,lb (w.blk 0 rfl)];refine rV (wx.keeps w.keep) (tb.keep w.keep) λh2 k2=>?_;have w:=w.keeps k2;unfold qj at k;by_cases g:iS B d n key
 ·rw[if_neg (by simp[g])]at k;refine cf (by simp[g]) ?_
  refine M.aP (I:=λ(i:Int) h'=>∃(m:Nat),m≤l∧i=(m:Int)∧B7 (iS B d n key) n xs=B7 (iS B d n key) n (xs.drop m) ∧
   Wd h h' [.blk b2 (.cells #[.pointer (some ⟨b,0,none⟩),.int .i64 d,.int .i64 n,.string key] 126)]) (μ:=λi=>(l-i).toNat) ⟨0,by omega,rfl,rfl,w⟩ ?_
  clear w;rintro _ h3 J ⟨m,hm,rfl,hw,w⟩ hJ;by_cases hlt:m<l
  ·refine eN (by omega) ?_;have v1:wrap .i64 ((m:Int)+1)=((m+1:Nat):Int):=by rw[IntKind.wrap_i64];omega
   refine Ro.RD (f.keep w.keep) (by omega) (by omega) ?_;refine M.aK w λb5 h4 w=>?_;refine⟨(rfl),?_⟩;refine M.bz w 1 rfl (by simp[ag]) (by simp) λh6 w=>?_;simp only[bs,Int.toNat_natCast]at w;simp only[bs,lb (w.blk 0 rfl),lb (w.blk 1 rfl)];rw[Af (by omega),B7]at hw;refine A1 (wx.keeps w.keep) (tb.keep w.keep) λh7 k7=>?_;have w:=w.keeps k7;by_cases e:wU (iS B d n key) n (pa xs m).1=0
   ·rw[if_neg (by simp[e])]at hw;refine cf (by rw[bne_eq_false_iff_eq];exact e) ?_;simp only[bs,lb (w.blk 1 rfl)];by_cases e2:(pa xs m).2.size>2032
    ·rw[if_pos e2]at hw;rw[hw]at k;exact eN (by omega) (k _ w.keep)
    ·rw[if_neg e2]at hw;refine gI (by omega) (M.vis _ v1 ?_);exact hJ _ _ ⟨m+1,by omega,rfl,hw,w.drop (i:=1) rfl⟩ (by omega)
   ·rw[if_pos e]at hw;rw[hw]at k;exact ct (by rw[bne_iff_ne];exact e) (k _ w.keep)
  ·refine gI (by omega) ?_;rw[List.drop_of_length_le (by omega),B7]at hw;rw[hw]at k;exact k _ w.keep
 ·rw[if_pos g]at k;exact ct (by simp[g]) (k _ w.keep)
end
abbrev KV:=List (Int×ByteArray)
def lU:KV->List Int->List ByteArray->KV
 | m,k::ks,v::vs=>lU (o8 m k v) ks vs
 | m,_,_=>m
def pG(B:ak)(d n:Int):ByteArray->KV->KV->KV->KV×KV×ByteArray×Int
 | top,ch,ce,[]=>(ch,ce,top,0)
 | top,ch,ce,p::r=>
  if(lP B d n (kG ch) top p.1).2.2≠0 then([],[],empty,(lP B d n (kG ch) top p.1).2.2)
  else pG B d n (oo p.1.toNat (dH 0 p.2) (lP B d n (kG ch) top p.1).1).2 (lU ch (jC n p.1) (oo p.1.toNat (dH 0 p.2) (lP B d n (kG ch) top p.1).1).1) (o8 ce p.1 p.2) r
def outs(base:Int)(m:KV):KV:=(ou (m.map (·.1))).map λx=>(base+x,(kG m x).getD empty)
def sY(B:ak)(key:ByteArray)(d n:Int)(top:ByteArray)(l:KV):KV×ByteArray×Int:=
 if qj (iS B d n key) n l≠0 then([],empty,qj (iS B d n key) n l)
 else if(pG B d n top [] [] l).2.2.2≠0 then([],empty,(pG B d n top [] [] l).2.2.2)
 else(outs 100 (pG B d n top [] [] l).1++outs 120 (pG B d n top [] [] l).2.1,(pG B d n top [] [] l).2.2.1,0)
structure Ab (s:Nat) (m:KV):Prop where
 nd:(m.map (·.1)).Nodup
 all:∀q∈m,(0≤q.1∧q.1≤15)∧q.2.size≤s
theorem Ab.nil(s:Nat):Ab s []:=⟨by simp,by simp⟩
theorem Ab.ins{s:Nat}{m:KV}{k:Int}{v:ByteArray}(o:Ab s m)(hk:0≤k∧k≤15)(hv:v.size≤s):Ab s (o8 m k v):=⟨HU o.nd,Gs ⟨hk,hv⟩ o.all⟩
theorem Ab.ku{s:Nat}:∀{m:KV} {ks:List Int} {vs:List ByteArray},Ab s m->(∀k∈ks,0≤k∧k≤15)->(∀v∈vs,v.size≤s)->Ab s (lU m ks vs)
 | m,[],_,o,_,_=>by rw[lU];exact o;simp
 | m,_ :: _,[],o,_,_=>by rw[lU];exact o;simp
 | m,k::ks,v::vs,o,hk,hv=>by
  have o2:=o.ins (hk k (by simp)) (hv v (by simp));rw[lU];exact Ab.ku o2 (λk h=>hk k (by simp[h])) (λv h=>hv v (by simp[h]))
theorem BK{k:Int}{p:ByteArray}:∀{m:KV},kG m k=some p->(k,p)∈m
 | [],h=>by simp[kG]at h
 | q::r,h=>by
  unfold kG at h;by_cases hk:k=q.1
  ·rw[if_pos hk,Option.some.injEq]at h;rw[List.mem_cons];exact .inl (by rw[←h,hk])
  ·rw[if_neg hk]at h;exact List.mem_cons_of_mem _ (BK h)
theorem Ab.get{s:Nat}{m:KV}(o:Ab s m){k:Int}{p:ByteArray}(h:kG m k=some p):p.size≤s:=(o.all _ (BK h)).2
theorem zh:∀(N:Nat) (l:List Int),l.Nodup->(∀x∈l,0≤x∧x<N)->l.length≤N
 | 0,l,_,h=>by
  cases l with
  | nil=>exact Nat.le_refl _
  | cons x r=>have:=h x (by simp);omega
 | N+1,l,hn,h=>by
  have h1:=zh N (l.erase (N:Int)) (hn.erase _) λx hx=>by
   have:=(List.Nodup.mem_erase_iff hn).1 hx;have:=h x this.2;omega
  by_cases hm:(N:Int)∈l
  ·rw[List.length_erase_of_mem hm]at h1;omega
  ·rw[List.erase_of_not_mem hm]at h1;omega
theorem Ab.len{s:Nat}{m:KV}(o:Ab s m):m.length≤16:=by
 have:=zh 16 (m.map (·.1)) o.nd λx hx=>by
  obtain⟨q,hq,rfl⟩:=List.mem_map.1 hx;have:=(o.all q hq).1;omega
 rwa [List.length_map]at this
theorem yI(l:List Int):(ou l).length=l.length:=List.length_mergeSort _
theorem rQ{l:List Int}{x:Int}:x∈ou l↔x∈l:=List.mem_mergeSort
theorem xO(base:Int)(m:KV):(outs base m).length=m.length:=by rw[outs,List.length_map,yI,List.length_map]
theorem Dn{slot:Nat}:∀{ps:List ByteArray} {top:ByteArray},(follow top slot ps).2=0->∀p∈ps,p.size=64
 | [],_,_,p,hp=>by simp at hp
 | q::r,top,h,p,hp=>by
  unfold follow at h;by_cases h1:q.size≠64∨sW q≠top
  ·rw[if_pos h1]at h;exact absurd h (by decide)
  ·rw[if_neg h1]at h;rcases List.mem_cons.1 hp with rfl|hp
   ·exact Decidable.not_not.1 λe=>h1 (.inl e)
   ·exact Dn h p hp
theorem Oo{B:ak}{d n slot:Int}{g:Int->Option ByteArray}{top:ByteArray}(h:(lP B d n g top slot).2.2=0):(lP B d n g top slot).1.length=dep n∧∀p∈(lP B d n g top slot).1,p.size=64:=by
 have hl:=@AH (jI B d g) (jC n slot) [];unfold lP at h ⊢;simp only at h ⊢;generalize rO (jI B d g) [] (jC n slot)=r at *;by_cases e:r.2≠0
 ·rw[if_pos e]at h;exact absurd h e
 ·rw[if_neg e]at h ⊢;refine⟨?_,Dn h⟩;have:=hl (Decidable.not_not.1 e);rw[rB]at this;simpa using this
def o7(X:Nat):Nat->List Nat
 | 0=>[]
 | m+1=>X/2^(m+1)::o7 X m
theorem AF(X:Nat):∀m,(o7 X m).length=m
 | 0=>rfl
 | m+1=>by rw[o7,List.length_cons,AF]
theorem AY(X:Nat):∀m,(List.range m).map (λi=>X/2^(m-i))=o7 X m
 | 0=>rfl
 | m+1=>by
  rw[List.range_succ_eq_map,List.map_cons,List.map_map,o7,←AY X m];congr 1;refine List.map_congr_left λi _=>?_;show X/2^(m+1-(i+1))=_;rw[Nat.add_sub_add_right]
theorem KW{n:Int}{s:Nat}(hd:dep n≠0):jC n s=(o7 (2^dep n+s) (dep n)).map λi:Nat=>(i:Int):=by
 have hn:=pS hd;have:(n+(s:Int)).toNat=2^dep n+s:=by
  generalize 2^dep n=q at hn ⊢;omega
 rw[jC,this,←AY,List.map_map];rfl
theorem qP(X m:Nat):X/2^(m+1)=X/2^m/2:=by rw[Nat.pow_succ,Nat.div_div_eq_div_mul]
theorem BI{a b:ByteArray}(ha:a.size=32)(hb:b.size=32)(c:Bool):zA (a++b) c=if c then b else a:=by
 cases c
 ·show(a++b).extract 0 32=a;rw[←ha];exact ByteArray.extract_append_eq_left rfl
 ·show(a++b).extract 32 (a++b).size=b;rw[←ha];exact ByteArray.extract_append_eq_right rfl (by rw[ByteArray.size_append])
theorem qv{k s:Nat}(hs:s<2^k){m:Nat}(hm:m≤k):0<(2^k+s)/2^m∧(m≠0->(2^k+s)/2^m<2^k)∧(2^k+s)/2^m<2*2^k:=by
 have h1:0<2^m:=Nat.pow_pos (by decide);have h2:2^m≤2^k:=Nat.pow_le_pow_right (by decide) hm;have h4:=Nat.div_le_self (2^k+s) (2^m);refine⟨Nat.div_pos (by omega) h1,λh=>?_,by omega⟩;rw[Nat.div_lt_iff_lt_mul h1];have h3:2≤2^m:=by
  obtain⟨q,rfl⟩:∃q,m=q+1:=⟨m-1,by omega⟩;have:=Nat.pow_le_pow_right (n:=2) (by decide) (show 1≤q+1 by omega);simpa using this
 have:=Nat.mul_le_mul_left (2^k) h3;omega
section
variable {ls:List ByteArray}{k s:Nat}
theorem AW(hl:ls.length=2^k)(hz:∀p∈ls,p.size=32)(hs:s<2^k):∀m,m≤k->follow (iz ls ((2^k+s)/2^m)) s ((o7 (2^k+s) m).map (fU ls))=(sa ls s,0)
 | 0,_=>by
  rw[Nat.pow_zero,Nat.div_one,ki (by omega),hl,Nat.add_sub_cancel_left];rfl
 | m+1,hm=>by
  obtain⟨b1,b2,b3⟩:=qv hs hm;have b2:=b2 (by omega);obtain⟨c1,c2,c3⟩:=qv hs (show m≤k by omega);have hb:=Fy (d:=k) (s:=s) (k:=m) (by omega);have ih:=AW hl hz hs m (by omega);rw[o7,List.map_cons,follow,List.length_map,AF,Am];have hup:=qP (2^k+s) m;generalize (2^k+s)/2^(m+1)=i at *;generalize (2^k+s)/2^m=j at *;have p64:=mH hz b1 (by omega);rw[m9 b1 (by omega),if_neg (by simp[p64])];have e1:=jK hz (i:=2*i) (by omega) (by omega);have e2:=jK hz (i:=2*i+1) (by omega) (by omega);rw[fU,BI e1 e2];by_cases h:s/2^m%2=1
  ·rw[if_pos (by simpa using h),show 2*i+1=j by omega];exact ih
  ·rw[if_neg (by simpa using h),show 2*i=j by omega];exact ih
theorem Hx{x:ByteArray}{j:Nat}(hs:s<ls.length):sa (ls.set s x) j=if j=s then x else sa ls j:=by
 unfold sa;rw[List.getD_eq_getElem?_getD,List.getElem?_set,List.getD_eq_getElem?_getD];by_cases h:s=j
 ·subst h;rw[if_pos rfl,if_pos hs,if_pos rfl];rfl
 ·rw[if_neg h,if_neg (λe=>h e.symm)]
theorem rC{x:ByteArray}(hs:s<ls.length):∀(f i:Nat),ls.length≤i+f->0<i->(∀m,(ls.length+s)/2^m≠i)->iz (ls.set s x) i=iz ls i
 | f,i,hf,h0,hm=>by
  by_cases hi:i<ls.length
  ·obtain⟨f,rfl⟩:∃q,f=q+1:=⟨f-1,by omega⟩
   rw[m9 h0 hi,m9 h0 (by rw[List.length_set];exact hi),fU,fU,
    rC hs f (2*i) (by omega) (by omega) (λm e=>hm (m+1) (by rw[qP,e];omega)),rC hs f (2*i+1) (by omega) (by omega) (λm e=>hm (m+1) (by rw[qP,e];omega))]
  ·rw[ki (by rw[List.length_set];omega),ki (ls:=ls) (by omega),List.length_set,Hx hs,if_neg];intro e;exact hm 0 (by rw[Nat.pow_zero,Nat.div_one];omega)
theorem Kg{x:ByteArray}(hs:s<ls.length){i:Nat}(h0:0<i)(hm:∀m,(ls.length+s)/2^m≠i):fU (ls.set s x) i=fU ls i:=by
 rw[fU,fU,rC hs ls.length (2*i) (by omega) (by omega) (λm e=>hm (m+1) (by rw[qP,e];omega)),rC hs ls.length (2*i+1) (by omega) (by omega) (λm e=>hm (m+1) (by rw[qP,e];omega))]
theorem JO{X:Nat}(hX:0<X){a b:Nat}(h:a<b):X/2^b<X/2^a∨X/2^a=0:=by
 by_cases h0:X/2^a=0
 ·exact .inr h0
 ·left;have h1:X/2^b≤X/2^(a+1):=Nat.div_le_div_left (Nat.pow_le_pow_right (by decide) h) (Nat.pow_pos (by decide));rw[qP]at h1;generalize X/2^a=u at *;generalize X/2^b=v at *;omega
theorem Ev{x:ByteArray}(hl:ls.length=2^k)(hz:∀p∈ls,p.size=32)(hs:s<2^k):∀m,m≤k->oo s x ((o7 (2^k+s) m).map (fU ls))=((o7 (2^k+s) m).map (fU (ls.set s x)),iz (ls.set s x) ((2^k+s)/2^m))
 | 0,_=>by
  rw[Nat.pow_zero,Nat.div_one,ki (by rw[List.length_set];omega),List.length_set,hl,Nat.add_sub_cancel_left,Hx (by omega),if_pos rfl];rfl
 | m+1,hm=>by
  obtain⟨b1,b2,b3⟩:=qv hs hm;have b2:=b2 (by omega);obtain⟨c1,c2,c3⟩:=qv hs (show m≤k by omega);have hb:=Fy (d:=k) (s:=s) (k:=m) (by omega);have ih:=Ev (x:=x) hl hz hs m (by omega);rw[o7,List.map_cons,uE,DJ,ih,List.length_map,AF,Am];have hup:=qP (2^k+s) m;have hoff:∀q:Nat,0<q->q≠(2^k+s)/2^m->q/2=(2^k+s)/2^(m+1)->iz (ls.set s x) q=iz ls q:=by
   intro q h0 hq h2;refine rC (by omega) ls.length q (by omega) h0 λt ht=>?_;rw[hl]at ht;have hX:0<2^k+s:=by have:0<2^k:=Nat.pow_pos (by decide);omega
   rcases Nat.lt_trichotomy t m with h|h|h
   ·have:=JO hX h;have h3:(2^k+s)/2^m≤(2^k+s)/2^(t+1):=Nat.div_le_div_left (Nat.pow_le_pow_right (by decide) h) (Nat.pow_pos (by decide));rw[qP,ht,h2,hup]at h3;omega
   ·rw[h]at ht;exact hq ht.symm
   ·have h3:(2^k+s)/2^t≤(2^k+s)/2^(m+1):=Nat.div_le_div_left (Nat.pow_le_pow_right (by decide) h) (Nat.pow_pos (by decide));rw[ht,←h2]at h3;omega
  have e1:=jK hz (i:=2*((2^k+s)/2^(m+1))) (by omega) (by omega);have e2:=jK hz (i:=2*((2^k+s)/2^(m+1))+1) (by omega) (by omega);have key:(bif decide (s/2^m%2=1)then(fU ls ((2^k+s)/2^(m+1))).extract 0 32++iz (ls.set s x) ((2^k+s)/2^m)else iz (ls.set s x) ((2^k+s)/2^m)++(fU ls ((2^k+s)/2^(m+1))).extract 32 (fU ls ((2^k+s)/2^(m+1))).size)=fU (ls.set s x) ((2^k+s)/2^(m+1)):=by
   have g1:=BI e1 e2 false;have g2:=BI e1 e2 true;have g1':(fU ls ((2^k+s)/2^(m+1))).extract 0 32=iz ls (2*((2^k+s)/2^(m+1))):=g1;have g2':(fU ls ((2^k+s)/2^(m+1))).extract 32 (fU ls ((2^k+s)/2^(m+1))).size=iz ls (2*((2^k+s)/2^(m+1))+1):=g2;rw[g1',g2',fU];by_cases h:s/2^m%2=1
   ·rw[decide_eq_true h,cond_true,hoff (2*((2^k+s)/2^(m+1))) (by omega) (by omega) (by omega),show 2*((2^k+s)/2^(m+1))+1=(2^k+s)/2^m by omega]
   ·rw[decide_eq_false h,cond_false,hoff (2*((2^k+s)/2^(m+1))+1) (by omega) (by omega) (by omega),show 2*((2^k+s)/2^(m+1))=(2^k+s)/2^m by omega]
  rw[key,m9 b1 (by rw[List.length_set];omega)];rfl
end
theorem Ji{K:List Int}{j:Nat}(h:j<K.length):K.take (j+1)=K.take j++[za K j]:=by rw[kP h,List.take_append_getElem]
theorem Gu{P:Int->Prop}{l:List Int}(h:∀x∈l,P x){i:Nat}(hi:i<l.length):P (za l i):=by rw[kP hi];exact h _ (List.getElem_mem _)
section
variable {hx h:H}{b:Nat}{B:ak}{d n:Int}{key top:ByteArray}{xs:List (Int×ByteArray)}{a:Option Addr}{l c:Nat}
theorem Ea{Q:Option Addr->Nat->Nat->ByteArray->Int->H->Prop}(wx:Wd hx h [dO b B])(f:Ro eP h a l xs)(hl9:l<1000000000)(sm:B.Sm)(tb:Tabs h)
  (k:∀a c h',Wd h h' [.sl 261 2 a (sY B key d n top xs).1.length c (eP.row (sY B key d n top xs).1)]->Q a (sY B key d n top xs).1.length c (sY B key d n top xs).2.1 (sY B key d n top xs).2.2 h'):
  cA (some ⟨b,0,none⟩) d n key top a l c h Q:=by
 unfold cA cA.g;have w:=Wd.start h;have hlen:=f.len;refine M.aK w λb2 h1 w=>?_;simp only[bs,Nat.reduceMul,lb (w.blk 0 rfl)];refine Ef (wx.keeps w.keep) (f.keep w.keep) hl9 (tb.keep w.keep) λh2 k2=>?_;have w:=w.keeps k2;unfold sY at k;by_cases g:qj (iS B d n key) n xs=0
 ·rw[if_neg (by simp[g])]at k;refine cf (by rw[bne_eq_false_iff_eq];exact g) ?_;obtain⟨⟨hd,hk,hb⟩,hall⟩:=Hv g;clear g;have hn:=iC hd;have hdl:=Nu n;have hd1:=pS hd;refine M.aK w λb3 h3 w=>?_;have w:=Nt w;refine M.aK w λb4 h4 w=>?_;have w:=Nt w;simp only[bs]at w;refine M.aO (λtp h'=>∃ch ce,pG B d n top [] [] xs=(ch,ce,tp,0)∧Ab 64 ch∧Ab 2032 ce∧Wd h h' [.blk b2 (.cells #[.pointer (some ⟨b,0,none⟩),.int .i64 d,.int .i64 n,.string key] 126),By b3 ch,By b4 ce]) (λJ0 hJ0=>?_) ?_
  ·refine M.aP (I:=λ(p:ByteArray×Int) h'=>∃(m:Nat) (ch ce:KV),m≤l∧p.2=(m:Int)∧pG B d n top [] [] xs=pG B d n p.1 ch ce (xs.drop m)∧Ab 64 ch∧Ab 2032 ce ∧
    Wd h h' [.blk b2 (.cells #[.pointer (some ⟨b,0,none⟩),.int .i64 d,.int .i64 n,.string key] 126),By b3 ch,By b4 ce]) (μ:=λp=>(l-p.2).toNat) ⟨0,[],[],by omega,rfl,rfl,.nil _,.nil _,w⟩ ?_
   clear w;rintro⟨tp,_⟩ h5 J ⟨m,ch,ce,hm,hi,hw,oc,oe,w⟩ hJ;simp only at hi hw ⊢;subst hi;by_cases hlt:m<l
   ·refine eN (by omega) ?_;have hp:0≤(pa xs m).1∧(pa xs m).1<n∧(pa xs m).2.size≤2032:=by rw[wK (by omega)];exact hall _ (List.getElem_mem _)
    rw[Af (by omega),pG]at hw;refine Ro.RD (f.keep w.keep) (by omega) (by omega) ?_;refine M.aK w λb7 h6 w=>?_;refine⟨(rfl),?_⟩;refine M.bz w 3 rfl (by simp[ag]) (by simp) λh8 w=>?_;simp only[bs,Int.toNat_natCast]at w;simp only[bs,lb (w.blk 0 rfl),lb (w.blk 3 rfl)];generalize pa xs m=q at *;obtain⟨qs,qc⟩:=q;simp only at hw hp ⊢;obtain⟨s,rfl⟩:=Int.eq_ofNat_of_zero_le hp.1;rw[Int.toNat_natCast]at hw;have v1:wrap .i64 ((m:Int)+1)=((m+1:Nat):Int):=by rw[IntKind.wrap_i64];omega
    have hov:=@Oo B d n s (kG ch) tp;refine Dd (wx.keeps w.keep) (QD (i:=1) w rfl) hd ⟨hp.1,hp.2.1⟩ sm (λx p hx=>by have:=oc.get hx;omega) (tb.keep w.keep) λa5 c5 h8 w'=>?_;have w:=w.join w';clear w';generalize lP B d n (kG ch) tp s=o at *;by_cases e:o.2.2=0
    ·rw[if_neg (by simp[e])]at hw;refine cf (by rw[bne_eq_false_iff_eq];exact e) ?_;obtain⟨ho1,ho2⟩:=hov e;have hs0:=w.blk 3 rfl;simp only[bs,lb (w.blk 3 rfl)];refine yA (by omega) (tb.keep w.keep) λh7 k_=>?_;have w:=w.keeps k_;clear k_;refine M.still_at hs0 (w.blk 3 rfl) ?_;rw[ho1]at w ⊢;refine Nd (w.ro 4 rfl (by decide)) ⟨by omega,hdl⟩ (by omega) ho2 (jJ _ _) (tb.keep w.keep) λa6 c6 h8 w'=>?_;have w:=w.join w';clear w';simp only[bs,lb (w.blk 0 rfl),lb (w.blk 3 rfl)];have hpl:=rB n s;have hple:=DF hd (s:=(s:Int)) ⟨by omega,by omega⟩;refine qZ hd ⟨by omega,by omega⟩ (tb.keep w.keep) λa7 c7 h9 w'=>?_;have w:=w.join w';clear w';have hkz:=jJ 0 qc;have h64:=Jl (slot:=s) hkz o.1 ho2;have hpn:=EA s (dH 0 qc) o.1;generalize oo s (dH 0 qc) o.1=pt at *;generalize jC n s=pth at *;rw[ho1]at hpn
     try simp only[bs]at w
     have w:=(((w.drop (i:=4) rfl).mv (i:=1) rfl))
     try simp only[bs]at w
     refine M.aO (λ_ h'=>Wd h h' [.blk b2 (.cells #[.pointer (some ⟨b,0,none⟩),.int .i64 d,.int .i64 n,.string key] 126),By b4 ce,.blk b7 (.cells #[.int .i64 s,.string qc] 109),.sl 9 1 a6 (dep n) c6 (eS.row pt.1),.sl 3 1 a7 (dep n) c7 (eI.row pth),By b3 (lU ch pth pt.1)]) (λJ1 hJ1=>?_) ?_
     ·refine M.aP (I:=λ(p:Int) h'=>∃(j:Nat) (ch':KV),j≤dep n∧p=(j:Int)∧lU ch pth pt.1=lU ch' (pth.drop j) (pt.1.drop j) ∧
       Wd h h' [.blk b2 (.cells #[.pointer (some ⟨b,0,none⟩),.int .i64 d,.int .i64 n,.string key] 126),By b4 ce,.blk b7 (.cells #[.int .i64 s,.string qc] 109),.sl 9 1 a6 (dep n) c6 (eS.row pt.1),.sl 3 1 a7 (dep n) c7 (eI.row pth),By b3 ch']) (μ:=λp=>(dep n-p).toNat) ⟨0,ch,by omega,rfl,rfl,w⟩ ?_
      clear w;rintro _ h10 J3 ⟨j,ch',hj,rfl,hpa,w⟩ hJ3;by_cases hlj:j<dep n
      ·refine eN (by omega) ?_;have v2:wrap .i64 ((j:Int)+1)=((j+1:Nat):Int):=by rw[IntKind.wrap_i64];omega
       rw[IJ (by omega),Er (by omega),lU]at hpa;refine Ro.Ii (w.ro 4 rfl (by decide)) (by omega) (by omega) ?_;simp only[Int.toNat_natCast];refine Ro.vu (w.ro 3 rfl (by decide)) (by omega) (by omega) ?_;refine LA Tryz.underlying307 w (i:=5) rfl λh11 w=>?_;refine M.vis _ v2 (hJ3 _ _ ⟨j+1,_,by omega,rfl,hpa,w⟩ (by omega))
      ·refine gI (by omega) ?_;rw[List.drop_of_length_le (by omega),List.drop_of_length_le (by omega)]at hpa;have hpa2:lU ch pth pt.1=ch':=hpa;refine hJ1 _ _ ?_;rw[hpa2];exact w
     ·clear w;rintro _ h10 w;simp only[bs,lb (w.blk 2 rfl)];refine LA Tryz.underlying144 w (i:=1) rfl λh11 w=>?_;refine M.vis _ v1 (hJ _ _ ⟨m+1,lU ch pth pt.1,o8 ce s qc,by omega,rfl,hw,oc.ku hple λv hv=>Nat.le_of_eq (h64 v hv),oe.ins (by omega) hp.2.2,?_⟩ (by simp only;omega));have w:=(((w.drop (i:=1) rfl).drop (i:=1) rfl).drop (i:=1) rfl);exact w
    ·rw[if_pos e]at hw;rw[hw,if_pos e]at k;refine ct (by rw[bne_iff_ne];exact e) (k none 0 _ ?_);exact((((w.drop (i:=0) rfl).drop (i:=0) rfl).drop (i:=0) rfl).drop (i:=0) rfl |>.drop (i:=0) rfl).jt _ _
   ·refine gI (by omega) ?_;rw[List.drop_of_length_le (by omega),pG]at hw;exact hJ0 _ _ ⟨ch,ce,hw,oc,oe,w⟩
  ·clear w;rintro tp h5 ⟨ch,ce,hpr,oc,oe,w⟩;rw[hpr,if_neg (by simp)]at k;simp only at k;clear hpr;refine M.aO (λ(p:Option Addr×Nat×Nat) h'=>p.2.1=ch.length∧Wd h h' [.blk b2 (.cells #[.pointer (some ⟨b,0,none⟩),.int .i64 d,.int .i64 n,.string key] 126),By b3 ch,By b4 ce,.sl 261 2 p.1 p.2.1 p.2.2 (eP.row (outs 100 ch))]) (λJ0 hJ0=>?_) ?_
   ·refine y4 w (i:=1) rfl oc.nd (λq hq=>(oc.all q hq).1) (by have:=oc.len;omega) λa8 c8 h6 w=>?_;have hcl:=oc.len;have hkl:(ou (ch.map (·.1))).length=ch.length:=by rw[yI,List.length_map]
    have hkr:∀x∈ou (ch.map (·.1)),0≤x∧x≤15:=λx hx=>by
     obtain⟨q,hq,rfl⟩:=List.mem_map.1 (rQ.1 hx);exact(oc.all q hq).1
    have hou:outs 100 ch=(ou (ch.map (·.1))).map λx=>(100+x,(kG ch x).getD empty):=rfl;rw[hou]at hJ0;generalize hF:(λx:Int=>((100+x,(kG ch x).getD empty):Int×ByteArray))=F at *;generalize ou (ch.map (·.1))=K at *
    try simp only[bs]at w
    refine M.aP (I:=λ(p:(Option Addr×Nat×Nat)×Int) h'=>∃j:Nat,j≤ch.length∧p.2=(j:Int)∧j=p.1.2.1∧Wd h h' [.blk b2 (.cells #[.pointer (some ⟨b,0,none⟩),.int .i64 d,.int .i64 n,.string key] 126),By b3 ch,By b4 ce,.sl 3 1 a8 ch.length c8 (eI.row K),.sl 261 2 p.1.1 p.1.2.1 p.1.2.2 (eP.row ((K.take j).map F))]) (μ:=λp=>(ch.length-p.2).toNat) ⟨0,by omega,rfl,rfl,w.jt _ _⟩ ?_;clear w;rintro⟨⟨a9,l9,c9⟩,_⟩ h7 J ⟨j,hj,hi,hl,w⟩ hJ;simp only at hi hl w ⊢;subst hi hl;by_cases hlt:j<ch.length
    ·refine eN (by omega) ?_;have v1:wrap .i64 ((j:Int)+1)=((j+1:Nat):Int):=by rw[IntKind.wrap_i64];omega
     have hkj:=Gu hkr (i:=j) (by omega);have v2:wrap .i64 (100+za K j)=100+za K j:=by rw[IntKind.wrap_i64];omega
     refine Ro.Ii (w.ro 3 rfl (by decide)) (by omega) (by omega) ?_;simp only[Int.toNat_natCast,v2];refine M.dN ?_;refine SB Tryz.underlying307 w (i:=1) rfl ?_;simp only[bs,v1];refine Wd.push w 4 rfl rfl rfl (by simp[ag]) (by omega) (by omega) λa10 c11 h8 w=>?_;refine M.dN ?_;refine hJ _ _ ⟨j+1,by omega,rfl,rfl,?_⟩ (by simp only;omega);have e1:eP.row (List.map F [za K j])=[.int .i64 (100+za K j),.string ((kG ch (za K j)).getD empty)]:=by rw[←hF];rfl
     rw[Ji (by omega),List.map_append,eP.iX,e1];exact w
    ·refine gI (by omega) ?_;obtain rfl:j=ch.length:=by omega
     rw[←hkl,List.take_length]at w;rw[hkl]at w;exact hJ0 _ _ ⟨rfl,w.drop (i:=3) rfl⟩
   ·clear w;rintro⟨a0,l0,c0⟩ h6 ⟨hl0,w⟩;simp only at hl0 w ⊢;have hcl0:=oc.len;refine M.aO (λ(p:Option Addr×Nat×Nat) h'=>p.2.1=ch.length+ce.length∧Wd h h' [.blk b2 (.cells #[.pointer (some ⟨b,0,none⟩),.int .i64 d,.int .i64 n,.string key] 126),By b3 ch,By b4 ce,.sl 261 2 p.1 p.2.1 p.2.2 (eP.row (outs 100 ch++outs 120 ce))]) (λJ0 hJ0=>?_) ?_
    ·refine y4 w (i:=2) rfl oe.nd (λq hq=>(oe.all q hq).1) (by have:=oe.len;omega) λa8 c8 h6 w=>?_;have hcl:=oe.len;have hkl:(ou (ce.map (·.1))).length=ce.length:=by rw[yI,List.length_map]
     have hkr:∀x∈ou (ce.map (·.1)),0≤x∧x≤15:=λx hx=>by
      obtain⟨q,hq,rfl⟩:=List.mem_map.1 (rQ.1 hx);exact(oe.all q hq).1
     have hou:outs 120 ce=(ou (ce.map (·.1))).map λx=>(120+x,(kG ce x).getD empty):=rfl;rw[hou]at hJ0;generalize hF:(λx:Int=>((120+x,(kG ce x).getD empty):Int×ByteArray))=F at *;generalize ou (ce.map (·.1))=K at *
     try simp only[bs]at w
     refine M.aP (I:=λ(p:(Option Addr×Nat×Nat)×Int) h'=>∃j:Nat,j≤ce.length∧p.2=(j:Int)∧p.1.2.1=ch.length+j∧Wd h h' [.blk b2 (.cells #[.pointer (some ⟨b,0,none⟩),.int .i64 d,.int .i64 n,.string key] 126),By b3 ch,By b4 ce,.sl 261 2 p.1.1 p.1.2.1 p.1.2.2 (eP.row (outs 100 ch++(K.take j).map F)),.sl 3 1 a8 ce.length c8 (eI.row K)]) (μ:=λp=>(ce.length-p.2).toNat) ⟨0,by omega,rfl,by simpa using hl0,by simpa using w⟩ ?_;clear w;rintro⟨⟨a9,l9,c9⟩,_⟩ h7 J ⟨j,hj,hi,hl,w⟩ hJ;simp only at hi hl w ⊢;subst hi hl;by_cases hlt:j<ce.length
     ·refine eN (by omega) ?_;have v1:wrap .i64 ((j:Int)+1)=((j+1:Nat):Int):=by rw[IntKind.wrap_i64];omega
      have hkj:=Gu hkr (i:=j) (by omega);have v2:wrap .i64 (120+za K j)=120+za K j:=by rw[IntKind.wrap_i64];omega
      refine Ro.Ii (w.ro 4 rfl (by decide)) (by omega) (by omega) ?_;simp only[Int.toNat_natCast,v2];refine M.dN ?_;refine SB Tryz.underlying144 w (i:=2) rfl ?_;simp only[bs,v1];refine Wd.push w 3 rfl rfl rfl (by simp[ag]) (by omega) (by omega) λa10 c11 h8 w=>?_;refine M.dN ?_;refine hJ _ _ ⟨j+1,by omega,rfl,rfl,?_⟩ (by simp only;omega);have e1:eP.row (List.map F [za K j])=[.int .i64 (120+za K j),.string ((kG ce (za K j)).getD empty)]:=by rw[←hF];rfl
      rw[Ji (by omega),List.map_append,←List.append_assoc,eP.iX,e1];exact w
     ·refine gI (by omega) ?_;obtain rfl:j=ce.length:=by omega
      rw[←hkl,List.take_length]at w;rw[hkl]at w;exact hJ0 _ _ ⟨by simp only,w.drop (i:=4) rfl⟩
    ·clear w;rintro⟨a1,l1,c1⟩ h6 ⟨hl1,w⟩;simp only at hl1 w ⊢;have:=k a1 c1 h6;rw[List.length_append,xO,xO,←hl1]at this;exact this (((w.drop (i:=0) rfl).drop (i:=0) rfl).drop (i:=0) rfl)
 ·rw[if_pos g]at k;exact ct (by rw[bne_iff_ne];exact g) (k none 0 _ ((w.drop (i:=0) rfl).jt _ _))
end
def ak.ur(B:ak):Prop:=∀D∈B.ds,(∀s∈D.N,s.size≤2048)∧(∀s∈D.L,s.size≤2048)∧∀p∈D.W,p.2.size≤2048
theorem K8{l:List ByteArray}{m:Nat}(h:∀s∈l,s.size≤m)(i:Nat):(l.getD i empty).size≤m:=by
 rw[List.getD_eq_getElem?_getD];cases e:l[i]? with
 | none=>simp
 | some s=>exact h s (List.mem_of_getElem? e)
theorem ak.ur.hU{B:ak}(t:B.ur)(d:Int):(∀s∈(B.hU d).N,s.size≤2048)∧(∀s∈(B.hU d).L,s.size≤2048)∧∀p∈(B.hU d).W,p.2.size≤2048:=by
 unfold ak.hU;rw[List.getD_eq_getElem?_getD];cases e:B.ds[d.toNat]? with
 | none=>simp
 | some D=>exact t D (List.mem_of_getElem? e)
theorem ak.ur.sm{B:ak}(t:B.ur):B.Sm:=by
 intro d a;unfold ak.read cP.read;split
 ·simp
 ·split
  ·simp
  ·split
   ·simp
   ·exact K8 (t.hU d).1 _
theorem ak.ur.set{B B1:ak}{i:Int}{D:cP}(t:B.ur)(h1:B1.ds=B.ds)(hD:(∀s∈D.N,s.size≤2048)∧(∀s∈D.L,s.size≤2048)∧∀p∈D.W,p.2.size≤2048):(B1.set i D).ur:=by
 intro D' hm;simp only[ak.set,h1]at hm;rcases List.mem_or_eq_of_mem_set hm with hm|rfl
 ·exact t D' hm
 ·exact hD
theorem MU{l:List ByteArray}{m i:Nat}{x:ByteArray}(h:∀s∈l,s.size≤m)(hx:x.size≤m):∀s∈l.set i x,s.size≤m:=by
 intro s hs;rcases List.mem_or_eq_of_mem_set hs with hs|rfl
 ·exact h s hs
 ·exact hx
theorem ak.ur.write{B:ak}(t:B.ur)(d a:Int)(s:ByteArray):(B.write d a s).2.ur:=by
 unfold ak.write;split
 ·exact t
 ·split
  ·exact t
  ·refine t.set B.j3 ?_;have h:=t.hU d;unfold cP.write;split
   ·exact h
   ·split
    ·exact h
    ·refine⟨MU h.1 (by omega),h.2.1,λp hp=>?_⟩;rcases List.mem_append.1 hp with hp|hp
     ·exact h.2.2 p hp
     ·rw[List.mem_singleton.1 hp];simp only;omega
theorem ak.ur.flush{B:ak}(t:B.ur)(d:Int):(B.flush d).2.ur:=by
 unfold ak.flush;split
 ·exact t
 ·split
  ·exact t
  ·refine t.set B.j3 ?_;have h:=t.hU d;unfold cP.flush;split
   ·exact h
   ·exact⟨h.1,h.1,by simp⟩
theorem Fw(n c:Int):(ak.new n c).ur:=by
 intro D hm;have hm:=List.eq_of_mem_replicate hm;subst hm;have:∀(k:Nat),∀s∈List.replicate k empty,s.size≤2048:=λk s hs=>by rw[List.eq_of_mem_replicate hs];decide
 exact⟨this _,this _,by simp[cP.new]⟩
structure Lv (B:ak) (d:Int):Prop where
 nb:¬B.bad d
 pw:B.oN=false
 al:(B.hU d).dead=false
 ln:140≤(B.hU d).N.length
 ti:B.ur
def mK(B:ak)(d a:Int):ByteArray:=(B.hU d).N.getD a.toNat empty
section
variable {B:ak}{d n a:Int}{s:ByteArray}
theorem Lv.np(v:Lv B d):¬B.jS:=by simp[ak.jS,v.pw]
theorem lZ(v:Lv B d)(ha:0≤a∧a<140):B.read d a=(mK B d a,0):=by
 have hu:(B.hU d).usable a=0:=cP.lM.2 ⟨v.al,ha.1,by have:=v.ln;omega⟩;unfold ak.read cP.read;rw[if_neg v.nb,if_neg v.np,if_neg (by simp[hu])];rfl
theorem E6{B1:ak}{D:cP}(h1:B1.ds=B.ds)(hb:¬B.bad d):(B1.set d D).hU d=D:=by
 have:=ak.jX.1 hb;simp only[ak.hU,ak.set,h1,List.getD_eq_getElem?_getD];rw[List.getElem?_set_self (by omega)];rfl
theorem IY{B1:ak}{D:cP}(h1:B1.ds=B.ds){i:Int}(hb:¬B.bad d):¬(B1.set i D).bad d:=by
 have:=ak.jX.1 hb;rw[ak.jX];simp only[ak.set,h1,List.length_set];exact this
theorem wL(v:Lv B d):B.iU.2 = { B with steps:=B.steps+1 }:=by
 unfold ak.iU;rw[if_neg v.np];simp[v.pw]
theorem Ap(v:Lv B d)(ha:0≤a∧a<140)(hs:s.size≤2048):
  (B.write d a s).1=0∧Lv (B.write d a s).2 d∧(∀x,mK (B.write d a s).2 d x=if x.toNat=a.toNat then s else mK B d x)∧(B.write d a s).2.steps=B.steps+1∧(B.write d a s).2.left=B.left:=by
 have hu:(B.hU d).usable a=0:=cP.lM.2 ⟨v.al,ha.1,by have:=v.ln;omega⟩;have hw:(B.hU d).write a s=(0,{ B.hU d with N:=(B.hU d).N.set a.toNat s,W:=(B.hU d).W++[(a,s)] }):=by
  unfold cP.write;rw[if_neg (by simp[hu]),if_neg (by omega)]
 have hB:B.write d a s=(0,({ B with steps:=B.steps+1 }:ak).set d { B.hU d with N:=(B.hU d).N.set a.toNat s,W:=(B.hU d).W++[(a,s)] }):=by
  unfold ak.write;rw[if_neg v.nb,if_neg v.np,hw,wL v]
 have ht:=v.ti.write d a s;rw[hB]at ht ⊢;have hd:=E6 (B:=B) (B1:={ B with steps:=B.steps+1 }) (D:={ B.hU d with N:=(B.hU d).N.set a.toNat s,W:=(B.hU d).W++[(a,s)] }) rfl v.nb
 refine⟨rfl,⟨IY rfl v.nb,v.pw,by rw[hd];exact v.al,by rw[hd];simp only[List.length_set];exact v.ln,ht⟩,λx=>?_,rfl,rfl⟩;simp only[mK,hd,List.getD_eq_getElem?_getD];by_cases h:x.toNat=a.toNat
 ·rw[if_pos h,h,List.getElem?_set_self (by have:=v.ln;omega)];rfl
 ·rw[if_neg h,List.getElem?_set_ne (λe=>h e.symm)]
theorem AO(v:Lv B d):(B.flush d).1=0∧Lv (B.flush d).2 d∧(∀x,mK (B.flush d).2 d x=mK B d x)∧(B.flush d).2.steps=B.steps+1∧(B.flush d).2.left=B.left∧((B.flush d).2.hU d).W=[]:=by
 have hw:(B.hU d).flush=(0,{ B.hU d with L:=(B.hU d).N,W:=[] }):=by
  unfold cP.flush;rw[if_neg (by simp[v.al])]
 have hB:B.flush d=(0,({ B with steps:=B.steps+1 }:ak).set d { B.hU d with L:=(B.hU d).N,W:=[] }):=by
  unfold ak.flush;rw[if_neg v.nb,if_neg v.np,hw,wL v]
 have ht:=v.ti.flush d;rw[hB]at ht ⊢;have hd:=E6 (B:=B) (B1:={ B with steps:=B.steps+1 }) (D:={ B.hU d with L:=(B.hU d).N,W:=[] }) rfl v.nb
 refine⟨rfl,⟨IY rfl v.nb,v.pw,by rw[hd];exact v.al,by rw[hd];exact v.ln,ht⟩,λx=>?_,rfl,rfl,by rw[hd]⟩;simp only[mK,hd]
def mR(l:KV)(x:Int)(c:ByteArray):ByteArray:=l.foldl (λc p=>if p.1=x then p.2 else c) c
theorem mC(p:Int×ByteArray)(l:KV)(x:Int)(c:ByteArray):mR (p::l) x c=mR l x (if p.1=x then p.2 else c):=rfl
theorem Cy(l l':KV)(x:Int)(c:ByteArray):mR (l++l') x c=mR l' x (mR l x c):=List.foldl_append
theorem mD{x:Int}:∀{l:KV} {c:ByteArray},(∀p∈l,p.1≠x)->mR l x c=c
 | [],_,_=>rfl
 | p::l,c,h=>by rw[mC,if_neg (h p (by simp)),mD λq hq=>h q (by simp[hq])]
theorem vY{x:Int}{v:ByteArray}:∀{l:KV},(∀p∈l,p.1=x->p.2=v)->mR l x v=v
 | [],_=>rfl
 | p::l,h=>by
  rw[mC];by_cases e:p.1=x
  ·rw[if_pos e,h p (by simp) e,vY λq hq=>h q (by simp[hq])]
  ·rw[if_neg e,vY λq hq=>h q (by simp[hq])]
theorem rF{x:Int}{v:ByteArray}:∀{l:KV} {c:ByteArray},(∀p∈l,p.1=x->p.2=v)->(∃p∈l,p.1=x)->mR l x c=v
 | [],_,_,h=>by obtain⟨p,hp,_⟩:=h;simp at hp
 | p::l,c,h,h2=>by
  rw[mC];by_cases e:p.1=x
  ·rw[if_pos e,h p (by simp) e,vY λq hq=>h q (by simp[hq])]
  ·rw[if_neg e];obtain⟨q,hq,hx⟩:=h2;rcases List.mem_cons.1 hq with rfl|hq
   ·exact absurd hx e
   ·exact rF (λq hq=>h q (by simp[hq])) ⟨q,hq,hx⟩
theorem La{m:KV}{x:Int}:x∉m.map (·.1)->kG m x=none:=by
 induction m with
 | nil=>intro _;rfl
 | cons q r ih=>
  intro h;simp only[List.map_cons,List.mem_cons,not_or]at h;unfold kG;rw[if_neg h.1,ih h.2]
theorem CD{m:KV}{x:Int}:x∈m.map (·.1)->∃v,kG m x=some v:=by
 induction m with
 | nil=>intro h;simp at h
 | cons q r ih=>
  intro h;unfold kG;by_cases e:x=q.1
  ·exact⟨q.2,by rw[if_pos e]⟩
  ·rw[if_neg e];simp only[List.map_cons,List.mem_cons]at h;exact ih (h.resolve_left e)
theorem BS(base:Int)(m:KV)(y:Int)(c:ByteArray):mR (outs base m) (base+y) c=(kG m y).getD c:=by
 by_cases h:y∈m.map (·.1)
 ·obtain⟨v,hv⟩:=CD h;rw[hv];refine rF (λp hp e=>?_) ⟨(base+y,(kG m y).getD empty),?_,rfl⟩
  ·rw[outs,List.mem_map]at hp;obtain⟨z,hz,rfl⟩:=hp;simp only at e ⊢;obtain rfl:z=y:=by omega
   rw[hv];rfl
  ·rw[outs,List.mem_map];exact⟨y,rQ.2 h,rfl⟩
 ·rw[La h];refine mD λp hp e=>h ?_;rw[outs,List.mem_map]at hp;obtain⟨z,hz,rfl⟩:=hp;simp only at e;obtain rfl:z=y:=by omega
  exact rQ.1 hz
theorem xM{base:Int}{s:Nat}{m:KV}(o:Ab s m):∀p∈outs base m,(base≤p.1∧p.1≤base+15)∧p.2.size≤s:=by
 intro p hp;rw[outs,List.mem_map]at hp;obtain⟨z,hz,rfl⟩:=hp;have hz:=rQ.1 hz;obtain⟨v,hv⟩:=CD hz;have:=o.all _ (BK hv);simp only[hv]at this ⊢;exact⟨by omega,this.2⟩
def Iq(l:KV):Prop:=∀p∈l,(0≤p.1∧p.1<140)∧p.2.size≤2048
theorem lT:∀{l:KV} {B:ak},Lv B d->Iq l->(dX B d l).1=0∧Lv (dX B d l).2 d∧(∀x,0≤x->mK (dX B d l).2 d x=mR l x (mK B d x)) ∧
  (dX B d l).2.steps=B.steps+l.length+1∧(dX B d l).2.left=B.left∧((dX B d l).2.hU d).W=[]
 | [],B,v,_=>by
  obtain⟨h1,h2,h3,h4,h5,h6⟩:=AO v;rw[dX];exact⟨h1,h2,λx _=>h3 x,by rw[h4];simp,h5,h6⟩
 | p::r,B,v,h=>by
  have hp:=h p (by simp);obtain⟨h1,h2,h3,h4,h5⟩:=Ap v hp.1 hp.2;obtain⟨g1,g2,g3,g4,g5,g6⟩:=lT (l:=r) h2 λq hq=>h q (by simp[hq]);rw[dX,if_neg (by simp[h1])];refine⟨g1,g2,λx hx=>?_,by rw[g4,h4,List.length_cons];omega,by rw[g5,h5],g6⟩;rw[g3 x hx,h3 x,mC];congr 1;by_cases e:p.1=x
  ·rw[if_pos e,if_pos (by rw[e])]
  ·rw[if_neg e,if_neg (by omega)]
end
structure Has (B:ak) (d n:Int) (g:Int->Option ByteArray) (top:ByteArray) (ls:List ByteArray):Prop where
 hd:dep n≠0
 len:ls.length=2^dep n
 sz:∀p∈ls,p.size=32
 top:top=iz ls 1
 pairs:∀i:Nat,0<i->i<2^dep n->jI B d g i=(fU ls i,0)
theorem Ak{X y:Nat}:∀{m:Nat},y∈o7 X m↔∃t,1≤t∧t≤m∧y=X/2^t
 | 0=>⟨λh=>by simp[o7]at h,λ⟨t,h1,h2,_⟩=>by omega⟩
 | m+1=>by
  rw[o7,List.mem_cons,Ak];constructor
  ·rintro(h|⟨t,h1,h2,h3⟩)
   ·exact⟨m+1,by omega,by omega,h⟩
   ·exact⟨t,h1,by omega,h3⟩
  ·rintro⟨t,h1,h2,h3⟩;by_cases e:t=m+1
   ·exact .inl (by rw[h3,e])
   ·exact .inr ⟨t,h1,by omega,h3⟩
theorem Jr{f:Int->ByteArray×Int}{q:Int->ByteArray}:∀{l:List Int} {acc:List ByteArray},(∀x∈l,f x=(q x,0))->rO f acc l=(acc++l.map q,0)
 | [],acc,_=>by simp[rO]
 | x::r,acc,h=>by
  rw[rO,h x (by simp),if_neg (by simp),Jr λy hy=>h y (by simp[hy])];simp
theorem y6{F:Int->ByteArray}{x:Int}:∀{ks:List Int} {m:KV},kG (lU m ks (ks.map F)) x=if x∈ks then some (F x)else kG m x
 | [],m=>by rw[lU];simp;simp
 | k::ks,m=>by
  rw[List.map_cons,lU,y6,AM];by_cases h1:x∈ks
  ·rw[if_pos h1,if_pos (by simp[h1])]
  ·rw[if_neg h1];by_cases h2:x=k
   ·subst h2;rw[if_pos rfl,if_pos (by simp)]
   ·rw[if_neg h2,if_neg (by simp[h1,h2])]
section
variable {B:ak}{d n:Int}{g:Int->Option ByteArray}{top key:ByteArray}{ls:List ByteArray}{s:Nat}
theorem Has.path(hh:Has B d n g top ls)(hs:s<2^dep n):jC n s=(o7 (2^dep n+s) (dep n)).map λi:Nat=>(i:Int):=KW hh.hd
theorem Jc{k:Nat}(hs:s<2^k){y:Nat}(hy:y∈o7 (2^k+s) k):0<y∧y<2^k:=by
 obtain⟨t,h1,h2,rfl⟩:=Ak.1 hy;have:=qv hs h2;exact⟨this.1,this.2.1 (by omega)⟩
theorem BB(hh:Has B d n g top ls)(hs:s<2^dep n):lP B d n g top s=((o7 (2^dep n+s) (dep n)).map (fU ls),sa ls s,0):=by
 have e:rO (jI B d g) [] (jC n s)=((o7 (2^dep n+s) (dep n)).map (fU ls),0):=by
  rw[Jr (q:=λx=>fU ls x.toNat),hh.path hs,List.map_map,List.nil_append]
  ·rfl
  ·intro x hx;rw[hh.path hs,List.mem_map]at hx;obtain⟨y,hy,rfl⟩:=hx;have:=Jc hs hy;exact hh.pairs y this.1 this.2
 have f:=AW hh.len hh.sz hs (dep n) (Nat.le_refl _);have e1:(2^dep n+s)/2^dep n=1:=by
  rw[Nat.add_div_left _ (Nat.pow_pos (by decide)),Nat.div_eq_of_lt hs]
 rw[e1,←hh.top]at f;unfold lP;simp only[e,Int.toNat_natCast,f];simp
theorem NW{k i:Nat}(hs:s<2^k)(h0:0<i)(hi:i<2^k):i∉o7 (2^k+s) k->∀m,(2^k+s)/2^m≠i:=by
 intro hn m e;by_cases h1:m=0
 ·subst h1;rw[Nat.pow_zero,Nat.div_one]at e;omega
 ·by_cases h2:m≤k
  ·exact hn (Ak.2 ⟨m,by omega,h2,e.symm⟩)
  ·have h3:2^(k+1)≤2^m:=Nat.pow_le_pow_right (by decide) (by omega);rw[Nat.pow_succ]at h3;have h4:(2^k+s)/2^m=0:=Nat.div_eq_of_lt (by omega);omega
theorem Of{ch:KV}{x:ByteArray}(hh:Has B d n (kG ch) top ls)(hs:s<2^dep n)(hx:x.size=32):
  Has B d n (kG (lU ch (jC n s) (oo s x ((o7 (2^dep n+s) (dep n)).map (fU ls))).1)) (oo s x ((o7 (2^dep n+s) (dep n)).map (fU ls))).2 (ls.set s x) ∧
  ∀v∈(oo s x ((o7 (2^dep n+s) (dep n)).map (fU ls))).1,v.size≤64:=by
 have e:=Ev (x:=x) hh.len hh.sz hs (dep n) (Nat.le_refl _);have e1:(2^dep n+s)/2^dep n=1:=by
  rw[Nat.add_div_left _ (Nat.pow_pos (by decide)),Nat.div_eq_of_lt hs]
 rw[e1]at e;have hz:∀p∈ls.set s x,p.size=32:=λp hp=>by
  rcases List.mem_or_eq_of_mem_set hp with hp|rfl
  ·exact hh.sz p hp
  ·exact hx
 have hl:(ls.set s x).length=2^dep n:=by rw[List.length_set];exact hh.len
 have ep:(o7 (2^dep n+s) (dep n)).map (fU (ls.set s x))=(jC n s).map λz=>fU (ls.set s x) z.toNat:=by
  rw[hh.path hs,List.map_map];rfl
 rw[e];refine⟨⟨hh.hd,hl,hz,rfl,λi h0 hi=>?_⟩,λv hv=>?_⟩
 ·simp only[ep];unfold jI;rw[y6];by_cases hm:(i:Int)∈jC n s
  ·rw[if_pos hm];rfl
  ·rw[if_neg hm];have hm2:i∉o7 (2^dep n+s) (dep n):=λh=>hm (by rw[hh.path hs,List.mem_map];exact⟨i,h,rfl⟩);have:=hh.pairs i h0 hi;rw[Kg (by rw[hh.len];exact hs) h0 (by rw[hh.len];exact NW hs h0 hi hm2)];unfold jI at this;exact this
 ·obtain⟨y,hy,rfl⟩:=List.mem_map.1 hv;have:=Jc hs hy;exact Nat.le_of_eq (mH hz this.1 (by rw[hl];exact this.2))
def u9(ls:List ByteArray)(l:KV):List ByteArray:=l.foldl (λls p=>ls.set p.1.toNat (dH 0 p.2)) ls
def Hu(cs:List ByteArray)(l:KV):List ByteArray:=l.foldl (λls p=>ls.set p.1.toNat p.2) cs
def Sx(n:Int)(l:KV):Prop:=∀p∈l,0≤p.1∧p.1<n∧p.2.size≤2032
theorem Cn:∀{l:KV} {top:ByteArray} {ch ce:KV} {ls:List ByteArray},Has B d n (kG ch) top ls->Sx n l->Ab 64 ch->Ab 2032 ce ->
  ∃ch' ce' top',pG B d n top ch ce l=(ch',ce',top',0)∧Has B d n (kG ch') top' (u9 ls l)∧Ab 64 ch'∧Ab 2032 ce'∧∀y c,(kG ce' y).getD c=mR l y ((kG ce y).getD c)
 | [],top,ch,ce,ls,hh,_,o1,o2=>⟨ch,ce,top,rfl,hh,o1,o2,λ_ _=>rfl⟩
 | p::r,top,ch,ce,ls,hh,hc,o1,o2=>by
  obtain⟨q,x⟩:=p;have hp:=hc (q,x) (by simp);simp only at hp;obtain⟨s,rfl⟩:=Int.eq_ofNat_of_zero_le hp.1;have hn:=pS hh.hd;have hs:s<2^dep n:=by
   generalize 2^dep n=w at hn ⊢;omega
  have ho:=BB hh hs;obtain⟨h1,h2⟩:=Of (x:=dH 0 x) hh hs (jJ _ _);have hpl:=DF hh.hd (s:=(s:Int)) ⟨hp.1,hp.2.1⟩;have hsm:=iC hh.hd;obtain⟨ch',ce',top',g1,g2,g3,g4,g5⟩:=Cn (l:=r) h1 (λp hp=>hc p (by simp[hp])) (o1.ku hpl h2) (o2.ins (k:=(s:Int)) (v:=x) (by omega) hp.2.2);refine⟨ch',ce',top',?_,g2,g3,g4,λy c=>?_⟩
  ·rw[pG];simp only[ho,Int.toNat_natCast];rw[if_neg (by simp)];exact g1
  ·rw[g5,mC,AM];congr 1;by_cases e:y=(s:Int)
   ·rw[if_pos e,if_pos e.symm];rfl
   ·rw[if_neg e,if_neg (λh=>e h.symm)]
theorem LG(l:KV):∀(cs:List ByteArray),u9 (cs.map (dH 0)) l=(Hu cs l).map (dH 0):=by
 induction l with
 | nil=>intro cs;rfl
 | cons p r ih=>
  intro cs;show u9 ((cs.map (dH 0)).set p.1.toNat (dH 0 p.2)) r=(Hu (cs.set p.1.toNat p.2) r).map (dH 0);rw[←List.map_set,ih]
theorem MF(l:KV):∀(cs:List ByteArray),(Hu cs l).length=cs.length:=by
 induction l with
 | nil=>intro cs;rfl
 | cons p r ih=>intro cs;show(Hu (cs.set p.1.toNat p.2) r).length=_;rw[ih,List.length_set]
theorem I2:∀{l:KV} {cs:List ByteArray},(∀p∈l,0≤p.1∧p.1<cs.length)->∀i:Nat,sa (Hu cs l) i=mR l i (sa cs i)
 | [],cs,_,i=>rfl
 | p::r,cs,h,i=>by
  have hp:=h p (by simp);show sa (Hu (cs.set p.1.toNat p.2) r) i=_;rw[I2 (λq hq=>by rw[List.length_set];exact h q (by simp[hq])),mC,Hx (by omega)];congr 1;by_cases e:p.1=(i:Int)
  ·rw[if_pos e,if_pos (by omega)]
  ·rw[if_neg e,if_neg (by omega)]
structure Holds (B:ak) (d n:Int) (top:ByteArray) (cs:List ByteArray):Prop where
 has:Has B d n (λ_=>none) top (cs.map (dH 0))
 cell:∀i:Nat,i<2^dep n->mK B d (120+(i:Int))=sa cs i
theorem Holds.len{cs:List ByteArray}(o:Holds B d n top cs):cs.length=2^dep n:=by rw[←o.has.len,List.length_map]
theorem EY{ch ce:KV}{cs l:List ByteArray}(v:Lv B d)(hh:Has B d n (kG ch) top (l.map (dH 0)))(o1:Ab 64 ch)(o2:Ab 2032 ce)(hl:l.length=2^dep n)
  (hc:∀i:Nat,i<2^dep n->(kG ce i).getD (mK B d (120+(i:Int)))=sa l i):
  Iq (outs 100 ch++outs 120 ce)∧Holds (dX B d (outs 100 ch++outs 120 ce)).2 d n top l:=by
 have fit:Iq (outs 100 ch++outs 120 ce):=by
  intro p hp;rcases List.mem_append.1 hp with hp|hp
  ·have:=xM o1 p hp;omega
  ·have:=xM o2 p hp;omega
 obtain⟨h1,h2,h3,h4,h5,h6⟩:=lT v fit;have hsm:=iC hh.hd;have hn:=pS hh.hd;refine⟨fit,⟨⟨hh.hd,hh.len,hh.sz,hh.top,λi h0 hi=>?_⟩,λi hi=>?_⟩⟩
 ·have hi16:(i:Int)<16:=by
   generalize 2^dep n=w at hn hi;omega
  have hp:=hh.pairs i h0 hi;show ak.read _ _ _ = _;rw[lZ h2 (by omega),h3 _ (by omega),Cy,BS];rw[mD (l:=outs 120 ce) λp hp=>by have:=xM o2 p hp;omega];unfold jI at hp;cases e:kG ch i with
  | none=>
   rw[e]at hp;simp only at hp;rw[lZ v (by omega)]at hp;exact hp
  | some p=>rw[e]at hp;exact hp
 ·have hi16:(i:Int)<16:=by
   generalize 2^dep n=w at hn hi;omega
  rw[h3 _ (by omega),Cy,BS,mD (l:=outs 100 ch) λp hp=>by have:=xM o1 p hp;omega];exact hc i hi
theorem Holds.Ph{cs:List ByteArray}(o:Holds B d n top cs):Has B d n (kG []) top (cs.map (dH 0)):=o.has
theorem Mg{cs:List ByteArray}{l:KV}(v:Lv B d)(hk:key.size=32)(o:Holds B d n top cs)(hc:Sx n l):
  ∃ws top',sY B key d n top l=(ws,top',0)∧Iq ws∧ws.length≤32∧Holds (dX B d ws).2 d n top' (Hu cs l):=by
 have g:iS B d n key:=⟨o.has.hd,hk,v.nb⟩;have hn:=pS o.has.hd;obtain⟨ch,ce,top',h1,h2,h3,h4,h5⟩:=Cn o.Ph hc (.nil 64) (.nil 2032);rw[LG]at h2;obtain⟨h6,h7⟩:=EY (cs:=cs) v h2 h3 h4 (by rw[MF,o.len]) λi hi=>by
  rw[h5,I2 λp hp=>by have:=hc p hp;have:=o.len;omega,←o.cell i hi];rfl
 refine⟨_,top',?_,h6,?_,h7⟩
 ·have hck:qj (iS B d n key) n l=0:=by
   unfold qj;rw[if_neg (by simp[g])];clear h1 h2 h3 h4 h5 h6 h7;induction l with
   | nil=>rfl
   | cons p r ih=>
    have hp:=hc p (by simp);rw[B7,if_neg (by simp[oz.2 ⟨g,hp.1,hp.2.1⟩]),if_neg (by omega)];exact ih λq hq=>hc q (by simp[hq])
  unfold sY;rw[if_neg (by simp[hck]),h1,if_neg (by simp)]
 ·rw[List.length_append,xO,xO];have:=h3.len;have:=h4.len;omega
theorem G9{cs:List ByteArray}(o:Holds B d n top cs)(hs:s<2^dep n):(lP B d n (λ_=>none) top s).2=(dH 0 (sa cs s),0):=by
 rw[BB o.has hs];have:s<cs.length:=by rw[o.len];exact hs
 rw[kM (by rw[List.length_map];exact this),kM this,List.getElem_map]
theorem Kn{cs:List ByteArray}(v:Lv B d)(hk:key.size=32)(o:Holds B d n top cs)(hs:s<2^dep n):getM B key d n top s=Dk key d s (dH 0 (sa cs s)) (sa cs s,0):=by
 have g:iS B d n key:=⟨o.has.hd,hk,v.nb⟩;have hn:=pS o.has.hd;have hsm:=iC o.has.hd;have h1:0≤(s:Int)∧(s:Int)<n:=by
  generalize 2^dep n=w at hn hs;omega
 unfold getM NY;rw[if_neg (by simp[oz.2 ⟨g,h1⟩]),G9 o hs,if_neg (by simp),lZ v (by omega),o.cell s hs]
theorem EO{slot:Int}{nonce pl:ByteArray}(hz:nonce.size=12):Dk key d slot (dH 0 (cellOf key d slot nonce pl)) (cellOf key d slot nonce pl,0)=(pl,0):=by
 have h1:=zk key d slot nonce pl;unfold Dk zG;rw[if_neg (by simp),if_neg (by simp),if_neg (λe=>by have e:cellOf key d slot nonce pl=empty:=e;rw[e]at h1;simp at h1),if_neg (by simp only;omega)];have e1:(cellOf key d slot nonce pl).extract 0 12=nonce:=by
  rw[cellOf,←hz];exact ByteArray.extract_append_eq_left rfl
 have e2:(cellOf key d slot nonce pl).extract 12 (cellOf key d slot nonce pl).size=qK key nonce (zD d slot) pl:=by
  rw[cellOf,←hz];exact ByteArray.extract_append_eq_right rfl (by rw[ByteArray.size_append])
 simp only[e1,e2,HM]
theorem Df(hd:dep n≠0):Iq (jQ n):=by
 have hsm:=iC hd;intro p hp;rw[jQ,List.mem_append,List.mem_map,List.mem_map]at hp;rcases hp with ⟨i,hi,rfl⟩|⟨i,hi,rfl⟩
 ·have hi:=List.mem_range.1 hi;have:(fU (j5 n) (i+1)).size=64:=mH (oM n) (by omega) (by rw[ox];omega);simp only;omega
 ·have hi:=List.mem_range.1 hi;have:ByteArray.empty.size=0:=rfl;simp only;omega
theorem Kz(v:Lv B d)(hd:dep n≠0):Holds (dX B d (jQ n)).2 d n (jx n) (List.replicate n.toNat empty):=by
 obtain⟨h1,h2,h3,h4,h5,h6⟩:=lT v (Df hd);have hsm:=iC hd;have hn:=pS hd;have hN:n.toNat=2^dep n:=by
  generalize 2^dep n=w at hn ⊢;omega
 have hL:(List.replicate n.toNat empty).map (dH 0)=j5 n:=by rw[List.map_replicate];rfl
 refine⟨⟨hd,by rw[List.length_map,List.length_replicate,hN],λp hp=>?_,?_,λi h0 hi=>?_⟩,λi hi=>?_⟩
 ·rw[hL]at hp;exact oM n p hp
 ·rw[hL];rfl
 ·rw[hL];rw[←hN]at hi;show ak.read _ _ _ = _;rw[lZ h2 (by omega),h3 _ (by omega),rF (v:=fU (j5 n) i)]
  ·intro p hp e;rw[jQ,List.mem_append,List.mem_map,List.mem_map]at hp;rcases hp with ⟨j,hj,rfl⟩|⟨j,hj,rfl⟩
   ·simp only at e ⊢;rw[show j+1=i by omega]
   ·simp only at e;omega
  ·refine⟨(100+(i:Int),fU (j5 n) i),?_,rfl⟩;rw[jQ,List.mem_append,List.mem_map];refine .inl ⟨i-1,List.mem_range.2 (by omega),?_⟩;rw[show i-1+1=i by omega]
 ·rw[←hN]at hi;rw[h3 _ (by omega),kM (by rw[List.length_replicate];exact hi),List.getElem_replicate,rF (v:=empty)]
  ·intro p hp e;rw[jQ,List.mem_append,List.mem_map,List.mem_map]at hp;rcases hp with ⟨j,hj,rfl⟩|⟨j,hj,rfl⟩
   ·have hj:=List.mem_range.1 hj;simp only at e ⊢;omega
   ·rfl
  ·refine⟨(120+(i:Int),empty),?_,rfl⟩;rw[jQ,List.mem_append];refine .inr (List.mem_map.2 ⟨i,List.mem_range.2 hi,rfl⟩)
end
section
variable {B:ak}{d n:Int}{top key:ByteArray}{cs:List ByteArray}{k:Nat}
theorem tY{l:KV}(g:iS B d n key):jN B key d n l=dX B d l:=by unfold jN;rw[if_neg (by simp[g])]
theorem wI(hd:dep n≠0):(jQ n).length≤32:=by
 have:=iC hd;simp only[jQ,List.length_append,List.length_map,List.length_range];omega
end
end Go.Proofs.YtmfcgihgdhfalaaGreatDoor
namespace Go.Proofs.YtmfcgihgdhfalaaGreatDoor
open Go.Sh Go.RowKit Classical
theorem cP.Ou(D:cP)(a:Int)(s:ByteArray):(D.write a s).2.N.length=D.N.length:=by
 unfold cP.write;split
 ·rfl
 ·split
  ·rfl
  ·simp
theorem cP.OV(D:cP):D.flush.2.N.length=D.N.length:=by
 unfold cP.flush;split<;>rfl
structure Bk (B:ak) (c k:Nat):Prop where
 ok:B.Ok
 rm:Room B k
 ti:B.ur
 ln:∀D∈B.ds,D.N.length=c
theorem LJ{B B1:ak}{c:Nat}{i:Int}{D:cP}(h:∀D∈B.ds,D.N.length=c)(h1:B1.ds=B.ds)(hD:D.N.length=c):∀E∈(B1.set i D).ds,E.N.length=c:=by
 intro E hE;simp only[ak.set,h1]at hE;rcases List.mem_or_eq_of_mem_set hE with hE|rfl
 ·exact h E hE
 ·exact hD
namespace ak
variable {B:ak}{i a:Int}{s:ByteArray}
theorem zV:(B.write i a s).2.ds.length=B.ds.length:=by
 unfold write;split
 ·rfl
 ·split
  ·rfl
  ·simp[set,j3]
theorem Jd:(B.flush i).2.ds.length=B.ds.length:=by
 unfold flush;split
 ·rfl
 ·split
  ·rfl
  ·simp[set,j3]
end ak
namespace Bk
variable {B:ak}{c k:Nat}
theorem mono{m:Nat}(b:Bk B c k)(h:m≤k):Bk B c m:=⟨b.ok,b.rm.mono h,b.ti,b.ln⟩
theorem sm(b:Bk B c k):B.Sm:=b.ti.sm
theorem write(b:Bk B c (k+1))(i a:Int)(s:ByteArray):Bk (B.write i a s).2 c k:=by
 refine⟨ak.xx b.ok i a s,vH b.ok.left b.rm i a s,b.ti.write i a s,?_⟩;unfold ak.write;split
 ·exact b.ln
 ·rename_i hb;split
  ·exact b.ln
  ·exact LJ b.ln B.j3 (by rw[cP.Ou];exact b.ln _ (rL hb))
theorem flush(b:Bk B c (k+1))(i:Int):Bk (B.flush i).2 c k:=by
 refine⟨ak.xk b.ok i,GV b.ok.left b.rm i,b.ti.flush i,?_⟩;unfold ak.flush;split
 ·exact b.ln
 ·rename_i hb;split
  ·exact b.ln
  ·exact LJ b.ln B.j3 (by rw[cP.OV];exact b.ln _ (rL hb))
theorem iU(b:Bk B c (k+1)):Bk B.iU.2 c k:=by
 have h:=uA B b.ok.left;have r:=b.rm;refine⟨ak.tW b.ok,⟨by have:=r.steps;omega,by have:=r.left;omega,λD hD=>?_⟩,λD hD=>b.ti D (by rwa [ak.j3]at hD),λD hD=>b.ln D (by rwa [ak.j3]at hD)⟩;rw[ak.j3]at hD;have:=r.waits D hD;omega
theorem writes{d:Int}:∀{l:KV} {B:ak},Bk B c (k+l.length+1)->Bk (dX B d l).2 c k
 | [],B,b=>(b.mono (by simp)).flush d
 | p::l,B,b=>by
  have h1:Bk (B.write d p.1 p.2).2 c (k+l.length+1):=(b.mono (by simp;omega)).write d p.1 p.2;rw[dX];split
  ·exact h1.mono (by omega)
  ·exact writes h1
theorem apply{key:ByteArray}{d n:Int}{l:KV}(b:Bk B c (k+l.length+1)):Bk (jN B key d n l).2 c k:=by
 unfold jN;split
 ·exact b.mono (by omega)
 ·exact b.writes
end Bk
theorem CT{d:Int}:∀{l:KV} {B:ak},(dX B d l).2.ds.length=B.ds.length
 | [],B=>ak.Jd
 | p::l,B=>by
  rw[dX];split
  ·exact ak.zV
  ·rw[CT,ak.zV]
theorem Mr{B:ak}{key:ByteArray}{d n:Int}{l:KV}:(jN B key d n l).2.ds.length=B.ds.length:=by
 unfold jN;split
 ·rfl
 ·exact CT
structure qG where
 B:ak
 cnt:Int
 gC:ByteArray
noncomputable def gJ(s:gD):ByteArray:=if s.good then od s else empty
def lB(B:ak)(d a:Int)(t:ByteArray):Int×ak:=if(B.write d a t).1≠0 then B.write d a t else(B.write d a t).2.flush d
def lI(a:Int)(t:ByteArray)(B:ak):Nat->Bool×Bool×ak
 | 0=>(false,false,B)
 | m+1=>if(lI a t B m).1=true then lI a t B m else
   (decide ((lB (lI a t B m).2.2 m a t).1=21),(lI a t B m).2.1 || decide ((lB (lI a t B m).2.2 m a t).1=0),(lB (lI a t B m).2.2 m a t).2)
def ED(V:qG)(s:gD)(d:ByteArray)(r:Bool×Bool×ak):Int×qG:=
 if r.1=true then(21,⟨r.2.2,V.cnt,V.gC⟩)else if r.2.1=false then(24,⟨r.2.2,V.cnt,V.gC⟩)
 else if r.2.2.iU.1≠0 then(r.2.2.iU.1,⟨r.2.2.iU.2,V.cnt,V.gC⟩)
 else if s.count≤V.cnt then(25,⟨r.2.2.iU.2,V.cnt,V.gC⟩)else(0,⟨r.2.2.iU.2,s.count,d⟩)
noncomputable def iY(V:qG)(s:gD):Int×qG:=ED V s (dH 2 (gJ s)) (lI (s.count.tmod 2) (gJ s) V.B V.B.ds.length)
def mN:gD:=⟨0,0,0,0,0,0,false,[],[]⟩
noncomputable def oB(gC:ByteArray)(n:Nat)(t:ByteArray):Option (Int×gD):=
 if dH 2 t≠gC then none else match nC t with|none=>none|some s=>if s.aj.length≠n then some (24,mN)else some (0,s)
noncomputable def findD(B:ak)(gC:ByteArray)(n:Nat)(d:Int):Option (Int×gD):=
 if(B.read d 0).2=21 then some (21,mN)else if(B.read d 0).2≠0 then none else
 match oB gC n (B.read d 0).1 with
 | some x=>some x
 | none=>if(B.read d 1).2=21 then some (21,mN)else if(B.read d 1).2≠0 then none else oB gC n (B.read d 1).1
noncomputable def mF(B:ak)(gC:ByteArray)(n:Nat):Nat->Option (Int×gD)
 | 0=>none
 | m+1=>match mF B gC n m with|some x=>some x|none=>findD B gC n m
noncomputable def ig(B:ak)(gC:ByteArray):Int×gD:=(mF B gC B.ds.length B.ds.length).getD (24,mN)
def kK(B:ak)(d:Int):Nat->List ByteArray×Int
 | 0=>([],0)
 | m+1=>if(kK B d m).2≠0 then kK B d m else if(B.read d (2+(m:Int))).2≠0 then([],(B.read d (2+(m:Int))).2)else((kK B d m).1++[(B.read d (2+(m:Int))).1],0)
noncomputable def lC(B:ak)(d:Int)(gC:ByteArray):KV×Int:=
 if(B.read d 2).2≠0 then([],(B.read d 2).2)else if(jb (B.read d 2).1).2≠0 then([],(jb (B.read d 2).1).2)else
 if(kK B d (jb (B.read d 2).1).1.toNat).2≠0 then([],(kK B d (jb (B.read d 2).1).1.toNat).2)else qV (kK B d (jb (B.read d 2).1).1.toNat).1 gC
def Mem.o5(m:Mem):Prop:=m.st=1∨m.st=3
instance (m:Mem):Decidable m.o5:=by unfold Mem.o5;infer_instance
noncomputable def pN(key:ByteArray)(n:Int)(B:ak)(d:Int)(x:Mem):Int×ak:=
 if ¬x.o5 then(0,B)else if(lC B d x.log).2=0∧0<(lC B d x.log).1.length then jN B key d n (lC B d x.log).1 else((lC B d x.log).2,B)
noncomputable def lq(key:ByteArray)(s:gD)(B:ak):Nat->Int×ak
 | 0=>(0,B)
 | m+1=>if(lq key s B m).1≠0 then lq key s B m else
   (if(pN key s.slots (lq key s B m).2 m (mb s.aj m)).1=21 then 21 else 0,(pN key s.slots (lq key s B m).2 m (mb s.aj m)).2)
def oy(B:ak)(key:ByteArray):Int:=if key.size≠32∨(B.hU 0).N.length<140 then 2 else 0
def Du(n:Int):Int:=wrap .u64 n
def gD.next(s:gD):gD:={ s with count:=Du (s.count+1),dS:=Du (s.dS+1),aj:=s.aj.map λm=>{ m with log:=gF } }
noncomputable def lH(V:qG)(key:ByteArray):Int×qG×gD:=
 if oy V.B key≠0 then(oy V.B key,V,mN)else if V.cnt=0 then(11,V,mN)else
 if(ig V.B V.gC).1≠0 then((ig V.B V.gC).1,V,mN)else if(ig V.B V.gC).2.dS≥4294967295 then(25,V,mN)else
 let r:=lq key (ig V.B V.gC).2 V.B (ig V.B V.gC).2.aj.length
 if r.1≠0 then(r.1,{ V with B:=r.2 },mN)else
 let p:=iY { V with B:=r.2 } (ig V.B V.gC).2.next
 if p.1≠0 then(p.1,p.2,mN)else(0,p.2,(ig V.B V.gC).2.next)
def ij(d n m:Int)(g:Bool):Prop:=dep n≠0∧2≤d∧d≤(if g=true then 7 else 8)∧0≤m∧m<n∧(g=true∨m=0)
instance (d n m:Int) (g:Bool):Decidable (ij d n m g):=by unfold ij;infer_instance
def mz(key:ByteArray)(data slots:Int)(B:ak):Nat->Int×ak
 | 0=>(0,B)
 | m+1=>if(mz key data slots B m).1≠0 then mz key data slots B m else if(m:Int)<data+2 then jN (mz key data slots B m).2 key m slots (jQ slots)else mz key data slots B m
def iA(data slots:Int)(i:Nat):Mem:=if(i:Int)<data+2 then⟨1,jx slots,gF⟩else⟨0,kL 32,gF⟩
def dz(data slots:Int)(n:Nat):gD:=⟨1,1,data,slots,0,0,false,((List.range n).filter λi:Nat=>(i:Int)<data+2).map λi:Nat=>(i:Int),(List.range n).map (iA data slots)⟩
noncomputable def mO(V:qG)(key:ByteArray)(data slots:Int):Int×qG:=
 if oy V.B key≠0 then(oy V.B key,V)else if ¬ij data slots 0 false∨(V.B.ds.length:Int)<data+2 then(2,V)else if V.cnt≠0 then(13,V)else
 let r:=mz key data slots V.B V.B.ds.length
 if r.1≠0 then(r.1,{ V with B:=r.2 })else iY { V with B:=r.2 } (dz data slots V.B.ds.length)
/-! ### What stays -/
section
variable {B:ak}{c k:Nat}{key t:ByteArray}{a d:Int}
theorem Bk.yL(b:Bk B c (k+2))(d a:Int)(t:ByteArray):Bk (lB B d a t).2 c k:=by
 unfold lB;split
 ·exact((b.mono (by omega)).write d a t).mono (Nat.le_refl k)
 ·exact(Bk.write (k:=k+1) b d a t).flush d
theorem OA:(lB B d a t).2.ds.length=B.ds.length:=by
 unfold lB;split
 ·exact ak.zV
 ·rw[ak.Jd,ak.zV]
theorem A7:∀m,(lI a t B m).2.2.ds.length=B.ds.length
 | 0=>rfl
 | m+1=>by
  rw[lI];split
  ·exact A7 m
  ·rw[OA,A7 m]
theorem Bk.Rt(a:Int)(t:ByteArray):∀(m:Nat) {k:Nat},Bk B c (k+2*m)->Bk (lI a t B m).2.2 c k
 | 0,_,b=>b
 | m+1,k,b=>by
  have h:=Bk.Rt (k:=k+2) a t m (b.mono (by omega));rw[lI];split
  ·exact h.mono (by omega)
  ·exact h.yL m a t
structure rW (V:qG) (c k:Nat):Prop where
 bk:Bk V.B c k
 c0:0≤V.cnt
 c1:V.cnt<18446744073709551616
theorem rW.mono{V:qG}{m:Nat}(v:rW V c k)(h:m≤k):rW V c m:=⟨v.bk.mono h,v.c0,v.c1⟩
theorem Ih(V:qG)(s:gD):(iY V s).2.B.ds.length=V.B.ds.length:=by
 have h:=A7 (a:=s.count.tmod 2) (t:=gJ s) (B:=V.B) V.B.ds.length;unfold iY ED;generalize lI (s.count.tmod 2) (gJ s) V.B V.B.ds.length=r at *
 repeat' split
 all_goals first|exact h|(rw[ak.j3];exact h)
theorem rW.xu{V:qG}{s:gD}(v:rW V c (k+25))(hb:s.ji):rW (iY V s).2 c k:=by
 have hn:=v.bk.ok.small;have h:=Bk.Rt (B:=V.B) (c:=c) (k:=k+1) (s.count.tmod 2) (gJ s) V.B.ds.length (v.bk.mono (by omega));unfold iY ED;generalize lI (s.count.tmod 2) (gJ s) V.B V.B.ds.length=r at *;have h2:=h.iU;have h1:=h.mono (m:=k) (by omega);have c0:=v.c0;have c1:=v.c1;obtain⟨⟨b0,b1⟩,_⟩:=hb
 repeat' split
 all_goals first|exact⟨h1,c0,c1⟩|exact⟨h2,c0,c1⟩|exact⟨h2,b0,b1⟩
theorem xI{P:ByteArray->Prop}(hp:∀a,P (B.read d a).1):∀m,∀s∈(kK B d m).1,P s
 | 0,s,hs=>by simp[kK]at hs
 | m+1,s,hs=>by
  rw[kK]at hs;split at hs
  ·exact xI hp m s hs
  ·split at hs
   ·simp at hs
   ·rcases List.mem_append.1 hs with hs|hs
    ·exact xI hp m s hs
    ·rw[List.mem_singleton.1 hs];exact hp _
theorem Bn:∀m,(kK B d m).2=0->(kK B d m).1.length=m
 | 0,_=>rfl
 | m+1,h=>by
  rw[kK]at h ⊢;by_cases e:(kK B d m).2=0
  ·rw[if_neg (by simp[e])]at h ⊢;by_cases e2:(B.read d (2+(m:Int))).2=0
   ·rw[if_neg (by simp[e2])];simp[Bn m e]
   ·rw[if_pos e2]at h;exact absurd h e2
  ·rw[if_pos e]at h;exact absurd h e
theorem EE(xs:List ByteArray)(sum:ByteArray):(qV xs sum).1.length≤95:=by
 unfold qV;by_cases e:xs=[]
 ·rw[if_pos e];simp
 rw[if_neg e];by_cases e1:(jb (sa xs 0)).2=0;rotate_left
 ·rw[if_pos e1];simp
 rw[if_neg (by simp[e1])];have:=qD e1
 repeat' split
 all_goals first|simp|skip
 all_goals omega
theorem De(gC:ByteArray):(lC B d gC).1.length≤95:=by
 unfold lC
 repeat' split
 all_goals first|exact EE _ _|simp
theorem Bk.pN{n:Int}{x:Mem}(b:Bk B c (k+96)):Bk (pN key n B d x).2 c k:=by
 unfold Go.Proofs.YtmfcgihgdhfalaaGreatDoor.pN;have h:=De (B:=B) (d:=d) x.log
 repeat' split
 ·exact b.mono (by omega)
 ·exact Bk.apply (b.mono (by omega))
 ·exact b.mono (by omega)
theorem Bk.rep{s:gD}:∀(m:Nat) {k:Nat},Bk B c (k+96*m)->Bk (lq key s B m).2 c k
 | 0,_,b=>b
 | m+1,k,b=>by
  have h:=Bk.rep (k:=k+96) (s:=s) m (b.mono (by omega));rw[lq];split
  ·exact h.mono (by omega)
  ·exact h.pN
theorem wR{data slots:Int}:∀m,(mz key data slots B m).2.ds.length=B.ds.length
 | 0=>rfl
 | m+1=>by
  rw[mz];split
  ·exact wR m
  ·split
   ·rw[Mr,wR m]
   ·exact wR m
theorem Bk.fmt{data slots:Int}(hd:dep slots≠0):∀(m:Nat) {k:Nat},Bk B c (k+33*m)->Bk (mz key data slots B m).2 c k
 | 0,_,b=>b
 | m+1,k,b=>by
  have h:=Bk.fmt (k:=k+33) (data:=data) hd m (b.mono (by omega));have hw:=wI hd;rw[mz];split
  ·exact h.mono (by omega)
  ·split
   ·exact Bk.apply (h.mono (by omega))
   ·exact h.mono (by omega)
end
/-! ### Records -/
theorem tM:gF.size=32:=by rw[gF,yq,jJ]
theorem CJ{gC t:ByteArray}{n:Nat}{s:gD}(h:oB gC n t=some (0,s)):s.good∧s.ji∧s.aj.length=n:=by
 unfold oB at h;split at h
 ·simp at h
 ·split at h
  ·simp at h
  ·rename_i x hx;split at h
   ·simp at h
   ·rename_i hn;simp only[Option.some.injEq,Prod.mk.injEq,true_and]at h;subst h;obtain⟨h1,h2,_⟩:=sO hx;exact⟨h1,h2,Decidable.not_not.1 hn⟩
theorem A8{B:ak}{gC:ByteArray}{n:Nat}{s:gD}:∀{m},mF B gC n m=some (0,s)->s.good∧s.ji∧s.aj.length=n
 | 0,h=>by simp[mF]at h
 | m+1,h=>by
  rw[mF]at h;cases e:mF B gC n m with
  | some x=>rw[e]at h;simp only[Option.some.injEq]at h;rw[h]at e;exact A8 e
  | none=>
   rw[e]at h;simp only at h;unfold findD at h;split at h
   ·simp at h
   ·split at h
    ·simp at h
    ·cases e1:oB gC n (B.read m 0).1 with
     | some x=>rw[e1]at h;simp only[Option.some.injEq]at h;rw[h]at e1;exact CJ e1
     | none=>
      rw[e1]at h;simp only at h;split at h
      ·simp at h
      ·split at h
       ·simp at h
       ·exact CJ h
theorem qo{B:ak}{gC:ByteArray}(h:(ig B gC).1=0):(ig B gC).2.good∧(ig B gC).2.ji∧(ig B gC).2.aj.length=B.ds.length:=by
 unfold ig at h ⊢;cases e:mF B gC B.ds.length B.ds.length with
 | none=>rw[e]at h;simp at h
 | some x=>
  obtain⟨z,s⟩:=x;rw[e]at h;simp only[Option.getD_some]at h ⊢;subst h;exact A8 e
theorem OE{l:List Mem}{f:Mem->Mem}(h:∀m,(f m).st=m.st):yD (l.map f)=yD l:=by
 unfold yD;rw[List.countP_map];congr 1;funext m;simp[h]
theorem Px{l:List Mem}{f:Mem->Mem}{i:Nat}(hi:i<l.length):mb (l.map f) i=f (mb l i):=by
 rw[mJ (by simpa using hi),mJ hi,List.getElem_map]
theorem DZ(n:Int):0≤Du n∧Du n<18446744073709551616:=by unfold Du;rw[IntKind.wrap_u64];omega
theorem gD.yO{s:gD}(g:s.good):s.next.good:=by
 obtain⟨g1,⟨g2,g3⟩,g4,g5,g6,g7⟩:=g;refine⟨⟨g1.1,g1.2.1,g1.2.2.1,g1.2.2.2.1,g1.2.2.2.2.1,?_,?_⟩,⟨?_,?_⟩,g4,?_,g6,?_⟩
 ·show 1≤(s.aj.map _).length;rw[List.length_map];exact g1.2.2.2.2.2.1
 ·show(s.aj.map _).length≤12;rw[List.length_map];exact g1.2.2.2.2.2.2
 ·intro m hm;obtain⟨x,hx,rfl⟩:=List.mem_map.1 hm;obtain⟨h1,h2,h3,_⟩:=g2 x hx;exact⟨h1,h2,h3,tM⟩
 ·show yD (s.aj.map _)=1∨yD (s.aj.map _)=0∧s.built=0;rw[OE (f:=λm=>{ m with log:=gF }) λ_=>rfl];exact g3
 ·show ∀i∈s.av,0≤i∧i<((s.aj.map _).length:Nat);rw[List.length_map];exact g5
 ·show ∀i:Nat,i<(s.aj.map _).length->(mb (s.aj.map _) i).st≠2->((i:Int)∈s.av↔(mb (s.aj.map _) i).st≠0);intro i hi;rw[List.length_map]at hi;rw[Px hi];exact g7 i hi
theorem gD.uz(s:gD):s.next.ji:=⟨DZ _,DZ _⟩
theorem rW.tw{V:qG}{c k:Nat}(v:rW V c (k+1200))(key:ByteArray):rW (lH V key).2.1 c k:=by
 unfold lH;split
 ·exact v.mono (by omega)
 split
 ·exact v.mono (by omega)
 split
 ·exact v.mono (by omega)
 rename_i hf;obtain⟨_,_,hl⟩:=qo (Decidable.not_not.1 hf);split
 ·exact v.mono (by omega)
 have hn:=v.bk.ok.small;have h:=Bk.rep (B:=V.B) (c:=c) (k:=k+25) (key:=key) (s:=(ig V.B V.gC).2) (ig V.B V.gC).2.aj.length (v.bk.mono (by rw[hl];omega));have hv:rW { V with B:=(lq key (ig V.B V.gC).2 V.B (ig V.B V.gC).2.aj.length).2 } c (k+25):=⟨h,v.c0,v.c1⟩
 dsimp only;split
 ·exact hv.mono (by omega)
 ·have hp:=hv.xu (s:=(ig V.B V.gC).2.next) (gD.uz _)
  split
  ·exact hp
  ·exact hp
theorem Ax{V:qG}{key:ByteArray}(h:(lH V key).1=0):(lH V key).2.2.good∧(lH V key).2.2.ji∧(lH V key).2.2.aj.length=V.B.ds.length∧(lH V key).2.2.dS≤4294967295∧1≤(lH V key).2.2.dS∧key.size=32∧V.cnt≠0:=by
 unfold lH at h ⊢;split at h
 ·exact absurd h ‹_›
 rename_i hm;rw[if_neg hm];split at h
 ·simp at h
 rename_i hc;rw[if_neg hc];split at h
 ·exact absurd h ‹_›
 rename_i hf;rw[if_neg hf];obtain⟨g,hb,hl⟩:=qo (Decidable.not_not.1 hf);split at h
 ·simp at h
 rename_i he;rw[if_neg he];dsimp only at h ⊢;split at h
 ·exact absurd h ‹_›
 rename_i hr;rw[if_neg hr];split at h
 ·exact absurd h ‹_›
 rename_i hp;rw[if_neg hp];refine⟨gD.yO g,gD.uz _,by simp[gD.next,hl],?_,?_,?_,hc⟩
 ·show Du ((ig V.B V.gC).2.dS+1)≤_;obtain⟨_,h1,h2⟩:=hb;unfold Du;rw[IntKind.wrap_u64];omega
 ·show 1≤Du ((ig V.B V.gC).2.dS+1);obtain⟨_,h1,h2⟩:=hb;unfold Du;rw[IntKind.wrap_u64];omega
 ·unfold oy at hm;by_cases e:key.size=32
  ·exact e
  ·rw[if_pos (.inl e)]at hm;simp at hm
theorem sL(data slots:Int)(n:Nat):(dz data slots n).ji:=by unfold gD.ji dz;simp
theorem rW.fmt{V:qG}{c k:Nat}(v:rW V c (k+500))(key:ByteArray)(data slots:Int):rW (mO V key data slots).2 c k:=by
 unfold mO;split
 ·exact v.mono (by omega)
 split
 ·exact v.mono (by omega)
 rename_i hg;have hd:dep slots≠0:=by
  by_cases e:ij data slots 0 false
  ·exact e.1
  ·exact absurd (.inl e) hg
 split
 ·exact v.mono (by omega)
 have hn:=v.bk.ok.small;have h:=Bk.fmt (B:=V.B) (c:=c) (k:=k+25) (key:=key) (data:=data) hd V.B.ds.length (v.bk.mono (by omega));have hv:rW { V with B:=(mz key data slots V.B V.B.ds.length).2 } c (k+25):=⟨h,v.c0,v.c1⟩
 dsimp only;split
 ·exact hv.mono (by omega)
 ·exact hv.xu (sL _ _ _)
theorem Ke(V:qG)(key:ByteArray)(data slots:Int):(mO V key data slots).2.B.ds.length=V.B.ds.length:=by
 unfold mO;dsimp only
 repeat' split
 all_goals first|rfl|exact wR _|(rw[Ih];exact wR _)
structure yo (h:H):Prop where
 ls:Sh.rowAt h ⟨0,0,none⟩ (eI.row [2,4,8,16])
theorem yo.keep{h h':H}(t:yo h)(k:bq h h'):yo h':=⟨k.row t.ls⟩
def mV(n:Int)(d:ByteArray):Obj:=.cells #[.int .u64 n,.string d] 158
def BW(n:Int)(d:ByteArray)(m:Int)(s:ByteArray):Int×Int×ByteArray:=if m≤n then(25,n,d)else(0,m,s)
def Ca(e n:Int):Obj:=.cells #[.int .u64 e,.int .u64 n] 228
def nX(e n:Int):ByteArray:=iZ e.toNat++lf true [BitVec.ofNat 32 n.toNat]
theorem tT(e n:Int):(nX e n).size=12:=by rw[nX,ByteArray.size_append,eF,kV];rfl
def nP(e n:Int):ByteArray×Int×Int:=if n>4294967295 then(empty,25,n)else(nX e n,0,n+1)
theorem nS{h:H}{b o:Nat}{c:Array Value}{e:TypeId}{f:Nat×Nat}{p q:Option Addr}{key:ByteArray}{K:Option Addr->Option Addr->ByteArray->Prop}(hb:h b=some (.cells c e f))
  (h0:c[o+0]? = some (.pointer p)) (h1:c[o+1]? = some (.pointer q)) (h2:c[o+2]? = some (.string key)) (k:K p q key):M.D6 h ⟨b,o,none⟩ K:=by
 refine⟨_,?_,_,rfl,_,?_,_,rfl,_,?_,_,rfl,k⟩
 ·rw[aS,dA hb,h0]
 ·rw[aS,dA hb,h1]
 ·rw[aS,dA hb,h2]
theorem pZ{h:H}{b o:Nat}{c:Array Value}{e:TypeId}{f:Nat×Nat}{vs:List Value}(hb:h b=some (.cells c e f))(hv:(c.toList.drop o).take vs.length=vs):Sh.rowAt h ⟨b,o,none⟩ vs:=by
 intro i hi;rw[aS,dA hb,←Array.getElem?_toList];conv=>rhs;rw[←hv]
 rw[List.getElem?_take,if_pos hi,List.getElem?_drop]
section
variable {h0 h:H}{a:Nat}{n:Int}{d:ByteArray}
theorem C3{Q:Option Addr->H->Prop}(k:∀b h',Wd h h' [.blk b (mV 0 empty)]->Q (some ⟨b,0,none⟩) h'):gQ h Q:=by
 unfold gQ;exact M.aK (Wd.start h) λb h' w=>k b h' w
theorem yT{Q:Int->ByteArray->H->Prop}(hb:h a=some (mV n d))(k:Q n d h):bF (some ⟨a,0,none⟩) h Q:=by
 unfold bF;exact cf rfl (iw (M.gv hb rfl (iw (M.oL hb rfl k))))
theorem Kk{m:Int}{s:ByteArray}{Q:Int->H->Prop}(w:Wd h0 h [.blk a (mV n d)])(hs:s.size=32)(k:∀h',Wd h0 h' [.blk a (mV (BW n d m s).2.1 (BW n d m s).2.2)]->Q (BW n d m s).1 h'):dW (some ⟨a,0,none⟩) m s h Q:=by
 unfold dW;have hb:=w.blk 0 rfl;unfold BW at k;refine cf rfl (cf (by simp[hs]) (iw (M.gv hb rfl ?_)));by_cases e:m≤n
 ·rw[if_pos e]at k;exact eN e (k _ w)
 ·rw[if_neg e]at k;exact gI e (iw ⟨rfl,M.bz w 0 rfl (by simp[ag]) rfl λh1 w1=>k _ w1⟩)
theorem Ks{e:Int}{Q:Option Addr->Int->H->Prop}(he:1≤e∧e≤4294967295)(k:∀b h',Wd h h' [.blk b (Ca e 0)]->Q (some ⟨b,0,none⟩) 0 h'):iN e 0 h Q:=by
 unfold iN;unfold jw;refine M.jn (M.jn (eN he.1 ?_));rw[decide_eq_true he.2];exact cf rfl (gI (by decide) (M.aK (Wd.start h) λb h' w=>k b h' w))
theorem Re{n:Int}(hn:0≤n):wrap .u32 n=ui (BitVec.ofNat 32 n.toNat):=by
 rw[IntKind.wrap_u32];show _ = (((BitVec.ofNat 32 n.toNat).toNat:Nat):Int);rw[BitVec.toNat_ofNat];omega
theorem P6{b:Nat}{m:Int}{Q:ByteArray->H->Prop}(hb:h b=some (.cells #[.int .u32 (wrap .u32 m)] 230))(hm:0≤m)(k:∀h',bq h h'->Q (lf true [BitVec.ofNat 32 m.toNat]) h'):cI (some ⟨b,0,none⟩) 1 1 h Q:=by
 rw[Re hm]at hb;exact pR (rA (us:=[BitVec.ofNat 32 m.toNat]) (rest:=[]) hb (by simp)) k
theorem G8{e:Int}{Q:ByteArray->Int->H->Prop}(w:Wd h0 h [.blk a (Ca e n)])(he:0≤e∧e≤4294967295)(hn:0≤n∧n≤4294967296)(k:∀h',Wd h0 h' [.blk a (Ca e (nP e n).2.2)]->Q (nP e n).1 (nP e n).2.1 h'):cG (some ⟨a,0,none⟩) h Q:=by
 unfold cG;have hb:=w.blk 0 rfl;unfold nP at k;refine cf rfl (iw (M.gv hb rfl ?_));by_cases g:n>4294967295
 ·rw[if_pos g]at k;exact eN g (k _ w)
 rw[if_neg g]at k;refine gI g (M.aO (λt h'=>t=nX e n∧Wd h0 h' [.blk a (Ca e n)]) (λJ hJ=>?_) ?_)
 ·have z1:=eF e.toNat;have z2:(lf true [BitVec.ofNat 32 n.toNat]).size=4:=by rw[kV];rfl
  have fin:∀h',bq h h'->J (nX e n) h':=λh' k'=>hJ _ _ ⟨rfl,w.keeps k'⟩;have he':(e.toNat:Int)=e:=by omega
  have hN:∀{h1:H} {K:ByteArray->H->Prop},(∀h',bq h1 h'->K (iZ e.toNat) h')->dI e h1 K:=λ{h1 K} kk=>by
   have:=m8 (n:=e.toNat) (h:=h1) (Q:=K) (by omega) kk
   rwa [he']at this
  refine iw (M.gv hb rfl (iw (M.gv hb rfl ⟨?_,?_⟩)))
  ·refine hN λh1 k1=>M.cY k1 ⟨_,hb⟩ (dN (M.cY k1 ⟨_,hb⟩ (M.qz (Wd.start h1) λb h2 k2 w2=>M.cY (k1.trans k2) ⟨_,hb⟩ (P6 (w2.blk 0 rfl) hn.1 λh3 k3=>mU (by omega) (fin _ ((k1.trans k2).trans k3))))))
  ·refine dN (M.cY (bq.refl _) ⟨_,hb⟩ ⟨?_,?_⟩)
   ·exact hN λh1 k1=>M.cY k1 ⟨_,hb⟩ (M.qz (Wd.start h1) λb h2 k2 w2=>M.cY (k1.trans k2) ⟨_,hb⟩ (P6 (w2.blk 0 rfl) hn.1 λh3 k3=>mU (by omega) (fin _ ((k1.trans k2).trans k3))))
   ·exact M.qz (Wd.start h) λb h1 k1 w1=>M.cY k1 ⟨_,hb⟩ (hN λh2 k2=>M.cY (k1.trans k2) ⟨_,hb⟩ (P6 (k2 _ _ (w1.blk 0 rfl)) hn.1 λh3 k3=>mU (by omega) (fin _ ((k1.trans k2).trans k3))))
 ·rintro _ h1 ⟨rfl,w1⟩;exact iw (M.gv (w1.blk 0 rfl) rfl (M.vis (n+1) (nq (by omega) (by omega)) (iw (M.bg w1 0 rfl rfl (by simp) λh2 w2=>k _ w2))))
end
section
variable {h0 h:H}{b:Nat}{B:ak}{d n m t:Int}{g:Bool}{key:ByteArray}
theorem Lf(n:Int):decide (n ∈ [2,4,8,16])=decide (dep n≠0):=by
 by_cases e:dep n≠0
 ·rw[decide_eq_true e];rcases oE e with e|e|e|e<;>simp[e]
 ·rw[decide_eq_false e,decide_eq_false];intro hm;apply e;simp only[List.mem_cons,List.not_mem_nil,or_false]at hm;rcases hm with e|e|e|e<;>rw[e] <;>decide
theorem sD{Q:Bool->H->Prop}(tl:yo h)(k:∀h',bq h h'->Q (decide (ij d n m g)) h'):aD d n m g h Q:=by
 unfold aD;refine M.aK (Wd.start h) λb h1 w=>?_;have hb:=w.blk 0 rfl;refine M.aO (λz h'=>z=(if g=true then 7 else 8)∧h'=h1) (λJ hJ=>M.Bi hb rfl ?_) ?_
 ·cases g with
  | true=>exact ct rfl (M.vis 7 (by decide) (hJ _ _ ⟨rfl,rfl⟩))
  | false=>exact cf rfl (hJ _ _ ⟨rfl,rfl⟩)
 rintro _ _ ⟨rfl,rfl⟩;have kT:=yZ k;have kF:=zI k;clear k;unfold ij at kT kF;refine M.jn (M.Ov (by decide) (by decide) (M.gv hb rfl (ri (xs:=[2,4,8,16]) ⟨rfl,λe=>by simp at e,λb e=>by simp only[Option.some.injEq]at e;subst e;exact(tl.keep w.keep).ls⟩ (by decide) ?_)));rw[Lf];have kk:=w.keep;by_cases e1:dep n≠0;rotate_left
 ·exact gI e1 (kF _ kk λg=>e1 g.1)
 refine eN e1 (M.gv hb rfl ?_);by_cases e2:d≥2;rotate_left
 ·exact gI e2 (kF _ kk λg=>e2 g.2.1)
 refine eN e2 (M.gv hb rfl ?_);by_cases e3:d≤(if g=true then 7 else 8)
 rotate_left
 ·exact gI e3 (kF _ kk λg=>e3 g.2.2.1)
 refine eN e3 (M.gv hb rfl ?_);by_cases e4:m≥0;rotate_left
 ·exact gI e4 (kF _ kk λg=>e4 g.2.2.2.1)
 refine eN e4 (M.gv hb rfl (M.gv hb rfl ?_));by_cases e5:m<n;rotate_left
 ·exact gI e5 (kF _ kk λg=>e5 g.2.2.2.2.1)
 refine eN e5 (M.Bi hb rfl ?_);cases g with
 | true=>exact ct rfl (kT _ kk ⟨e1,e2,e3,e4,e5,.inl rfl⟩)
 | false=>
  refine cf rfl (M.gv hb rfl ?_);by_cases e6:m=0
  ·have:(m == 0)=true:=by simp[e6]
   rw[this];exact kT _ kk ⟨e1,e2,e3,e4,e5,.inr e6⟩
  ·have:(m == 0)=false:=by simp[e6]
   rw[this];exact kF _ kk λg=>by rcases g.2.2.2.2.2 with h|h;simp at h;exact e6 h
def lK(d n m:Int)(g:Bool)(t:Int):Int:=if ¬ij d n m g∨t<0∨t≥n then 0 else if t<m then d+1 else d
theorem wC{Q:Int->H->Prop}(tl:yo h)(k:∀h',bq h h'->Q (lK d n m g t) h'):aZ d n m g t h Q:=by
 unfold aZ;refine M.aK (Wd.start h) λb h1 w=>?_;have hb:=w.blk 0 rfl;unfold lK at k;refine M.aO (λz h'=>z=decide (¬ij d n m g∨t<0∨t≥n)∧bq h1 h') (λJ hJ=>M.gv hb rfl (M.gv hb rfl (M.gv hb rfl (M.Bi hb rfl (sD (tl.keep w.keep) λh2 k2=>?_))))) ?_
 ·by_cases e1:ij d n m g
  rotate_left
  ·exact ct (by simp[e1]) (hJ _ _ ⟨(decide_eq_true (.inl e1)).symm,k2⟩)
  refine cf (by simp[e1]) ?_;by_cases e2:t<0
  ·exact eN e2 (hJ _ _ ⟨(decide_eq_true (.inr (.inl e2))).symm,k2⟩)
  refine gI e2 (M.gv (k2 _ _ hb) rfl (hJ _ _ ⟨?_,k2⟩));by_cases e3:t≥n
  ·rw[decide_eq_true e3,decide_eq_true (.inr (.inr e3))]
  ·rw[decide_eq_false e3,decide_eq_false λg=>g.elim (λx=>x e1) (λx=>x.elim e2 e3)]
 rintro _ h2 ⟨rfl,k2⟩;have hb:=k2 _ _ hb;by_cases e:¬ij d n m g∨t<0∨t≥n
 ·rw[if_pos e]at k;exact ct (decide_eq_true e) (k _ (w.keep.trans k2))
 rw[if_neg e]at k;refine cf (decide_eq_false e) (M.gv hb rfl ?_);by_cases e2:t<m
 ·rw[if_pos e2]at k;refine eN e2 (M.gv hb rfl (M.vis (d+1) ?_ (k _ (w.keep.trans k2))));have:ij d n m g:=Decidable.not_not.1 λg=>e (.inl g);obtain⟨_,h2,h3,_⟩:=this;exact qJ (by omega) (by split at h3<;>omega)
 ·rw[if_neg e2]at k;exact gI e2 (M.gv hb rfl (k _ (w.keep.trans k2)))
def pI(d n m:Int)(g:Bool)(t c:Int):Int×Int:=if ¬ij d n m g then(0,4)else if lK d n m g t=0∨c<0∨c≥lK d n m g t+2 then(0,2)else((c+t).tmod (lK d n m g t+2),0)
theorem Eu(d n m:Int)(g:Bool)(t:Int):0≤lK d n m g t∧lK d n m g t≤9:=by
 unfold lK;split
 ·omega
 ·rename_i e;have:ij d n m g:=Decidable.not_not.1 λg=>e (.inl g);obtain⟨_,h2,h3,_⟩:=this;split at h3<;>split<;>omega
theorem Ib{c:Int}{Q:Int->Int->H->Prop}(tl:yo h)(k:∀h',bq h h'->Q (pI d n m g t c).1 (pI d n m g t c).2 h'):cm d n m g t c h Q:=by
 unfold cm;refine M.aK (Wd.start h) λb h1 w=>?_;have hb:=w.blk 0 rfl;unfold pI at k;refine M.gv hb rfl (M.gv hb rfl (M.gv hb rfl (M.Bi hb rfl (sD (tl.keep w.keep) λh2 k2=>?_))));by_cases e1:ij d n m g;rotate_left
 ·rw[if_pos e1]at k;exact ct (by simp[e1]) (k _ (w.keep.trans k2))
 rw[if_neg (by simp[e1])]at k;have w:=w.keeps k2;have hb:=w.blk 0 rfl;refine cf (by simp[e1]) (M.gv hb rfl (M.gv hb rfl (M.gv hb rfl (M.Bi hb rfl (wC (tl.keep w.keep) λh3 k3=>?_)))));have kk:=w.keep.trans k3;have hz:lK d n m g t≠0->0≤t∧t<1000:=λhz=>by
  unfold lK at hz;split at hz
  ·simp at hz
  ·have:=iC e1.1;omega
 have hw:=Eu d n m g t;generalize lK d n m g t=z at *;refine M.aO (λy h'=>y=decide (z=0∨c<0∨c≥z+2)∧h'=h3) (λJ hJ=>?_) ?_
 ·by_cases e2:z=0
  ·exact ct (by simp[e2]) (hJ _ _ ⟨(decide_eq_true (.inl e2)).symm,rfl⟩)
  refine cf (by simp[e2]) ?_;by_cases e3:c<0
  ·exact eN e3 (hJ _ _ ⟨(decide_eq_true (.inr (.inl e3))).symm,rfl⟩)
  refine gI e3 (M.vis (z+2) (qJ (by omega) (by omega)) (hJ _ _ ⟨?_,rfl⟩));by_cases e4:c≥z+2
  ·rw[decide_eq_true e4,decide_eq_true (.inr (.inr e4))]
  ·rw[decide_eq_false e4,decide_eq_false (by omega)]
 rintro _ _ ⟨rfl,rfl⟩;by_cases e2:z=0∨c<0∨c≥z+2
 ·rw[if_pos e2]at k;exact ct (decide_eq_true e2) (k _ kk)
 ·rw[if_neg e2]at k;have:=hz (by omega);exact cf (decide_eq_false e2) (M.vis (c+t) (qJ (by omega) (by omega)) (M.vis (z+2) (qJ (by omega) (by omega)) ⟨by omega,dN (k _ kk)⟩))
theorem Dq{a:Nat}{x:Option Addr}{Q:Int->H->Prop}(wx:Wd h0 h [dO b B])(hx:x=some ⟨a,0,none⟩)(k:∀h',bq h h'->Q (oy B key) h'):bA (some ⟨b,0,none⟩) x key h Q:=by
 subst hx;unfold bA;refine M.aK (Wd.start h) λb2 h1 w=>?_;have hb:=w.blk 0 rfl;have wb:=wx.keeps w.keep;unfold oy at k;refine M.jn (M.nF hb rfl (cf rfl (M.nF hb rfl (cf rfl ?_))));refine M.aO (λz h'=>z=decide (key.size≠32∨(B.hU 0).N.length<140)∧h'=h1) (λJ hJ=>M.oL hb rfl ?_) ?_
 ·by_cases e:key.size=32
  rotate_left
  ·exact ct (by simp;omega) (hJ _ _ ⟨(decide_eq_true (.inl e)).symm,rfl⟩)
  refine cf (by simp[e]) (M.nF hb rfl (Nj wb (λhbad=>?_) λ_ p h3 _ k3 w3 _=>KF w3 (hJ _ _ ⟨?_,rfl⟩)))
  ·have:=(xA wb).pos;exact absurd hbad (ak.jX.2 (by omega))
  ·by_cases e2:(B.hU 0).N.length<140
   ·rw[decide_eq_true (by omega),decide_eq_true (.inr e2)]
   ·rw[decide_eq_false (by omega),decide_eq_false (by omega)]
 rintro _ _ ⟨rfl,rfl⟩;by_cases e:key.size≠32∨(B.hU 0).N.length<140
 ·rw[if_pos e]at k;exact ct (decide_eq_true e) (k _ w.keep)
 ·rw[if_neg e]at k;exact cf (decide_eq_false e) (k _ w.keep)
theorem Mf{Q:Int->H->Prop}{x:Option Addr}(k:∀h',bq h h'->Q 1 h'):bA none x key h Q:=by
 unfold bA;refine M.aK (Wd.start h) λb2 h1 w=>M.jn (M.nF (w.blk 0 rfl) rfl (ct rfl (ct rfl (k _ w.keep))))
theorem mG{p q:Option Addr}{Q:Option Addr->Int->Int->ByteArray->H->Prop}(k:∀h',bq h h'->Q p d n key h'):az p q key d n h Q:=by
 unfold az;refine M.aK (Wd.start h) λb2 h1 w=>M.aK w λb3 h2 w=>M.nF (w.blk 0 rfl) rfl (M.oL (w.blk 0 rfl) rfl ⟨rfl,M.bz w 1 rfl (by simp[ag]) rfl λh3 w=>?_⟩);have hb:=w.blk 1 rfl;exact M.nF hb rfl (M.gv hb rfl (M.gv hb rfl (M.oL hb rfl (k _ w.keep))))
theorem Aj{x:Mem}{Q:Bool->H->Prop}(k:∀h',bq h h'->Q (decide x.o5) h'):eO x.st x.top x.log h Q:=by
 unfold eO;refine M.aK (Wd.start h) λb2 h1 w=>M.jn (M.gv (w.blk 0 rfl) rfl ?_);by_cases e:x.st=1
 ·rw[decide_eq_true (show x.o5 from .inl e)]at k;exact ct (by simp[e]) (k _ w.keep)
 ·refine cf (by simpa using e) (M.gv (w.blk 0 rfl) rfl ?_);by_cases e3:x.st=3
  ·rw[decide_eq_true (show x.o5 from .inr e3)]at k;have:(x.st == 3)=true:=by simp[e3]
   rw[this];exact k _ w.keep
  ·rw[decide_eq_false (show ¬x.o5 from λg=>g.elim e e3)]at k;have:(x.st == 3)=false:=by simp[e3]
   rw[this];exact k _ w.keep
end
end Go.Proofs.YtmfcgihgdhfalaaGreatDoor

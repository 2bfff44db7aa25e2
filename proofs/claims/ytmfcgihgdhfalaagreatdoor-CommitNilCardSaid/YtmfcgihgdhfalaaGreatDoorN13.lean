/- The document: what is read of a log; a record is published, found; a log is replayed. The document: a record is published. The document: a record is found; a log is replayed. The document: a log is replayed. The document: a volume is made. The document: a volume is opened. Layer 20: a volume is made, and opened, as the document says. Layer 20's rows: what the row's list gives. Layer 20's rows: what an act reads as. Layer 20: a store that is none; a record that is a copy. Digests by numbers that the kernel can reckon with. A text's digest by numbers that the kernel can reckon with. The two records' digests are unlike ones: reckoned. -/
import Derived.Test.YtmfcgihgdhfalaaGreatDoorN12
import Derived.Test.YtmfcgihgdhfalaaGreatDoorN11
import Derived.Test.YtmfcgihgdhfalaaGreatDoorN06
import Derived.Test.YtmfcgihgdhfalaaGreatDoorN07
import Derived.Test.YtmfcgihgdhfalaaGreatDoorN09
open ByteArray(empty)
set_option linter.unusedSimpArgs false
set_option linter.unusedVariables false
namespace Go.Proofs.YtmfcgihgdhfalaaGreatDoor
open Go.Sh Go.RowKit Classical
section
variable {h0 h:H}{a:Option Addr}{l c:Nat}
theorem Q4{L:List Chunk}{b:Nat}{s:ByteArray}(hs:s.size≤1000000)(w:Wd h0 h (L++[.blk b (.cells #[.string s,.int .i64 0,.int .i64 0] 335)])):Wd h0 h (L++[BT b ⟨s,0⟩]):=by
 have:=w.close (α:=ByteArray×Nat) (p:=λv=>v.2≤v.1.size∧v.1.size≤1000000∧(Rd.mk s 0).rest=v.1.extract v.2 v.1.size) (cs:=λv=>[.blk b (.cells #[.string v.1,.int .i64 v.2,.int .i64 (Rd.mk s 0).bad] 335)]) L.length (s,0) (by rw[List.drop_left' rfl];rfl) ⟨by omega,hs,by simp⟩;rw[List.take_left' rfl]at this;exact this
theorem PY{xs:List ByteArray}{sum:ByteArray}{Q:Option Addr->Nat->Nat->Int->H->Prop}(f:Ro eS h a l xs)(hl:l≤100)(hlc:l≤c)(hz:∀s∈xs,s.size≤2048)(tb:qa h)
  (k:∀a' c' h',Wd h h' [.sl 267 2 a' (qV xs sum).1.length c' (eP.row (qV xs sum).1)]->Q a' (qV xs sum).1.length c' (qV xs sum).2 h'):iF a l c sum h Q:=by
 unfold iF iF.g;have hx:=f.len;have kn:∀(e:Int) h',bq h h'->qV xs sum=([],e)->Q none 0 0 e h':=λe h' k' g=>by
  rw[g]at k;exact k _ _ _ (((Wd.start h).keeps k').jt _ _)
 by_cases e0:l=0
 ·have:xs=[]:=List.length_eq_zero_iff.1 (by omega);exact ct (by simp[e0]) (kn 4 _ (bq.refl _) (by rw[qV,if_pos this]))
 have hne:xs≠[]:=λe=>by rw[e]at hx;simp at hx;omega
 have h00:=kM (xs:=xs) (i:=0) (by omega);have hz0:=hz (sa xs 0) (by rw[h00];exact List.getElem_mem _);unfold qV at k kn;rw[if_neg hne]at k kn;refine cf (by simp;omega) (f.vu (by omega) (by omega) (Pm λh1 k1=>?_));simp only[Int.reduceToNat];by_cases e1:(jb (sa xs 0)).2=0;rotate_left
 ·exact ct (by simpa using e1) (kn _ _ k1 (by rw[if_pos e1]))
 have hb:=qD e1;rw[if_neg (by simp[e1])]at k kn;refine cf (by simp[e1]) ?_;by_cases e2:(jb (sa xs 0)).1>(l:Int)
 ·exact eN e2 (kn _ _ k1 (by rw[if_pos (by rw[hx];exact e2)]))
 rw[if_neg (by rw[hx];exact e2)]at k kn;obtain⟨n,hn⟩:∃n:Nat,(jb (sa xs 0)).1=(n:Int)+1:=⟨((jb (sa xs 0)).1-1).toNat,by omega⟩;simp only[hn]at k kn hb e2 ⊢;have hn1:((n:Int)+1).toNat=n+1:=by omega
 rw[hn1]at k kn;refine gI e2 (M.Ov (by omega) (by omega) ?_);rw[hn1];refine Mn ((Ro.tk f (n+1) (by omega)).keep k1) (by omega) (λs hs=>hz s (List.mem_of_mem_take hs)) (tb.keep k1) λh2 k2=>?_;have yb:=k1.trans k2;by_cases e3:yq (xs.take (n+1))=sum;rotate_left
 ·exact ct (by rw[kg];simp[e3]) (kn _ _ yb (by rw[if_pos e3]))
 rw[if_neg (by simp[e3])]at k kn;refine cf (by rw[kg];simp[e3]) ?_;generalize hys:(xs.take (n+1)).drop 1=ys at *;have hyl:ys.length=n:=by rw[←hys];simp;omega
 have hyg:∀y,(hy:y<n)->ys[y]'(by omega)=sa xs (y+1):=λy hy=>by
  subst hys;rw[kM (by omega),List.getElem_drop,List.getElem_take];congr 1;omega
 refine M.aO (λd h'=>(∀s∈ys,nI s≠none)∧d.2.1=n∧Wd h h' [.sl 267 2 d.1 d.2.1 d.2.2 (eP.row (ys.map λs=>(nI s).getD (0,empty)))]) (λJ hJ=>?_) ?_
 ·refine M.aP (I:=λ(p:(Option Addr×Nat×Nat)×Int) h'=>∃y:Nat,y≤n∧p.2=(y:Int)+1∧(∀s∈ys.take y,nI s≠none)∧p.1.2.1=y∧Wd h h' [.sl 267 2 p.1.1 p.1.2.1 p.1.2.2 (eP.row ((ys.take y).map λs=>(nI s).getD (0,empty)))]) (μ:=λp=>((n:Int)+1-p.2).toNat) ⟨0,by omega,rfl,by simp,rfl,((Wd.start h).keeps yb).jt _ _⟩ ?_;rintro⟨⟨a3,l3,c3⟩,i⟩ h5 J2 ⟨y,hy,hi,hok,hl3,w⟩ hJ2;simp only at hi hl3 w ⊢;subst hl3 hi;by_cases g:l3<n
  ·have hgy:=hyg l3 g;have hzy:(sa xs (l3+1)).size≤2048:=hz _ (by rw[kM (by omega)];exact List.getElem_mem _);have hmem:sa xs (l3+1)∈ys:=by rw[←hgy];exact List.getElem_mem _
   have ht:ys.take (l3+1)=ys.take l3++[sa xs (l3+1)]:=by rw[List.take_succ_eq_append_getElem (by omega),hgy]
   have v1:((l3:Int)+1).toNat=l3+1:=by omega
   refine eN (by omega) ((f.keep w.keep).vu (by omega) (by omega) ?_);rw[v1];generalize sa xs (l3+1)=s at *;refine M.aK w λb h6 w=>?_;have w:=Q4 (L:=[_]) (by omega) w;have hr:=KN s;refine I5 w 1 rfl λh7 w=>D8 w 1 rfl λh8 w=>Pp w 1 rfl ?_;generalize (Rd.mk s 0).num.2.text=t at *;generalize (Rd.mk s 0).num.1=m at *;refine M.aO (λd h'=>d=decide (nI s=none)∧h'=h8) (λJ hJ=>?_) ?_
   ·have tk:∀{z:Bool},(z=true↔¬(t.2.done=0∧¬((m:Int)<100)∧¬((m:Int)>139)∧¬(t.1.size>2032)))->J z h8:=λ{z} h=>hJ _ _ ⟨jT (h.trans ⟨λg=>by rw[hr,if_neg g],λg q=>by rw[hr,if_pos q]at g;simp at g⟩),rfl⟩;by_cases q1:t.2.done=0;rotate_left
    ·exact ct (by simpa using q1) (tk ⟨λ_ g=>q1 g.1,λ_=>rfl⟩)
    refine cf (by simp[q1]) ?_;by_cases q2:(m:Int)<100
    ·exact eN q2 (tk ⟨λ_ g=>g.2.1 q2,λ_=>rfl⟩)
    refine gI q2 ?_;by_cases q3:(m:Int)>139
    ·exact eN q3 (tk ⟨λ_ g=>g.2.2.1 q3,λ_=>rfl⟩)
    refine gI q3 (tk ?_);rw[decide_eq_true_iff];exact⟨λh g=>g.2.2.2 (by omega),λh=>Classical.byContradiction λn=>h ⟨q1,q2,q3,by omega⟩⟩
   rintro _ h9 ⟨rfl,e9⟩;rw[e9];clear e9;by_cases q:nI s=none
   ·exact ct (decide_eq_true q) (kn _ _ w.keep (by rw[if_pos ⟨s,hmem,q⟩]))
   ·have hq:t.2.done=0∧¬((m:Int)<100)∧¬((m:Int)>139)∧¬(t.1.size>2032):=Classical.byContradiction λqq=>q (by rw[hr,if_neg qq]);rw[if_pos hq]at hr;refine cf (decide_eq_false q) (M.vis (m:Int) (qJ (by omega) (by omega)) (Wd.push w 0 rfl rfl rfl (eP.iq [((m:Int),t.1)]) (by omega) (by omega) λa9 c9 h12 w=>M.vis (((l3+1:Nat):Int)+1) (by rw[IntKind.wrap_i64];omega) (hJ2 _ _ ⟨l3+1,by omega,rfl,?_,rfl,?_⟩ (by simp only[];omega))))
    ·intro u hu;rw[ht,List.mem_append,List.mem_singleton]at hu;rcases hu with hu|rfl
     ·exact hok u hu
     ·exact q
    ·have w:=w.drop (i:=1) rfl;rw[ht,List.map_append,eP.iX];simp only[List.map_cons,List.map_nil,hr,Option.getD_some];exact w
  ·obtain rfl:l3=n:=by omega
   rw[List.take_of_length_le (by omega)]at w hok;exact gI (by omega) (hJ (a3,l3,c3) _ ⟨hok,rfl,w⟩)
 rintro⟨a3,l3,c3⟩ h3 ⟨hok,hl3,w3⟩;simp only at hl3 w3 ⊢;subst hl3;rw[if_neg (λ⟨s,hs,g⟩=>hok s hs g)]at k;have:=k a3 c3 h3 (by rw[List.length_map,hyl];exact w3);rw[List.length_map,hyl]at this;exact this
end
structure JX (C:Array Value) (b a:Nat) (key:ByteArray) (n:Int):Prop where
 c0:C[0]? = some (.pointer (some ⟨b,0,none⟩))
 c1:C[1]? = some (.pointer (some ⟨a,0,none⟩))
 c2:C[2]? = some (.string key)
 c6:C[6]? = some (.int .i64 n)
abbrev xp(b a:Nat)(V:qG):List Chunk:=[fV b V.B,.blk a (kU V.cnt V.gC)]
section
variable {h0 h:H}{b a p c:Nat}{B:ak}{V:qG}{d n:Int}{t key:ByteArray}{s:gD}{sa ma:Option Addr}{sl sc ml mc:Nat}{C:Array Value}{e:TypeId}
theorem E2{K:Nat->Prop}(w:Wd h0 h [fV b B])(k:K B.ds.length):M.nn (some ⟨b,0,none⟩) λa36=>M.load h (Addr.add a36 0) λv=>M.slc v λa38 l39 c40=>K l39:=by
 obtain⟨v,⟨ok,hl⟩,w⟩:=w.tw 0 rfl;exact iw (M.lW (w.blk 0 rfl) rfl k)
theorem Jm{K:Nat->Prop}(w:Wd h0 h [fV b B])(hb:0<B.ds.length)(k:K (B.hU 0).N.length):
  M.nn (some ⟨b,0,none⟩) λa6=>M.load h (Addr.add a6 0) λv7=>M.slc v7 λa8 l9 c10=>M.idx a8 l9 0 λa11 j12=>M.load h (Addr.add a11 (j12*1)) λv13=>M.ptr v13 λp14=>M.nn p14 λa20=>M.load h (Addr.add a20 0) λv=>M.slc v λa22 l23 c24=>K l23:=by
 refine Og w (ak.jX.2 ⟨Int.le_refl 0,by omega⟩) λp h1 k0 k1 w1 _=>?_;obtain⟨v,⟨⟨ok,sy⟩,hl⟩,w1⟩:=w1.tw 0 rfl;rw[←ok.len]at k;exact iw (M.lW (w1.blk 0 rfl) rfl k)
theorem Pj{Q:Option Addr->Int->Int->ByteArray->H->Prop}(hp:h p=some (.cells C e))(st:JX C b a key n)(k:∀h',bq h h'->Q (some ⟨b,0,none⟩) d n key h'):gV (some ⟨p,0,none⟩) d h Q:=by
 unfold gV;refine M.aK (Wd.start h) λb1 h1 w=>iw (M.nF (w.keep _ _ hp) st.c0 (iw (M.gv (w.keep _ _ hp) st.c6 (iw (M.oL (w.keep _ _ hp) st.c2 ⟨rfl,M.bz w 0 rfl (by simp[ag]) rfl λh2 w=>?_⟩)))));have hb:=w.blk 0 rfl;exact M.nF hb rfl (M.gv hb rfl (M.gv hb rfl (M.oL hb rfl (k _ w.keep))))
theorem Gy{Q:Int->H->Prop}(w:Wd h0 h (xp b a V++[.blk p (.cells C e)]))(st:JX C b a key n)(f1:Ro eI h0 sa sl s.av)(f:Ro kf h0 ma ml s.aj)(hl:ml≤1000000)(hl1:sl≤1000000)(hb:s.ji)(v:rW V c 25)(tb:qa h0)
  (k:∀h',Wd h0 h' (xp b a (iY V s).2++[.blk p (.cells C e)])->Q (iY V s).1 h'):dr (some ⟨p,0,none⟩) s.count s.dS s.data s.slots s.mark s.built s.aJ sa sl sc ma ml mc h Q:=by
 unfold dr dr.g;have hn:=v.bk.ok.small;have hts:=yu s;have h2:=M6 hb.1.1;refine M.aK w λb4 h5 w=>kq (s:=s) (hM (w.blk 3 rfl)) ?_;refine O2 (f1.keep w.keep) (f.keep w.keep) hl hl1 (λ_=>hb) λh30 k30=>?_;have w:=w.keeps k30;have hst:(if s.good then od s else empty)=gJ s:=rfl
 rw[hst];unfold iY at k;have hB:∀m,m≤V.B.ds.length->Bk (lI (s.count.tmod 2) (gJ s) V.B m).2.2 c (1+2*(V.B.ds.length-m)):=λm hm=>Bk.Rt _ _ m (v.bk.mono (by omega));have hN:∀m,(lI (s.count.tmod 2) (gJ s) V.B m).2.2.ds.length=V.B.ds.length:=λm=>A7 m;have hS:∀m,lI (s.count.tmod 2) (gJ s) V.B (m+1)=if(lI (s.count.tmod 2) (gJ s) V.B m).1=true then lI (s.count.tmod 2) (gJ s) V.B m else
   (decide ((lB (lI (s.count.tmod 2) (gJ s) V.B m).2.2 m (s.count.tmod 2) (gJ s)).1=21),(lI (s.count.tmod 2) (gJ s) V.B m).2.1 || decide ((lB (lI (s.count.tmod 2) (gJ s) V.B m).2.2 m (s.count.tmod 2) (gJ s)).1=0),(lB (lI (s.count.tmod 2) (gJ s) V.B m).2.2 m (s.count.tmod 2) (gJ s)).2):=λm=>rfl
 have h0':lI (s.count.tmod 2) (gJ s) V.B 0=(false,false,V.B):=rfl;generalize lI (s.count.tmod 2) (gJ s) V.B=P at *;have hfail:∀m j,m+j=V.B.ds.length->(P m).1=true->P (m+j)=P m:=λm j=>by
  induction j with
  | zero=>intro _ _;rfl
  | succ j ih=>
   intro e h;have hh:∀i,P (m+i)=P m:=λi=>by
    induction i with
    | zero=>rfl
    | succ i ihh=>rw[←Nat.add_assoc,hS,ihh,if_pos h]
   exact hh _
 refine M.aO (λd h'=>(P V.B.ds.length).1=false∧d=(P V.B.ds.length).2.1∧Wd h0 h' [fV b (P V.B.ds.length).2.2,.blk a (kU V.cnt V.gC),.blk p (.cells C e),.blk b4 (.cells (gH s sa sl sc ma ml mc).toArray 80)]) (λJ hJ=>?_) ?_
 ·refine M.aP (I:=λ(q:Bool×Int) h'=>∃m:Nat,m≤V.B.ds.length∧q=((P m).2.1,(m:Int))∧(P m).1=false∧Wd h0 h' [fV b (P m).2.2,.blk a (kU V.cnt V.gC),.blk p (.cells C e),.blk b4 (.cells (gH s sa sl sc ma ml mc).toArray 80)]) (μ:=λq=>(V.B.ds.length-q.2).toNat)
   ⟨0,by omega,by rw[h0'];rfl,by rw[h0'],by rw[h0'];exact w⟩ ?_
  clear w;rintro q h6 J2 ⟨m,hm,rfl,hp,w⟩ hJ2;have hbp:=w.blk 2 rfl;refine iw (M.nF hbp st.c0 ?_);obtain⟨_,_,_,wb,_,_⟩:=w.on (i:=0) rfl;refine E2 wb ?_;clear wb;rw[hN m];by_cases g:m<V.B.ds.length
  ·have hbm:=hB m hm;have e1:=hS m;rw[if_neg (by simp[hp])]at e1;have hnt:(lB (P m).2.2 m (s.count.tmod 2) (gJ s))=(lB (P m).2.2 m (s.count.tmod 2) (gJ s)):=rfl;conv at hnt=>rhs;unfold lB
   refine eN (by simp only[];omega) (M.aO (λz h'=>(P (m+1)).1=false∧z=(P (m+1)).2.1∧Wd h0 h' [fV b (P (m+1)).2.2,.blk a (kU V.cnt V.gC),.blk p (.cells C e),.blk b4 (.cells (gH s sa sl sc ma ml mc).toArray 80)]) (λJ5 hJ5=>iw (M.nF hbp st.c0 (M.gv (w.blk 3 rfl) rfl ⟨by decide,dN (M.vis (s.count.tmod 2) (qJ (by omega) (by omega)) (M.cY (bq.refl _) ⟨_,hbp⟩ ?_))⟩))) ?_);rotate_left
   ·rintro _ h7 ⟨hf,rfl,w⟩;exact M.vis ((m+1:Nat):Int) (by rw[IntKind.wrap_i64];simp only[];omega) (hJ2 _ _ ⟨m+1,by omega,rfl,hf,w⟩ (by simp only[];omega))
   obtain⟨hx,k0,k1,wx,wr,back⟩:=w.on (i:=0) rfl;refine IV wx (by have:=hbm.rm.steps;omega) hbm.rm.left (hbm.rm.hU m) λh7 w1=>?_;have w:=back _ _ w1;have r2:=(Bk.write (k:=1) (hbm.mono (by omega)) (m:Int) (s.count.tmod 2) (gJ s)).rm;clear wx wr back w1 k0 k1 hx;refine M.aO (λz h'=>z=(lB (P m).2.2 m (s.count.tmod 2) (gJ s)).1∧Wd h0 h' [fV b (lB (P m).2.2 m (s.count.tmod 2) (gJ s)).2,.blk a (kU V.cnt V.gC),.blk p (.cells C e),.blk b4 (.cells (gH s sa sl sc ma ml mc).toArray 80)]) (λJ6 hJ6=>?_) ?_
   ·rw[hnt]at hJ6;by_cases e2:((P m).2.2.write m (s.count.tmod 2) (gJ s)).1=0
    ·rw[if_neg (by simp[e2])]at hJ6;refine ct (by simp[e2]) (iw (M.nF (w.blk 2 rfl) st.c0 ?_));obtain⟨hx,k0,k1,wx,wr,back⟩:=w.on (i:=0) rfl;refine Jt wx (by have:=r2.steps;simp only[];omega) r2.left (r2.hU m) λh8 w1=>?_;exact hJ6 _ _ ⟨rfl,back _ _ w1⟩
    ·rw[if_pos e2]at hJ6;exact cf (by simpa using e2) (hJ6 _ _ ⟨rfl,w⟩)
   clear hnt w;rintro _ h8 ⟨rfl,w⟩;generalize lB (P m).2.2 m (s.count.tmod 2) (gJ s)=q at *;by_cases e2:q.1=21
   ·refine ct (by simp[e2]) ?_;have hl:P V.B.ds.length=P (m+1):=by
     have:=hfail (m+1) (V.B.ds.length-(m+1)) (by omega) (by rw[e1];simp[e2])
     rwa [show m+1+(V.B.ds.length-(m+1))=V.B.ds.length by omega]at this
    rw[hl,e1]at k;unfold ED at k;rw[if_pos (by simp[e2])]at k;exact k _ (w.drop (i:=3) rfl)
   ·have hf:(P (m+1)).1=false:=by rw[e1];simp[e2]
    have wn:Wd h0 h8 [fV b (P (m+1)).2.2,.blk a (kU V.cnt V.gC),.blk p (.cells C e),.blk b4 (.cells (gH s sa sl sc ma ml mc).toArray 80)]:=by rw[e1];exact w
    refine cf (by simpa using e2) ?_;by_cases e3:q.1=0
    ·exact ct (by simp[e3]) (hJ5 _ _ ⟨hf,by rw[e1];simp[e3],wn⟩)
    ·exact cf (by simpa using e3) (hJ5 _ _ ⟨hf,by rw[e1];simp[e3],wn⟩)
  ·obtain rfl:m=V.B.ds.length:=by omega
   exact gI (by simp only[];omega) (hJ _ _ ⟨hp,rfl,w⟩)
 clear w;rintro _ h6 ⟨hp,rfl,w⟩;have hbl:=hB V.B.ds.length (Nat.le_refl _);have hnl:=hN V.B.ds.length;generalize P V.B.ds.length=r at *;unfold ED at k;rw[if_neg (by simp[hp])]at k;by_cases e:r.2.1=true;rotate_left
 ·rw[Bool.not_eq_true]at e;rw[if_pos e]at k;exact ct (by simp[e]) (k _ (w.drop (i:=3) rfl))
 rw[if_neg (by simp[e])]at k;refine cf (by simp[e]) (iw (M.nF (w.blk 2 rfl) st.c0 ?_));obtain⟨hx,k0,k1,wx,wr,back⟩:=w.on (i:=0) rfl;refine DO wx (by have:=hbl.rm.steps;omega) hbl.rm.left λh7 w1=>?_;have w:=back _ _ w1;clear wx wr back w1 k0 k1 hx;by_cases e1:r.2.2.iU.1=0;rotate_left
 ·rw[if_pos e1]at k;exact ct (by simpa using e1) (k _ (w.drop (i:=3) rfl))
 rw[if_neg (by simp[e1])]at k;refine cf (by simp[e1]) (LS (by omega) (tb.keep w.keep) λh8 k8=>?_);have w:=w.keeps k8;refine iw (M.nF (w.blk 2 rfl) st.c1 (M.gv (w.blk 3 rfl) rfl ?_));obtain⟨hx,k0,k1,wx,wr,back⟩:=w.on (i:=1) rfl;refine Sq wx (jJ _ _) λh9 w1=>?_;have w:=back _ _ w1;unfold BW at w ⊢;by_cases e2:s.count≤V.cnt
 ·rw[if_pos e2]at k w ⊢;exact k _ (w.drop (i:=3) rfl)
 ·rw[if_neg e2]at k w ⊢;exact k _ (w.drop (i:=3) rfl)
end
section
variable {B:ak}{gC:ByteArray}{n:Nat}{d:Int}
theorem NF{B:ak}{c:Nat}(hl:∀D∈B.ds,D.N.length=c)(hc:2≤c)(h:(B.read d 0).2≠0):(B.read d 1).2=(B.read d 0).2:=by
 unfold ak.read at h ⊢;by_cases hb:B.bad d
 ·rw[if_pos hb,if_pos hb]
 rw[if_neg hb]at h ⊢;rw[if_neg hb];by_cases hp:B.jS
 ·rw[if_pos hp,if_pos hp]
 rw[if_neg hp]at h ⊢;rw[if_neg hp];have hD:=hl _ (rL hb);generalize B.hU d=D at *;unfold cP.read cP.usable at h ⊢;by_cases hd:D.dead=true
 ·simp only[hd,if_true];rfl
 ·rw[if_neg hd,if_neg (by omega)]at h;simp at h
theorem KQ{B:ak}{c:Nat}(hl:∀D∈B.ds,D.N.length=c)(hc:2≤c)(h:(B.read d 0).2≠0)(h21:(B.read d 0).2≠21):findD B gC n d=none∧(B.read d 1).2≠0∧(B.read d 1).2≠21:=by
 have:=NF hl hc h;refine⟨?_,by rw[this];exact h,by rw[this];exact h21⟩;unfold findD;rw[if_neg h21,if_pos h]
end
section
variable {h0 h:H}{b a p c:Nat}{B:ak}{V:qG}{d n:Int}{t key:ByteArray}{s:gD}{sa ma:Option Addr}{sl sc ml mc:Nat}{C:Array Value}{e:TypeId}
theorem QT{Q:Int->Int->Int->Int->Int->Int->Bool->Option Addr->Nat->Nat->Option Addr->Nat->Nat->Int->H->Prop}(wx:Wd h0 h (xp b a V++[.blk p (.cells C e)]))(st:JX C b a key n)(bk:Bk V.B c 1)(hc:2≤c)(tb:qa h)
  (k0:(ig V.B V.gC).1=0->∀a1 c1 a2 c2 h',Wd h h' (O3 (ig V.B V.gC).2 a1 c1 a2 c2)->Q (ig V.B V.gC).2.count (ig V.B V.gC).2.dS (ig V.B V.gC).2.data (ig V.B V.gC).2.slots (ig V.B V.gC).2.mark (ig V.B V.gC).2.built (ig V.B V.gC).2.aJ a1 (ig V.B V.gC).2.av.length c1 a2 (ig V.B V.gC).2.aj.length c2 0 h')
  (k1:(ig V.B V.gC).1≠0->∀h',bq h h'->Q 0 0 0 0 0 0 false none 0 0 none 0 0 (ig V.B V.gC).1 h'):gO (some ⟨p,0,none⟩) h Q:=by
 unfold gO gO.g;unfold ig at k0 k1;have hn:=bk.ok.small;generalize hN:V.B.ds.length=N at *;have hbp:=wx.blk 2 rfl;have hba:=wx.blk 1 rfl;obtain⟨_,_,_,wb0,_,_⟩:=wx.on (i:=0) rfl;refine M.aK (Wd.start h) λb2 h2 w=>?_;have kz:∀(z:Int) h',(mF V.B V.gC N N).getD (24,mN)=(z,mN)->z≠0->Wd h h' [.blk b2 (.cells (gH mN none 0 0 none 0 0).toArray 80)] ->
   M.nN 9 h' ⟨b2,0,none⟩ (gH mN none 0 0 none 0 0) (λh'=>M.kC h' ⟨b2,0,none⟩ λn0 n1 n2 n3 n4 n5 n6 a1 l1 c1 a2 l2 c2=>Q n0 n1 n2 n3 n4 n5 n6 a1 l1 c1 a2 l2 c2 z h'):=λz h' e hz w=>by
  rw[e]at k1;exact tJ (K:=λn0 n1 n2 n3 n4 n5 n6 a1 l1 c1 a2 l2 c2 h'=>Q n0 n1 n2 n3 n4 n5 n6 a1 l1 c1 a2 l2 c2 z h') mN none 0 0 none 0 0 w (i:=0) rfl rfl λh2 w2=>k1 hz _ w2.keep
 refine M.aO (λ_ h'=>mF V.B V.gC N N=none∧Wd h h' [.blk b2 (.cells (gH mN none 0 0 none 0 0).toArray 80)]) (λJ hJ=>?_) ?_;rotate_left
 ·rintro _ h3 ⟨e,w⟩;exact kz 24 h3 (by rw[e];rfl) (by decide) w
 refine M.aP (I:=λ(q:Int) h'=>∃m:Nat,m≤N∧q=(m:Int)∧mF V.B V.gC N m=none∧Wd h h' [.blk b2 (.cells (gH mN none 0 0 none 0 0).toArray 80)]) (μ:=λq=>(N-q).toNat) ⟨0,by omega,rfl,rfl,w⟩ ?_;clear w;rintro q h3 J2 ⟨m,hm,rfl,hf,w⟩ hJ2;refine iw (M.nF (w.keep _ _ hbp) st.c0 (E2 (wb0.keeps w.keep) ?_));rw[hN];by_cases g:m<N;rotate_left
 ·obtain rfl:m=N:=by omega
  exact gI (by omega) (hJ () _ ⟨hf,w⟩)
 refine eN (by omega) ?_;refine M.aO (λ_ h'=>findD V.B V.gC N m=none∧Wd h h' [.blk b2 (.cells (gH mN none 0 0 none 0 0).toArray 80)]) (λJ4 hJ4=>?_) ?_;rotate_left
 ·rintro _ h4 ⟨e,w⟩;exact M.vis ((m+1:Nat):Int) (by rw[IntKind.wrap_i64];omega) (hJ2 _ _ ⟨m+1,by omega,rfl,by rw[mF,hf];exact e,w⟩ (by omega))
 refine M.aP (I:=λ(q:Int) h'=>∃y:Nat,y≤2∧q=(y:Int)∧((∀j:Nat,j<y->(V.B.read m j).2=0∧oB V.gC N (V.B.read m j).1=none)∨findD V.B V.gC N m=none∧(V.B.read m 1).2≠0∧(V.B.read m 1).2≠21∧1≤y)∧Wd h h' [.blk b2 (.cells (gH mN none 0 0 none 0 0).toArray 80)]) (μ:=λq=>(2-q).toNat) ⟨0,by omega,rfl,.inl λj hj=>by omega,w⟩ ?_;clear w;rintro q h4 J3 ⟨y,hy,rfl,hpp,w⟩ hJ3;by_cases gy:y<2;rotate_left
 ·obtain rfl:y=2:=by omega
  refine gI (by omega) (hJ4 () _ ⟨?_,w⟩);rcases hpp with hp|hp
  ·exact BO hp
  ·exact hp.1
 refine eN (by omega) (iw (M.nF (w.keep _ _ hbp) st.c0 (G4 (wb0.keeps w.keep) (bk.rm.hU m) ?_)));have vy:IntKind.wrap .i64 ((y:Int)+1)=((y+1:Nat):Int):=by rw[IntKind.wrap_i64];omega
 rcases hpp with hp|⟨hp1,hp2,hp3,hp4⟩
 rotate_left
 ·obtain rfl:y=1:=by omega
  simp only[Int.natCast_one]at *;exact cf (by simpa using hp3) (ct (by simpa using hp2) (M.vis _ vy (hJ3 _ _ ⟨2,by omega,rfl,.inr ⟨hp1,hp2,hp3,by omega⟩,w⟩ (by omega))))
 obtain⟨d1,d2,d3⟩:=FW gy hp;have hsz:=bk.sm m y;have hbad:(V.B.read m y).2≠21->(V.B.read m y).2≠0->((∀j:Nat,j<y+1->(V.B.read m j).2=0∧oB V.gC N (V.B.read m j).1=none)∨findD V.B V.gC N m=none∧(V.B.read m 1).2≠0∧(V.B.read m 1).2≠21∧1≤y+1):=λe1 e2=>by
  have:y=0∨y=1:=by omega
  rcases this with rfl|rfl
  ·obtain⟨q1,q2,q3⟩:=KQ (gC:=V.gC) (n:=N) bk.ln hc e2 e1;exact .inr ⟨q1,q2,q3,by omega⟩
  ·exact .inr ⟨d2 e1 e2,e2,e1,by omega⟩
 have hp2:(V.B.read m y).2=0->oB V.gC N (V.B.read m y).1=none->∀j:Nat,j<y+1->(V.B.read m j).2=0∧oB V.gC N (V.B.read m j).1=none:=λe1 e2 j hj=>by
  by_cases e:j=y
  ·subst e;exact⟨e1,e2⟩
  ·exact hp j (by omega)
 generalize V.B.read m y=r at *;by_cases e1:r.2=21
 ·refine ct (by simp[e1]) ?_;exact kz 21 _ (oY hf g (d1 e1)) (by decide) w
 refine cf (by simpa using e1) ?_;by_cases e2:r.2=0;rotate_left
 ·exact ct (by simpa using e2) (M.vis _ vy (hJ3 _ _ ⟨y+1,by omega,rfl,hbad e1 e2,w⟩ (by omega)))
 have hny:∀h',oB V.gC N r.1=none->Wd h h' [.blk b2 (.cells (gH mN none 0 0 none 0 0).toArray 80)]->M.val (IntKind.wrap .i64 ((y:Int)+1)) λz=>J3 z h':=λh' e w=>
  M.vis _ vy (hJ3 _ _ ⟨y+1,by omega,rfl,.inl (hp2 e2 e),w⟩ (by omega))
 have hx:=d3 e2;refine cf (by simp[e2]) (LS (by omega) (tb.keep w.keep) λh5 k5=>?_);have w:=w.keeps k5;unfold oB at hny hx;refine PR (by omega) (λs a1 c1 a2 c2 h6 hs w6=>?_) λhs h6 k6=>?_
 ·rw[hs]at hx hny;simp only at hx hny;have w:=w.join w6;refine M.aK w λb3 h7 w=>⟨rfl,M.bz w 3 rfl (by simp[ag]) rfl λh8 w=>M.jn (iw (M.nF (w.keep _ _ hbp) st.c1 (iw (M.oL (w.keep _ _ hba) rfl ?_))))⟩;rw[P3];by_cases e3:dH 2 r.1=V.gC;rotate_left
  ·exact ct (decide_eq_true e3) (ct rfl (hny _ (by rw[if_pos e3]) (((w.drop (i:=3) rfl).drop (i:=2) rfl).drop (i:=1) rfl)))
  rw[if_neg (by simp[e3])]at hny hx;refine cf (decide_eq_false (by simp[e3])) (cf rfl (M.lW (w.blk 3 rfl) rfl (iw (M.nF (w.keep _ _ hbp) st.c0 (E2 (wb0.keeps w.keep) ?_)))));rw[hN];by_cases e4:s.aj.length=N;rotate_left
  ·rw[if_pos e4]at hx;refine ct (by simp;omega) ?_;have w:=((w.drop (i:=3) rfl).drop (i:=2) rfl).drop (i:=1) rfl;exact kz 24 _ (oY hf g (hx _ rfl)) (by decide) w
  ·rw[if_neg (by simp[e4])]at hx;have hres:=oY hf g (hx _ rfl);rw[hres]at k0;refine cf (by simp[e4]) (kq (s:=s) (sa:=a1) (sl:=s.av.length) (sc:=c1) (ma:=a2) (ml:=s.aj.length) (mc:=c2) (hM (w.blk 3 rfl)) ?_);refine tJ (K:=λn0 n1 n2 n3 n4 n5 n6 a1 l1 c1 a2 l2 c2 h'=>Q n0 n1 n2 n3 n4 n5 n6 a1 l1 c1 a2 l2 c2 0 h') s a1 _ c1 a2 _ c2 w (i:=0) rfl rfl λh9 w=>?_;exact k0 rfl a1 c1 a2 c2 h9 ((w.drop (i:=3) rfl).drop (i:=0) rfl)
 ·rw[hs]at hny;have w:=w.keeps k6;refine M.aK w λb3 h7 w=>⟨rfl,M.bz w 1 rfl (by simp[ag]) rfl λh8 w=>?_⟩;have hnn:=hny h8 (by split<;>rfl) (w.drop (i:=1) rfl);refine M.jn (iw (M.nF (w.keep _ _ hbp) st.c1 (iw (M.oL (w.keep _ _ hba) rfl ?_))));rw[P3];by_cases e3:dH 2 r.1=V.gC
  ·exact cf (decide_eq_false (by simp[e3])) (ct rfl hnn)
  ·exact ct (decide_eq_true e3) (ct rfl hnn)
end
theorem Da(s:ByteArray):(jb s).2=0∨(jb s).2=4:=by
 rw[C4];split<;>simp
theorem MC(xs:List ByteArray)(sum:ByteArray):(qV xs sum).2≠21:=by
 unfold qV;have h:=Da (sa xs 0)
 repeat' split
 all_goals simp only[]
 all_goals omega
noncomputable def Iv(key:ByteArray)(n:Int)(B:ak)(d:Int)(gC:ByteArray):Int×ak:=
 if(lC B d gC).2=0∧0<(lC B d gC).1.length then jN B key d n (lC B d gC).1 else((lC B d gC).2,B)
section
variable {h0 h:H}{b a p c:Nat}{B:ak}{d n:Int}{key gC:ByteArray}{C:Array Value}{e:TypeId}
theorem N7{Q:Bool->H->Prop}(w:Wd h0 h [fV b B])(hp:h0 p=some (.cells C e))(st:JX C b a key n)(bk:Bk B c 97)(tb:qa h0)
  (k:∀h',Wd h0 h' [fV b (Iv key n B d gC).2]->Q ((Iv key n B d gC).1 != 21) h'):fC (some ⟨p,0,none⟩) d gC h Q:=by
 unfold fC;have hz:∀m,∀s∈(kK B d m).1,s.size≤2048:=λm=>xI (P:=λs=>s.size≤2048) (λa=>bk.sm d a) m;have kx:∀(z:Int) h',(lC B d gC)=([],z)->Wd h0 h' [fV b B]->Q (z != 21) h':=λz h' g w=>by
  have e:Iv key n B d gC=(z,B):=by
   unfold Iv;rw[g];exact if_neg λq=>absurd q.2 (by simp)
  rw[e]at k;exact k _ w
 have kt:∀(z:Int) h',(lC B d gC)=([],z)->z≠21->Wd h0 h' [fV b B]->Q true h':=λz h' g hz w=>by
  have:=kx z h' g w
  rwa [show(z != 21)=true by simpa using hz]at this
 have rl:lC B d gC=lC B d gC:=rfl;conv at rl=>rhs;unfold lC
 refine iw (M.nF (w.keep _ _ hp) st.c0 (G4 w (bk.rm.hU d) ?_));by_cases e1:(B.read d 2).2=0;rotate_left
 ·rw[if_pos e1]at rl;exact ct (by simpa using e1) (kx _ _ rl w)
 rw[if_neg (by simp[e1])]at rl;refine cf (by simp[e1]) (Pm λh1 k1=>?_);have w:=w.keeps k1;by_cases e2:(jb (B.read d 2).1).2=0;rotate_left
 ·rw[if_pos e2]at rl;exact ct (by simpa using e2) (kt _ _ rl (by have:=Da (B.read d 2).1;omega) w)
 rw[if_neg (by simp[e2])]at rl;have hb:=qD e2;refine cf (by simp[e2]) (M.aK w λb2 h2 w=>?_);obtain⟨N,hN⟩:∃N:Nat,(jb (B.read d 2).1).1=N:=⟨(jb (B.read d 2).1).1.toNat,by omega⟩;rw[hN]at hb rl ⊢;rw[Int.toNat_natCast]at rl;have hl1:kK B d 1=([(B.read d 2).1],0):=by
  rw[kK,kK,if_neg (by simp)];simp only[Int.natCast_zero,Int.add_zero];rw[if_neg (by simp[e1])];rfl
 have w:=w.LR (E:=eS) (ys:=(kK B d 1).1) (n:=1) (i:=1) rfl (by rw[hl1];rfl) (by rw[hl1];rfl);refine M.aO (λv h'=>v.2.1=N∧(kK B d N).2=0∧Wd h0 h' [fV b B,.sl 9 1 v.1 v.2.1 v.2.2 (eS.row (kK B d N).1)]) (λJ hJ=>?_) ?_
 ·refine M.aP (I:=λ(q:(Option Addr×Nat×Nat)×Int) h'=>∃y:Nat,1≤y∧y≤N∧q.2=(y:Int)∧q.1.2.1=y∧(kK B d y).2=0∧Wd h0 h' [fV b B,.sl 9 1 q.1.1 q.1.2.1 q.1.2.2 (eS.row (kK B d y).1)]) (μ:=λq=>(N-q.2).toNat) ⟨1,by omega,by omega,rfl,rfl,by rw[hl1],w⟩ ?_;clear w;rintro⟨⟨a2,l2,c2⟩,i⟩ h3 J2 ⟨y,hy1,hy,hi,hl,hr,w⟩ hJ2;simp only at hi hl w ⊢;subst hl hi;by_cases g:l2<N;rotate_left
  ·obtain rfl:l2=N:=by omega
   exact gI (by omega) (hJ (a2,l2,c2) _ ⟨rfl,hr,w⟩)
  obtain⟨_,_,_,wb,_,_⟩:=w.on (i:=0) rfl;refine eN (by omega) (iw (M.nF (w.keep _ _ hp) st.c0 (M.vis (2+(l2:Int)) (qJ (by omega) (by omega)) (G4 wb (bk.rm.hU d) ?_))));clear wb;by_cases e3:(B.read d (2+(l2:Int))).2=0;rotate_left
  ·have hs:(kK B d (l2+1)).2=(B.read d (2+(l2:Int))).2:=by rw[kK,if_neg (by simp[hr]),if_pos e3]
   have hm:=xZ (m:=l2+1) (by rw[hs];exact e3) (N-(l2+1));rw[show l2+1+(N-(l2+1))=N by omega]at hm;rw[hm,hs,if_pos e3]at rl;exact ct (by simpa using e3) (kx _ _ rl (w.drop (i:=1) rfl))
  have hs:kK B d (l2+1)=((kK B d l2).1++[(B.read d (2+(l2:Int))).1],0):=by rw[kK,if_neg (by simp[hr]),if_neg (by simp[e3])]
  refine cf (by simp[e3]) (Wd.push w 1 rfl rfl rfl (eS.iq [_]) (by omega) (by omega) λa3 c3 h3 w=>M.vis ((l2+1:Nat):Int) (by rw[IntKind.wrap_i64];omega) (hJ2 _ _ ⟨l2+1,by omega,by omega,rfl,rfl,by rw[hs],?_⟩ (by simp only[];omega)));rw[hs,eS.iX];exact w
 clear w;rintro⟨a2,l2,c2⟩ h3 ⟨hl,hr,w⟩;simp only at hl w ⊢;subst hl;rw[if_neg (by simp[hr])]at rl;have hc:=(w.mI 1 rfl).2.1;have hll:=Bn l2 hr;refine PY (w.ro (E:=eS) 1 rfl (by decide)) (by omega) (by omega) (hz l2) (tb.keep w.keep) λa3 c3 h4 w4=>?_;have w:=w.join w4;have ge:=MC (kK B d l2).1 gC;have gl:=EE (kK B d l2).1 gC;rw[←rl]at ge gl w ⊢;unfold Iv at k;generalize lC B d gC=r at *;refine M.aO (λz h'=>z=decide (¬(r.2=0∧0<r.1.length))∧h'=h4) (λJ hJ=>?_) ?_
 ·by_cases e3:r.2=0
  ·refine cf (by simp[e3]) (hJ _ _ ⟨jT (by rw[beq_iff_eq];omega),rfl⟩)
  ·exact ct (by simpa using e3) (hJ _ _ ⟨dT λg=>e3 g.1,rfl⟩)
 rintro _ h9 ⟨rfl,e9⟩;rw[e9];clear e9;by_cases g:r.2=0∧0<r.1.length;rotate_left
 ·rw[if_neg g]at k;have:=k _ ((w.drop (i:=2) rfl).drop (i:=1) rfl);rw[show(r.2 != 21)=true by simpa using ge]at this;exact ct (decide_eq_true g) this
 rw[if_pos g]at k;refine cf (decide_eq_false λq=>q g) (Pj (w.keep _ _ hp) st λh5 k5=>?_);have w:=w.keeps k5;obtain⟨hx,k0,k1,wx,wr,back⟩:=w.on (i:=0) rfl;refine zq wx (wr.ro (E:=eP) 1 rfl (by decide)) ((bk.mono (m:=r.1.length+1) (by omega)).rm) λh10 w1=>?_;exact k _ (((back _ _ w1).drop (i:=2) rfl).drop (i:=1) rfl)
end
section
variable {h0 h:H}{b a c:Nat}{V:qG}{key:ByteArray}{data slots:Int}
theorem NN{Q:Int->H->Prop}(w:Wd h0 h (xp b a V))(v:rW V c 600)(tb:qa h0)
  (k:∀h',Wd h0 h' (xp b a (mO V key data slots).2)->Q (mO V key data slots).1 h'):fE (some ⟨b,0,none⟩) (some ⟨a,0,none⟩) key data slots h Q:=by
 unfold fE fE.g;unfold mO at k;have hn:=v.bk.ok.small;refine PN λh1 k1=>?_;have w:=w.keeps k1;refine M.aO (λz h'=>z=decide (oy V.B key≠0∨¬ij data slots 0 false∨(V.B.ds.length:Int)<data+2)∧h'=h1) (λJ hJ=>?_) ?_
 ·by_cases e1:key.size=32
  rotate_left
  ·exact ct (by simp;omega) (hJ _ _ ⟨dT (.inl (by unfold oy;rw[if_pos (.inl e1)];decide)),rfl⟩)
  refine cf (by simp[e1]) ?_;by_cases e:ij data slots 0 false;rotate_left
  ·exact ct (by simp[e]) (hJ _ _ ⟨dT (.inr (.inl e)),rfl⟩)
  refine cf (by simp[e]) (E2 (w.on (i:=0) rfl).choose_spec.2.2.1 (M.vis (data+2) ?_ ?_))
  ·obtain⟨_,h2,h3,_⟩:=e;simp only[Bool.false_eq_true,if_false]at h3;exact qJ (by omega) (by omega)
  by_cases e2:(V.B.ds.length:Int)<data+2
  ·exact eN e2 (hJ _ _ ⟨dT (.inr (.inr e2)),rfl⟩)
  refine gI e2 (Jm (w.on (i:=0) rfl).choose_spec.2.2.1 (by have:=e.2.1;omega) (hJ _ _ ⟨jT ?_,rfl⟩));rw[decide_eq_true_iff];constructor
  ·exact λg=>.inl (by unfold oy;rw[if_pos (.inr (by omega))];decide)
  ·rintro(g|g|g)
   ·unfold oy at g;by_cases e3:(V.B.hU 0).N.length<140
    ·omega
    ·rw[if_neg (by omega)]at g;simp at g
   ·exact absurd e g
   ·exact absurd g e2
 rintro _ h9 ⟨rfl,e9⟩;rw[e9];clear e9;by_cases e1:oy V.B key=0;rotate_left
 ·rw[if_pos e1]at k;have e12:oy V.B key=2:=by
   unfold oy at e1 ⊢;split
   ·rfl
   ·rename_i g;rw[if_neg g]at e1;exact absurd rfl e1
  refine ct (decide_eq_true (.inl e1)) ?_;rw[e12]at k;exact k _ w
 rw[if_neg (by simp[e1])]at k;have hkey:key.size=32:=by
  unfold oy at e1;by_cases e:key.size=32
  ·exact e
  ·rw[if_pos (.inl e)]at e1;simp at e1
 by_cases e2:¬ij data slots 0 false∨(V.B.ds.length:Int)<data+2
 ·rw[if_pos e2]at k;exact ct (decide_eq_true (.inr e2)) (k _ w)
 rw[if_neg e2]at k;have hlg:ij data slots 0 false:=Decidable.not_not.1 λg=>e2 (.inl g);obtain⟨hd,hd2,hd8,_⟩:=hlg;simp only[Bool.false_eq_true,if_false]at hd8;have hsl:=iC hd;refine cf (decide_eq_false λg=>g.elim (λx=>x e1) e2) (iw (M.gv (w.blk 1 rfl) rfl ?_));by_cases e3:V.cnt=0;rotate_left
 ·rw[if_pos e3]at k;exact ct (by simpa using e3) (k _ w)
 rw[if_neg (by simp[e3])]at k;refine cf (by simp[e3]) (M.aK w λp h7 w=>iw (M.bg (b:=p) (o:=6) w 2 rfl rfl (by simp) λh8 w=>M.aK w λb3 h7 w=>⟨rfl,M.bz w 3 rfl (by simp[ag]) rfl λh8 w=>?_⟩));have hS:∀m,mz key data slots V.B (m+1)=if(mz key data slots V.B m).1≠0 then mz key data slots V.B m else if(m:Int)<data+2 then jN (mz key data slots V.B m).2 key m slots (jQ slots)else mz key data slots V.B m:=λm=>rfl
 have hB:∀m,m≤V.B.ds.length->Bk (mz key data slots V.B m).2 c (33*(V.B.ds.length-m)+60):=λm hm=>Bk.fmt hd m (v.bk.mono (by omega));have hN:∀m,(mz key data slots V.B m).2.ds.length=V.B.ds.length:=λm=>wR m;have hR0:mz key data slots V.B 0=(0,V.B):=rfl;dsimp only at k;generalize mz key data slots V.B=R at *;have hfail:∀m j,(R m).1≠0->R (m+j)=R m:=λm j h=>by
  induction j with
  | zero=>rfl
  | succ j ih=>rw[←Nat.add_assoc,hS,ih,if_pos h]
 generalize hnn:V.B.ds.length=n at *;have w:=(w.jt 3 1).jt 171 3;obtain⟨C,hC⟩:∃C:Array Value,C = #[.pointer (some ⟨b,0,none⟩),.pointer (some ⟨a,0,none⟩),.string key,.int .u64 0,.int .u64 0,.int .i64 0,.int .i64 slots,.int .i64 0,.int .i64 0,.bool false,.slice none 0 0,.slice none 0 0,.pointer none,.bool false]:=⟨_,rfl⟩;have st:JX C b a key slots:=by subst hC;exact⟨rfl,rfl,rfl,rfl⟩
 have w:Wd h0 h8 [fV b V.B,.blk a (kU V.cnt V.gC),.blk p (.cells C 83),.blk b3 (.cells (gH (dz data slots n) none 0 0 none 0 0).toArray 80),.sl 3 1 none 0 0 [],.sl 171 3 none 0 0 []]:=by subst hC;exact w
 clear hC
 refine M.aO (λ_ h'=>(R n).1=0∧∃sa sc ma mc,Wd h0 h' [fV b (R n).2,.blk a (kU V.cnt V.gC),.blk p (.cells C 83),.blk b3 (.cells (gH (dz data slots n) sa (ko data n).length sc ma n mc).toArray 80),
  .sl 3 1 sa (ko data n).length sc (eI.row (ko data n)),.sl 171 3 ma n mc (kf.row ((List.range n).map (iA data slots)))]) (λJ hJ=>?_) ?_
 ·refine M.aP (I:=λ(q:Int) h'=>∃m:Nat,m≤n∧q=(m:Int)∧(R m).1=0∧∃sa sc ma mc,Wd h0 h' [fV b (R m).2,.blk a (kU V.cnt V.gC),.blk p (.cells C 83),.blk b3 (.cells (gH (dz data slots n) sa (ko data m).length sc ma m mc).toArray 80),
   .sl 3 1 sa (ko data m).length sc (eI.row (ko data m)),.sl 171 3 ma m mc (kf.row ((List.range m).map (iA data slots)))]) (μ:=λq=>(n-q).toNat) ⟨0,by omega,rfl,by rw[hR0],none,0,none,0,by rw[hR0];exact w⟩ ?_
  clear w;rintro q h9 J2 ⟨m,hm,rfl,hr,sa,sc,ma,mc,w⟩ hJ2;refine E2 (w.on (i:=0) rfl).choose_spec.2.2.1 ?_;rw[hN];by_cases g:m<n;rotate_left
  ·obtain rfl:m=n:=by omega
   exact gI (by omega) (hJ () _ ⟨hr,sa,sc,ma,mc,w⟩)
  have hbm:=hB m hm;have e4:=hS m;rw[if_neg (by simp[hr])]at e4;have hsel:=uT data m;have hses:=vP data m
  refine eN (by omega) (M.aO (λd h'=>∃b4,d=⟨b4,0,none⟩∧Wd h0 h' [fV b (R m).2,.blk a (kU V.cnt V.gC),.blk p (.cells C 83),.blk b3 (.cells (gH (dz data slots n) sa (ko data m).length sc ma m mc).toArray 80),
   .sl 3 1 sa (ko data m).length sc (eI.row (ko data m)),.sl 171 3 ma m mc (kf.row ((List.range m).map (iA data slots))),.blk b4 (.cells (kf.enc ⟨0,kL 32,gF⟩).toArray 171)]) (λJ1 hJ1=>?_) ?_)
  ·have eM:∀{h1:H} {K:ByteArray->H->Prop},bq h0 h1->(∀h',bq h1 h'->K gF h')->eZ h1 K:=λk kk=>Nl (tb.keep k) kk;have bS:∀{h1:H} {b5:Nat} {K:ByteArray->Prop},h1 b5=some (.cells (gx [Value.int .u8 0] (Int.toNat 32)).toArray 5)->K (kL 32)->M.xX h1 (some ⟨b5,0,none⟩) (Int.toNat 32) K:=λhb kk=>M.A3 (zs:=List.replicate 32 0) (o:=0) (n:=32) hb (by decide) kk;refine⟨M.zM w (by decide) (by decide) (by decide) (by decide) λb5 h10 w=>⟨bS (w.blk 6 rfl) ⟨?_,?_⟩,?_,?_⟩,?_,?_⟩
   ·exact eM w.keep λh11 u7=>M.aK (w.keeps u7) λb4 h12 w=>⟨rfl,M.bz w 7 rfl (by simp[ag]) rfl λh13 w=>hJ1 _ _ ⟨b4,rfl,w.drop (i:=6) rfl⟩⟩
   ·exact M.aK w λb4 h11 w=>eM w.keep λh12 yb=>⟨rfl,M.bz (w.keeps yb) 7 rfl (by simp[ag]) rfl λh13 w=>hJ1 _ _ ⟨b4,rfl,w.drop (i:=6) rfl⟩⟩
   ·refine eM w.keep λh11 u7=>⟨?_,?_⟩
    ·exact bS ((w.keeps u7).blk 6 rfl) (M.aK (w.keeps u7) λb4 h12 w=>⟨rfl,M.bz w 7 rfl (by simp[ag]) rfl λh13 w=>hJ1 _ _ ⟨b4,rfl,w.drop (i:=6) rfl⟩⟩)
    ·exact M.aK (w.keeps u7) λb4 h12 w=>bS (w.blk 6 rfl) ⟨rfl,M.bz w 7 rfl (by simp[ag]) rfl λh13 w=>hJ1 _ _ ⟨b4,rfl,w.drop (i:=6) rfl⟩⟩
   ·refine M.aK w λb4 h11 w=>⟨?_,?_⟩
    ·exact bS (w.blk 6 rfl) (eM w.keep λh12 yb=>⟨rfl,M.bz (w.keeps yb) 7 rfl (by simp[ag]) rfl λh13 w=>hJ1 _ _ ⟨b4,rfl,w.drop (i:=6) rfl⟩⟩)
    ·exact eM w.keep λh12 yb=>bS ((w.keeps yb).blk 6 rfl) ⟨rfl,M.bz (w.keeps yb) 7 rfl (by simp[ag]) rfl λh13 w=>hJ1 _ _ ⟨b4,rfl,w.drop (i:=6) rfl⟩⟩
   ·refine eM w.keep λh11 u7=>⟨M.zM (w.keeps u7) (by decide) (by decide) (by decide) (by decide) λb5 h12 w=>⟨?_,?_⟩,?_⟩
    ·exact bS (w.blk 6 rfl) (M.aK w λb4 h12 w=>⟨rfl,M.bz w 7 rfl (by simp[ag]) rfl λh13 w=>hJ1 _ _ ⟨b4,rfl,w.drop (i:=6) rfl⟩⟩)
    ·exact M.aK w λb4 h12 w=>bS (w.blk 6 rfl) ⟨rfl,M.bz w 7 rfl (by simp[ag]) rfl λh13 w=>hJ1 _ _ ⟨b4,rfl,w.drop (i:=6) rfl⟩⟩
    ·exact M.aK (w.keeps u7) λb4 h12 w=>M.zM w (by decide) (by decide) (by decide) (by decide) λb5 h13 w=>bS (w.blk 7 rfl) ⟨rfl,M.bz w 6 rfl (by simp[ag]) rfl λh14 w=>hJ1 _ _ ⟨b4,rfl,w.drop (i:=7) rfl⟩⟩
   ·refine M.aK w λb4 h11 w=>⟨M.zM w (by decide) (by decide) (by decide) (by decide) λb5 h12 w=>⟨?_,?_⟩,?_⟩
    ·exact bS (w.blk 7 rfl) (eM w.keep λh13 Cz=>⟨rfl,M.bz (w.keeps Cz) 6 rfl (by simp[ag]) rfl λh14 w=>hJ1 _ _ ⟨b4,rfl,w.drop (i:=7) rfl⟩⟩)
    ·exact eM w.keep λh13 Cz=>bS ((w.keeps Cz).blk 7 rfl) ⟨rfl,M.bz (w.keeps Cz) 6 rfl (by simp[ag]) rfl λh14 w=>hJ1 _ _ ⟨b4,rfl,w.drop (i:=7) rfl⟩⟩
    ·exact eM w.keep λh12 yb=>M.zM (w.keeps yb) (by decide) (by decide) (by decide) (by decide) λb5 h13 w=>bS (w.blk 7 rfl) ⟨rfl,M.bz w 6 rfl (by simp[ag]) rfl λh14 w=>hJ1 _ _ ⟨b4,rfl,w.drop (i:=7) rfl⟩⟩
  clear w;rintro _ h10 ⟨b4,rfl,w⟩
  refine M.aO (λ_ h'=>(R (m+1)).1=0∧∃sa sc,Wd h0 h' [fV b (R (m+1)).2,.blk a (kU V.cnt V.gC),.blk p (.cells C 83),.blk b3 (.cells (gH (dz data slots n) sa (ko data (m+1)).length sc ma m mc).toArray 80),
   .sl 3 1 sa (ko data (m+1)).length sc (eI.row (ko data (m+1))),.sl 171 3 ma m mc (kf.row ((List.range m).map (iA data slots))),.blk b4 (.cells (kf.enc (iA data slots m)).toArray 171)]) (λJ3 hJ3=>M.vis (data+2) (qJ (by omega) (by omega)) ?_) ?_
  ·by_cases e5:(m:Int)<data+2
   rotate_left
   ·rw[if_neg e5]at e4 hses;refine gI e5 (hJ3 () _ ⟨by rw[e4];exact hr,sa,sc,?_⟩);rw[e4,hses];have:iA data slots m=⟨0,kL 32,gF⟩:=by unfold iA;rw[if_neg e5]
    rw[this];exact w
   rw[if_pos e5]at e4 hses;refine eN e5 (Pj (w.blk 2 rfl) st λh14 Mv=>?_);have w:=w.keeps Mv;refine M.aK w λb7 h11 w=>⟨rfl,M.bz w 7 rfl (by simp[ag]) rfl λh12 w=>?_⟩;have hb7:=w.blk 7 rfl;refine M.nF hb7 rfl (M.gv hb7 rfl (M.gv hb7 rfl (M.oL hb7 rfl ?_)));have hgs:iS (R m).2 (m:Int) slots key:=⟨hd,hkey,ak.jX.2 (by rw[hN];omega)⟩;refine Ge (w.on (i:=0) rfl).choose_spec.2.2.1 hgs (tb.keep w.keep) λa5 c5 h15 w15=>?_;have w:=w.join w15;clear w15;have hb7:=w.blk 7 rfl;refine M.nF hb7 rfl (M.gv hb7 rfl (M.gv hb7 rfl (M.oL hb7 rfl ?_)));obtain⟨h17,k017,kk17,w17,wr17,back17⟩:=w.on (i:=0) rfl;have hbl:=wI hd;refine zq w17 (wr17.ro (E:=eP) 7 rfl (by decide)) ((hbm.mono (m:=(jQ slots).length+1) (by omega)).rm) λh18 w18=>?_;have w:=((back17 _ _ w18).drop (i:=8) rfl).drop (i:=7) rfl;clear w17 wr17 back17 w18 kk17 k017;rw[←e4]at w ⊢;by_cases e6:(R (m+1)).1=0;rotate_left
   ·have hl:R n=R (m+1):=by
     have:=hfail (m+1) (n-(m+1)) e6
     rwa [show m+1+(n-(m+1))=n by omega]at this
    rw[hl,if_pos e6]at k;exact ct (by simpa using e6) (k _ (((((w.drop (i:=6) rfl).drop (i:=5) rfl).drop (i:=4) rfl).drop (i:=3) rfl).drop (i:=2) rfl))
   refine cf (by simp[e6]) (M.bg w 6 rfl rfl (by simp[kf]) λh19 w=>M.bg w 6 rfl rfl (by simp[kf]) λh20 w=>M.lW (w.blk 3 rfl) rfl ?_);refine Wd.push w 4 rfl rfl rfl (eI.iq [(m:Int)]) (by omega) (by omega) λa6 c6 h21 w=>M.bg w 3 rfl rfl (by simp[gH]) λh22 w=>hJ3 () _ ⟨e6,a6,c6,?_⟩;have:iA data slots m=⟨1,jx slots,gF⟩:=by unfold iA;rw[if_pos e5]
   rw[hses,this,eI.iX,List.length_append];exact w
  ·clear w;rintro _ h14 ⟨hr',sa,sc,w⟩;refine M.lW (w.blk 3 rfl) rfl (M.gv (w.blk 6 rfl) rfl (M.oL (w.blk 6 rfl) rfl (M.oL (w.blk 6 rfl) rfl ?_)));refine Wd.push w 5 rfl rfl rfl (kf.iq [iA data slots m]) (by omega) (by omega) λa6 c6 h21 w=>M.bg w 3 rfl rfl (by simp[gH]) λh22 w=>M.vis ((m+1:Nat):Int) (by rw[IntKind.wrap_i64];omega) (hJ2 _ _ ⟨m+1,by omega,rfl,hr',sa,sc,a6,c6,?_⟩ (by omega));rw[List.range_succ,List.map_append,kf.iX];exact w.drop (i:=6) rfl
 clear w;rintro _ h9 ⟨hr,sa,sc,ma,mc,w⟩;have hsel:=uT data n;rw[if_neg (by simp[hr])]at k;have vr:rW { V with B:=(R n).2 } c 25:=⟨(hB n (Nat.le_refl _)).mono (by omega),v.c0,v.c1⟩
 refine kq (s:=dz data slots n) (sa:=sa) (sl:=(ko data n).length) (sc:=sc) (ma:=ma) (ml:=n) (mc:=mc) (hM (w.blk 3 rfl)) ?_;obtain⟨h13,k013,kk13,w13,wr13,back13⟩:=w.split 3;refine Gy (V:={ V with B:=(R n).2 }) (s:=dz data slots n) w13 st (wr13.ro (E:=eI) (xs:=ko data n) 1 rfl (by decide)) (wr13.ro (E:=kf) (xs:=(List.range n).map (iA data slots)) 2 rfl (by decide)) (by omega) (by omega) (sL _ _ _) vr (tb.keep k013) λh14 w14=>?_
 have w:=back13 _ _ w14;exact k _ ((((w.drop (i:=5) rfl).drop (i:=4) rfl).drop (i:=3) rfl).drop (i:=2) rfl)
end
def u5(b a:Nat)(key:ByteArray)(s:gD)(sa:Option Addr)(sl sc:Nat)(ma:Option Addr)(ml mc:Nat)(q:Option Addr):Array Value:=#[.pointer (some ⟨b,0,none⟩),.pointer (some ⟨a,0,none⟩),.string key,.int .u64 s.count,.int .u64 s.dS,.int .i64 s.data,.int .i64 s.slots,.int .i64 s.mark,.int .i64 s.built,.bool s.aJ,
 .slice sa sl sc,.slice ma ml mc,.pointer q,.bool false]
theorem Mh{b a:Nat}{key:ByteArray}{s s2:gD}{sa ma sa2 ma2:Option Addr}{sl sc ml mc sl2 sc2 ml2 mc2:Nat}{q:Option Addr}:splice (u5 b a key s sa sl sc ma ml mc q) 3 (gH s2 sa2 sl2 sc2 ma2 ml2 mc2)=u5 b a key s2 sa2 sl2 sc2 ma2 ml2 mc2 q:=by simp only[u5,gH,bl,bs]
theorem IA{b a:Nat}{key:ByteArray}{s:gD}{sa ma:Option Addr}{sl sc ml mc:Nat}{q:Option Addr}:JX (u5 b a key s sa sl sc ma ml mc q) b a key s.slots:=⟨rfl,rfl,rfl,rfl⟩
def Ag(p b a:Nat)(key:ByteArray)(T:uY):Chunk:=Wd.obj (α:=Option Addr×Nat×Option Addr×Nat×Nat) (λ_=>T.Ok) λv=>[.blk p (.cells (yG b a key T v.1 v.2.1 v.2.2.1 v.2.2.2.1 v.2.2.2.2) 83),.sl 3 1 v.1 T.S.av.length v.2.1 (eI.row T.S.av),
 .sl 171 3 v.2.2.1 T.S.aj.length v.2.2.2.1 (kf.row T.S.aj),.blk v.2.2.2.2 (.cells #[.int .u64 T.S.dS,.int .u64 T.nx] 185)]
theorem OC{key:ByteArray}{n d:Int}{B:ak}{x:Mem}(h:¬x.o5):pN key n B d x=(0,B):=if_pos h
theorem Lw{key:ByteArray}{n d:Int}{B:ak}{x:Mem}(h:x.o5):pN key n B d x=Iv key n B d x.log:=by
 unfold pN;rw[if_neg (not_not.2 h)];rfl
section
variable {h0 h:H}{b a c:Nat}{V:qG}{key:ByteArray}
theorem QU{Q:Option Addr->Int->H->Prop}(w:Wd h0 h (xp b a V))(v:rW V c 1300)(hds:0<V.B.ds.length)(tb:qa h0)
  (k1:(lH V key).1≠0->∀h',Wd h0 h' (xp b a (lH V key).2.1)->Q none (lH V key).1 h')
  (k0:(lH V key).1=0->∀p h',Wd h0 h' (xp b a (lH V key).2.1++[Ag p b a key (nG (lH V key).2.2)])->Q (some ⟨p,0,none⟩) 0 h'):gR (some ⟨b,0,none⟩) (some ⟨a,0,none⟩) key h Q:=by
 unfold gR gR.g;have hon:=Ax (V:=V) (key:=key);unfold lH at k0 k1 hon;refine M.aO (λz h'=>z=decide (oy V.B key≠0)∧h'=h) (λJ hJ=>?_) ?_
 ·by_cases e1:key.size=32
  rotate_left
  ·exact ct (by simp;omega) (hJ _ _ ⟨dT (by unfold oy;rw[if_pos (.inl e1)];decide),rfl⟩)
  refine cf (by simp[e1]) (Jm (w.on (i:=0) rfl).choose_spec.2.2.1 hds (hJ _ _ ⟨jT ?_,rfl⟩));rw[decide_eq_true_iff];unfold oy;by_cases e3:(V.B.hU 0).N.length<140
  ·rw[if_pos (.inr e3)];omega
  ·rw[if_neg (by omega)];omega
 rintro _ h9 ⟨rfl,e9⟩;rw[e9];clear e9;by_cases e1:oy V.B key=0;rotate_left
 ·rw[if_pos e1]at k1;have e12:oy V.B key=2:=by
   unfold oy at e1 ⊢;split
   ·rfl
   ·rename_i g;rw[if_neg g]at e1;exact absurd rfl e1
  refine ct (decide_eq_true e1) ?_;have:=k1 e1 _ w
  rwa [e12]at this
 have hc:2≤c:=by
  have hl:=v.bk.ln _ (rL (B:=V.B) (i:=0) (ak.jX.2 ⟨Int.le_refl 0,by omega⟩));unfold oy at e1;by_cases e3:(V.B.hU 0).N.length<140
  ·rw[if_pos (.inr e3)]at e1;simp at e1
  ·omega
 rw[if_neg (by simp[e1])]at k0 k1 hon;refine cf (by simp[e1]) (iw (M.gv (w.blk 1 rfl) rfl ?_));by_cases e2:V.cnt=0
 ·rw[if_pos e2]at k1;exact ct (by simp[e2]) (k1 (show(11:Int)≠0 by decide) _ w)
 rw[if_neg e2]at k0 k1 hon;refine cf (by simpa using e2) (M.aK w λp h2 w=>?_);have w:Wd h0 h2 [fV b V.B,.blk a (kU V.cnt V.gC),.blk p (.cells (u5 b a key mN none 0 0 none 0 0 none) 83)]:=w;refine QT w IA (v.bk.mono (by omega)) hc (tb.keep w.keep) (λef a1 c1 a2 c2 h5 w5=>?_) λef h5 k5=>?_;rotate_left
 ·have w:=w.keeps k5;rw[if_pos ef]at k1;refine M.aK w λb2 h6 w=>⟨rfl,M.bz w 3 rfl (by simp[ag]) rfl λh7 w=>?_⟩;exact ct (by simpa using ef) (k1 ef _ ((w.drop (i:=3) rfl).drop (i:=2) rfl))
 have w:=w.join w5;clear w5;rw[if_neg (by simp[ef])]at k0 k1 hon;obtain⟨hg,hbig,hlen⟩:=qo ef;generalize (ig V.B V.gC).2=s at *;refine M.aK w λb2 h6 w=>⟨rfl,M.bz w 5 rfl (by simp[ag]) rfl λh7 w=>cf rfl (M.gv (w.blk 5 rfl) rfl ?_)⟩;by_cases e3:s.dS≥4294967295
 ·rw[if_pos e3]at k1;exact eN e3 (k1 (show(25:Int)≠0 by decide) _ ((((w.drop (i:=5) rfl).drop (i:=4) rfl).drop (i:=3) rfl).drop (i:=2) rfl))
 rw[if_neg e3]at k0 k1 hon;refine gI e3 (kq (s:=s) (sa:=a1) (sl:=s.av.length) (sc:=c1) (ma:=a2) (ml:=s.aj.length) (mc:=c2) (hM (w.blk 5 rfl)) (iw ⟨rfl,M.HL (b:=p) (o:=3) w 2 rfl (by simp[ag]) (show(12:Nat)≤14 by decide) λh8 w=>?_⟩));rw[show([.int .u64 s.count,.int .u64 s.dS,.int .i64 s.data,.int .i64 s.slots,.int .i64 s.mark,.int .i64 s.built,.bool s.aJ,.slice a1 s.av.length c1,.slice a2 s.aj.length c2]:List Value)=gH s a1 s.av.length c1 a2 s.aj.length c2 from rfl,Mh]at w;have hn:=v.bk.ok.small
 have w:Wd h0 h8 [fV b V.B,.blk a (kU V.cnt V.gC),.blk p (.cells (u5 b a key s a1 s.av.length c1 a2 s.aj.length c2 none) 83),.sl 3 1 a1 s.av.length c1 (eI.row s.av),.sl 171 3 a2 s.aj.length c2 (kf.row s.aj),
  .blk b2 (.cells (gH s a1 s.av.length c1 a2 s.aj.length c2).toArray 80)]:=w
 have hS:∀m,lq key s V.B (m+1)=if(lq key s V.B m).1≠0 then lq key s V.B m else
   (if(pN key s.slots (lq key s V.B m).2 m (mb s.aj m)).1=21 then 21 else 0,(pN key s.slots (lq key s V.B m).2 m (mb s.aj m)).2):=λm=>rfl
 have hB:∀m,m≤s.aj.length->Bk (lq key s V.B m).2 c (96*(s.aj.length-m)+100):=λm hm=>Bk.rep m (v.bk.mono (by omega));have hR0:lq key s V.B 0=(0,V.B):=rfl;dsimp only at k0 k1 hon;generalize lq key s V.B=R at *;have hfail:∀m j,(R m).1≠0->R (m+j)=R m:=λm j h=>by
  induction j with
  | zero=>rfl
  | succ j ih=>rw[←Nat.add_assoc,hS,ih,if_pos h]
 generalize hml:s.aj.length=ml at *;refine M.aO (λ_ h'=>(R ml).1=0∧Wd h0 h' [fV b (R ml).2,.blk a (kU V.cnt V.gC),.blk p (.cells (u5 b a key s a1 s.av.length c1 a2 ml c2 none) 83),.sl 3 1 a1 s.av.length c1 (eI.row s.av),.sl 171 3 a2 ml c2 (kf.row s.aj)]) (λJ hJ=>?_) ?_
 ·refine M.aP (I:=λ(q:Int) h'=>∃m:Nat,m≤ml∧q=(m:Int)∧(R m).1=0∧Wd h0 h' [fV b (R m).2,.blk a (kU V.cnt V.gC),.blk p (.cells (u5 b a key s a1 s.av.length c1 a2 ml c2 none) 83),.sl 3 1 a1 s.av.length c1 (eI.row s.av),.sl 171 3 a2 ml c2 (kf.row s.aj),
   .blk b2 (.cells (gH s a1 s.av.length c1 a2 ml c2).toArray 80)]) (μ:=λq=>(ml-q).toNat) ⟨0,by omega,rfl,by rw[hR0],by rw[hR0];exact w⟩ ?_
  clear w;rintro q h9 J2 ⟨m,hm,rfl,hr,w⟩ hJ2;refine M.lW (w.blk 5 rfl) rfl ?_;by_cases g:m<ml;rotate_left
  ·obtain rfl:m=ml:=by omega
   exact gI (by omega) (hJ () _ ⟨hr,w.drop (i:=5) rfl⟩)
  have hbm:=hB m hm;have e4:=hS m;rw[if_neg (by simp[hr])]at e4
  have ht:(R (m+1)).1=0->∀h',Wd h0 h' [fV b (R (m+1)).2,.blk a (kU V.cnt V.gC),.blk p (.cells (u5 b a key s a1 s.av.length c1 a2 ml c2 none) 83),.sl 3 1 a1 s.av.length c1 (eI.row s.av),.sl 171 3 a2 ml c2 (kf.row s.aj),
   .blk b2 (.cells (gH s a1 s.av.length c1 a2 ml c2).toArray 80)]->M.val (IntKind.wrap .i64 ((m:Int)+1)) λz=>J2 z h':=λe h' w=>
   M.vis ((m+1:Nat):Int) (by rw[IntKind.wrap_i64];omega) (hJ2 _ _ ⟨m+1,by omega,rfl,e,w⟩ (by omega))
  refine eN (by omega) (M.jn (M.lW (w.blk 5 rfl) rfl (Ro.BY (w.ro (E:=kf) 4 rfl (by decide)) (by omega) (by omega) (Pn λh10 Ny=>?_))));have w:=w.keeps Ny;rw[Int.toNat_natCast];by_cases e5:(mb s.aj m).o5;rotate_left
  ·rw[OC e5]at e4;refine cf (decide_eq_false e5) (ht (by rw[e4];rfl) _ ?_);rw[e4];exact w
  rw[Lw e5]at e4;refine ct (decide_eq_true e5) (M.lW (w.blk 5 rfl) rfl ?_);refine(w.ro (E:=kf) 4 rfl (by decide)).at (by omega) (by omega) λx hi hx=>?_;have c2':h10.cell ((x.add ((m:Int).toNat * 3)).add 2)=some (.string (s.aj[(m:Int).toNat]).log):=hx 2 (by decide);rw[←mJ hi,Int.toNat_natCast]at c2';refine⟨_,c2',_,rfl,?_⟩;obtain⟨h11,k011,kk11,w11,wr11,back11⟩:=w.on (i:=0) rfl;refine N7 (key:=key) (n:=s.slots) w11 (wr11.blk 1 rfl) IA (hbm.mono (by omega)) (tb.keep k011) λh12 w12=>?_;have w:=back11 _ _ w12;clear w11 wr11 back11 w12 kk11 k011;generalize Iv key s.slots (R m).2 m (mb s.aj m).log=r at *
  have w:Wd h0 h12 [fV b (R (m+1)).2,.blk a (kU V.cnt V.gC),.blk p (.cells (u5 b a key s a1 s.av.length c1 a2 ml c2 none) 83),.sl 3 1 a1 s.av.length c1 (eI.row s.av),.sl 171 3 a2 ml c2 (kf.row s.aj),
   .blk b2 (.cells (gH s a1 s.av.length c1 a2 ml c2).toArray 80)]:=by rw[e4];exact w
  by_cases e7:r.1=21
  ·rw[if_pos e7]at e4;have hl:R ml=R (m+1):=by
    have:=hfail (m+1) (ml-(m+1)) (by rw[e4];simp)
    rwa [show m+1+(ml-(m+1))=ml by omega]at this
   have h21:(R (m+1)).1=21:=by rw[e4]
   rw[hl,h21,if_pos (by decide)]at k1;refine ct (by simp[e7]) ?_;exact k1 (show(21:Int)≠0 by decide) _ ((((w.drop (i:=5) rfl).drop (i:=4) rfl).drop (i:=3) rfl).drop (i:=2) rfl)
  ·rw[if_neg e7]at e4;exact cf (by simpa using e7) (ht (by rw[e4]) _ w)
 clear w;rintro _ h9 ⟨hr,w⟩;have hrep:Bk (R ml).2 c 100:=(hB ml (Nat.le_refl _)).mono (by omega);generalize R ml=r at *;rw[if_neg (by simp[hr])]at k0 k1 hon;have hbp:=w.blk 2 rfl;refine iw (M.gv hbp rfl (M.vis (Du (s.count+1)) rfl (iw (M.bg (b:=p) (o:=3) w 2 rfl rfl (by simp[u5]) λh10 w=>iw (M.gv (w.blk 2 rfl) rfl (M.vis (Du (s.dS+1)) rfl (iw (M.bg (b:=p) (o:=4) w 2 rfl rfl (by simp[u5]) λh11 w=>?_))))))));have hnl:s.next.aj.length=ml:=by simp[gD.next,hml]
 have w:Wd h0 h11 [fV b r.2,.blk a (kU V.cnt V.gC),.blk p (.cells (u5 b a key s.next a1 s.av.length c1 a2 ml c2 none) 83),.sl 3 1 a1 s.av.length c1 (eI.row s.av),.sl 171 3 a2 ml c2 (kf.row s.aj)]:=w
 refine M.aO (λ_ h'=>Wd h0 h' [fV b r.2,.blk a (kU V.cnt V.gC),.blk p (.cells (u5 b a key s.next a1 s.av.length c1 a2 ml c2 none) 83),.sl 3 1 a1 s.av.length c1 (eI.row s.av),.sl 171 3 a2 ml c2 (kf.row s.next.aj)]) (λJ hJ=>?_) ?_
 ·refine M.aP (I:=λ(q:Int) h'=>∃m:Nat,m≤ml∧q=(m:Int)∧Wd h0 h' [fV b r.2,.blk a (kU V.cnt V.gC),.blk p (.cells (u5 b a key s.next a1 s.av.length c1 a2 ml c2 none) 83),.sl 3 1 a1 s.av.length c1 (eI.row s.av),.sl 171 3 a2 ml c2 (kf.row (s.next.aj.take m++s.aj.drop m))]) (μ:=λq=>(ml-q).toNat) ⟨0,by omega,rfl,by simpa using w⟩ ?_
  clear w;rintro q h12 J2 ⟨m,hm,rfl,w⟩ hJ2;refine iw (M.lW (w.blk 2 rfl) rfl ?_);by_cases g:m<ml
  ·refine eN (by omega) (iw (M.lW (w.blk 2 rfl) rfl (Nl (tb.keep w.keep) λh13 Cz=>M.cY Cz ⟨_,w.blk 2 rfl⟩ ?_)));have w:=w.keeps Cz;have hl2:m<(s.next.aj.take m++s.aj.drop m).length:=by simp[hnl];omega
   have hg2:(s.next.aj.take m++s.aj.drop m)[m]=s.aj[m]:=by
    rw[List.getElem_append_right (by simp;omega)];simp[hnl,Nat.min_eq_left hm]
   refine sQ kf w 4 rfl (z:=m) (o:=2) rfl hl2 (by decide) rfl { s.aj[m]with log:=gF } (by rw[hg2];rfl) λh14 w=>?_;refine M.vis ((m+1:Nat):Int) (by rw[IntKind.wrap_i64];omega) (hJ2 _ _ ⟨m+1,by omega,rfl,?_⟩ (by omega));have hs:(s.next.aj.take m++s.aj.drop m).set m { s.aj[m]with log:=gF } = s.next.aj.take (m+1)++s.aj.drop (m+1):=by
    rw[List.set_append_right _ _ (by simp;omega),List.length_take,hnl,Nat.min_eq_left hm,Nat.sub_self,List.drop_eq_getElem_cons (by omega),List.set_cons_zero,List.take_succ_eq_append_getElem (by omega),List.append_assoc];simp[gD.next]
   rw[←hs];exact w
  ·obtain rfl:m=ml:=by omega
   rw[List.take_of_length_le (by omega),List.drop_of_length_le (by omega),List.append_nil]at w;exact gI (by omega) (hJ () _ w)
 clear w;rintro _ h12 w;have hns:s.next.av=s.av:=rfl
 have vr:rW { V with B:=r.2 } c 25:=⟨hrep.mono (by omega),v.c0,v.c1⟩
 refine iw (kq (s:=s.next) (sa:=a1) (sl:=s.av.length) (sc:=c1) (ma:=a2) (ml:=ml) (mc:=c2) (pZ (w.blk 2 rfl) rfl) ?_)
 obtain⟨h13,k013,kk13,w13,wr13,back13⟩:=w.split 3;refine Gy (V:={ V with B:=r.2 }) w13 (n:=s.slots) IA (wr13.ro (E:=eI) 0 rfl (by decide)) (by have:=wr13.ro (E:=kf) (xs:=s.next.aj) 1 rfl (by decide);exact this) (by omega) (by have:=hg.len;omega) (gD.uz _) vr (tb.keep k013) λh14 w14=>?_
 have w:=back13 _ _ w14;clear w13 wr13 back13 w14 kk13 k013;generalize iY { V with B:=r.2 } s.next=P at *
 by_cases e5:P.1=0
 rotate_left
 ·rw[if_pos e5]at k1;exact ct (by simpa using e5) (k1 e5 _ (((w.drop (i:=4) rfl).drop (i:=3) rfl).drop (i:=2) rfl))
 rw[if_neg (by simp[e5])]at k0 k1 hon;obtain⟨q1,q2,q3,q4,q5,q6,q7⟩:=hon rfl;refine cf (by simp[e5]) (iw (M.gv (w.blk 2 rfl) rfl (M.aK w λb3 h15 w=>iw (M.bg (b:=p) (o:=12) w 2 rfl rfl (by simp[u5]) λh16 w=>k0 rfl p h16 ?_))));have w':Wd h0 h16 (xp b a P.2++[.blk p (.cells (yG b a key (nG s.next) a1 c1 a2 c2 b3) 83),.sl 3 1 a1 s.next.av.length c1 (eI.row s.next.av),.sl 171 3 a2 s.next.aj.length c2 (kf.row s.next.aj),.blk b3 (.cells #[.int .u64 s.next.dS,.int .u64 0] 185)]):=by
  unfold yG;rw[show(nG s.next).S.aj.length=ml from hnl,hnl]
  exact w
 exact w'.close 2 (a1,c1,a2,c2,b3) rfl ⟨q1.fit,q2,⟨q5,q4⟩,Int.le_refl 0,show(0:Int)≤4294967296 by decide⟩
end
def IB:Prop:=dH 2 (gJ S2)≠dH 2 (gJ (S3 je))
theorem DB{h h':H}{a:Addr}{n:Nat}{K:Prop}{ob:Obj}(h1:h a.block=some ob)(h2:h' a.block=some ob)(q:K):M.still h a n h' K:=⟨λi _=>by unfold H.cell;rw[Co,h1,h2],q⟩
section
variable {h0 h:H}
theorem MM{q:Option Addr}{key:ByteArray}{Q:Option Addr->Int->H->Prop}(k:∀h',bq h0 h'->Q none 1 h'):cT none q key h0 Q:=by
 unfold cT cT.g;refine M.aK (Wd.start h0) λb1 h1 w=>⟨rfl,M.bz w 0 rfl (by simp[ag]) rfl λh2 w=>nS (w.blk 0 rfl) rfl rfl rfl (Mf λh3 k3=>ct rfl (k _ (w.keep.trans k3)))⟩
end
end Go.Proofs.YtmfcgihgdhfalaaGreatDoor
namespace Go.Proofs.YtmfcgihgdhfalaaGreatDoor
open Go.Sh Go.RowKit Go.ChangeShapes Go.WideShapes Go.ChangeAt
theorem Rl:Tryz.prog.globalNamed "cofferdam/cofferdamref05.first" = some 2:=by kernel_rfl
theorem QK:Tryz.prog.globalNamed "cofferdam/cofferdamref05.round" = some 5:=by kernel_rfl
theorem Rm:Tryz.prog.globalNamed "cofferdam/layout.sizes" = some 0:=by kernel_rfl
theorem Sk:(Rows.laid_cofferdam_cofferdamref05_first:DataW Unit)=Lib.tabData .u32 (K0 S8.first.l):=by kernel_rfl
theorem Si:(Rows.laid_cofferdam_cofferdamref05_round:DataW Unit)=Lib.tabData .u32 (K0 tr):=by kernel_rfl
theorem RM:(Rows.laid_cofferdam_layout_sizes:DataW Unit)=Lib.tabData .i64 [2,4,8,16]:=by kernel_rfl
theorem y3{W:World}(h:laidMetH Tryz.prog [("cofferdam/cofferdamref05.first",Rows.laid_cofferdam_cofferdamref05_first),("cofferdam/cofferdamref05.round",Rows.laid_cofferdam_cofferdamref05_round),("math/bits.deBruijn32tab",Rows.laid_math_bits_deBruijn32tab),("math/bits.deBruijn64tab",Rows.laid_math_bits_deBruijn64tab),("cofferdam/layout.sizes",Rows.laid_cofferdam_layout_sizes),("cofferdam/sha.first",Rows.laid_cofferdam_sha_first),("cofferdam/sha.round",Rows.laid_cofferdam_sha_round)] W):qa (hp W)∧yo (hp W):=by
 have h:laidMet Tryz.prog [("cofferdam/cofferdamref05.first",Rows.laid_cofferdam_cofferdamref05_first),("cofferdam/cofferdamref05.round",Rows.laid_cofferdam_cofferdamref05_round),("math/bits.deBruijn32tab",Rows.laid_math_bits_deBruijn32tab),("math/bits.deBruijn64tab",Rows.laid_math_bits_deBruijn64tab),("cofferdam/layout.sizes",Rows.laid_cofferdam_layout_sizes),("cofferdam/sha.first",Rows.laid_cofferdam_sha_first),("cofferdam/sha.round",Rows.laid_cofferdam_sha_round)] W:=h
 rw[RI,R6,Sk,Si,RG,RM]at h;have t2:=Lib.tabIs_of_head Rl (by kernel_rfl) Tryz.underlying365 Tryz.underlying230 (by kernel_rfl) (by kernel_rfl) h;have h:=laidMet.tail h;have t3:=Lib.tabIs_of_head QK (by kernel_rfl) Tryz.underlying402 Tryz.underlying230 (by kernel_rfl) (by kernel_rfl) h;have h:=laidMet.tail (laidMet.tail h);have t5:=Lib.tabIs_of_head Rf (by kernel_rfl) Tryz.underlying442 Tryz.underlying5 (by kernel_rfl) (by kernel_rfl) h;have h:=laidMet.tail h;have t6:=Lib.tabIs_of_head Rm (by kernel_rfl) Tryz.underlying150 Tryz.underlying3 (by kernel_rfl) (by kernel_rfl) h;have h:=laidMet.tail h;have t0:=Lib.tabIs_of_head Q9 (by kernel_rfl) Tryz.underlying365 Tryz.underlying230 (by kernel_rfl) (by kernel_rfl) h;have h:=laidMet.tail h;have t1:=Lib.tabIs_of_head QI (by kernel_rfl) Tryz.underlying402 Tryz.underlying230 (by kernel_rfl) (by kernel_rfl) h;have r0:=oA t0 Q9;have r1:=oA t1 QI;have r2:=oA t2 Rl;have r3:=oA t3 QK;rw[OL]at r0 r1 r2 r3;exact⟨⟨⟨r0,r1,oA t5 Rf⟩,r2,r3⟩,⟨oA t6 Rm⟩⟩
noncomputable def ua(os:Os):World:=
 let put (hp:Array Obj) (g:Nat) (vs:Array Value):Array Obj:=hp.modify g fun
   | .cells _ t frozen=>.cells vs t frozen
   | o=>o
 let w:=World.holding Tryz.prog os ⟨#[],#[],[]⟩
 { w with heap:=put (put (put (put (put (put (put w.heap 1 (kQ S8.first.l).toArray) 3 (kQ tr).toArray) 2 (kQ S8.first.l).toArray) 5 (kQ tr).toArray)
   6 (oT RZ).toArray) 7 (oT Pr).toArray) 0 (eI.row [2,4,8,16]).toArray }
structure L4 where
 RE:Int
 hU:Int
 at_:Int
 Pv:Int
 cell:ByteArray
 ca:Option Addr
 cl:Nat
 cc:Nat
 ka:Option Addr
 kl:Nat
 kc:Nat
def L4.cells(m:L4):List Value:=[.int .i64 m.RE,.int .i64 m.hU,.int .i64 m.at_,.int .i64 m.Pv,.string m.cell,.slice m.ca m.cl m.cc,.slice m.ka m.kl m.kc]
set_option maxRecDepth 100000 in
theorem LC{h:H}{f:Nat}{cs:List Value}(hi:In Tryz.prog h f 25 cs):∃m:L4,cs=m.cells:=by
 obtain⟨f',hl,hi⟩:=KE Tryz.underlying25 hi;rw[show Tryz.prog.cellsOf 25=7 by decide +kernel]at hl;simp only[List.mem_cons,List.not_mem_nil,or_false,forall_eq_or_imp,forall_eq]at hi;obtain⟨h0,h1,h2,h3,h4,h5,h6⟩:=hi;obtain⟨n0,e0,_⟩:=DP Tryz.underlying3 h0;obtain⟨n1,e1,_⟩:=DP Tryz.underlying3 h1;obtain⟨n2,e2,_⟩:=DP Tryz.underlying3 h2;obtain⟨n3,e3,_⟩:=DP Tryz.underlying3 h3;obtain⟨s4,e4,_⟩:=Pq Tryz.underlying9 h4;obtain⟨f5,a,l,c,e5,_⟩:=FM Tryz.underlying22 h5;obtain⟨f6,a',l',c',e6,_⟩:=FM Tryz.underlying23 h6;rw[show Tryz.prog.cellsOf 3=1 by decide +kernel]at e0 e1 e2 e3;rw[show Tryz.prog.cellsOf 9=1 by decide +kernel]at e4;rw[show Tryz.prog.cellsOf 22=1 by decide +kernel]at e5;rw[show Tryz.prog.cellsOf 23=1 by decide +kernel]at e6;refine⟨⟨n0,n1,n2,n3,s4,a,l,c,a',l',c'⟩,?_⟩;have e:cs=(cs.drop 0).take 1++((cs.drop 1).take 1++((cs.drop 2).take 1++((cs.drop 3).take 1++((cs.drop 4).take 1++((cs.drop 5).take 1++((cs.drop 6).take 1++cs.drop 7)))))):=by
  rw[←drop_take cs 6 1 7 rfl,←drop_take cs 5 1 6 rfl,←drop_take cs 4 1 5 rfl,←drop_take cs 3 1 4 rfl,←drop_take cs 2 1 3 rfl,←drop_take cs 1 1 2 rfl,←drop_take cs 0 1 1 rfl,List.drop_zero]
 rw[e,e0,e1,e2,e3,e4,e5,e6,List.drop_eq_nil_of_le (by omega)];rfl
end Go.Proofs.YtmfcgihgdhfalaaGreatDoor
namespace Go.Proofs.YtmfcgihgdhfalaaGreatDoor
open Go.Sh Go.RowKit Classical
section
variable {h0 h:H}
theorem It{x0 x1 x2 x3 x4 x5:Int}{x6:Bool}{a7 a8 a9 a10:Option Addr}{l7 c7 l8 c8 l9 c9 l10 c10:Nat}{Q:Int->H->Prop}(k:∀h',bq h h'->Q 1 h'):aN none x0 x1 x2 x3 x4 x5 x6 a7 l7 c7 a8 l8 c8 a9 l9 c9 a10 l10 c10 h Q:=by
 unfold aN aN.g;refine M.aK (Wd.start h) λb2 h1 w=>M.aK w λb4 h2 w=>M.nF (w.blk 0 rfl) rfl (Dl (ct rfl (k _ w.keep)))
theorem HE{data slots:Int}{N:Nat}{Q:Option Addr->Bool->H->Prop}(hl:ij data slots 0 false)(hN:data+2≤N)(h12:N≤12)(tb:qa h)(tl:yo h)
  (k:∀v b a p r ra q B h',Wd h h' [.blk v (.cells #[.pointer (some ⟨b,0,none⟩),.pointer (some ⟨a,0,none⟩),.pointer (some ⟨p,0,none⟩),.pointer (some ⟨r,0,none⟩),.pointer (some ⟨ra,0,none⟩),.pointer (some ⟨q,0,none⟩)] 47),
   dO b B,.blk a (mV 2 (dH 2 (gJ (dz data slots N).next))),jB p b a jr (nG (dz data slots N).next),fV r B,.blk ra (kU 2 (dH 2 (gJ (dz data slots N).next))),Ag q r ra jr (nG (dz data slots N).next)] ->
   rW ⟨B,2,dH 2 (gJ (dz data slots N).next)⟩ 140 900000->Made B N data slots->Q (some ⟨v,0,none⟩) true h'):fH data slots N h Q:=by
 unfold fH fH.g;obtain⟨V1,B2,hf,ho,mk⟩:=fresh (key:=jr) mQ hl hN h12;have vo0:=I8 N 140;have h140:(mx 1 (mn 140 512)).toNat=140:=by decide
 rw[h140]at vo0;have hd1:0<V1.B.ds.length:=by
  have:=Ke (V0 N) jr data slots;rw[hf]at this;rw[this];exact(ak.wE N 140).pos
 refine bNew λb h1 w1=>C3 λa h2 w2=>Q2 λr h3 w3=>?_;have w:=(w1.join w2).join w3;refine M.aK w λra h4 w=>M.aK w λv h5 w=>?_;clear w1 w2 w3;have w:Wd h h5 [dO b (V0 N).B,.blk a (mV 0 empty),fV r (V0 N).B,.blk ra (kU 0 empty),.blk v (.cells #[.pointer (some ⟨b,0,none⟩),.pointer (some ⟨a,0,none⟩),.pointer none,.pointer (some ⟨r,0,none⟩),.pointer (some ⟨ra,0,none⟩),.pointer none] 47)]:=w;have hb:=w.blk 4 rfl;refine iw (M.nF hb rfl (iw (M.nF hb rfl (iw (M.nF hb rfl (iw (M.nF hb rfl ?_)))))));obtain⟨hx,kx0,kx1,wx,wr,back⟩:=w.split 2;refine y8 (V:=V0 N) (key:=jr) wx (vo0.mono (by omega)) (tb.toTabs.keep kx0) (tl.keep kx0) λh6 w6=>?_;have w:=back _ _ w6;clear wx wr back w6;have hb6:h6 v=some (.cells #[.pointer (some ⟨b,0,none⟩),.pointer (some ⟨a,0,none⟩),.pointer none,.pointer (some ⟨r,0,none⟩),.pointer (some ⟨ra,0,none⟩),.pointer none] 47):=w.blk 4 rfl;refine DB hb hb6 (DB hb hb6 ?_);have vo1:=(show rW (V0 N) 140 (999500+500)from vo0.mono (by omega)).fmt jr data slots;rw[hf]at w vo1 ⊢;have w:=(w.mv (i:=0) rfl).mv (i:=0) rfl;obtain⟨hx,kx0,kx1,wx,wr,back⟩:=w.split 2;refine NN (V:=V0 N) (key:=jr) (data:=data) (slots:=slots) wx (vo0.mono (by omega)) (tb.keep kx0) λh7 w7=>?_;have w:=back _ _ w7;clear wx wr back w7;rw[hf]at w ⊢;have w:Wd h h7 [fV r V1.B,.blk ra (kU V1.cnt V1.gC),.blk v (.cells #[.pointer (some ⟨b,0,none⟩),.pointer (some ⟨a,0,none⟩),.pointer none,.pointer (some ⟨r,0,none⟩),.pointer (some ⟨ra,0,none⟩),.pointer none] 47),dO b V1.B,.blk a (mV V1.cnt V1.gC)]:=w
 refine M.jn (ct rfl (ct rfl ?_));unfold dc;have hb:=w.blk 2 rfl;refine iw (M.nF hb rfl (iw (M.nF hb rfl ?_)));have w:=((w.mv (i:=0) rfl).mv (i:=0) rfl).mv (i:=0) rfl;have w:Wd h h7 [dO b V1.B,.blk a (mV V1.cnt V1.gC),fV r V1.B,.blk ra (kU V1.cnt V1.gC),.blk v (.cells #[.pointer (some ⟨b,0,none⟩),.pointer (some ⟨a,0,none⟩),.pointer none,.pointer (some ⟨r,0,none⟩),.pointer (some ⟨ra,0,none⟩),.pointer none] 47)]:=w;obtain⟨hx,kx0,kx1,wx,wr,back⟩:=w.split 2;have vo2:=(show rW V1 140 (998300+1200)from vo1.mono (by omega)).tw jr;refine yg (key:=jr) wx (vo1.mono (by omega)) (tb.toTabs.keep kx0) (λe=>by rw[ho]at e;exact absurd rfl e) λ_ p h8 w8=>?_;have w:=back _ _ w8;clear wx wr back w8;rw[ho]at w vo2;have w:=((w.mv (i:=0) rfl).mv (i:=0) rfl).mv (i:=0) rfl;have w:Wd h h8 [fV r V1.B,.blk ra (kU V1.cnt V1.gC),.blk v (.cells #[.pointer (some ⟨b,0,none⟩),.pointer (some ⟨a,0,none⟩),.pointer none,.pointer (some ⟨r,0,none⟩),.pointer (some ⟨ra,0,none⟩),.pointer none] 47),dO b B2,.blk a (mV 2 (dH 2 (gJ (dz data slots N).next))),jB p b a jr (nG (dz data slots N).next)]:=w
 have hb:=w.blk 2 rfl;refine iw (M.nF hb rfl (iw (M.nF hb rfl ?_)));obtain⟨hx,kx0,kx1,wx,wr,back⟩:=w.split 2;refine QU (key:=jr) wx (vo1.mono (by omega)) hd1 (tb.keep kx0) (λe=>by rw[ho]at e;exact absurd rfl e) λ_ q h9 w9=>?_;have w:=back _ _ w9;clear wx wr back w9;rw[ho]at w;have w:Wd h h9 [fV r B2,.blk ra (kU 2 (dH 2 (gJ (dz data slots N).next))),Ag q r ra jr (nG (dz data slots N).next),.blk v (.cells #[.pointer (some ⟨b,0,none⟩),.pointer (some ⟨a,0,none⟩),.pointer none,.pointer (some ⟨r,0,none⟩),.pointer (some ⟨ra,0,none⟩),.pointer none] 47),dO b B2,.blk a (mV 2 (dH 2 (gJ (dz data slots N).next))),jB p b a jr (nG (dz data slots N).next)]:=w
 refine M.jn (cf rfl (cf rfl (iw (M.bg w 3 rfl rfl (by simp) λh10 w=>iw (M.bg w 3 rfl rfl (by simp) λh11 w=>?_)))));have w:=((w.mv (i:=0) rfl).mv (i:=0) rfl).mv (i:=0) rfl;exact k v b a p r ra q B2 h11 w (vo2.mono (by omega)) mk
theorem NL{x0 x1 x2 x3:Int}{x4:ByteArray}{a5 a6:Option Addr}{l5 c5 l6 c6:Nat}{Q:Bool->H->Prop}(tb:qa h)(tl:yo h)(hne:IB)(k:∀h',bq h h'->Q true h'):cL x0 x1 x2 x3 x4 a5 l5 c5 a6 l6 c6 h Q:=by
 unfold cL cL.g;refine M.aK (Wd.start h) λb2 h1 w=>?_;have hb:=w.blk 0 rfl;refine M.gv hb rfl (M.gv hb rfl (M.oL hb rfl (Hr (MM λh2 k2=>?_))));have w:=w.keeps k2;refine HE (data:=2) (slots:=2) (N:=4) (by unfold ij;decide) (by decide) (by decide) (tb.keep w.keep) (tl.keep w.keep) λv b a p r ra q B h3 w3 _ _=>?_;have w:=w.join w3;clear w3 hb;have g:(dz 2 2 4).next.good:=gD.yO (BL (by unfold ij;decide) (by decide) (by decide))
 have hse:(dz 2 2 4).next.av=[0,1,2,3]:=by
  show(dz 2 2 4).av=_;rw[yP (by decide) (by decide)];rfl
 have hml:(dz 2 2 4).next.aj.length=4:=by simp[gD.next,dz]
 generalize (dz 2 2 4).next=S at *
 have w:Wd h h3 [.blk b2 (.cells #[.int .i64 x0,.int .i64 x1,.int .i64 x2,.int .i64 x3,.string x4,.slice a5 l5 c5,.slice a6 l6 c6] 25),.blk v (.cells #[.pointer (some ⟨b,0,none⟩),.pointer (some ⟨a,0,none⟩),.pointer (some ⟨p,0,none⟩),.pointer (some ⟨r,0,none⟩),.pointer (some ⟨ra,0,none⟩),.pointer (some ⟨q,0,none⟩)] 47),
  dO b B,.blk a (mV 2 (dH 2 (gJ S))),jB p b a jr (nG S),fV r B,.blk ra (kU 2 (dH 2 (gJ S))),Ag q r ra jr (nG S)]:=w
 refine M.aO (λz h'=>z=false∧bq h3 h') (λJ hJ=>N2 (tb.toTabs.keep w.keep) (tl.keep w.keep) hne λh4 k4=>cf rfl (hJ _ _ ⟨rfl,k4⟩)) ?_;rintro _ h4 ⟨rfl,k4⟩;have w:=w.keeps k4;refine cf rfl (iw (M.nF (w.blk 1 rfl) rfl (mL (w.on (i:=4) rfl).choose_spec.2.2.1 λs1 e1 s2 e2 h5 w5=>?_)));have e0:(nG S).S=S:=rfl;rw[e0]at w5 ⊢;refine M.aK w5 λb6 h6 u=>⟨rfl,M.bz u 2 rfl (by simp[ag]) rfl λh7 u=>M.lW (u.blk 2 rfl) rfl (M.lW (u.blk 2 rfl) rfl ?_)⟩;have hb7:=u.blk 2 rfl;refine u.xD (E:=eI) 0 rfl rfl 3 rfl (by decide) (by rw[hse];decide) λh8 u=>?_;have hb8:=u.blk 2 rfl;refine DB hb7 hb8 (sQ kf u 1 rfl (z:=0) (o:=1) rfl (by rw[hml];decide) (by decide) rfl { S.aj[0]'(by rw[hml];decide)with top:=⟨#[120]⟩ } rfl λh9 u=>?_);have w:=w.keeps u.keep;refine M.jn (ct rfl (ct rfl (It λh10 Ny=>ct rfl ?_)));have w:=w.keeps Ny;refine M.gv (w.blk 0 rfl) rfl (Ch (tl.keep w.keep) λh11 u7=>ct rfl (Ht (ct rfl (GH λh12 yb=>ct rfl (xF λh13 Cz=>?_)))));have w:=w.keeps ((u7.trans yb).trans Cz);have ng:¬ij 0 0 0 false:=λx=>x.1 (by decide);refine sD (tl.keep w.keep) λh14 Mv=>ct (by simp[ng]) ?_;have w:=w.keeps Mv;refine iw (M.nF (w.blk 1 rfl) rfl (mL (w.on (i:=4) rfl).choose_spec.2.2.1 λs3 e3 s4 e4 h15 w15=>?_));have w:=w.keeps w15.keep;rw[e0]at w15 ⊢;refine Ro.Ii (w15.ro (E:=eI) 0 rfl (by decide)) (by decide) (by rw[hse];decide) (ct (by rw[hse];rfl) ?_);refine iw (M.nF (w.blk 1 rfl) rfl (mL (w.on (i:=4) rfl).choose_spec.2.2.1 λs5 e5 s6 e6 h16 w16=>?_));have w:=w.keeps w16.keep;rw[e0]at w16 ⊢;refine pT (w16.ro (E:=eI) 0 rfl (by decide)) (w16.ro (E:=kf) 1 rfl (by decide)) (by rw[hml];decide) (by rw[hse];decide) λh17 Jf=>?_
 rw[decide_eq_true g];exact k _ (w.keep.trans Jf)
end
end Go.Proofs.YtmfcgihgdhfalaaGreatDoor
namespace Go.Proofs.YtmfcgihgdhfalaaGreatDoor
open Go.Sh Go.RowKit
noncomputable def OU{α:Type}(n:Nat)(k:Nat->α):α:=Nat.rec (k 0) (λm _=>k (Nat.succ m)) n
theorem DD{α:Type}(n:Nat)(k:Nat->α):OU n k=k n:=by cases n<;>rfl
noncomputable def OI{α:Type}(l:List Nat):(List Nat->α)->α:=List.rec (motive:=λ_=>(List Nat->α)->α) (λk=>k []) (λx _ ih k=>OU x λy=>ih λys=>k (y::ys)) l
theorem NG{α:Type}(l:List Nat)(k:List Nat->α):OI l k=k l:=by
 induction l generalizing k with
 | nil=>rfl
 | cons x r ih=>
  show OU x (λy=>OI r λys=>k (y::ys))=_;rw[DD,ih]
def Qt(x n:Nat):Nat:=Nat.lor (Nat.shiftRight x n) (Nat.mod (Nat.shiftLeft x (Nat.sub 32 n)) 4294967296)
def Oy(x a b c:Nat):Nat:=Nat.xor (Nat.xor (Qt x a) (Qt x b)) (Qt x c)
def Ry(x a b c:Nat):Nat:=Nat.xor (Nat.xor (Qt x a) (Qt x b)) (Nat.shiftRight x c)
def ad(x y:Nat):Nat:=Nat.mod (Nat.add x y) 4294967296
def QV(x y z:Nat):Nat:=Nat.xor (Nat.land x y) (Nat.land (Nat.sub 4294967295 x) z)
def Rv(x y z:Nat):Nat:=Nat.xor (Nat.xor (Nat.land x y) (Nat.land x z)) (Nat.land y z)
def gt(l:List Nat)(i:Nat):Nat:=l.getD i 0
def Qr(l:List Nat):Nat:=ad (ad (ad (gt l 0) (Ry (gt l 1) 7 18 3)) (gt l 9)) (Ry (gt l 14) 17 19 10)
noncomputable def runN(ks:List Nat):List Nat->Nat->Nat->Nat->Nat->Nat->Nat->Nat->Nat->List Nat:=
 List.rec (motive:=λ_=>List Nat->Nat->Nat->Nat->Nat->Nat->Nat->Nat->Nat->List Nat) (λ_ a b c d e f g i=>[a,b,c,d,e,f,g,i])
  (λk _ ih w a b c d e f g i=>OU (ad (ad (ad (ad i (Oy e 6 11 25)) (QV e f g)) k) (gt w 0)) λt1=>OU (ad d t1) λe'=>OU (ad t1 (ad (Oy a 2 13 22) (Rv a b c))) λa'=>OI (w.tail++[Qr w]) λw'=>ih w' a' a b c e' e f g) ks
theorem Ky(k:Nat)(r w:List Nat)(a b c d e f g i:Nat):runN (k::r) w a b c d e f g i=runN r (w.tail++[Qr w]) (ad (ad (ad (ad (ad i (Oy e 6 11 25)) (QV e f g)) k) (gt w 0)) (ad (Oy a 2 13 22) (Rv a b c))) a b c (ad d (ad (ad (ad (ad i (Oy e 6 11 25)) (QV e f g)) k) (gt w 0))) e f g:=by
 show OU (ad (ad (ad (ad i (Oy e 6 11 25)) (QV e f g)) k) (gt w 0)) (λt1=>OU (ad d t1) λe'=>OU (ad t1 (ad (Oy a 2 13 22) (Rv a b c))) λa'=>OI (w.tail++[Qr w]) λw'=>runN r w' a' a b c e' e f g)=_;rw[DD,DD,DD,NG]
def nx(l:List U):U:=jV l 0+vn (jV l 1) 7 18 3+jV l 9+vn (jV l 14) 17 19 10
def Lc:List U->List U->S8->S8
 | [],_,s=>s
 | k::r,w,s=>Lc r (w.tail++[nx w]) (s.Qc k (jV w 0))
theorem BA(l:List U)(k:Nat):∀m,∃r,gX l (k+m)=gX l k++r
 | 0=>⟨[],by simp⟩
 | m+1=>by
  obtain⟨r,h⟩:=BA l k m;exact⟨r++[xU (gX l (k+m))],by rw[←Nat.add_assoc,gX,←List.append_assoc,←h]⟩
theorem Gc{l:List U}{i j k:Nat}(hi:i<l.length+j)(hj:j≤k):jV (gX l k) i=jV (gX l j) i:=by
 obtain⟨m,rfl⟩:∃m,k=j+m:=⟨k-j,by omega⟩;obtain⟨r,h⟩:=BA l j m;have:=oD l j;rw[h,jV,jV,List.getD_eq_getElem?_getD,List.getD_eq_getElem?_getD,List.getElem?_append_left (by omega)]
theorem tU(l:List U)(i j:Nat):jV (l.drop i) j=jV l (i+j):=by simp[jV,List.getD_eq_getElem?_getD,List.getElem?_drop]
theorem Mz{l:List U}(hl:l.length=16)(s:S8):∀m i,m+i=64->Lc (tr.drop i) ((gX l i).drop i) (u6 (gX l 48) s i)=u6 (gX l 48) s 64
 | 0,i,h=>by
  obtain rfl:i=64:=by omega
  rfl
 | m+1,i,h=>by
  have hk:tr.length=64:=rfl;have hL:=oD l i;rw[List.drop_eq_getElem_cons (by rw[hk];omega),Lc];have e1:jV ((gX l i).drop i) 0=jV (gX l 48) i:=by
   rw[tU,Nat.add_zero];by_cases h48:i≤48
   ·rw[Gc (j:=i) (k:=48) (by omega) h48]
   ·rw[Gc (j:=48) (k:=i) (by omega) (by omega)]
  have e2:((gX l i).drop i).tail++[nx ((gX l i).drop i)]=(gX l (i+1)).drop (i+1):=by
   rw[gX,List.drop_append,List.tail_drop,show i+1-(gX l i).length=0 by omega,List.drop_zero];congr 2;unfold nx xU;rw[tU,tU,tU,tU,hL,hl,show 16+i-16=i+0 by omega,show 16+i-15=i+1 by omega,show 16+i-7=i+9 by omega,show 16+i-2=i+14 by omega]
  have e3:(u6 (gX l 48) s i).Qc tr[i] (jV (gX l 48) i)=u6 (gX l 48) s (i+1):=by
   rw[u6,rX tr i (by rw[hk];omega)]
  rw[e1,e2,e3];exact Mz hl s m (i+1) (by omega)
theorem ov(x y:U):ad x.toNat y.toNat=(x+y).toNat:=(BitVec.toNat_add x y).symm
theorem BF(x:U){n:Nat}(h:n<32):Qt x.toNat n=(x.rotateRight n).toNat:=by
 rw[BitVec.toNat_rotateRight,Nat.mod_eq_of_lt h];rfl
theorem O1(x:U){a b c:Nat}(ha:a<32)(hb:b<32)(hc:c<32):Oy x.toNat a b c=(GP x a b c).toNat:=by
 rw[Oy,BF x ha,BF x hb,BF x hc,GP,BitVec.toNat_xor,BitVec.toNat_xor];rfl
theorem Pb(x:U){a b c:Nat}(ha:a<32)(hb:b<32):Ry x.toNat a b c=(vn x a b c).toNat:=by
 rw[Ry,BF x ha,BF x hb,vn,BitVec.toNat_xor,BitVec.toNat_xor,BitVec.toNat_ushiftRight];rfl
theorem QG(x y z:U):QV x.toNat y.toNat z.toNat=(IZ x y z).toNat:=by
 rw[IZ,BitVec.toNat_xor,BitVec.toNat_and,BitVec.toNat_and,BitVec.toNat_not];rfl
theorem QZ(x y z:U):Rv x.toNat y.toNat z.toNat=(Es x y z).toNat:=by
 rw[Es,BitVec.toNat_xor,BitVec.toNat_xor,BitVec.toNat_and,BitVec.toNat_and,BitVec.toNat_and];rfl
def mA(l:List U):List Nat:=l.map BitVec.toNat
theorem Gt(l:List U)(i:Nat):gt (mA l) i=(jV l i).toNat:=by
 unfold gt mA jV;rw[List.getD_eq_getElem?_getD,List.getD_eq_getElem?_getD,List.getElem?_map];cases l[i]? <;>rfl
theorem QM(l:List U):Qr (mA l)=(nx l).toNat:=by
 unfold Qr nx;rw[Gt,Gt,Gt,Gt,Pb _ (by decide) (by decide),Pb _ (by decide) (by decide),ov,ov,ov]
theorem IW:∀(ks w:List U) (s:S8),runN (mA ks) (mA w) s.a.toNat s.b.toNat s.c.toNat s.d.toNat s.e.toNat s.f.toNat s.g.toNat s.i.toNat=mA (Lc ks w s).l
 | [],_,_=>rfl
 | k::r,w,s=>by
  show runN (k.toNat::mA r) _ _ _ _ _ _ _ _ _ = _;have e:(mA w).tail++[Qr (mA w)]=mA (w.tail++[nx w]):=by
   rw[QM];simp[mA]
  rw[Ky,e,Gt,O1 _ (by decide) (by decide) (by decide),O1 _ (by decide) (by decide) (by decide),QG,QZ,ov,ov,ov,ov,ov,ov,ov,Lc];exact IW r (w.tail++[nx w]) (s.Qc k (jV w 0))
def Pc:List Nat:=mA tr
noncomputable def N9(s w:List Nat):List Nat:=List.zipWith ad s (runN Pc w (gt s 0) (gt s 1) (gt s 2) (gt s 3) (gt s 4) (gt s 5) (gt s 6) (gt s 7))
theorem PG(s:S8)(w:List U)(hw:w.length=16):N9 (mA s.l) (mA w)=mA (s.add (u6 (gX w 48) s 64)).l:=by
 have h:=Mz hw s 64 0 (by omega);have h:Lc tr w s=u6 (gX w 48) s 64:=h;have h2:=IW tr w s;rw[h]at h2;unfold N9;have h3:runN Pc (mA w) (gt (mA s.l) 0) (gt (mA s.l) 1) (gt (mA s.l) 2) (gt (mA s.l) 3) (gt (mA s.l) 4) (gt (mA s.l) 5) (gt (mA s.l) 6) (gt (mA s.l) 7)=mA (u6 (gX w 48) s 64).l:=h2;rw[h3];show [ad _ _,ad _ _,ad _ _,ad _ _,ad _ _,ad _ _,ad _ _,ad _ _]=_;rw[ov,ov,ov,ov,ov,ov,ov,ov];rfl
def jv(l:List Nat):ByteArray:=ofBytes (l.map λn:Nat=>(n:Int))
def OG(l:List Nat):Prop:=∀x∈l,x<256
theorem nk(a b:List Nat):jv (a++b)=jv a++jv b:=by rw[jv,List.map_append,y7];rfl
theorem oP(l:List Nat):(jv l).size=l.length:=by simp[jv,ofBytes,ByteArray.size]
theorem LL{l:List Nat}(h:OG l)(i:Nat):aF (jv l) i=(l.getD i 0:Nat):=by
 unfold aF jv ofBytes;simp only[List.map_map,List.getD_eq_getElem?_getD,List.getElem?_map];cases e:l[i]? with
 | none=>rfl
 | some x=>
  have:x<256:=h x (List.mem_of_getElem? e);simp only[Option.map_some,Option.getD_some,Function.comp_apply,Int.toNat_natCast];show(((UInt8.ofNat x).toNat:Nat):Int)=_;rw[UInt8.toNat_ofNat'];omega
def RQ(l:List Nat)(i:Nat):Nat:=((l.getD (4*i) 0*256+l.getD (4*i+1) 0)*256+l.getD (4*i+2) 0)*256+l.getD (4*i+3) 0
def DA:List Nat->List Nat
 | a::b::c::d::r=>Nat.add (Nat.mul (Nat.add (Nat.mul (Nat.add (Nat.mul a 256) b) 256) c) 256) d::DA r
 | _=>[]
theorem DM:∀l:List Nat,DA l=(List.range (l.length/4)).map (RQ l)
 | []=>rfl
 | [_]=>by simp[DA]
 | [_,_]=>by simp[DA]
 | [_,_,_]=>by simp[DA]
 | a::b::c::d::r=>by
  have e:(a::b::c::d::r).length/4=r.length/4+1:=by simp only[List.length_cons];omega
  rw[DA,DM r,e,List.range_succ_eq_map,List.map_cons,List.map_map];congr 1
theorem Io{l:List Nat}(h:OG l)(i:Nat):(kr true (jv l) i).toNat=RQ l i:=by
 have e:=HW (jv l) i;simp only[me,LL h]at e;unfold ui at e;unfold RQ;rw[Nat.add_zero]at e;omega
noncomputable def Is:List Nat->List Nat->Nat->List Nat
 | st,_,0=>st
 | st,ws,n+1=>Is (N9 st (ws.take 16)) (ws.drop 16) n
theorem Cr:∀(k:Nat) (st ws:List Nat),Is st ws (k+1)=N9 (Is st ws k) ((ws.drop (16*k)).take 16)
 | 0,st,ws=>rfl
 | k+1,st,ws=>by
  rw[Is,Cr k,Is,List.drop_drop,show 16+16*k=16*(k+1) by omega]
theorem GM{l:List Nat}(h:OG l){k:Nat}(hk:64*k+64≤l.length):mA (bP true ((jv l).extract (64*k) (64*k+64)))=((DA l).drop (16*k)).take 16∧(bP true ((jv l).extract (64*k) (64*k+64))).length=16:=by
 have hz:((jv l).extract (64*k) (64*k+64)).size=64:=by rw[ByteArray.size_extract,oP];omega
 have hl:(bP true ((jv l).extract (64*k) (64*k+64))).length=16:=by rw[ju,hz]
 refine⟨?_,hl⟩;refine List.ext_getElem ?_ λi h1 h2=>?_
 ·rw[mA,List.length_map,hl,DM];simp;omega
 ·have hi:i<16:=by rw[mA,List.length_map,hl]at h1;exact h1
  have e1:kr true ((jv l).extract (64*k) (64*k+64)) i=kr true (jv l) (16*k+i):=by
   unfold kr;rw[kJ _ _ _ _ (by omega) (by rw[oP];omega),kJ _ _ _ _ (by omega) (by rw[oP];omega),kJ _ _ _ _ (by omega) (by rw[oP];omega),kJ _ _ _ _ (by omega) (by rw[oP];omega)];rw[show 64*k+4*i=4*(16*k+i) by omega,show 64*k+(4*i+1)=4*(16*k+i)+1 by omega,show 64*k+(4*i+2)=4*(16*k+i)+2 by omega,show 64*k+(4*i+3)=4*(16*k+i)+3 by omega]
  simp only[mA,bP,List.getElem_map,List.getElem_range,DM,List.getElem_take,List.getElem_drop];rw[e1,Io h]
theorem Jo{l:List Nat}(h:OG l)(s:S8):∀k,64*k≤l.length->mA (pF s (jv l) k).l=Is (mA s.l) (DA l) k
 | 0,_=>rfl
 | k+1,hk=>by
  obtain⟨h1,h2⟩:=GM h (k:=k) (by omega);rw[Cr,←Jo h s k (by omega),←h1,pF,S8.block];exact(PG _ _ h2).symm
def Pk(ws:List Nat):List Nat:=ws.flatMap λw=>[Nat.mod (Nat.div w 16777216) 256,Nat.mod (Nat.div w 65536) 256,Nat.mod (Nat.div w 256) 256,Nat.mod w 256]
theorem AA(us:List U):lf true us=jv (Pk (mA us)):=by
 unfold lf jv;congr 1;unfold Dw Pk mA;induction us with
 | nil=>rfl
 | cons x r ih=>
  simp only[List.flatMap_cons,List.map_cons,List.map_append,ih];congr 1;simp only[wz,cond_true,vF,List.map_cons,List.map_nil];rw[show 256^3=16777216 from rfl,show 256^2=65536 from rfl,show 256^1=256 from rfl,show 256^0=1 from rfl,Nat.div_one];rfl
theorem Ox(ws:List Nat):OG (Pk ws):=by
 intro x hx;obtain⟨w,_,hx⟩:=List.mem_flatMap.1 hx;simp only[List.mem_cons,List.not_mem_nil,or_false]at hx;rcases hx with rfl|rfl|rfl|rfl<;>exact Nat.mod_lt _ (by decide)
theorem NR(ws:List Nat):(Pk ws).length=4*ws.length:=by
 induction ws with
 | nil=>rfl
 | cons x r ih=>
  have:Pk (x::r)=[Nat.mod (Nat.div x 16777216) 256,Nat.mod (Nat.div x 65536) 256,Nat.mod (Nat.div x 256) 256,Nat.mod x 256]++Pk r:=rfl;rw[this,List.length_append,ih];simp only[List.length_cons,List.length_nil];omega
def Lg(n:Nat):List Nat:=(128::List.replicate (pM n) 0)++Pk [Nat.mod (Nat.div (Nat.mul 8 n) 4294967296) 4294967296,Nat.mod (Nat.mul 8 n) 4294967296]
theorem I6(n:Nat):q8 n=jv (Lg n):=by
 have h1:(⟨#[128]⟩++kL (pM n):ByteArray)=jv (128::List.replicate (pM n) 0):=by
  have:kL (pM n)=jv (List.replicate (pM n) 0):=by
   unfold kL jv;rw[List.map_replicate];rfl
  rw[this,show(⟨#[128]⟩:ByteArray)=jv [128] from rfl,←nk];rfl
 have h2:mA (AN n)=[Nat.mod (Nat.div (Nat.mul 8 n) 4294967296) 4294967296,Nat.mod (Nat.mul 8 n) 4294967296]:=by
  simp only[mA,AN,List.map_cons,List.map_nil,BitVec.toNat_ofNat];rfl
 rw[q8,h1,AA,h2,←nk];rfl
def Pz:List Nat:=mA S8.first.l
noncomputable def N4(l:List Nat):List Nat:=Pk (Is Pz (DA (l++Lg l.length)) ((l.length+9+pM l.length)/64))
theorem Qb{l:List Nat}(h:OG l):nO (jv l)=jv (N4 l):=by
 have hp:OG (Lg l.length):=by
  intro x hx;rcases List.mem_append.1 hx with hx|hx
  ·rcases List.mem_cons.1 hx with rfl|hx
   ·decide
   ·rw[List.eq_of_mem_replicate hx];decide
  ·exact Ox _ x hx
 have hb:OG (l++Lg l.length):=λx hx=>(List.mem_append.1 hx).elim (h x) (hp x);have hl:(Lg l.length).length=9+pM l.length:=by
  rw[Lg,List.length_append,NR];simp;omega
 have hpad:=(Ad l.length).1;have e:(jv l).size+(q8 (jv l).size).size=l.length+9+pM l.length:=by
  rw[oP,I6,oP,hl];omega
 unfold nO N4;rw[AA,e,oP,I6,←nk,Jo hb _ _ (by rw[List.length_append,hl];omega)];rfl
theorem OO{l:List Nat}(k:Nat)(hk:k<256)(h:OG l):dH (UInt8.ofNat k) (jv l)=jv (N4 (k::l)):=by
 have e:(⟨#[UInt8.ofNat k]⟩++jv l:ByteArray)=jv (k::l):=by
  rw[show k::l=[k]++l from rfl,nk];rfl
 rw[dH,e];exact Qb λx hx=>(List.mem_cons.1 hx).elim (λe=>e ▸ hk) (h x)
set_option maxRecDepth 100000
def Cl:List Nat:=[48,49,50,51,52,53,54,55,56,57,97,98,99,100,101,102,48,49,50,51,52,53,54,55,56,57,97,98,99,100,101,102]
def Dz:List Nat:=[0,0,0,0,0,0,0,2,0,0,0,0]
def Sz:List Nat:=[0,0,0,0,0,0,0,1,0,0,0,0,0,0,0,3]
def SJ:List Nat:=[37,19,122,105,238,175,126,31,244,56,24,213,18,86,115,219,33,36,201,215,171,248,201,49,171,232,140,223,204,98,11,71,77,21,131,161,148,241,156,39,59,159,57,26,227,183,66,30,28,129,159,98,112,60,130,7,117,70,226,37,213,251,47,84]
def SC:List Nat:=[40,222,159,50,37,220,200,164,91,21,14,47,238,35,108,62,131,236,219,244,172,174,223,64,180,176,244,229,14,74,53,209,171,109,149,222,16,226,46,33,118,28,25,16,107,217,66,235,141,113,253,114,240,44,214,135,189,206,223,152,124,245,147,70]
def QL:List Nat:=[24,239,173,1,17,233,254,147,99,44,111,77,141,71,9,88,179,221,233,199,152,155,233,119,140,137,149,135,109,46,80,183]
def Rw:List Nat:=[92,27,106,208,214,53,26,172,129,39,170,178,218,121,194,135]
def Je:List Nat:=[110,52,11,156,255,179,122,152,156,165,68,230,187,120,10,44,120,144,29,63,179,55,56,118,133,17,163,6,23,175,160,29]
def QS:List Nat:=[163,202,91,100,13,97,3,47,169,17,187,101,4,215,158,251,24,250,11,112,44,74,190,135,85,243,191,135,122,45,125,90]
def Pw:List Nat:=[254,67,214,106,250,74,154,92,79,156,157,168,159,79,251,82,99,92,143,52,46,127,251,115,29,104,227,108,89,130,7,42]
def Ru:List Nat:=[124,217,29,21,2,101,84,43,69,165,57,237,128,43,31,245,236,171,245,236,246,156,179,133,41,216,125,75,142,166,94,151]
def GR:List Nat:=[222,184,46,21,89,84,214,190,20,89,44,102,204,247,161,236,225,147,238,235,205,171,175,116,123,145,244,69,25,240,159,71]
def RC:List Nat:=[27,150,181,208,105,115,45,226,72,193,205,50,251,8,36,130,246,14,107,250,209,3,68,105,45,195,176,28,11,220,227,152]
def nE:List Nat:=[92,207,141,12,255,213,33,79,195,235,13,154,13,26,31,241,33,28,52,9,12,210,61,146,112,99,104,158,182,44,216,135]
def Qi:List Nat:=[5,87,214,59,41,68,143,175,172,32,190,128,199,216,36,169,59,213,131,129,117,254,121,0,163,57,105,229,128,107,154,54]
def SH:List Nat:=[0,0,0,0,0,0,0,8,0,0,0,0,0,0,0,3,0,0,0,0,0,0,0,80,0,0,0,0,0,0,0,101,0,0,0,0,0,0,0,64,254,67,214,106,250,74,154,92,79,156,157,168,159,79,251,82,99,92,143,52,46,127,251,115,29,104,227,108,89,130,7,42,124,217,29,21,2,101,84,43,69,165,57,237,128,43,31,245,236,171,245,236,246,156,179,133,41,216,125,75,142,166,94,151,0,0,0,0,0,0,0,80,0,0,0,0,0,0,0,103,0,0,0,0,0,0,0,64,110,52,11,156,255,179,122,152,156,165,68,230,187,120,10,44,120,144,29,63,179,55,56,118,133,17,163,6,23,175,160,29,163,202,91,100,13,97,3,47,169,17,187,101,4,215,158,251,24,250,11,112,44,74,190,135,85,243,191,135,122,45,125,90,0,0,0,0,0,0,0,76,0,0,0,0,0,0,0,123,0,0,0,0,0,0,0,60,0,0,0,0,0,0,0,2,0,0,0,0,24,239,173,1,17,233,254,147,99,44,111,77,141,71,9,88,179,221,233,199,152,155,233,119,140,137,149,135,109,46,80,183,92,27,106,208,214,53,26,172,129,39,170,178,218,121,194,135]
def SL:List Nat:=[0,0,0,0,0,0,0,2,0,0,0,0,0,0,0,2,0,0,0,0,0,0,0,2,0,0,0,0,0,0,0,4,0,0,0,0,0,0,0,0,0,0,0,0,0,0,0,0,0,0,0,0,0,0,0,0,0,0,0,0,0,0,0,4,0,0,0,0,0,0,0,0,0,0,0,0,0,0,0,1,0,0,0,0,0,0,0,2,0,0,0,0,0,0,0,3,0,0,0,0,0,0,0,5,0,0,0,0,0,0,0,1,0,0,0,0,0,0,0,32,222,184,46,21,89,84,214,190,20,89,44,102,204,247,161,236,225,147,238,235,205,171,175,116,123,145,244,69,25,240,159,71,0,0,0,0,0,0,0,32,92,207,141,12,255,213,33,79,195,235,13,154,13,26,31,241,33,28,52,9,12,210,61,146,112,99,104,158,182,44,216,135,0,0,0,0,0,0,0,1,0,0,0,0,0,0,0,32,222,184,46,21,89,84,214,190,20,89,44,102,204,247,161,236,225,147,238,235,205,171,175,116,123,145,244,69,25,240,159,71,0,0,0,0,0,0,0,32,92,207,141,12,255,213,33,79,195,235,13,154,13,26,31,241,33,28,52,9,12,210,61,146,112,99,104,158,182,44,216,135,0,0,0,0,0,0,0,1,0,0,0,0,0,0,0,32,222,184,46,21,89,84,214,190,20,89,44,102,204,247,161,236,225,147,238,235,205,171,175,116,123,145,244,69,25,240,159,71,0,0,0,0,0,0,0,32,92,207,141,12,255,213,33,79,195,235,13,154,13,26,31,241,33,28,52,9,12,210,61,146,112,99,104,158,182,44,216,135,0,0,0,0,0,0,0,1,0,0,0,0,0,0,0,32,222,184,46,21,89,84,214,190,20,89,44,102,204,247,161,236,225,147,238,235,205,171,175,116,123,145,244,69,25,240,159,71,0,0,0,0,0,0,0,32,92,207,141,12,255,213,33,79,195,235,13,154,13,26,31,241,33,28,52,9,12,210,61,146,112,99,104,158,182,44,216,135,0,0,0,0,0,0,0,0,0,0,0,0,0,0,0,32,0,0,0,0,0,0,0,0,0,0,0,0,0,0,0,0,0,0,0,0,0,0,0,0,0,0,0,0,0,0,0,0,0,0,0,0,0,0,0,32,92,207,141,12,255,213,33,79,195,235,13,154,13,26,31,241,33,28,52,9,12,210,61,146,112,99,104,158,182,44,216,135]
def SO:List Nat:=[0,0,0,0,0,0,0,3,0,0,0,0,0,0,0,2,0,0,0,0,0,0,0,2,0,0,0,0,0,0,0,4,0,0,0,0,0,0,0,0,0,0,0,0,0,0,0,0,0,0,0,0,0,0,0,0,0,0,0,0,0,0,0,4,0,0,0,0,0,0,0,0,0,0,0,0,0,0,0,1,0,0,0,0,0,0,0,2,0,0,0,0,0,0,0,3,0,0,0,0,0,0,0,5,0,0,0,0,0,0,0,1,0,0,0,0,0,0,0,32,222,184,46,21,89,84,214,190,20,89,44,102,204,247,161,236,225,147,238,235,205,171,175,116,123,145,244,69,25,240,159,71,0,0,0,0,0,0,0,32,92,207,141,12,255,213,33,79,195,235,13,154,13,26,31,241,33,28,52,9,12,210,61,146,112,99,104,158,182,44,216,135,0,0,0,0,0,0,0,1,0,0,0,0,0,0,0,32,27,150,181,208,105,115,45,226,72,193,205,50,251,8,36,130,246,14,107,250,209,3,68,105,45,195,176,28,11,220,227,152,0,0,0,0,0,0,0,32,5,87,214,59,41,68,143,175,172,32,190,128,199,216,36,169,59,213,131,129,117,254,121,0,163,57,105,229,128,107,154,54,0,0,0,0,0,0,0,1,0,0,0,0,0,0,0,32,222,184,46,21,89,84,214,190,20,89,44,102,204,247,161,236,225,147,238,235,205,171,175,116,123,145,244,69,25,240,159,71,0,0,0,0,0,0,0,32,92,207,141,12,255,213,33,79,195,235,13,154,13,26,31,241,33,28,52,9,12,210,61,146,112,99,104,158,182,44,216,135,0,0,0,0,0,0,0,1,0,0,0,0,0,0,0,32,222,184,46,21,89,84,214,190,20,89,44,102,204,247,161,236,225,147,238,235,205,171,175,116,123,145,244,69,25,240,159,71,0,0,0,0,0,0,0,32,92,207,141,12,255,213,33,79,195,235,13,154,13,26,31,241,33,28,52,9,12,210,61,146,112,99,104,158,182,44,216,135,0,0,0,0,0,0,0,0,0,0,0,0,0,0,0,32,0,0,0,0,0,0,0,0,0,0,0,0,0,0,0,0,0,0,0,0,0,0,0,0,0,0,0,0,0,0,0,0,0,0,0,0,0,0,0,32,92,207,141,12,255,213,33,79,195,235,13,154,13,26,31,241,33,28,52,9,12,210,61,146,112,99,104,158,182,44,216,135]
def SI:List Nat:=[138,144,10,9,218,171,139,167,62,90,82,224,167,116,67,61,173,182,156,9,206,15,108,74,217,92,194,70,42,176,47,110]
def SP:List Nat:=[171,150,25,157,102,251,122,57,66,214,206,109,114,104,36,94,19,52,140,30,115,235,178,53,38,193,132,44,211,169,184,88]
theorem kd(k:Nat){l r:List Nat}{t:ByteArray}(hk:k<256)(ht:t=jv l)(h:l.all (Nat.blt · 256)=true)(e:N4 (k::l)=r):dH (UInt8.ofNat k) t=jv r:=by
 subst ht e;exact OO k hk λx hx=>by simpa using List.all_eq_true.1 h x hx
theorem QF:jr=jv Cl:=by decide +kernel
theorem QX:nX 2 0=jv Dz:=by decide +kernel
theorem RT:zD 1 3=jv Sz:=by decide +kernel
theorem Sd:nR (jv Cl) (jv Dz) 0=jv SJ:=by decide +kernel
theorem RL:nR (jv Cl) (jv Dz) 1=jv SC:=by decide +kernel
theorem R8:nu (jv Cl) (jv Dz) 1 (jv Cl)=jv QL:=by
 have e:nu (jv Cl) (jv Dz) 1 (jv Cl)=yp 32 λi=>bx (aF (jv Cl) i) (aF (jv SC) (i%64)):=by
  unfold nu;rw[show(jv Cl).size=32 by decide +kernel];refine yh λi hi=>?_;unfold OB;rw[show i/64=0 by omega,show(1:U)+BitVec.ofNat 32 0=1 by decide,RL]
 rw[e];decide +kernel
theorem Rj:yd (jv Cl) (jv Dz) (jv Sz) (jv QL)=jv Rw:=by
 unfold yd;rw[Sd];decide +kernel
theorem LI:je=jv (Dz++(QL++Rw)):=by
 unfold je cellOf qK;rw[QF,QX,RT,R8,Rj,nk,nk]
theorem QE:dH 0 empty=jv Je:=kd 0 (l:=[]) (by decide) rfl rfl (by decide +kernel)
theorem Sf:dH 0 je=jv QS:=kd 0 (by decide) LI (by decide +kernel) (by decide +kernel)
theorem PZ:dH 1 (jv Je++jv Je)=jv Pw:=kd 1 (by decide) (nk _ _).symm (by decide +kernel) (by decide +kernel)
theorem Rq:dH 1 (jv Je++jv QS)=jv Ru:=kd 1 (by decide) (nk _ _).symm (by decide +kernel) (by decide +kernel)
theorem RN:dH 1 (jv Pw++jv Pw)=jv GR:=kd 1 (by decide) (nk _ _).symm (by decide +kernel) (by decide +kernel)
theorem RS:dH 1 (jv Pw++jv Ru)=jv RC:=kd 1 (by decide) (nk _ _).symm (by decide +kernel) (by decide +kernel)
theorem node4(a b c d:ByteArray):iz [a,b,c,d] 2=dH 1 (a++b)∧iz [a,b,c,d] 3=dH 1 (c++d)∧iz [a,b,c,d] 1=dH 1 (dH 1 (a++b)++dH 1 (c++d))∧fU [a,b,c,d] 1=dH 1 (a++b)++dH 1 (c++d)∧fU [a,b,c,d] 3=c++d:=by
 have l4:iz [a,b,c,d] 4=a:=ki (ls:=[a,b,c,d]) (i:=4) (by simp);have l5:iz [a,b,c,d] 5=b:=ki (ls:=[a,b,c,d]) (i:=5) (by simp);have l6:iz [a,b,c,d] 6=c:=ki (ls:=[a,b,c,d]) (i:=6) (by simp);have l7:iz [a,b,c,d] 7=d:=ki (ls:=[a,b,c,d]) (i:=7) (by simp);have p3:fU [a,b,c,d] 3=c++d:=by unfold fU;rw[l6,l7]
 have p2:fU [a,b,c,d] 2=a++b:=by unfold fU;rw[l4,l5]
 have h2:iz [a,b,c,d] 2=dH 1 (a++b):=by rw[m9 (by decide) (by simp),p2];rfl
 have h3:iz [a,b,c,d] 3=dH 1 (c++d):=by rw[m9 (by decide) (by simp),p3];rfl
 have p1:fU [a,b,c,d] 1=dH 1 (a++b)++dH 1 (c++d):=by unfold fU;rw[h2,h3]
 exact⟨h2,h3,by rw[m9 (by decide) (by simp),p1];rfl,p1,p3⟩
theorem IQ:jx 4=jv GR:=by
 have e:j5 4=[jv Je,jv Je,jv Je,jv Je]:=by
  rw[←QE];rfl
 unfold jx;rw[e,(node4 _ _ _ _).2.2.1,PZ,RN]
theorem Q1:GB cs0 je=[jv Je,jv Je,jv Je,jv QS]:=by
 rw[←QE,←Sf];rfl
theorem QN:tL je=jv RC:=by
 unfold tL;rw[Q1,(node4 _ _ _ _).2.2.1,PZ,Rq,RS]
theorem IN:gF=jv nE:=by
 have e:pQ mw [iZ 0]=jv [0,0,0,0,0,0,0,8,0,0,0,0,0,0,0,0]:=by decide +kernel
 unfold gF yq;exact kd 2 (by decide) e (by decide +kernel) (by decide +kernel)
theorem Q3:M3 je=jv Qi:=by
 have e:wj je=[(101,jv (Pw++Ru)),(103,jv (Je++QS)),(123,jv (Dz++(QL++Rw)))]:=by
  unfold wj Cd;rw[Q1,(node4 _ _ _ _).2.2.2.1,(node4 _ _ _ _).2.2.2.2,PZ,Rq,LI,nk Pw,nk Je]
 have e2:pQ mw (lF [(101,jv (Pw++Ru)),(103,jv (Je++QS)),(123,jv (Dz++(QL++Rw)))])=jv SH:=by decide +kernel
 unfold M3;rw[e];exact kd 2 (by decide) e2 (by decide +kernel) (by decide +kernel)
theorem RK:dH 2 (gJ S2)=jv SI:=by
 have g:gJ S2=od S2:=if_pos Eb.1;have e:od S2=od ⟨2,2,2,4,0,0,false,[0,1,2,3],[⟨1,jv GR,jv nE⟩,⟨1,jv GR,jv nE⟩,⟨1,jv GR,jv nE⟩,⟨1,jv GR,jv nE⟩,⟨0,kL 32,jv nE⟩]⟩:=by
  unfold S2 Bc lJ xE;rw[IQ,IN]
 have e2:od ⟨2,2,2,4,0,0,false,[0,1,2,3],[⟨1,jv GR,jv nE⟩,⟨1,jv GR,jv nE⟩,⟨1,jv GR,jv nE⟩,⟨1,jv GR,jv nE⟩,⟨0,kL 32,jv nE⟩]⟩=jv SL:=by decide +kernel
 rw[g,e];exact kd 2 (by decide) e2 (by decide +kernel) (by decide +kernel)
theorem Sl:dH 2 (gJ (S3 je))=jv SP:=by
 have g:gJ (S3 je)=od (S3 je):=if_pos Ej.1;have e:od (S3 je)=od ⟨3,2,2,4,0,0,false,[0,1,2,3],[⟨1,jv GR,jv nE⟩,⟨1,jv RC,jv Qi⟩,⟨1,jv GR,jv nE⟩,⟨1,jv GR,jv nE⟩,⟨0,kL 32,jv nE⟩]⟩:=by
  unfold S3 Bc lJ xE;rw[IQ,IN,QN,Q3]
 have e2:od ⟨3,2,2,4,0,0,false,[0,1,2,3],[⟨1,jv GR,jv nE⟩,⟨1,jv RC,jv Qi⟩,⟨1,jv GR,jv nE⟩,⟨1,jv GR,jv nE⟩,⟨0,kL 32,jv nE⟩]⟩=jv SO:=by decide +kernel
 rw[g,e];exact kd 2 (by decide) e2 (by decide +kernel) (by decide +kernel)
theorem Qg:IB:=by
 unfold IB;rw[RK,Sl];decide +kernel
end Go.Proofs.YtmfcgihgdhfalaaGreatDoor

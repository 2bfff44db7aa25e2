/- The document: what is read of a log; a record is published, found; a log is replayed. The document: a record is published. The document: a record is found; a log is replayed. The document: a log is replayed. The document: a volume is made. The document: a volume is opened. Layer 20: a volume is made, and opened, as the document says. Layer 20's rows: what the row's list gives. Digests by numbers that the kernel can reckon with. A text's digest by numbers that the kernel can reckon with. The two records' digests are unlike ones: reckoned. -/
import Derived.Test.YtmfcgihgdhfalaaGreatDoorF12
import Derived.Test.YtmfcgihgdhfalaaGreatDoorF11
import Derived.Test.YtmfcgihgdhfalaaGreatDoorF06
import Derived.Test.YtmfcgihgdhfalaaGreatDoorF07
import Derived.Test.YtmfcgihgdhfalaaGreatDoorF09
set_option linter.unusedSimpArgs false
set_option linter.unusedVariables false
namespace Go.Proofs.YtmfcgihgdhfalaaGreatDoor
open Go.Sh Go.RowKit Classical
section
variable {h0 h:H}{a:Option Addr}{l c:Nat}
theorem Q6{L:List Chunk}{b:Nat}{s:ByteArray}(hs:s.size≤1000000)(w:Wd h0 h (L++[.blk b (.cells #[.string s,.int .i64 0,.int .i64 0] 335)])):Wd h0 h (L++[BT b ⟨s,0⟩]):=by
 have:=w.close (α:=ByteArray×Nat) (p:=λv=>v.2≤v.1.size∧v.1.size≤1000000∧(Rd.mk s 0).rest=v.1.extract v.2 v.1.size) (cs:=λv=>[.blk b (.cells #[.string v.1,.int .i64 v.2,.int .i64 (Rd.mk s 0).bad] 335)]) L.length (s,0) (by rw[List.drop_left' rfl];rfl) ⟨by omega,hs,by simp⟩;rw[List.take_left' rfl]at this;exact this
theorem P3{xs:List ByteArray}{sum:ByteArray}{Q:Option Addr->Nat->Nat->Int->H->Prop}(f:Ro eS h a l xs)(hl:l≤100)(hlc:l≤c)(hz:∀s∈xs,s.size≤2048)(tb:qG h)
  (k:∀a' c' h',Wd h h' [.sl 267 2 a' (qW xs sum).1.length c' (eP.row (qW xs sum).1)]->Q a' (qW xs sum).1.length c' (qW xs sum).2 h'):iE a l c sum h Q:=by
 unfold iE iE.g;have hx:=f.len;have kn:∀(e:Int) h',bq h h'->qW xs sum=([],e)->Q none 0 0 e h':=λe h' k' g=>by
  rw[g]at k;exact k _ _ _ (((Wd.start h).keeps k').ju _ _)
 by_cases e0:l=0
 ·have:xs=[]:=List.length_eq_zero_iff.1 (by omega);exact ct (by simp[e0]) (kn 4 _ (bq.refl _) (by rw[qW,if_pos this]))
 have hne:xs≠[]:=λe=>by rw[e]at hx;simp at hx;omega
 have h00:=kO (xs:=xs) (i:=0) (by omega);have hz0:=hz (sa xs 0) (by rw[h00];exact List.getElem_mem _);unfold qW at k kn;rw[if_neg hne]at k kn;refine cf (by simp;omega) (f.u7 (by omega) (by omega) (Po λh1 k1=>?_));simp only[Int.reduceToNat];by_cases e1:(jd (sa xs 0)).2=0;rotate_left
 ·exact ct (by simpa using e1) (kn _ _ k1 (by rw[if_pos e1]))
 have hb:=qD e1;rw[if_neg (by simp[e1])]at k kn;refine cf (by simp[e1]) ?_;by_cases e2:(jd (sa xs 0)).1>(l:Int)
 ·exact eA e2 (kn _ _ k1 (by rw[if_pos (by rw[hx];exact e2)]))
 rw[if_neg (by rw[hx];exact e2)]at k kn;obtain⟨n,hn⟩:∃n:Nat,(jd (sa xs 0)).1=(n:Int)+1:=⟨((jd (sa xs 0)).1-1).toNat,by omega⟩;simp only[hn]at k kn hb e2 ⊢;have hn1:((n:Int)+1).toNat=n+1:=by omega
 rw[hn1]at k kn;refine gJ e2 (M.Ov (by omega) (by omega) ?_);rw[hn1];refine Mo ((Ro.tk f (n+1) (by omega)).keep k1) (by omega) (λs hs=>hz s (List.mem_of_mem_take hs)) (tb.keep k1) λh2 k2=>?_;have ye:=k1.trans k2;by_cases e3:yw (xs.take (n+1))=sum;rotate_left
 ·exact ct (by rw[jX];simp[e3]) (kn _ _ ye (by rw[if_pos e3]))
 rw[if_neg (by simp[e3])]at k kn;refine cf (by rw[jX];simp[e3]) ?_;generalize hys:(xs.take (n+1)).drop 1=ys at *;have hyl:ys.length=n:=by rw[←hys];simp;omega
 have hyg:∀y,(hy:y<n)->ys[y]'(by omega)=sa xs (y+1):=λy hy=>by
  subst hys;rw[kO (by omega),List.getElem_drop,List.getElem_take];congr 1;omega
 refine M.aJ (λd h'=>(∀s∈ys,nF s≠none)∧d.2.1=n∧Wd h h' [.sl 267 2 d.1 d.2.1 d.2.2 (eP.row (ys.map λs=>(nF s).getD (0,ByteArray.empty)))]) (λJ hJ=>?_) ?_
 ·refine M.aM (I:=λ(p:(Option Addr×Nat×Nat)×Int) h'=>∃y:Nat,y≤n∧p.2=(y:Int)+1∧(∀s∈ys.take y,nF s≠none)∧p.1.2.1=y∧Wd h h' [.sl 267 2 p.1.1 p.1.2.1 p.1.2.2 (eP.row ((ys.take y).map λs=>(nF s).getD (0,ByteArray.empty)))]) (μ:=λp=>((n:Int)+1-p.2).toNat) ⟨0,by omega,rfl,by simp,rfl,((Wd.start h).keeps ye).ju _ _⟩ ?_;rintro⟨⟨a3,l3,c3⟩,i⟩ h5 J2 ⟨y,hy,hi,hok,hl3,w⟩ hJ2;simp only at hi hl3 w ⊢;subst hl3 hi;by_cases g:l3<n
  ·have hgy:=hyg l3 g;have hzy:(sa xs (l3+1)).size≤2048:=hz _ (by rw[kO (by omega)];exact List.getElem_mem _);have hmem:sa xs (l3+1)∈ys:=by rw[←hgy];exact List.getElem_mem _
   have ht:ys.take (l3+1)=ys.take l3++[sa xs (l3+1)]:=by rw[List.take_succ_eq_append_getElem (by omega),hgy]
   have v1:((l3:Int)+1).toNat=l3+1:=by omega
   refine eA (by omega) ((f.keep w.keep).u7 (by omega) (by omega) ?_);rw[v1];generalize sa xs (l3+1)=s at *;refine M.aI w λb h6 w=>?_;have w:=Q6 (L:=[_]) (by omega) w;have hr:=KM s;refine I3 w 1 rfl λh7 w=>D8 w 1 rfl λh8 w=>Pr w 1 rfl ?_;generalize (Rd.mk s 0).num.2.text=t at *;generalize (Rd.mk s 0).num.1=m at *;refine M.aJ (λd h'=>d=decide (nF s=none)∧h'=h8) (λJ hJ=>?_) ?_
   ·have tk:∀{z:Bool},(z=true↔¬(t.2.done=0∧¬((m:Int)<100)∧¬((m:Int)>139)∧¬(t.1.size>2032)))->J z h8:=λ{z} h=>hJ _ _ ⟨jU (h.trans ⟨λg=>by rw[hr,if_neg g],λg q=>by rw[hr,if_pos q]at g;simp at g⟩),rfl⟩;by_cases q1:t.2.done=0;rotate_left
    ·exact ct (by simpa using q1) (tk ⟨λ_ g=>q1 g.1,λ_=>rfl⟩)
    refine cf (by simp[q1]) ?_;by_cases q2:(m:Int)<100
    ·exact eA q2 (tk ⟨λ_ g=>g.2.1 q2,λ_=>rfl⟩)
    refine gJ q2 ?_;by_cases q3:(m:Int)>139
    ·exact eA q3 (tk ⟨λ_ g=>g.2.2.1 q3,λ_=>rfl⟩)
    refine gJ q3 (tk ?_);rw[decide_eq_true_iff];exact⟨λh g=>g.2.2.2 (by omega),λh=>Classical.byContradiction λn=>h ⟨q1,q2,q3,by omega⟩⟩
   rintro _ h9 ⟨rfl,e9⟩;rw[e9];clear e9;by_cases q:nF s=none
   ·exact ct (decide_eq_true q) (kn _ _ w.keep (by rw[if_pos ⟨s,hmem,q⟩]))
   ·have hq:t.2.done=0∧¬((m:Int)<100)∧¬((m:Int)>139)∧¬(t.1.size>2032):=Classical.byContradiction λqq=>q (by rw[hr,if_neg qq]);rw[if_pos hq]at hr;refine cf (decide_eq_false q) (M.vis (m:Int) (qJ (by omega) (by omega)) (Wd.push w 0 rfl rfl rfl (eP.iq [((m:Int),t.1)]) (by omega) (by omega) λa9 c9 h12 w=>M.vis (((l3+1:Nat):Int)+1) (by rw[IntKind.wrap_i64];omega) (hJ2 _ _ ⟨l3+1,by omega,rfl,?_,rfl,?_⟩ (by simp only[];omega))))
    ·intro u hu;rw[ht,List.mem_append,List.mem_singleton]at hu;rcases hu with hu|rfl
     ·exact hok u hu
     ·exact q
    ·have w:=w.drop (i:=1) rfl;rw[ht,List.map_append,eP.iX];simp only[List.map_cons,List.map_nil,hr,Option.getD_some];exact w
  ·obtain rfl:l3=n:=by omega
   rw[List.take_of_length_le (by omega)]at w hok;exact gJ (by omega) (hJ (a3,l3,c3) _ ⟨hok,rfl,w⟩)
 rintro⟨a3,l3,c3⟩ h3 ⟨hok,hl3,w3⟩;simp only at hl3 w3 ⊢;subst hl3;rw[if_neg (λ⟨s,hs,g⟩=>hok s hs g)]at k;have:=k a3 c3 h3 (by rw[List.length_map,hyl];exact w3);rw[List.length_map,hyl]at this;exact this
end
structure JX (C:Array Value) (b a:Nat) (key:ByteArray) (n:Int):Prop where
 c0:C[0]? = some (.pointer (some ⟨b,0,none⟩))
 c1:C[1]? = some (.pointer (some ⟨a,0,none⟩))
 c2:C[2]? = some (.string key)
 c6:C[6]? = some (.int .i64 n)
abbrev xx(b a:Nat)(V:qi):List Chunk:=[fO b V.B,.blk a (kP V.cnt V.gw)]
section
variable {h0 h:H}{b a p c:Nat}{B:ak}{V:qi}{d n:Int}{t key:ByteArray}{s:gE}{sa ma:Option Addr}{sl sc ml mc:Nat}{C:Array Value}{e:TypeId}
theorem E4{K:Nat->Prop}(w:Wd h0 h [fO b B])(k:K B.ds.length):M.nn (some ⟨b,0,none⟩) λa36=>M.load h (Addr.add a36 0) λv=>M.slc v λa38 l39 c40=>K l39:=by
 obtain⟨v,⟨ok,hl⟩,w⟩:=w.sM 0 rfl;exact iU (M.me (w.blk 0 rfl) rfl k)
theorem Jk{K:Nat->Prop}(w:Wd h0 h [fO b B])(hb:0<B.ds.length)(k:K (B.iy 0).N.length):
  M.nn (some ⟨b,0,none⟩) λa6=>M.load h (Addr.add a6 0) λv7=>M.slc v7 λa8 l9 c10=>M.idx a8 l9 0 λa11 j12=>M.load h (Addr.add a11 (j12*1)) λv13=>M.ptr v13 λp14=>M.nn p14 λa20=>M.load h (Addr.add a20 0) λv=>M.slc v λa22 l23 c24=>K l23:=by
 refine Of w (ak.j3.2 ⟨Int.le_refl 0,by omega⟩) λp h1 k0 k1 w1 _=>?_;obtain⟨v,⟨⟨ok,sy⟩,hl⟩,w1⟩:=w1.sM 0 rfl;rw[←ok.len]at k;exact iU (M.me (w1.blk 0 rfl) rfl k)
theorem Pm{Q:Option Addr->Int->Int->ByteArray->H->Prop}(hp:h p=some (.cells C e))(st:JX C b a key n)(k:∀h',bq h h'->Q (some ⟨b,0,none⟩) d n key h'):gW (some ⟨p,0,none⟩) d h Q:=by
 unfold gW;refine M.aI (Wd.start h) λb1 h1 w=>iU (M.oX (w.keep _ _ hp) st.c0 (iU (M.gA (w.keep _ _ hp) st.c6 (iU (M.oZ (w.keep _ _ hp) st.c2 ⟨rfl,M.bu w 0 rfl (by simp[ag]) rfl λh2 w=>?_⟩)))));have hb:=w.blk 0 rfl;exact M.oX hb rfl (M.gA hb rfl (M.gA hb rfl (M.oZ hb rfl (k _ w.keep))))
theorem GB{Q:Int->H->Prop}(w:Wd h0 h (xx b a V++[.blk p (.cells C e)]))(st:JX C b a key n)(f1:Ro eI h0 sa sl s.av)(f:Ro ki h0 ma ml s.aj)(hl:ml≤1000000)(hl1:sl≤1000000)(hb:s.jj)(v:rX V c 25)(tb:qG h0)
  (k:∀h',Wd h0 h' (xx b a (iY V s).2++[.blk p (.cells C e)])->Q (iY V s).1 h'):dm (some ⟨p,0,none⟩) s.count s.dI s.data s.slots s.mark s.built s.aH sa sl sc ma ml mc h Q:=by
 unfold dm dm.g;have hn:=v.bk.ok.small;have hts:=yy s;have h2:=M5 hb.1.1;refine M.aI w λb4 h5 w=>jY (s:=s) (gK (w.blk 3 rfl)) ?_;refine LI (f1.keep w.keep) (f.keep w.keep) hl hl1 (λ_=>hb) λh30 k30=>?_;have w:=w.keeps k30;have hst:(if s.good then nC s else ByteArray.empty)=ia s:=rfl
 rw[hst];unfold iY at k;have hB:∀m,m≤V.B.ds.length->Bk (lJ (s.count.tmod 2) (ia s) V.B m).2.2 c (1+2*(V.B.ds.length-m)):=λm hm=>Bk.Rv _ _ m (v.bk.mono (by omega));have hN:∀m,(lJ (s.count.tmod 2) (ia s) V.B m).2.2.ds.length=V.B.ds.length:=λm=>A7 m;have hS:∀m,lJ (s.count.tmod 2) (ia s) V.B (m+1)=if(lJ (s.count.tmod 2) (ia s) V.B m).1=true then lJ (s.count.tmod 2) (ia s) V.B m else
   (decide ((lD (lJ (s.count.tmod 2) (ia s) V.B m).2.2 m (s.count.tmod 2) (ia s)).1=21),(lJ (s.count.tmod 2) (ia s) V.B m).2.1 || decide ((lD (lJ (s.count.tmod 2) (ia s) V.B m).2.2 m (s.count.tmod 2) (ia s)).1=0),(lD (lJ (s.count.tmod 2) (ia s) V.B m).2.2 m (s.count.tmod 2) (ia s)).2):=λm=>rfl
 have h0':lJ (s.count.tmod 2) (ia s) V.B 0=(false,false,V.B):=rfl;generalize lJ (s.count.tmod 2) (ia s) V.B=P at *;have hfail:∀m j,m+j=V.B.ds.length->(P m).1=true->P (m+j)=P m:=λm j=>by
  induction j with
  | zero=>intro _ _;rfl
  | succ j ih=>
   intro e h;have hh:∀i,P (m+i)=P m:=λi=>by
    induction i with
    | zero=>rfl
    | succ i ihh=>rw[←Nat.add_assoc,hS,ihh,if_pos h]
   exact hh _
 refine M.aJ (λd h'=>(P V.B.ds.length).1=false∧d=(P V.B.ds.length).2.1∧Wd h0 h' [fO b (P V.B.ds.length).2.2,.blk a (kP V.cnt V.gw),.blk p (.cells C e),.blk b4 (.cells (gI s sa sl sc ma ml mc).toArray 80)]) (λJ hJ=>?_) ?_
 ·refine M.aM (I:=λ(q:Bool×Int) h'=>∃m:Nat,m≤V.B.ds.length∧q=((P m).2.1,(m:Int))∧(P m).1=false∧Wd h0 h' [fO b (P m).2.2,.blk a (kP V.cnt V.gw),.blk p (.cells C e),.blk b4 (.cells (gI s sa sl sc ma ml mc).toArray 80)]) (μ:=λq=>(V.B.ds.length-q.2).toNat)
   ⟨0,by omega,by rw[h0'];rfl,by rw[h0'],by rw[h0'];exact w⟩ ?_
  clear w;rintro q h6 J2 ⟨m,hm,rfl,hp,w⟩ hJ2;have hbp:=w.blk 2 rfl;refine iU (M.oX hbp st.c0 ?_);obtain⟨_,_,_,wb,_,_⟩:=w.on (i:=0) rfl;refine E4 wb ?_;clear wb;rw[hN m];by_cases g:m<V.B.ds.length
  ·have hbm:=hB m hm;have e1:=hS m;rw[if_neg (by simp[hp])]at e1;have hnt:(lD (P m).2.2 m (s.count.tmod 2) (ia s))=(lD (P m).2.2 m (s.count.tmod 2) (ia s)):=rfl;conv at hnt=>rhs;unfold lD
   refine eA (by simp only[];omega) (M.aJ (λz h'=>(P (m+1)).1=false∧z=(P (m+1)).2.1∧Wd h0 h' [fO b (P (m+1)).2.2,.blk a (kP V.cnt V.gw),.blk p (.cells C e),.blk b4 (.cells (gI s sa sl sc ma ml mc).toArray 80)]) (λJ5 hJ5=>iU (M.oX hbp st.c0 (M.gA (w.blk 3 rfl) rfl ⟨by decide,dL (M.vis (s.count.tmod 2) (qJ (by omega) (by omega)) (M.cO (bq.refl _) ⟨_,hbp⟩ ?_))⟩))) ?_);rotate_left
   ·rintro _ h7 ⟨hf,rfl,w⟩;exact M.vis ((m+1:Nat):Int) (by rw[IntKind.wrap_i64];simp only[];omega) (hJ2 _ _ ⟨m+1,by omega,rfl,hf,w⟩ (by simp only[];omega))
   obtain⟨hx,k0,k1,wx,wr,back⟩:=w.on (i:=0) rfl;refine IT wx (by have:=hbm.rm.steps;omega) hbm.rm.left (hbm.rm.iy m) λh7 w1=>?_;have w:=back _ _ w1;have r2:=(Bk.write (k:=1) (hbm.mono (by omega)) (m:Int) (s.count.tmod 2) (ia s)).rm;clear wx wr back w1 k0 k1 hx;refine M.aJ (λz h'=>z=(lD (P m).2.2 m (s.count.tmod 2) (ia s)).1∧Wd h0 h' [fO b (lD (P m).2.2 m (s.count.tmod 2) (ia s)).2,.blk a (kP V.cnt V.gw),.blk p (.cells C e),.blk b4 (.cells (gI s sa sl sc ma ml mc).toArray 80)]) (λJ6 hJ6=>?_) ?_
   ·rw[hnt]at hJ6;by_cases e2:((P m).2.2.write m (s.count.tmod 2) (ia s)).1=0
    ·rw[if_neg (by simp[e2])]at hJ6;refine ct (by simp[e2]) (iU (M.oX (w.blk 2 rfl) st.c0 ?_));obtain⟨hx,k0,k1,wx,wr,back⟩:=w.on (i:=0) rfl;refine Jr wx (by have:=r2.steps;simp only[];omega) r2.left (r2.iy m) λh8 w1=>?_;exact hJ6 _ _ ⟨rfl,back _ _ w1⟩
    ·rw[if_pos e2]at hJ6;exact cf (by simpa using e2) (hJ6 _ _ ⟨rfl,w⟩)
   clear hnt w;rintro _ h8 ⟨rfl,w⟩;generalize lD (P m).2.2 m (s.count.tmod 2) (ia s)=q at *;by_cases e2:q.1=21
   ·refine ct (by simp[e2]) ?_;have hl:P V.B.ds.length=P (m+1):=by
     have:=hfail (m+1) (V.B.ds.length-(m+1)) (by omega) (by rw[e1];simp[e2])
     rwa [show m+1+(V.B.ds.length-(m+1))=V.B.ds.length by omega]at this
    rw[hl,e1]at k;unfold EF at k;rw[if_pos (by simp[e2])]at k;exact k _ (w.drop (i:=3) rfl)
   ·have hf:(P (m+1)).1=false:=by rw[e1];simp[e2]
    have wn:Wd h0 h8 [fO b (P (m+1)).2.2,.blk a (kP V.cnt V.gw),.blk p (.cells C e),.blk b4 (.cells (gI s sa sl sc ma ml mc).toArray 80)]:=by rw[e1];exact w
    refine cf (by simpa using e2) ?_;by_cases e3:q.1=0
    ·exact ct (by simp[e3]) (hJ5 _ _ ⟨hf,by rw[e1];simp[e3],wn⟩)
    ·exact cf (by simpa using e3) (hJ5 _ _ ⟨hf,by rw[e1];simp[e3],wn⟩)
  ·obtain rfl:m=V.B.ds.length:=by omega
   exact gJ (by simp only[];omega) (hJ _ _ ⟨hp,rfl,w⟩)
 clear w;rintro _ h6 ⟨hp,rfl,w⟩;have hbl:=hB V.B.ds.length (Nat.le_refl _);have hnl:=hN V.B.ds.length;generalize P V.B.ds.length=r at *;unfold EF at k;rw[if_neg (by simp[hp])]at k;by_cases e:r.2.1=true;rotate_left
 ·rw[Bool.not_eq_true]at e;rw[if_pos e]at k;exact ct (by simp[e]) (k _ (w.drop (i:=3) rfl))
 rw[if_neg (by simp[e])]at k;refine cf (by simp[e]) (iU (M.oX (w.blk 2 rfl) st.c0 ?_));obtain⟨hx,k0,k1,wx,wr,back⟩:=w.on (i:=0) rfl;refine DP wx (by have:=hbl.rm.steps;omega) hbl.rm.left λh7 w1=>?_;have w:=back _ _ w1;clear wx wr back w1 k0 k1 hx;by_cases e1:r.2.2.iT.1=0;rotate_left
 ·rw[if_pos e1]at k;exact ct (by simpa using e1) (k _ (w.drop (i:=3) rfl))
 rw[if_neg (by simp[e1])]at k;refine cf (by simp[e1]) (LU (by omega) (tb.keep w.keep) λh8 k8=>?_);have w:=w.keeps k8;refine iU (M.oX (w.blk 2 rfl) st.c1 (M.gA (w.blk 3 rfl) rfl ?_));obtain⟨hx,k0,k1,wx,wr,back⟩:=w.on (i:=1) rfl;refine Sq wx (jJ _ _) λh9 w1=>?_;have w:=back _ _ w1;unfold BW at w ⊢;by_cases e2:s.count≤V.cnt
 ·rw[if_pos e2]at k w ⊢;exact k _ (w.drop (i:=3) rfl)
 ·rw[if_neg e2]at k w ⊢;exact k _ (w.drop (i:=3) rfl)
end
section
variable {B:ak}{gw:ByteArray}{n:Nat}{d:Int}
theorem NC{B:ak}{c:Nat}(hl:∀D∈B.ds,D.N.length=c)(hc:2≤c)(h:(B.read d 0).2≠0):(B.read d 1).2=(B.read d 0).2:=by
 unfold ak.read at h ⊢;by_cases hb:B.bad d
 ·rw[if_pos hb,if_pos hb]
 rw[if_neg hb]at h ⊢;rw[if_neg hb];by_cases hp:B.jT
 ·rw[if_pos hp,if_pos hp]
 rw[if_neg hp]at h ⊢;rw[if_neg hp];have hD:=hl _ (rN hb);generalize B.iy d=D at *;unfold cP.read cP.usable at h ⊢;by_cases hd:D.dead=true
 ·simp only[hd,if_true];rfl
 ·rw[if_neg hd,if_neg (by omega)]at h;simp at h
theorem KP{B:ak}{c:Nat}(hl:∀D∈B.ds,D.N.length=c)(hc:2≤c)(h:(B.read d 0).2≠0)(h21:(B.read d 0).2≠21):findD B gw n d=none∧(B.read d 1).2≠0∧(B.read d 1).2≠21:=by
 have:=NC hl hc h;refine⟨?_,by rw[this];exact h,by rw[this];exact h21⟩;unfold findD;rw[if_neg h21,if_pos h]
end
section
variable {h0 h:H}{b a p c:Nat}{B:ak}{V:qi}{d n:Int}{t key:ByteArray}{s:gE}{sa ma:Option Addr}{sl sc ml mc:Nat}{C:Array Value}{e:TypeId}
theorem QW{Q:Int->Int->Int->Int->Int->Int->Bool->Option Addr->Nat->Nat->Option Addr->Nat->Nat->Int->H->Prop}(wx:Wd h0 h (xx b a V++[.blk p (.cells C e)]))(st:JX C b a key n)(bk:Bk V.B c 1)(hc:2≤c)(tb:qG h)
  (k0:(ij V.B V.gw).1=0->∀a1 c1 a2 c2 h',Wd h h' (O3 (ij V.B V.gw).2 a1 c1 a2 c2)->Q (ij V.B V.gw).2.count (ij V.B V.gw).2.dI (ij V.B V.gw).2.data (ij V.B V.gw).2.slots (ij V.B V.gw).2.mark (ij V.B V.gw).2.built (ij V.B V.gw).2.aH a1 (ij V.B V.gw).2.av.length c1 a2 (ij V.B V.gw).2.aj.length c2 0 h')
  (k1:(ij V.B V.gw).1≠0->∀h',bq h h'->Q 0 0 0 0 0 0 false none 0 0 none 0 0 (ij V.B V.gw).1 h'):gP (some ⟨p,0,none⟩) h Q:=by
 unfold gP gP.g;unfold ij at k0 k1;have hn:=bk.ok.small;generalize hN:V.B.ds.length=N at *;have hbp:=wx.blk 2 rfl;have hba:=wx.blk 1 rfl;obtain⟨_,_,_,wb0,_,_⟩:=wx.on (i:=0) rfl;refine M.aI (Wd.start h) λb2 h2 w=>?_;have kz:∀(z:Int) h',(mG V.B V.gw N N).getD (24,mU)=(z,mU)->z≠0->Wd h h' [.blk b2 (.cells (gI mU none 0 0 none 0 0).toArray 80)] ->
   M.nM 9 h' ⟨b2,0,none⟩ (gI mU none 0 0 none 0 0) (λh'=>M.kq h' ⟨b2,0,none⟩ λn0 n1 n2 n3 n4 n5 n6 a1 l1 c1 a2 l2 c2=>Q n0 n1 n2 n3 n4 n5 n6 a1 l1 c1 a2 l2 c2 z h'):=λz h' e hz w=>by
  rw[e]at k1;exact vQ (K:=λn0 n1 n2 n3 n4 n5 n6 a1 l1 c1 a2 l2 c2 h'=>Q n0 n1 n2 n3 n4 n5 n6 a1 l1 c1 a2 l2 c2 z h') mU none 0 0 none 0 0 w (i:=0) rfl rfl λh2 w2=>k1 hz _ w2.keep
 refine M.aJ (λ_ h'=>mG V.B V.gw N N=none∧Wd h h' [.blk b2 (.cells (gI mU none 0 0 none 0 0).toArray 80)]) (λJ hJ=>?_) ?_;rotate_left
 ·rintro _ h3 ⟨e,w⟩;exact kz 24 h3 (by rw[e];rfl) (by decide) w
 refine M.aM (I:=λ(q:Int) h'=>∃m:Nat,m≤N∧q=(m:Int)∧mG V.B V.gw N m=none∧Wd h h' [.blk b2 (.cells (gI mU none 0 0 none 0 0).toArray 80)]) (μ:=λq=>(N-q).toNat) ⟨0,by omega,rfl,rfl,w⟩ ?_;clear w;rintro q h3 J2 ⟨m,hm,rfl,hf,w⟩ hJ2;refine iU (M.oX (w.keep _ _ hbp) st.c0 (E4 (wb0.keeps w.keep) ?_));rw[hN];by_cases g:m<N;rotate_left
 ·obtain rfl:m=N:=by omega
  exact gJ (by omega) (hJ () _ ⟨hf,w⟩)
 refine eA (by omega) ?_;refine M.aJ (λ_ h'=>findD V.B V.gw N m=none∧Wd h h' [.blk b2 (.cells (gI mU none 0 0 none 0 0).toArray 80)]) (λJ4 hJ4=>?_) ?_;rotate_left
 ·rintro _ h4 ⟨e,w⟩;exact M.vis ((m+1:Nat):Int) (by rw[IntKind.wrap_i64];omega) (hJ2 _ _ ⟨m+1,by omega,rfl,by rw[mG,hf];exact e,w⟩ (by omega))
 refine M.aM (I:=λ(q:Int) h'=>∃y:Nat,y≤2∧q=(y:Int)∧((∀j:Nat,j<y->(V.B.read m j).2=0∧oy V.gw N (V.B.read m j).1=none)∨findD V.B V.gw N m=none∧(V.B.read m 1).2≠0∧(V.B.read m 1).2≠21∧1≤y)∧Wd h h' [.blk b2 (.cells (gI mU none 0 0 none 0 0).toArray 80)]) (μ:=λq=>(2-q).toNat) ⟨0,by omega,rfl,.inl λj hj=>by omega,w⟩ ?_;clear w;rintro q h4 J3 ⟨y,hy,rfl,hpp,w⟩ hJ3;by_cases gy:y<2;rotate_left
 ·obtain rfl:y=2:=by omega
  refine gJ (by omega) (hJ4 () _ ⟨?_,w⟩);rcases hpp with hp|hp
  ·exact BO hp
  ·exact hp.1
 refine eA (by omega) (iU (M.oX (w.keep _ _ hbp) st.c0 (G8 (wb0.keeps w.keep) (bk.rm.iy m) ?_)));have vy:IntKind.wrap .i64 ((y:Int)+1)=((y+1:Nat):Int):=by rw[IntKind.wrap_i64];omega
 rcases hpp with hp|⟨hp1,hp2,hp3,hp4⟩
 rotate_left
 ·obtain rfl:y=1:=by omega
  simp only[Int.natCast_one]at *;exact cf (by simpa using hp3) (ct (by simpa using hp2) (M.vis _ vy (hJ3 _ _ ⟨2,by omega,rfl,.inr ⟨hp1,hp2,hp3,by omega⟩,w⟩ (by omega))))
 obtain⟨d1,d2,d3⟩:=FZ gy hp;have hsz:=bk.sm m y;have hbad:(V.B.read m y).2≠21->(V.B.read m y).2≠0->((∀j:Nat,j<y+1->(V.B.read m j).2=0∧oy V.gw N (V.B.read m j).1=none)∨findD V.B V.gw N m=none∧(V.B.read m 1).2≠0∧(V.B.read m 1).2≠21∧1≤y+1):=λe1 e2=>by
  have:y=0∨y=1:=by omega
  rcases this with rfl|rfl
  ·obtain⟨q1,q2,q3⟩:=KP (gw:=V.gw) (n:=N) bk.ln hc e2 e1;exact .inr ⟨q1,q2,q3,by omega⟩
  ·exact .inr ⟨d2 e1 e2,e2,e1,by omega⟩
 have hp2:(V.B.read m y).2=0->oy V.gw N (V.B.read m y).1=none->∀j:Nat,j<y+1->(V.B.read m j).2=0∧oy V.gw N (V.B.read m j).1=none:=λe1 e2 j hj=>by
  by_cases e:j=y
  ·subst e;exact⟨e1,e2⟩
  ·exact hp j (by omega)
 generalize V.B.read m y=r at *;by_cases e1:r.2=21
 ·refine ct (by simp[e1]) ?_;exact kz 21 _ (oU hf g (d1 e1)) (by decide) w
 refine cf (by simpa using e1) ?_;by_cases e2:r.2=0;rotate_left
 ·exact ct (by simpa using e2) (M.vis _ vy (hJ3 _ _ ⟨y+1,by omega,rfl,hbad e1 e2,w⟩ (by omega)))
 have hny:∀h',oy V.gw N r.1=none->Wd h h' [.blk b2 (.cells (gI mU none 0 0 none 0 0).toArray 80)]->M.val (IntKind.wrap .i64 ((y:Int)+1)) λz=>J3 z h':=λh' e w=>
  M.vis _ vy (hJ3 _ _ ⟨y+1,by omega,rfl,.inl (hp2 e2 e),w⟩ (by omega))
 have hx:=d3 e2;refine cf (by simp[e2]) (LU (by omega) (tb.keep w.keep) λh5 k5=>?_);have w:=w.keeps k5;unfold oy at hny hx;refine PT (by omega) (λs a1 c1 a2 c2 h6 hs w6=>?_) λhs h6 k6=>?_
 ·rw[hs]at hx hny;simp only at hx hny;have w:=w.join w6;refine M.aI w λb3 h7 w=>⟨rfl,M.bu w 3 rfl (by simp[ag]) rfl λh8 w=>M.jn (iU (M.oX (w.keep _ _ hbp) st.c1 (iU (M.oZ (w.keep _ _ hba) rfl ?_))))⟩;rw[P6];by_cases e3:dQ 2 r.1=V.gw;rotate_left
  ·exact ct (decide_eq_true e3) (ct rfl (hny _ (by rw[if_pos e3]) (((w.drop (i:=3) rfl).drop (i:=2) rfl).drop (i:=1) rfl)))
  rw[if_neg (by simp[e3])]at hny hx;refine cf (decide_eq_false (by simp[e3])) (cf rfl (M.me (w.blk 3 rfl) rfl (iU (M.oX (w.keep _ _ hbp) st.c0 (E4 (wb0.keeps w.keep) ?_)))));rw[hN];by_cases e4:s.aj.length=N;rotate_left
  ·rw[if_pos e4]at hx;refine ct (by simp;omega) ?_;have w:=((w.drop (i:=3) rfl).drop (i:=2) rfl).drop (i:=1) rfl;exact kz 24 _ (oU hf g (hx _ rfl)) (by decide) w
  ·rw[if_neg (by simp[e4])]at hx;have hres:=oU hf g (hx _ rfl);rw[hres]at k0;refine cf (by simp[e4]) (jY (s:=s) (sa:=a1) (sl:=s.av.length) (sc:=c1) (ma:=a2) (ml:=s.aj.length) (mc:=c2) (gK (w.blk 3 rfl)) ?_);refine vQ (K:=λn0 n1 n2 n3 n4 n5 n6 a1 l1 c1 a2 l2 c2 h'=>Q n0 n1 n2 n3 n4 n5 n6 a1 l1 c1 a2 l2 c2 0 h') s a1 _ c1 a2 _ c2 w (i:=0) rfl rfl λh9 w=>?_;exact k0 rfl a1 c1 a2 c2 h9 ((w.drop (i:=3) rfl).drop (i:=0) rfl)
 ·rw[hs]at hny;have w:=w.keeps k6;refine M.aI w λb3 h7 w=>⟨rfl,M.bu w 1 rfl (by simp[ag]) rfl λh8 w=>?_⟩;have hnn:=hny h8 (by split<;>rfl) (w.drop (i:=1) rfl);refine M.jn (iU (M.oX (w.keep _ _ hbp) st.c1 (iU (M.oZ (w.keep _ _ hba) rfl ?_))));rw[P6];by_cases e3:dQ 2 r.1=V.gw
  ·exact cf (decide_eq_false (by simp[e3])) (ct rfl hnn)
  ·exact ct (decide_eq_true e3) (ct rfl hnn)
end
theorem Da(s:ByteArray):(jd s).2=0∨(jd s).2=4:=by
 rw[C4];split<;>simp
theorem MC(xs:List ByteArray)(sum:ByteArray):(qW xs sum).2≠21:=by
 unfold qW;have h:=Da (sa xs 0)
 repeat' split
 all_goals simp only[]
 all_goals omega
noncomputable def Is(key:ByteArray)(n:Int)(B:ak)(d:Int)(gw:ByteArray):Int×ak:=
 if(lE B d gw).2=0∧0<(lE B d gw).1.length then jN B key d n (lE B d gw).1 else((lE B d gw).2,B)
section
variable {h0 h:H}{b a p c:Nat}{B:ak}{d n:Int}{key gw:ByteArray}{C:Array Value}{e:TypeId}
theorem N5{Q:Bool->H->Prop}(w:Wd h0 h [fO b B])(hp:h0 p=some (.cells C e))(st:JX C b a key n)(bk:Bk B c 97)(tb:qG h0)
  (k:∀h',Wd h0 h' [fO b (Is key n B d gw).2]->Q ((Is key n B d gw).1 != 21) h'):fE (some ⟨p,0,none⟩) d gw h Q:=by
 unfold fE;have hz:∀m,∀s∈(kM B d m).1,s.size≤2048:=λm=>xK (P:=λs=>s.size≤2048) (λa=>bk.sm d a) m;have kx:∀(z:Int) h',(lE B d gw)=([],z)->Wd h0 h' [fO b B]->Q (z != 21) h':=λz h' g w=>by
  have e:Is key n B d gw=(z,B):=by
   unfold Is;rw[g];exact if_neg λq=>absurd q.2 (by simp)
  rw[e]at k;exact k _ w
 have kt:∀(z:Int) h',(lE B d gw)=([],z)->z≠21->Wd h0 h' [fO b B]->Q true h':=λz h' g hz w=>by
  have:=kx z h' g w
  rwa [show(z != 21)=true by simpa using hz]at this
 have rl:lE B d gw=lE B d gw:=rfl;conv at rl=>rhs;unfold lE
 refine iU (M.oX (w.keep _ _ hp) st.c0 (G8 w (bk.rm.iy d) ?_));by_cases e1:(B.read d 2).2=0;rotate_left
 ·rw[if_pos e1]at rl;exact ct (by simpa using e1) (kx _ _ rl w)
 rw[if_neg (by simp[e1])]at rl;refine cf (by simp[e1]) (Po λh1 k1=>?_);have w:=w.keeps k1;by_cases e2:(jd (B.read d 2).1).2=0;rotate_left
 ·rw[if_pos e2]at rl;exact ct (by simpa using e2) (kt _ _ rl (by have:=Da (B.read d 2).1;omega) w)
 rw[if_neg (by simp[e2])]at rl;have hb:=qD e2;refine cf (by simp[e2]) (M.aI w λb2 h2 w=>?_);obtain⟨N,hN⟩:∃N:Nat,(jd (B.read d 2).1).1=N:=⟨(jd (B.read d 2).1).1.toNat,by omega⟩;rw[hN]at hb rl ⊢;rw[Int.toNat_natCast]at rl;have hl1:kM B d 1=([(B.read d 2).1],0):=by
  rw[kM,kM,if_neg (by simp)];simp only[Int.natCast_zero,Int.add_zero];rw[if_neg (by simp[e1])];rfl
 have w:=w.LS (E:=eS) (ys:=(kM B d 1).1) (n:=1) (i:=1) rfl (by rw[hl1];rfl) (by rw[hl1];rfl);refine M.aJ (λv h'=>v.2.1=N∧(kM B d N).2=0∧Wd h0 h' [fO b B,.sl 9 1 v.1 v.2.1 v.2.2 (eS.row (kM B d N).1)]) (λJ hJ=>?_) ?_
 ·refine M.aM (I:=λ(q:(Option Addr×Nat×Nat)×Int) h'=>∃y:Nat,1≤y∧y≤N∧q.2=(y:Int)∧q.1.2.1=y∧(kM B d y).2=0∧Wd h0 h' [fO b B,.sl 9 1 q.1.1 q.1.2.1 q.1.2.2 (eS.row (kM B d y).1)]) (μ:=λq=>(N-q.2).toNat) ⟨1,by omega,by omega,rfl,rfl,by rw[hl1],w⟩ ?_;clear w;rintro⟨⟨a2,l2,c2⟩,i⟩ h3 J2 ⟨y,hy1,hy,hi,hl,hr,w⟩ hJ2;simp only at hi hl w ⊢;subst hl hi;by_cases g:l2<N;rotate_left
  ·obtain rfl:l2=N:=by omega
   exact gJ (by omega) (hJ (a2,l2,c2) _ ⟨rfl,hr,w⟩)
  obtain⟨_,_,_,wb,_,_⟩:=w.on (i:=0) rfl;refine eA (by omega) (iU (M.oX (w.keep _ _ hp) st.c0 (M.vis (2+(l2:Int)) (qJ (by omega) (by omega)) (G8 wb (bk.rm.iy d) ?_))));clear wb;by_cases e3:(B.read d (2+(l2:Int))).2=0;rotate_left
  ·have hs:(kM B d (l2+1)).2=(B.read d (2+(l2:Int))).2:=by rw[kM,if_neg (by simp[hr]),if_pos e3]
   have hm:=x9 (m:=l2+1) (by rw[hs];exact e3) (N-(l2+1));rw[show l2+1+(N-(l2+1))=N by omega]at hm;rw[hm,hs,if_pos e3]at rl;exact ct (by simpa using e3) (kx _ _ rl (w.drop (i:=1) rfl))
  have hs:kM B d (l2+1)=((kM B d l2).1++[(B.read d (2+(l2:Int))).1],0):=by rw[kM,if_neg (by simp[hr]),if_neg (by simp[e3])]
  refine cf (by simp[e3]) (Wd.push w 1 rfl rfl rfl (eS.iq [_]) (by omega) (by omega) λa3 c3 h3 w=>M.vis ((l2+1:Nat):Int) (by rw[IntKind.wrap_i64];omega) (hJ2 _ _ ⟨l2+1,by omega,by omega,rfl,rfl,by rw[hs],?_⟩ (by simp only[];omega)));rw[hs,eS.iX];exact w
 clear w;rintro⟨a2,l2,c2⟩ h3 ⟨hl,hr,w⟩;simp only at hl w ⊢;subst hl;rw[if_neg (by simp[hr])]at rl;have hc:=(w.mL 1 rfl).2.1;have hll:=Bl l2 hr;refine P3 (w.ro (E:=eS) 1 rfl (by decide)) (by omega) (by omega) (hz l2) (tb.keep w.keep) λa3 c3 h4 w4=>?_;have w:=w.join w4;have ge:=MC (kM B d l2).1 gw;have gl:=EG (kM B d l2).1 gw;rw[←rl]at ge gl w ⊢;unfold Is at k;generalize lE B d gw=r at *;refine M.aJ (λz h'=>z=decide (¬(r.2=0∧0<r.1.length))∧h'=h4) (λJ hJ=>?_) ?_
 ·by_cases e3:r.2=0
  ·refine cf (by simp[e3]) (hJ _ _ ⟨jU (by rw[beq_iff_eq];omega),rfl⟩)
  ·exact ct (by simpa using e3) (hJ _ _ ⟨dT λg=>e3 g.1,rfl⟩)
 rintro _ h9 ⟨rfl,e9⟩;rw[e9];clear e9;by_cases g:r.2=0∧0<r.1.length;rotate_left
 ·rw[if_neg g]at k;have:=k _ ((w.drop (i:=2) rfl).drop (i:=1) rfl);rw[show(r.2 != 21)=true by simpa using ge]at this;exact ct (decide_eq_true g) this
 rw[if_pos g]at k;refine cf (decide_eq_false λq=>q g) (Pm (w.keep _ _ hp) st λh5 k5=>?_);have w:=w.keeps k5;obtain⟨hx,k0,k1,wx,wr,back⟩:=w.on (i:=0) rfl;refine zq wx (wr.ro (E:=eP) 1 rfl (by decide)) ((bk.mono (m:=r.1.length+1) (by omega)).rm) λh10 w1=>?_;exact k _ (((back _ _ w1).drop (i:=2) rfl).drop (i:=1) rfl)
end
section
variable {h0 h:H}{b a c:Nat}{V:qi}{key:ByteArray}{data slots:Int}
theorem NL{Q:Int->H->Prop}(w:Wd h0 h (xx b a V))(v:rX V c 600)(tb:qG h0)
  (k:∀h',Wd h0 h' (xx b a (kg V key data slots).2)->Q (kg V key data slots).1 h'):fG (some ⟨b,0,none⟩) (some ⟨a,0,none⟩) key data slots h Q:=by
 unfold fG fG.g;unfold kg at k;have hn:=v.bk.ok.small;refine PR λh1 k1=>?_;have w:=w.keeps k1;refine M.aJ (λz h'=>z=decide (ov V.B key≠0∨¬iZ data slots 0 false∨(V.B.ds.length:Int)<data+2)∧h'=h1) (λJ hJ=>?_) ?_
 ·by_cases e1:key.size=32
  rotate_left
  ·exact ct (by simp;omega) (hJ _ _ ⟨dT (.inl (by unfold ov;rw[if_pos (.inl e1)];decide)),rfl⟩)
  refine cf (by simp[e1]) ?_;by_cases e:iZ data slots 0 false;rotate_left
  ·exact ct (by simp[e]) (hJ _ _ ⟨dT (.inr (.inl e)),rfl⟩)
  refine cf (by simp[e]) (E4 (w.on (i:=0) rfl).choose_spec.2.2.1 (M.vis (data+2) ?_ ?_))
  ·obtain⟨_,h2,h3,_⟩:=e;simp only[Bool.false_eq_true,if_false]at h3;exact qJ (by omega) (by omega)
  by_cases e2:(V.B.ds.length:Int)<data+2
  ·exact eA e2 (hJ _ _ ⟨dT (.inr (.inr e2)),rfl⟩)
  refine gJ e2 (Jk (w.on (i:=0) rfl).choose_spec.2.2.1 (by have:=e.2.1;omega) (hJ _ _ ⟨jU ?_,rfl⟩));rw[decide_eq_true_iff];constructor
  ·exact λg=>.inl (by unfold ov;rw[if_pos (.inr (by omega))];decide)
  ·rintro(g|g|g)
   ·unfold ov at g;by_cases e3:(V.B.iy 0).N.length<140
    ·omega
    ·rw[if_neg (by omega)]at g;simp at g
   ·exact absurd e g
   ·exact absurd g e2
 rintro _ h9 ⟨rfl,e9⟩;rw[e9];clear e9;by_cases e1:ov V.B key=0;rotate_left
 ·rw[if_pos e1]at k;have e12:ov V.B key=2:=by
   unfold ov at e1 ⊢;split
   ·rfl
   ·rename_i g;rw[if_neg g]at e1;exact absurd rfl e1
  refine ct (decide_eq_true (.inl e1)) ?_;rw[e12]at k;exact k _ w
 rw[if_neg (by simp[e1])]at k;have hkey:key.size=32:=by
  unfold ov at e1;by_cases e:key.size=32
  ·exact e
  ·rw[if_pos (.inl e)]at e1;simp at e1
 by_cases e2:¬iZ data slots 0 false∨(V.B.ds.length:Int)<data+2
 ·rw[if_pos e2]at k;exact ct (decide_eq_true (.inr e2)) (k _ w)
 rw[if_neg e2]at k;have hlg:iZ data slots 0 false:=Decidable.not_not.1 λg=>e2 (.inl g);obtain⟨hd,hd2,hd8,_⟩:=hlg;simp only[Bool.false_eq_true,if_false]at hd8;have hsl:=iC hd;refine cf (decide_eq_false λg=>g.elim (λx=>x e1) e2) (iU (M.gA (w.blk 1 rfl) rfl ?_));by_cases e3:V.cnt=0;rotate_left
 ·rw[if_pos e3]at k;exact ct (by simpa using e3) (k _ w)
 rw[if_neg (by simp[e3])]at k;refine cf (by simp[e3]) (M.aI w λp h7 w=>iU (M.bg (b:=p) (o:=6) w 2 rfl rfl (by simp) λh8 w=>M.aI w λb3 h7 w=>⟨rfl,M.bu w 3 rfl (by simp[ag]) rfl λh8 w=>?_⟩));have hS:∀m,mA key data slots V.B (m+1)=if(mA key data slots V.B m).1≠0 then mA key data slots V.B m else if(m:Int)<data+2 then jN (mA key data slots V.B m).2 key m slots (jR slots)else mA key data slots V.B m:=λm=>rfl
 have hB:∀m,m≤V.B.ds.length->Bk (mA key data slots V.B m).2 c (33*(V.B.ds.length-m)+60):=λm hm=>Bk.fmt hd m (v.bk.mono (by omega));have hN:∀m,(mA key data slots V.B m).2.ds.length=V.B.ds.length:=λm=>wX m;have hR0:mA key data slots V.B 0=(0,V.B):=rfl;dsimp only at k;generalize mA key data slots V.B=R at *;have hfail:∀m j,(R m).1≠0->R (m+j)=R m:=λm j h=>by
  induction j with
  | zero=>rfl
  | succ j ih=>rw[←Nat.add_assoc,hS,ih,if_pos h]
 generalize hnn:V.B.ds.length=n at *;have w:=(w.ju 3 1).ju 171 3;obtain⟨C,hC⟩:∃C:Array Value,C = #[.pointer (some ⟨b,0,none⟩),.pointer (some ⟨a,0,none⟩),.string key,.int .u64 0,.int .u64 0,.int .i64 0,.int .i64 slots,.int .i64 0,.int .i64 0,.bool false,.slice none 0 0,.slice none 0 0,.pointer none,.bool false]:=⟨_,rfl⟩;have st:JX C b a key slots:=by subst hC;exact⟨rfl,rfl,rfl,rfl⟩
 have w:Wd h0 h8 [fO b V.B,.blk a (kP V.cnt V.gw),.blk p (.cells C 83),.blk b3 (.cells (gI (fk data slots n) none 0 0 none 0 0).toArray 80),.sl 3 1 none 0 0 [],.sl 171 3 none 0 0 []]:=by subst hC;exact w
 clear hC
 refine M.aJ (λ_ h'=>(R n).1=0∧∃sa sc ma mc,Wd h0 h' [fO b (R n).2,.blk a (kP V.cnt V.gw),.blk p (.cells C 83),.blk b3 (.cells (gI (fk data slots n) sa (kA data n).length sc ma n mc).toArray 80),
  .sl 3 1 sa (kA data n).length sc (eI.row (kA data n)),.sl 171 3 ma n mc (ki.row ((List.range n).map (iA data slots)))]) (λJ hJ=>?_) ?_
 ·refine M.aM (I:=λ(q:Int) h'=>∃m:Nat,m≤n∧q=(m:Int)∧(R m).1=0∧∃sa sc ma mc,Wd h0 h' [fO b (R m).2,.blk a (kP V.cnt V.gw),.blk p (.cells C 83),.blk b3 (.cells (gI (fk data slots n) sa (kA data m).length sc ma m mc).toArray 80),
   .sl 3 1 sa (kA data m).length sc (eI.row (kA data m)),.sl 171 3 ma m mc (ki.row ((List.range m).map (iA data slots)))]) (μ:=λq=>(n-q).toNat) ⟨0,by omega,rfl,by rw[hR0],none,0,none,0,by rw[hR0];exact w⟩ ?_
  clear w;rintro q h9 J2 ⟨m,hm,rfl,hr,sa,sc,ma,mc,w⟩ hJ2;refine E4 (w.on (i:=0) rfl).choose_spec.2.2.1 ?_;rw[hN];by_cases g:m<n;rotate_left
  ·obtain rfl:m=n:=by omega
   exact gJ (by omega) (hJ () _ ⟨hr,sa,sc,ma,mc,w⟩)
  have hbm:=hB m hm;have e4:=hS m;rw[if_neg (by simp[hr])]at e4;have hsel:=uT data m;have hses:=vR data m
  refine eA (by omega) (M.aJ (λd h'=>∃b4,d=⟨b4,0,none⟩∧Wd h0 h' [fO b (R m).2,.blk a (kP V.cnt V.gw),.blk p (.cells C 83),.blk b3 (.cells (gI (fk data slots n) sa (kA data m).length sc ma m mc).toArray 80),
   .sl 3 1 sa (kA data m).length sc (eI.row (kA data m)),.sl 171 3 ma m mc (ki.row ((List.range m).map (iA data slots))),.blk b4 (.cells (ki.enc ⟨0,kN 32,gH⟩).toArray 171)]) (λJ1 hJ1=>?_) ?_)
  ·have eM:∀{h1:H} {K:ByteArray->H->Prop},bq h0 h1->(∀h',bq h1 h'->K gH h')->eZ h1 K:=λk kk=>Nk (tb.keep k) kk;have bS:∀{h1:H} {b5:Nat} {K:ByteArray->Prop},h1 b5=some (.cells (gz [Value.int .u8 0] (Int.toNat 32)).toArray 5)->K (kN 32)->M.x7 h1 (some ⟨b5,0,none⟩) (Int.toNat 32) K:=λhb kk=>M.A2 (zs:=List.replicate 32 0) (o:=0) (n:=32) hb (by decide) kk;refine⟨M.zM w (by decide) (by decide) (by decide) (by decide) λb5 h10 w=>⟨bS (w.blk 6 rfl) ⟨?_,?_⟩,?_,?_⟩,?_,?_⟩
   ·exact eM w.keep λh11 wG=>M.aI (w.keeps wG) λb4 h12 w=>⟨rfl,M.bu w 7 rfl (by simp[ag]) rfl λh13 w=>hJ1 _ _ ⟨b4,rfl,w.drop (i:=6) rfl⟩⟩
   ·exact M.aI w λb4 h11 w=>eM w.keep λh12 ye=>⟨rfl,M.bu (w.keeps ye) 7 rfl (by simp[ag]) rfl λh13 w=>hJ1 _ _ ⟨b4,rfl,w.drop (i:=6) rfl⟩⟩
   ·refine eM w.keep λh11 wG=>⟨?_,?_⟩
    ·exact bS ((w.keeps wG).blk 6 rfl) (M.aI (w.keeps wG) λb4 h12 w=>⟨rfl,M.bu w 7 rfl (by simp[ag]) rfl λh13 w=>hJ1 _ _ ⟨b4,rfl,w.drop (i:=6) rfl⟩⟩)
    ·exact M.aI (w.keeps wG) λb4 h12 w=>bS (w.blk 6 rfl) ⟨rfl,M.bu w 7 rfl (by simp[ag]) rfl λh13 w=>hJ1 _ _ ⟨b4,rfl,w.drop (i:=6) rfl⟩⟩
   ·refine M.aI w λb4 h11 w=>⟨?_,?_⟩
    ·exact bS (w.blk 6 rfl) (eM w.keep λh12 ye=>⟨rfl,M.bu (w.keeps ye) 7 rfl (by simp[ag]) rfl λh13 w=>hJ1 _ _ ⟨b4,rfl,w.drop (i:=6) rfl⟩⟩)
    ·exact eM w.keep λh12 ye=>bS ((w.keeps ye).blk 6 rfl) ⟨rfl,M.bu (w.keeps ye) 7 rfl (by simp[ag]) rfl λh13 w=>hJ1 _ _ ⟨b4,rfl,w.drop (i:=6) rfl⟩⟩
   ·refine eM w.keep λh11 wG=>⟨M.zM (w.keeps wG) (by decide) (by decide) (by decide) (by decide) λb5 h12 w=>⟨?_,?_⟩,?_⟩
    ·exact bS (w.blk 6 rfl) (M.aI w λb4 h12 w=>⟨rfl,M.bu w 7 rfl (by simp[ag]) rfl λh13 w=>hJ1 _ _ ⟨b4,rfl,w.drop (i:=6) rfl⟩⟩)
    ·exact M.aI w λb4 h12 w=>bS (w.blk 6 rfl) ⟨rfl,M.bu w 7 rfl (by simp[ag]) rfl λh13 w=>hJ1 _ _ ⟨b4,rfl,w.drop (i:=6) rfl⟩⟩
    ·exact M.aI (w.keeps wG) λb4 h12 w=>M.zM w (by decide) (by decide) (by decide) (by decide) λb5 h13 w=>bS (w.blk 7 rfl) ⟨rfl,M.bu w 6 rfl (by simp[ag]) rfl λh14 w=>hJ1 _ _ ⟨b4,rfl,w.drop (i:=7) rfl⟩⟩
   ·refine M.aI w λb4 h11 w=>⟨M.zM w (by decide) (by decide) (by decide) (by decide) λb5 h12 w=>⟨?_,?_⟩,?_⟩
    ·exact bS (w.blk 7 rfl) (eM w.keep λh13 EB=>⟨rfl,M.bu (w.keeps EB) 6 rfl (by simp[ag]) rfl λh14 w=>hJ1 _ _ ⟨b4,rfl,w.drop (i:=7) rfl⟩⟩)
    ·exact eM w.keep λh13 EB=>bS ((w.keeps EB).blk 7 rfl) ⟨rfl,M.bu (w.keeps EB) 6 rfl (by simp[ag]) rfl λh14 w=>hJ1 _ _ ⟨b4,rfl,w.drop (i:=7) rfl⟩⟩
    ·exact eM w.keep λh12 ye=>M.zM (w.keeps ye) (by decide) (by decide) (by decide) (by decide) λb5 h13 w=>bS (w.blk 7 rfl) ⟨rfl,M.bu w 6 rfl (by simp[ag]) rfl λh14 w=>hJ1 _ _ ⟨b4,rfl,w.drop (i:=7) rfl⟩⟩
  clear w;rintro _ h10 ⟨b4,rfl,w⟩
  refine M.aJ (λ_ h'=>(R (m+1)).1=0∧∃sa sc,Wd h0 h' [fO b (R (m+1)).2,.blk a (kP V.cnt V.gw),.blk p (.cells C 83),.blk b3 (.cells (gI (fk data slots n) sa (kA data (m+1)).length sc ma m mc).toArray 80),
   .sl 3 1 sa (kA data (m+1)).length sc (eI.row (kA data (m+1))),.sl 171 3 ma m mc (ki.row ((List.range m).map (iA data slots))),.blk b4 (.cells (ki.enc (iA data slots m)).toArray 171)]) (λJ3 hJ3=>M.vis (data+2) (qJ (by omega) (by omega)) ?_) ?_
  ·by_cases e5:(m:Int)<data+2
   rotate_left
   ·rw[if_neg e5]at e4 hses;refine gJ e5 (hJ3 () _ ⟨by rw[e4];exact hr,sa,sc,?_⟩);rw[e4,hses];have:iA data slots m=⟨0,kN 32,gH⟩:=by unfold iA;rw[if_neg e5]
    rw[this];exact w
   rw[if_pos e5]at e4 hses;refine eA e5 (Pm (w.blk 2 rfl) st λh14 N9=>?_);have w:=w.keeps N9;refine M.aI w λb7 h11 w=>⟨rfl,M.bu w 7 rfl (by simp[ag]) rfl λh12 w=>?_⟩;have hb7:=w.blk 7 rfl;refine M.oX hb7 rfl (M.gA hb7 rfl (M.gA hb7 rfl (M.oZ hb7 rfl ?_)));have hgs:iR (R m).2 (m:Int) slots key:=⟨hd,hkey,ak.j3.2 (by rw[hN];omega)⟩;refine Gg (w.on (i:=0) rfl).choose_spec.2.2.1 hgs (tb.keep w.keep) λa5 c5 h15 w15=>?_;have w:=w.join w15;clear w15;have hb7:=w.blk 7 rfl;refine M.oX hb7 rfl (M.gA hb7 rfl (M.gA hb7 rfl (M.oZ hb7 rfl ?_)));obtain⟨h17,k017,kk17,w17,wr17,back17⟩:=w.on (i:=0) rfl;have hbl:=wM hd;refine zq w17 (wr17.ro (E:=eP) 7 rfl (by decide)) ((hbm.mono (m:=(jR slots).length+1) (by omega)).rm) λh18 w18=>?_;have w:=((back17 _ _ w18).drop (i:=8) rfl).drop (i:=7) rfl;clear w17 wr17 back17 w18 kk17 k017;rw[←e4]at w ⊢;by_cases e6:(R (m+1)).1=0;rotate_left
   ·have hl:R n=R (m+1):=by
     have:=hfail (m+1) (n-(m+1)) e6
     rwa [show m+1+(n-(m+1))=n by omega]at this
    rw[hl,if_pos e6]at k;exact ct (by simpa using e6) (k _ (((((w.drop (i:=6) rfl).drop (i:=5) rfl).drop (i:=4) rfl).drop (i:=3) rfl).drop (i:=2) rfl))
   refine cf (by simp[e6]) (M.bg w 6 rfl rfl (by simp[ki]) λh19 w=>M.bg w 6 rfl rfl (by simp[ki]) λh20 w=>M.me (w.blk 3 rfl) rfl ?_);refine Wd.push w 4 rfl rfl rfl (eI.iq [(m:Int)]) (by omega) (by omega) λa6 c6 h21 w=>M.bg w 3 rfl rfl (by simp[gI]) λh22 w=>hJ3 () _ ⟨e6,a6,c6,?_⟩;have:iA data slots m=⟨1,jy slots,gH⟩:=by unfold iA;rw[if_pos e5]
   rw[hses,this,eI.iX,List.length_append];exact w
  ·clear w;rintro _ h14 ⟨hr',sa,sc,w⟩;refine M.me (w.blk 3 rfl) rfl (M.gA (w.blk 6 rfl) rfl (M.oZ (w.blk 6 rfl) rfl (M.oZ (w.blk 6 rfl) rfl ?_)));refine Wd.push w 5 rfl rfl rfl (ki.iq [iA data slots m]) (by omega) (by omega) λa6 c6 h21 w=>M.bg w 3 rfl rfl (by simp[gI]) λh22 w=>M.vis ((m+1:Nat):Int) (by rw[IntKind.wrap_i64];omega) (hJ2 _ _ ⟨m+1,by omega,rfl,hr',sa,sc,a6,c6,?_⟩ (by omega));rw[List.range_succ,List.map_append,ki.iX];exact w.drop (i:=6) rfl
 clear w;rintro _ h9 ⟨hr,sa,sc,ma,mc,w⟩;have hsel:=uT data n;rw[if_neg (by simp[hr])]at k;have vr:rX { V with B:=(R n).2 } c 25:=⟨(hB n (Nat.le_refl _)).mono (by omega),v.c0,v.c1⟩
 refine jY (s:=fk data slots n) (sa:=sa) (sl:=(kA data n).length) (sc:=sc) (ma:=ma) (ml:=n) (mc:=mc) (gK (w.blk 3 rfl)) ?_;obtain⟨h13,k013,kk13,w13,wr13,back13⟩:=w.split 3;refine GB (V:={ V with B:=(R n).2 }) (s:=fk data slots n) w13 st (wr13.ro (E:=eI) (xs:=kA data n) 1 rfl (by decide)) (wr13.ro (E:=ki) (xs:=(List.range n).map (iA data slots)) 2 rfl (by decide)) (by omega) (by omega) (sN _ _ _) vr (tb.keep k013) λh14 w14=>?_
 have w:=back13 _ _ w14;exact k _ ((((w.drop (i:=5) rfl).drop (i:=4) rfl).drop (i:=3) rfl).drop (i:=2) rfl)
end
def u5(b a:Nat)(key:ByteArray)(s:gE)(sa:Option Addr)(sl sc:Nat)(ma:Option Addr)(ml mc:Nat)(q:Option Addr):Array Value:=#[.pointer (some ⟨b,0,none⟩),.pointer (some ⟨a,0,none⟩),.string key,.int .u64 s.count,.int .u64 s.dI,.int .i64 s.data,.int .i64 s.slots,.int .i64 s.mark,.int .i64 s.built,.bool s.aH,
 .slice sa sl sc,.slice ma ml mc,.pointer q,.bool false]
theorem Mi{b a:Nat}{key:ByteArray}{s s2:gE}{sa ma sa2 ma2:Option Addr}{sl sc ml mc sl2 sc2 ml2 mc2:Nat}{q:Option Addr}:splice (u5 b a key s sa sl sc ma ml mc q) 3 (gI s2 sa2 sl2 sc2 ma2 ml2 mc2)=u5 b a key s2 sa2 sl2 sc2 ma2 ml2 mc2 q:=by simp only[u5,gI,bl,bs]
theorem Iw{b a:Nat}{key:ByteArray}{s:gE}{sa ma:Option Addr}{sl sc ml mc:Nat}{q:Option Addr}:JX (u5 b a key s sa sl sc ma ml mc q) b a key s.slots:=⟨rfl,rfl,rfl,rfl⟩
def Js(p b a:Nat)(key:ByteArray)(T:uY):Chunk:=Wd.obj (α:=Option Addr×Nat×Option Addr×Nat×Nat) (λ_=>T.Ok) λv=>[.blk p (.cells (xM b a key T v.1 v.2.1 v.2.2.1 v.2.2.2.1 v.2.2.2.2) 83),.sl 3 1 v.1 T.S.av.length v.2.1 (eI.row T.S.av),
 .sl 171 3 v.2.2.1 T.S.aj.length v.2.2.2.1 (ki.row T.S.aj),.blk v.2.2.2.2 (.cells #[.int .u64 T.S.dI,.int .u64 T.nx] 185)]
theorem OC{key:ByteArray}{n d:Int}{B:ak}{x:Mem}(h:¬x.oY):oJ key n B d x=(0,B):=if_pos h
theorem Lx{key:ByteArray}{n d:Int}{B:ak}{x:Mem}(h:x.oY):oJ key n B d x=Is key n B d x.log:=by
 unfold oJ;rw[if_neg (not_not.2 h)];rfl
section
variable {h0 h:H}{b a c:Nat}{V:qi}{key:ByteArray}
theorem O8{Q:Option Addr->Int->H->Prop}(w:Wd h0 h (xx b a V))(v:rX V c 1300)(hds:0<V.B.ds.length)(tb:qG h0)
  (k1:(hU V key).1≠0->∀h',Wd h0 h' (xx b a (hU V key).2.1)->Q none (hU V key).1 h')
  (k0:(hU V key).1=0->∀p h',Wd h0 h' (xx b a (hU V key).2.1++[Js p b a key (pG (hU V key).2.2)])->Q (some ⟨p,0,none⟩) 0 h'):gS (some ⟨b,0,none⟩) (some ⟨a,0,none⟩) key h Q:=by
 unfold gS gS.g;have hon:=vN (V:=V) (key:=key);unfold hU at k0 k1 hon;refine M.aJ (λz h'=>z=decide (ov V.B key≠0)∧h'=h) (λJ hJ=>?_) ?_
 ·by_cases e1:key.size=32
  rotate_left
  ·exact ct (by simp;omega) (hJ _ _ ⟨dT (by unfold ov;rw[if_pos (.inl e1)];decide),rfl⟩)
  refine cf (by simp[e1]) (Jk (w.on (i:=0) rfl).choose_spec.2.2.1 hds (hJ _ _ ⟨jU ?_,rfl⟩));rw[decide_eq_true_iff];unfold ov;by_cases e3:(V.B.iy 0).N.length<140
  ·rw[if_pos (.inr e3)];omega
  ·rw[if_neg (by omega)];omega
 rintro _ h9 ⟨rfl,e9⟩;rw[e9];clear e9;by_cases e1:ov V.B key=0;rotate_left
 ·rw[if_pos e1]at k1;have e12:ov V.B key=2:=by
   unfold ov at e1 ⊢;split
   ·rfl
   ·rename_i g;rw[if_neg g]at e1;exact absurd rfl e1
  refine ct (decide_eq_true e1) ?_;have:=k1 e1 _ w
  rwa [e12]at this
 have hc:2≤c:=by
  have hl:=v.bk.ln _ (rN (B:=V.B) (i:=0) (ak.j3.2 ⟨Int.le_refl 0,by omega⟩));unfold ov at e1;by_cases e3:(V.B.iy 0).N.length<140
  ·rw[if_pos (.inr e3)]at e1;simp at e1
  ·omega
 rw[if_neg (by simp[e1])]at k0 k1 hon;refine cf (by simp[e1]) (iU (M.gA (w.blk 1 rfl) rfl ?_));by_cases e2:V.cnt=0
 ·rw[if_pos e2]at k1;exact ct (by simp[e2]) (k1 (show(11:Int)≠0 by decide) _ w)
 rw[if_neg e2]at k0 k1 hon;refine cf (by simpa using e2) (M.aI w λp h2 w=>?_);have w:Wd h0 h2 [fO b V.B,.blk a (kP V.cnt V.gw),.blk p (.cells (u5 b a key mU none 0 0 none 0 0 none) 83)]:=w;refine QW w Iw (v.bk.mono (by omega)) hc (tb.keep w.keep) (λef a1 c1 a2 c2 h5 w5=>?_) λef h5 k5=>?_;rotate_left
 ·have w:=w.keeps k5;rw[if_pos ef]at k1;refine M.aI w λb2 h6 w=>⟨rfl,M.bu w 3 rfl (by simp[ag]) rfl λh7 w=>?_⟩;exact ct (by simpa using ef) (k1 ef _ ((w.drop (i:=3) rfl).drop (i:=2) rfl))
 have w:=w.join w5;clear w5;rw[if_neg (by simp[ef])]at k0 k1 hon;obtain⟨hg,hbig,hlen⟩:=qo ef;generalize (ij V.B V.gw).2=s at *;refine M.aI w λb2 h6 w=>⟨rfl,M.bu w 5 rfl (by simp[ag]) rfl λh7 w=>cf rfl (M.gA (w.blk 5 rfl) rfl ?_)⟩;by_cases e3:s.dI≥4294967295
 ·rw[if_pos e3]at k1;exact eA e3 (k1 (show(25:Int)≠0 by decide) _ ((((w.drop (i:=5) rfl).drop (i:=4) rfl).drop (i:=3) rfl).drop (i:=2) rfl))
 rw[if_neg e3]at k0 k1 hon;refine gJ e3 (jY (s:=s) (sa:=a1) (sl:=s.av.length) (sc:=c1) (ma:=a2) (ml:=s.aj.length) (mc:=c2) (gK (w.blk 5 rfl)) (iU ⟨rfl,M.HL (b:=p) (o:=3) w 2 rfl (by simp[ag]) (show(12:Nat)≤14 by decide) λh8 w=>?_⟩));rw[show([.int .u64 s.count,.int .u64 s.dI,.int .i64 s.data,.int .i64 s.slots,.int .i64 s.mark,.int .i64 s.built,.bool s.aH,.slice a1 s.av.length c1,.slice a2 s.aj.length c2]:List Value)=gI s a1 s.av.length c1 a2 s.aj.length c2 from rfl,Mi]at w;have hn:=v.bk.ok.small
 have w:Wd h0 h8 [fO b V.B,.blk a (kP V.cnt V.gw),.blk p (.cells (u5 b a key s a1 s.av.length c1 a2 s.aj.length c2 none) 83),.sl 3 1 a1 s.av.length c1 (eI.row s.av),.sl 171 3 a2 s.aj.length c2 (ki.row s.aj),
  .blk b2 (.cells (gI s a1 s.av.length c1 a2 s.aj.length c2).toArray 80)]:=w
 have hS:∀m,kS key s V.B (m+1)=if(kS key s V.B m).1≠0 then kS key s V.B m else
   (if(oJ key s.slots (kS key s V.B m).2 m (mb s.aj m)).1=21 then 21 else 0,(oJ key s.slots (kS key s V.B m).2 m (mb s.aj m)).2):=λm=>rfl
 have hB:∀m,m≤s.aj.length->Bk (kS key s V.B m).2 c (96*(s.aj.length-m)+100):=λm hm=>Bk.rep m (v.bk.mono (by omega));have hR0:kS key s V.B 0=(0,V.B):=rfl;dsimp only at k0 k1 hon;generalize kS key s V.B=R at *;have hfail:∀m j,(R m).1≠0->R (m+j)=R m:=λm j h=>by
  induction j with
  | zero=>rfl
  | succ j ih=>rw[←Nat.add_assoc,hS,ih,if_pos h]
 generalize hml:s.aj.length=ml at *;refine M.aJ (λ_ h'=>(R ml).1=0∧Wd h0 h' [fO b (R ml).2,.blk a (kP V.cnt V.gw),.blk p (.cells (u5 b a key s a1 s.av.length c1 a2 ml c2 none) 83),.sl 3 1 a1 s.av.length c1 (eI.row s.av),.sl 171 3 a2 ml c2 (ki.row s.aj)]) (λJ hJ=>?_) ?_
 ·refine M.aM (I:=λ(q:Int) h'=>∃m:Nat,m≤ml∧q=(m:Int)∧(R m).1=0∧Wd h0 h' [fO b (R m).2,.blk a (kP V.cnt V.gw),.blk p (.cells (u5 b a key s a1 s.av.length c1 a2 ml c2 none) 83),.sl 3 1 a1 s.av.length c1 (eI.row s.av),.sl 171 3 a2 ml c2 (ki.row s.aj),
   .blk b2 (.cells (gI s a1 s.av.length c1 a2 ml c2).toArray 80)]) (μ:=λq=>(ml-q).toNat) ⟨0,by omega,rfl,by rw[hR0],by rw[hR0];exact w⟩ ?_
  clear w;rintro q h9 J2 ⟨m,hm,rfl,hr,w⟩ hJ2;refine M.me (w.blk 5 rfl) rfl ?_;by_cases g:m<ml;rotate_left
  ·obtain rfl:m=ml:=by omega
   exact gJ (by omega) (hJ () _ ⟨hr,w.drop (i:=5) rfl⟩)
  have hbm:=hB m hm;have e4:=hS m;rw[if_neg (by simp[hr])]at e4
  have ht:(R (m+1)).1=0->∀h',Wd h0 h' [fO b (R (m+1)).2,.blk a (kP V.cnt V.gw),.blk p (.cells (u5 b a key s a1 s.av.length c1 a2 ml c2 none) 83),.sl 3 1 a1 s.av.length c1 (eI.row s.av),.sl 171 3 a2 ml c2 (ki.row s.aj),
   .blk b2 (.cells (gI s a1 s.av.length c1 a2 ml c2).toArray 80)]->M.val (IntKind.wrap .i64 ((m:Int)+1)) λz=>J2 z h':=λe h' w=>
   M.vis ((m+1:Nat):Int) (by rw[IntKind.wrap_i64];omega) (hJ2 _ _ ⟨m+1,by omega,rfl,e,w⟩ (by omega))
  refine eA (by omega) (M.jn (M.me (w.blk 5 rfl) rfl (Ro.BY (w.ro (E:=ki) 4 rfl (by decide)) (by omega) (by omega) (Pp λh10 Pj=>?_))));have w:=w.keeps Pj;rw[Int.toNat_natCast];by_cases e5:(mb s.aj m).oY;rotate_left
  ·rw[OC e5]at e4;refine cf (decide_eq_false e5) (ht (by rw[e4];rfl) _ ?_);rw[e4];exact w
  rw[Lx e5]at e4;refine ct (decide_eq_true e5) (M.me (w.blk 5 rfl) rfl ?_);refine(w.ro (E:=ki) 4 rfl (by decide)).at (by omega) (by omega) λx hi hx=>?_;have c2':h10.cell ((x.add ((m:Int).toNat * 3)).add 2)=some (.string (s.aj[(m:Int).toNat]).log):=hx 2 (by decide);rw[←mM hi,Int.toNat_natCast]at c2';refine⟨_,c2',_,rfl,?_⟩;obtain⟨h11,k011,kk11,w11,wr11,back11⟩:=w.on (i:=0) rfl;refine N5 (key:=key) (n:=s.slots) w11 (wr11.blk 1 rfl) Iw (hbm.mono (by omega)) (tb.keep k011) λh12 w12=>?_;have w:=back11 _ _ w12;clear w11 wr11 back11 w12 kk11 k011;generalize Is key s.slots (R m).2 m (mb s.aj m).log=r at *
  have w:Wd h0 h12 [fO b (R (m+1)).2,.blk a (kP V.cnt V.gw),.blk p (.cells (u5 b a key s a1 s.av.length c1 a2 ml c2 none) 83),.sl 3 1 a1 s.av.length c1 (eI.row s.av),.sl 171 3 a2 ml c2 (ki.row s.aj),
   .blk b2 (.cells (gI s a1 s.av.length c1 a2 ml c2).toArray 80)]:=by rw[e4];exact w
  by_cases e7:r.1=21
  ·rw[if_pos e7]at e4;have hl:R ml=R (m+1):=by
    have:=hfail (m+1) (ml-(m+1)) (by rw[e4];simp)
    rwa [show m+1+(ml-(m+1))=ml by omega]at this
   have h21:(R (m+1)).1=21:=by rw[e4]
   rw[hl,h21,if_pos (by decide)]at k1;refine ct (by simp[e7]) ?_;exact k1 (show(21:Int)≠0 by decide) _ ((((w.drop (i:=5) rfl).drop (i:=4) rfl).drop (i:=3) rfl).drop (i:=2) rfl)
  ·rw[if_neg e7]at e4;exact cf (by simpa using e7) (ht (by rw[e4]) _ w)
 clear w;rintro _ h9 ⟨hr,w⟩;have hrep:Bk (R ml).2 c 100:=(hB ml (Nat.le_refl _)).mono (by omega);generalize R ml=r at *;rw[if_neg (by simp[hr])]at k0 k1 hon;have hbp:=w.blk 2 rfl;refine iU (M.gA hbp rfl (M.vis (Dv (s.count+1)) rfl (iU (M.bg (b:=p) (o:=3) w 2 rfl rfl (by simp[u5]) λh10 w=>iU (M.gA (w.blk 2 rfl) rfl (M.vis (Dv (s.dI+1)) rfl (iU (M.bg (b:=p) (o:=4) w 2 rfl rfl (by simp[u5]) λh11 w=>?_))))))));have hnl:s.next.aj.length=ml:=by simp[gE.next,hml]
 have w:Wd h0 h11 [fO b r.2,.blk a (kP V.cnt V.gw),.blk p (.cells (u5 b a key s.next a1 s.av.length c1 a2 ml c2 none) 83),.sl 3 1 a1 s.av.length c1 (eI.row s.av),.sl 171 3 a2 ml c2 (ki.row s.aj)]:=w
 refine M.aJ (λ_ h'=>Wd h0 h' [fO b r.2,.blk a (kP V.cnt V.gw),.blk p (.cells (u5 b a key s.next a1 s.av.length c1 a2 ml c2 none) 83),.sl 3 1 a1 s.av.length c1 (eI.row s.av),.sl 171 3 a2 ml c2 (ki.row s.next.aj)]) (λJ hJ=>?_) ?_
 ·refine M.aM (I:=λ(q:Int) h'=>∃m:Nat,m≤ml∧q=(m:Int)∧Wd h0 h' [fO b r.2,.blk a (kP V.cnt V.gw),.blk p (.cells (u5 b a key s.next a1 s.av.length c1 a2 ml c2 none) 83),.sl 3 1 a1 s.av.length c1 (eI.row s.av),.sl 171 3 a2 ml c2 (ki.row (s.next.aj.take m++s.aj.drop m))]) (μ:=λq=>(ml-q).toNat) ⟨0,by omega,rfl,by simpa using w⟩ ?_
  clear w;rintro q h12 J2 ⟨m,hm,rfl,w⟩ hJ2;refine iU (M.me (w.blk 2 rfl) rfl ?_);by_cases g:m<ml
  ·refine eA (by omega) (iU (M.me (w.blk 2 rfl) rfl (Nk (tb.keep w.keep) λh13 EB=>M.cO EB ⟨_,w.blk 2 rfl⟩ ?_)));have w:=w.keeps EB;have hl2:m<(s.next.aj.take m++s.aj.drop m).length:=by simp[hnl];omega
   have hg2:(s.next.aj.take m++s.aj.drop m)[m]=s.aj[m]:=by
    rw[List.getElem_append_right (by simp;omega)];simp[hnl,Nat.min_eq_left hm]
   refine uz ki w 4 rfl (z:=m) (o:=2) rfl hl2 (by decide) rfl { s.aj[m]with log:=gH } (by rw[hg2];rfl) λh14 w=>?_;refine M.vis ((m+1:Nat):Int) (by rw[IntKind.wrap_i64];omega) (hJ2 _ _ ⟨m+1,by omega,rfl,?_⟩ (by omega));have hs:(s.next.aj.take m++s.aj.drop m).set m { s.aj[m]with log:=gH } = s.next.aj.take (m+1)++s.aj.drop (m+1):=by
    rw[List.set_append_right _ _ (by simp;omega),List.length_take,hnl,Nat.min_eq_left hm,Nat.sub_self,List.drop_eq_getElem_cons (by omega),List.set_cons_zero,List.take_succ_eq_append_getElem (by omega),List.append_assoc];simp[gE.next]
   rw[←hs];exact w
  ·obtain rfl:m=ml:=by omega
   rw[List.take_of_length_le (by omega),List.drop_of_length_le (by omega),List.append_nil]at w;exact gJ (by omega) (hJ () _ w)
 clear w;rintro _ h12 w;have hns:s.next.av=s.av:=rfl
 have vr:rX { V with B:=r.2 } c 25:=⟨hrep.mono (by omega),v.c0,v.c1⟩
 refine iU (jY (s:=s.next) (sa:=a1) (sl:=s.av.length) (sc:=c1) (ma:=a2) (ml:=ml) (mc:=c2) (o5 (w.blk 2 rfl) rfl) ?_)
 obtain⟨h13,k013,kk13,w13,wr13,back13⟩:=w.split 3;refine GB (V:={ V with B:=r.2 }) w13 (n:=s.slots) Iw (wr13.ro (E:=eI) 0 rfl (by decide)) (by have:=wr13.ro (E:=ki) (xs:=s.next.aj) 1 rfl (by decide);exact this) (by omega) (by have:=hg.len;omega) (gE.uy _) vr (tb.keep k013) λh14 w14=>?_
 have w:=back13 _ _ w14;clear w13 wr13 back13 w14 kk13 k013;generalize iY { V with B:=r.2 } s.next=P at *
 by_cases e5:P.1=0
 rotate_left
 ·rw[if_pos e5]at k1;exact ct (by simpa using e5) (k1 e5 _ (((w.drop (i:=4) rfl).drop (i:=3) rfl).drop (i:=2) rfl))
 rw[if_neg (by simp[e5])]at k0 k1 hon;obtain⟨q1,q2,q3,q4,q5,q6,q7⟩:=hon rfl;refine cf (by simp[e5]) (iU (M.gA (w.blk 2 rfl) rfl (M.aI w λb3 h15 w=>iU (M.bg (b:=p) (o:=12) w 2 rfl rfl (by simp[u5]) λh16 w=>k0 rfl p h16 ?_))));have w':Wd h0 h16 (xx b a P.2++[.blk p (.cells (xM b a key (pG s.next) a1 c1 a2 c2 b3) 83),.sl 3 1 a1 s.next.av.length c1 (eI.row s.next.av),.sl 171 3 a2 s.next.aj.length c2 (ki.row s.next.aj),.blk b3 (.cells #[.int .u64 s.next.dI,.int .u64 0] 185)]):=by
  unfold xM;rw[show(pG s.next).S.aj.length=ml from hnl,hnl]
  exact w
 exact w'.close 2 (a1,c1,a2,c2,b3) rfl ⟨q1.fit,q2,⟨q5,q4⟩,Int.le_refl 0,show(0:Int)≤4294967296 by decide⟩
end
def Iy:Prop:=dQ 2 (ia S2)≠dQ 2 (ia (S3 jf))
theorem IF{h h':H}{a:Addr}{n:Nat}{K:Prop}{ob:Obj}(h1:h a.block=some ob)(h2:h' a.block=some ob)(q:K):M.still h a n h' K:=⟨λi _=>by unfold H.cell;rw[Cp,h1,h2],q⟩
theorem OR{h:H}{x:Addr}{n:Nat}{K:Prop}(k:K):M.still h x n h K:=⟨λ_ _=>rfl,k⟩
section
variable {h0 h:H}
theorem Oh{b:Nat}{B:ak}{K:Addr->Int->Prop}(w:Wd h0 h [fO b B])(k:K ⟨b,0,none⟩ B.steps):M.nn (some ⟨b,0,none⟩) λa36=>M.load h (Addr.add a36 1) λv=>M.int .i64 v λn=>K a36 n:=by
 obtain⟨v,⟨ok,hl⟩,w⟩:=w.sM 0 rfl;exact iU (M.gA (w.blk 0 rfl) rfl k)
theorem Jx{s:gE}{sa ma ra rm:Option Addr}{sl sc ml mc rl rc nl nc:Nat}{Q:Bool->H->Prop}(f1:Ro eI h sa sl s.av)(f:Ro ki h ma ml s.aj)(g1:Ro eI h ra rl s.av)(g:Ro ki h rm nl s.aj)
  (gd:s.good) (hb:s.jj) (k:∀h',bq h h'->Q true h'):cQ s.count s.dI s.data s.slots s.mark s.built s.aH sa sl sc ma ml mc s.count s.dI s.data s.slots s.mark s.built s.aH ra rl rc rm nl nc h Q:=by
 unfold cQ;have hgl:=gd.len;have e1:=f1.len;have e2:=f.len;have e3:=g1.len;have e4:=g.len;refine M.aI (Wd.start h) λb1 h1 w=>M.aI w λb2 h2 w=>jY (s:=s) (gK (w.blk 0 rfl)) (Br (f1.keep w.keep) (f.keep w.keep) (by omega) (by omega) hb.1 hb.2 λh3 k3=>?_);have w:=w.keeps k3;refine jY (s:=s) (gK (w.blk 1 rfl)) (LI (g1.keep w.keep) (g.keep w.keep) (by omega) (by omega) (λ_=>hb) λh4 k4=>?_);rw[if_pos gd,if_pos gd];refine M.jn (ct rfl (ct rfl ?_));have:mH (nC s) (nC s)=true:=by rw[jX];exact decide_eq_true rfl
 rw[this];exact k _ (w.keep.trans k4)
theorem HQ{q:Option Addr}{key:ByteArray}{d s:Int}{Q:Int->H->Prop}(k:∀h',bq h0 h'->Q 1 h'):ck none q key d s h0 Q:=by
 unfold ck ck.g;refine M.aI (Wd.start h0) λb1 h1 w=>⟨rfl,M.bu w 0 rfl (by simp[ag]) rfl λh2 w=>nG (w.blk 0 rfl) rfl rfl rfl (Mg λh3 k3=>ct rfl (k _ (w.keep.trans k3)))⟩
theorem GS{q:Addr}{key:ByteArray}{d s:Int}{Q:Int->H->Prop}(k:∀h',bq h0 h'->Q 1 h'):ck (some q) none key d s h0 Q:=by
 unfold ck ck.g;refine M.aI (Wd.start h0) λb1 h1 w=>⟨rfl,M.bu w 0 rfl (by simp[ag]) rfl λh2 w=>nG (w.blk 0 rfl) rfl rfl rfl (Ln λh3 k3=>ct rfl (k _ (w.keep.trans k3)))⟩
theorem Gz{x0 x1 x2 x3:Int}{Q:Bool->H->Prop}(tb:qG h)(tl:AY h)(hne:Iy)(k:∀h',bq h h'->Q true h'):aZ x0 x1 x2 x3 h Q:=by
 unfold aZ aZ.g;refine M.aI (Wd.start h) λb0 h1 w=>bNew λb h2 w2=>?_;have w:=w.join w2;refine Q4 λr h3 w3=>?_;have w:=w.join w3;refine C3 λa h4 w4=>?_;have w:=w.join w4;refine M.aI w λra h5 w=>?_;clear w2 w3 w4;have vo:=I6 x0 x1;have hd0:0<(ak.new x0 x1).ds.length:=(ak.wI x0 x1).pos;generalize (mx 1 (mn x1 512)).toNat=c at *;generalize ak.new x0 x1=B0 at *;have w:Wd h h5 [.blk b0 (.cells #[.int .i64 x2,.int .i64 x3] 62),dH b B0,fO r B0,.blk a (mK 0 ByteArray.empty),.blk ra (kP 0 ByteArray.empty)]:=w;have w:=(w.mv (i:=0) rfl).mv (i:=1) rfl;have w:Wd h h5 [dH b B0,.blk a (mK 0 ByteArray.empty),.blk ra (kP 0 ByteArray.empty),.blk b0 (.cells #[.int .i64 x2,.int .i64 x3] 62),fO r B0]:=w;have w:=(w.mv (i:=2) rfl).mv (i:=2) rfl;have w:Wd h h5 [dH b B0,.blk a (mK 0 ByteArray.empty),fO r B0,.blk ra (kP 0 ByteArray.empty),.blk b0 (.cells #[.int .i64 x2,.int .i64 x3] 62)]:=w;refine M.aJ (λ_ h'=>bq h h') (λJ hJ=>M.aI w λbk h6 w=>?_) ?_;rotate_left
 ·rintro _ h6 k6;refine M.jn (N0 (tb.toTabs.keep k6) (tl.keep k6) hne λh7 k7=>ct rfl (HQ λh8 k8=>ct rfl (GS λh9 k9=>?_)));exact k _ (((k6.trans k7).trans k8).trans k9)
 have w:Wd h h6 [dH b B0,.blk a (mK 0 ByteArray.empty),fO r B0,.blk ra (kP 0 ByteArray.empty),.blk b0 (.cells #[.int .i64 x2,.int .i64 x3] 62),.blk bk (.cells #[.string ⟨#[115,104,111,114,116]⟩,.string jo,.string jo] 9)]:=w;refine M.aM (I:=λ(i:Int) h'=>∃(m:Nat) (V:qi),m≤3∧i=(m:Int)∧rX V c (900000-2000*m)∧0<V.B.ds.length∧Wd h h' [dH b V.B,.blk a (mK V.cnt V.gw),fO r V.B,.blk ra (kP V.cnt V.gw),.blk b0 (.cells #[.int .i64 x2,.int .i64 x3] 62),.blk bk (.cells #[.string ⟨#[115,104,111,114,116]⟩,.string jo,.string jo] 9)])
  (μ:=λi=>(3-i).toNat) ⟨0,⟨B0,0,ByteArray.empty⟩,by omega,rfl,vo.mono (by omega),hd0,w⟩ ?_
 clear w vo hd0;rintro i h7 J2 ⟨m,V,hm,rfl,vo,hd,w⟩ hJ2;by_cases g:m<3;rotate_left
 ·exact gJ (by omega) (hJ () _ w.keep)
 refine eA (by omega) (Ro.u7 (xs:=[⟨#[115,104,111,114,116]⟩,jo,jo]) (Ro.DH (w.blk 5 rfl) rfl rfl) (by omega) (by omega) ?_);rw[Int.toNat_natCast];generalize sa [⟨#[115,104,111,114,116]⟩,jo,jo] m=key;have hb0:=w.blk 4 rfl;refine M.aJ (λz h'=>z=false∧Wd h h' [dH b (kg V key x2 x3).2.B,.blk a (mK (kg V key x2 x3).2.cnt (kg V key x2 x3).2.gw),fO r (kg V key x2 x3).2.B,.blk ra (kP (kg V key x2 x3).2.cnt (kg V key x2 x3).2.gw),.blk b0 (.cells #[.int .i64 x2,.int .i64 x3] 62),.blk bk (.cells #[.string ⟨#[115,104,111,114,116]⟩,.string jo,.string jo] 9)])
  (λJ3 hJ3=>⟨by decide,by decide,M.gA hb0 rfl ⟨by decide,by decide,M.gA hb0 rfl ⟨by decide,by decide,M.gA hb0 rfl ⟨by decide,by decide,M.gA hb0 rfl ?_⟩⟩⟩⟩) ?_
 ·obtain⟨hx,kx0,kx1,wx,wr,back⟩:=w.split 2;refine y8 wx (vo.mono (by omega)) (tb.toTabs.keep kx0) (tl.keep kx0) λh8 w8=>?_;have w:=back _ _ w8;clear wx wr back w8;have hb8:h8 b0=some (.cells #[.int .i64 x2,.int .i64 x3] 62):=w.blk 4 rfl;refine IF hb0 hb8 (IF hb0 hb8 ?_);have w:=(w.mv (i:=0) rfl).mv (i:=0) rfl;obtain⟨hx,kx0,kx1,wx,wr,back⟩:=w.split 2;refine NL wx (vo.mono (by omega)) (tb.keep kx0) λh9 w9=>?_;have w:=back _ _ w9;clear wx wr back w9;have w:=(((w.mv (i:=0) rfl).mv (i:=0) rfl).mv (i:=0) rfl).mv (i:=0) rfl;exact cf (bne_self_eq_false _) (Oh (w.on (i:=2) rfl).choose_spec.2.2.1 (PI (w.on (i:=0) rfl).choose_spec.2.2.1 (OR (hJ3 _ _ ⟨bne_self_eq_false _,w⟩))))
 clear w hb0;rintro _ h8 ⟨rfl,w⟩;have vo:=(show rX V c ((899500-2000*m)+500)from vo.mono (by omega)).fmt key x2 x3;have hd:0<(kg V key x2 x3).2.B.ds.length:=by rw[Ke];exact hd
 generalize (kg V key x2 x3).2=V at *;refine cf rfl ?_;obtain⟨hx,kx0,kx1,wx,wr,back⟩:=w.split 2;have voo:=(show rX V c ((898000-2000*m)+1200)from vo.mono (by omega)).sM key;have hdo:0<(hU V key).2.1.B.ds.length:=by rw[NF];exact hd
 have hgo:=vN (V:=V) (key:=key);have nxt:∀h',Wd h h' [dH b (hU V key).2.1.B,.blk a (mK (hU V key).2.1.cnt (hU V key).2.1.gw),fO r (hU V key).2.1.B,.blk ra (kP (hU V key).2.1.cnt (hU V key).2.1.gw),.blk b0 (.cells #[.int .i64 x2,.int .i64 x3] 62),.blk bk (.cells #[.string ⟨#[115,104,111,114,116]⟩,.string jo,.string jo] 9)] ->
   M.val (IntKind.wrap .i64 ((m:Int)+1)) λz=>J2 z h':=λh' w=>
  M.vis ((m+1:Nat):Int) (by rw[IntKind.wrap_i64];omega) (hJ2 _ _ ⟨m+1,(hU V key).2.1,by omega,rfl,voo.mono (by omega),hdo,w⟩ (by omega))
 refine yl wx (vo.mono (by omega)) (tb.toTabs.keep kx0) (λeo h9 w9=>?_) λeo p h9 w9=>?_
 ·have w:=back _ _ w9;clear wx wr back w9;have w:=(w.mv (i:=0) rfl).mv (i:=0) rfl;obtain⟨hx,kx0,kx1,wx,wr,back⟩:=w.split 2;refine O8 wx (vo.mono (by omega)) hd (tb.keep kx0) (λ_ h10 w10=>?_) λe=>absurd e eo;have w:=back _ _ w10;have w:=(((w.mv (i:=0) rfl).mv (i:=0) rfl).mv (i:=0) rfl).mv (i:=0) rfl;exact M.jn (cf (by simp) (cf rfl (nxt _ w)))
 ·have w:=back _ _ w9;clear wx wr back w9;have w:=((w.mv (i:=0) rfl).mv (i:=0) rfl).mv (i:=0) rfl;obtain⟨hx,kx0,kx1,wx,wr,back⟩:=w.split 2;refine O8 wx (vo.mono (by omega)) hd (tb.keep kx0) (λe=>absurd eo e) λ_ q h10 w10=>?_;have w:=back _ _ w10;clear wx wr back w10;obtain⟨g1,g2,g3,_⟩:=hgo eo
  have w:Wd h h10 [fO r (hU V key).2.1.B,.blk ra (kP (hU V key).2.1.cnt (hU V key).2.1.gw),Js q r ra key (pG (hU V key).2.2),.blk b0 (.cells #[.int .i64 x2,.int .i64 x3] 62),.blk bk (.cells #[.string ⟨#[115,104,111,114,116]⟩,.string jo,.string jo] 9),
   dH b (hU V key).2.1.B,.blk a (mK (hU V key).2.1.cnt (hU V key).2.1.gw),jP p b a key (pG (hU V key).2.2)]:=w
  obtain⟨⟨sa,sc,ma,mc,src⟩,okT,w⟩:=w.sM 2 rfl
  have w:Wd h h10 [fO r (hU V key).2.1.B,.blk ra (kP (hU V key).2.1.cnt (hU V key).2.1.gw),.blk b0 (.cells #[.int .i64 x2,.int .i64 x3] 62),.blk bk (.cells #[.string ⟨#[115,104,111,114,116]⟩,.string jo,.string jo] 9),
   dH b (hU V key).2.1.B,.blk a (mK (hU V key).2.1.cnt (hU V key).2.1.gw),jP p b a key (pG (hU V key).2.2),.blk q (.cells (xM r ra key (pG (hU V key).2.2) sa sc ma mc src) 83),.sl 3 1 sa (hU V key).2.2.av.length sc (eI.row (hU V key).2.2.av),.sl 171 3 ma (hU V key).2.2.aj.length mc (ki.row (hU V key).2.2.aj),.blk src (.cells #[.int .u64 (hU V key).2.2.dI,.int .u64 0] 185)]:=w
  have hbq:=w.blk 7 rfl;generalize hS:(hU V key).2.2=S at *;refine M.jn (cf (by simp) (ct rfl (iU (jY (s:=S) (sa:=sa) (sl:=S.av.length) (sc:=sc) (ma:=ma) (ml:=S.aj.length) (mc:=mc) (o5 hbq rfl) ?_))));refine pO (w.on (i:=6) rfl).choose_spec.2.2.1 λa4 c4 a5 c5 h11 w11=>M.cO w11.keep ⟨_,hbq⟩ ?_;have wk:=w.keeps w11.keep;refine Jx (s:=S) (w11.ro (E:=eI) 0 rfl (by decide)) (w11.ro (E:=ki) 1 rfl (by decide)) (wk.ro (E:=eI) (xs:=S.av) 8 rfl (by decide)) (wk.ro (E:=ki) (xs:=S.aj) 9 rfl (by decide)) g1 g2 λh12 ye=>?_;have w:=wk.keeps ye;have w:=((((w.drop (i:=10) rfl).drop (i:=9) rfl).drop (i:=8) rfl).drop (i:=7) rfl).drop (i:=6) rfl;have w:=(((w.mv (i:=0) rfl).mv (i:=0) rfl).mv (i:=0) rfl).mv (i:=0) rfl;exact cf rfl (nxt _ w)
end
end Go.Proofs.YtmfcgihgdhfalaaGreatDoor
namespace Go.Proofs.YtmfcgihgdhfalaaGreatDoor
open Go.Sh Go.RowKit Go.ChangeShapes Go.WideShapes Go.ChangeAt
theorem Rn:Tryz.prog.globalNamed "cofferdam/cofferdamref05.first" = some 2:=by kernel_rfl
theorem QN:Tryz.prog.globalNamed "cofferdam/cofferdamref05.round" = some 5:=by kernel_rfl
theorem Rp:Tryz.prog.globalNamed "cofferdam/layout.sizes" = some 0:=by kernel_rfl
theorem Sk:(Rows.laid_cofferdam_cofferdamref05_first:DataW Unit)=Lib.tabData .u32 (KZ S8.first.l):=by kernel_rfl
theorem Si:(Rows.laid_cofferdam_cofferdamref05_round:DataW Unit)=Lib.tabData .u32 (KZ tu):=by kernel_rfl
theorem RM:(Rows.laid_cofferdam_layout_sizes:DataW Unit)=Lib.tabData .i64 [2,4,8,16]:=by kernel_rfl
theorem y3{W:World}(h:laidMetH Tryz.prog [("cofferdam/cofferdamref05.first",Rows.laid_cofferdam_cofferdamref05_first),("cofferdam/cofferdamref05.round",Rows.laid_cofferdam_cofferdamref05_round),("math/bits.deBruijn32tab",Rows.laid_math_bits_deBruijn32tab),("math/bits.deBruijn64tab",Rows.laid_math_bits_deBruijn64tab),("cofferdam/layout.sizes",Rows.laid_cofferdam_layout_sizes),("cofferdam/sha.first",Rows.laid_cofferdam_sha_first),("cofferdam/sha.round",Rows.laid_cofferdam_sha_round)] W):qG (hp W)∧AY (hp W):=by
 have h:laidMet Tryz.prog [("cofferdam/cofferdamref05.first",Rows.laid_cofferdam_cofferdamref05_first),("cofferdam/cofferdamref05.round",Rows.laid_cofferdam_cofferdamref05_round),("math/bits.deBruijn32tab",Rows.laid_math_bits_deBruijn32tab),("math/bits.deBruijn64tab",Rows.laid_math_bits_deBruijn64tab),("cofferdam/layout.sizes",Rows.laid_cofferdam_layout_sizes),("cofferdam/sha.first",Rows.laid_cofferdam_sha_first),("cofferdam/sha.round",Rows.laid_cofferdam_sha_round)] W:=h
 rw[RI,R6,Sk,Si,RG,RM]at h;have t2:=Lib.tabIs_of_head Rn (by kernel_rfl) Tryz.underlying365 Tryz.underlying230 (by kernel_rfl) (by kernel_rfl) h;have h:=laidMet.tail h;have t3:=Lib.tabIs_of_head QN (by kernel_rfl) Tryz.underlying402 Tryz.underlying230 (by kernel_rfl) (by kernel_rfl) h;have h:=laidMet.tail (laidMet.tail h);have t5:=Lib.tabIs_of_head Rh (by kernel_rfl) Tryz.underlying442 Tryz.underlying5 (by kernel_rfl) (by kernel_rfl) h;have h:=laidMet.tail h;have t6:=Lib.tabIs_of_head Rp (by kernel_rfl) Tryz.underlying150 Tryz.underlying3 (by kernel_rfl) (by kernel_rfl) h;have h:=laidMet.tail h;have t0:=Lib.tabIs_of_head Rb (by kernel_rfl) Tryz.underlying365 Tryz.underlying230 (by kernel_rfl) (by kernel_rfl) h;have h:=laidMet.tail h;have t1:=Lib.tabIs_of_head QL (by kernel_rfl) Tryz.underlying402 Tryz.underlying230 (by kernel_rfl) (by kernel_rfl) h;have r0:=ox t0 Rb;have r1:=ox t1 QL;have r2:=ox t2 Rn;have r3:=ox t3 QN;rw[OL]at r0 r1 r2 r3;exact⟨⟨⟨r0,r1,ox t5 Rh⟩,r2,r3⟩,⟨ox t6 Rp⟩⟩
noncomputable def tZ(os:Os):World:=
 let put (hp:Array Obj) (g:Nat) (vs:Array Value):Array Obj:=hp.modify g fun
   | .cells _ t frozen=>.cells vs t frozen
   | o=>o
 let w:=World.holding Tryz.prog os ⟨#[],#[],[]⟩
 { w with heap:=put (put (put (put (put (put (put w.heap 1 (kV S8.first.l).toArray) 3 (kV tu).toArray) 2 (kV S8.first.l).toArray) 5 (kV tu).toArray)
   6 (oP RZ).toArray) 7 (oP Pt).toArray) 0 (eI.row [2,4,8,16]).toArray }
set_option maxRecDepth 100000 in
theorem Pw{h:H}{f:Nat}{cs:List Value}(hi:In Tryz.prog h f 62 cs):∃a b,cs=[.int .i64 a,.int .i64 b]:=by
 obtain⟨f',hl,hi⟩:=Mr Tryz.underlying62 hi;rw[show Tryz.prog.cellsOf 62=2 by decide +kernel]at hl;obtain⟨a,ea,_⟩:=Me Tryz.underlying3 (hi 0 (by decide));obtain⟨b,eb,_⟩:=Me Tryz.underlying3 (hi 1 (by decide));rw[show Tryz.prog.cellsOf 3=1 by decide +kernel]at ea eb;refine⟨a,b,?_⟩
 match cs,hl with
 | [u,v],_=>
  have e1:u = .int .i64 a:=by simpa using ea
  have e2:v = .int .i64 b:=by simpa using eb
  rw[e1,e2]
end Go.Proofs.YtmfcgihgdhfalaaGreatDoor
namespace Go.Proofs.YtmfcgihgdhfalaaGreatDoor
open Go.Sh Go.RowKit
noncomputable def OV{α:Type}(n:Nat)(k:Nat->α):α:=Nat.rec (k 0) (λm _=>k (Nat.succ m)) n
theorem DD{α:Type}(n:Nat)(k:Nat->α):OV n k=k n:=by cases n<;>rfl
noncomputable def OI{α:Type}(l:List Nat):(List Nat->α)->α:=List.rec (motive:=λ_=>(List Nat->α)->α) (λk=>k []) (λx _ ih k=>OV x λy=>ih λys=>k (y::ys)) l
theorem ND{α:Type}(l:List Nat)(k:List Nat->α):OI l k=k l:=by
 induction l generalizing k with
 | nil=>rfl
 | cons x r ih=>
  show OV x (λy=>OI r λys=>k (y::ys))=_;rw[DD,ih]
def Qw(x n:Nat):Nat:=Nat.lor (Nat.shiftRight x n) (Nat.mod (Nat.shiftLeft x (Nat.sub 32 n)) 4294967296)
def Oy(x a b c:Nat):Nat:=Nat.xor (Nat.xor (Qw x a) (Qw x b)) (Qw x c)
def RA(x a b c:Nat):Nat:=Nat.xor (Nat.xor (Qw x a) (Qw x b)) (Nat.shiftRight x c)
def ad(x y:Nat):Nat:=Nat.mod (Nat.add x y) 4294967296
def QX(x y z:Nat):Nat:=Nat.xor (Nat.land x y) (Nat.land (Nat.sub 4294967295 x) z)
def Rx(x y z:Nat):Nat:=Nat.xor (Nat.xor (Nat.land x y) (Nat.land x z)) (Nat.land y z)
def gt(l:List Nat)(i:Nat):Nat:=l.getD i 0
def Qu(l:List Nat):Nat:=ad (ad (ad (gt l 0) (RA (gt l 1) 7 18 3)) (gt l 9)) (RA (gt l 14) 17 19 10)
noncomputable def runN(ks:List Nat):List Nat->Nat->Nat->Nat->Nat->Nat->Nat->Nat->Nat->List Nat:=
 List.rec (motive:=λ_=>List Nat->Nat->Nat->Nat->Nat->Nat->Nat->Nat->Nat->List Nat) (λ_ a b c d e f g i=>[a,b,c,d,e,f,g,i])
  (λk _ ih w a b c d e f g i=>OV (ad (ad (ad (ad i (Oy e 6 11 25)) (QX e f g)) k) (gt w 0)) λt1=>OV (ad d t1) λe'=>OV (ad t1 (ad (Oy a 2 13 22) (Rx a b c))) λa'=>OI (w.tail++[Qu w]) λw'=>ih w' a' a b c e' e f g) ks
theorem Ky(k:Nat)(r w:List Nat)(a b c d e f g i:Nat):runN (k::r) w a b c d e f g i=runN r (w.tail++[Qu w]) (ad (ad (ad (ad (ad i (Oy e 6 11 25)) (QX e f g)) k) (gt w 0)) (ad (Oy a 2 13 22) (Rx a b c))) a b c (ad d (ad (ad (ad (ad i (Oy e 6 11 25)) (QX e f g)) k) (gt w 0))) e f g:=by
 show OV (ad (ad (ad (ad i (Oy e 6 11 25)) (QX e f g)) k) (gt w 0)) (λt1=>OV (ad d t1) λe'=>OV (ad t1 (ad (Oy a 2 13 22) (Rx a b c))) λa'=>OI (w.tail++[Qu w]) λw'=>runN r w' a' a b c e' e f g)=_;rw[DD,DD,DD,ND]
def nx(l:List U):U:=jW l 0+vu (jW l 1) 7 18 3+jW l 9+vu (jW l 14) 17 19 10
def Lb:List U->List U->S8->S8
 | [],_,s=>s
 | k::r,w,s=>Lb r (w.tail++[nx w]) (s.Qf k (jW w 0))
theorem BB(l:List U)(k:Nat):∀m,∃r,gY l (k+m)=gY l k++r
 | 0=>⟨[],by simp⟩
 | m+1=>by
  obtain⟨r,h⟩:=BB l k m;exact⟨r++[xX (gY l (k+m))],by rw[←Nat.add_assoc,gY,←List.append_assoc,←h]⟩
theorem Ge{l:List U}{i j k:Nat}(hi:i<l.length+j)(hj:j≤k):jW (gY l k) i=jW (gY l j) i:=by
 obtain⟨m,rfl⟩:∃m,k=j+m:=⟨k-j,by omega⟩;obtain⟨r,h⟩:=BB l j m;have:=oA l j;rw[h,jW,jW,List.getD_eq_getElem?_getD,List.getD_eq_getElem?_getD,List.getElem?_append_left (by omega)]
theorem tT(l:List U)(i j:Nat):jW (l.drop i) j=jW l (i+j):=by simp[jW,List.getD_eq_getElem?_getD,List.getElem?_drop]
theorem Mz{l:List U}(hl:l.length=16)(s:S8):∀m i,m+i=64->Lb (tu.drop i) ((gY l i).drop i) (u6 (gY l 48) s i)=u6 (gY l 48) s 64
 | 0,i,h=>by
  obtain rfl:i=64:=by omega
  rfl
 | m+1,i,h=>by
  have hk:tu.length=64:=rfl;have hL:=oA l i;rw[List.drop_eq_getElem_cons (by rw[hk];omega),Lb];have e1:jW ((gY l i).drop i) 0=jW (gY l 48) i:=by
   rw[tT,Nat.add_zero];by_cases h48:i≤48
   ·rw[Ge (j:=i) (k:=48) (by omega) h48]
   ·rw[Ge (j:=48) (k:=i) (by omega) (by omega)]
  have e2:((gY l i).drop i).tail++[nx ((gY l i).drop i)]=(gY l (i+1)).drop (i+1):=by
   rw[gY,List.drop_append,List.tail_drop,show i+1-(gY l i).length=0 by omega,List.drop_zero];congr 2;unfold nx xX;rw[tT,tT,tT,tT,hL,hl,show 16+i-16=i+0 by omega,show 16+i-15=i+1 by omega,show 16+i-7=i+9 by omega,show 16+i-2=i+14 by omega]
  have e3:(u6 (gY l 48) s i).Qf tu[i] (jW (gY l 48) i)=u6 (gY l 48) s (i+1):=by
   rw[u6,rY tu i (by rw[hk];omega)]
  rw[e1,e2,e3];exact Mz hl s m (i+1) (by omega)
theorem oo(x y:U):ad x.toNat y.toNat=(x+y).toNat:=(BitVec.toNat_add x y).symm
theorem BG(x:U){n:Nat}(h:n<32):Qw x.toNat n=(x.rotateRight n).toNat:=by
 rw[BitVec.toNat_rotateRight,Nat.mod_eq_of_lt h];rfl
theorem O2(x:U){a b c:Nat}(ha:a<32)(hb:b<32)(hc:c<32):Oy x.toNat a b c=(GU x a b c).toNat:=by
 rw[Oy,BG x ha,BG x hb,BG x hc,GU,BitVec.toNat_xor,BitVec.toNat_xor];rfl
theorem Pc(x:U){a b c:Nat}(ha:a<32)(hb:b<32):RA x.toNat a b c=(vu x a b c).toNat:=by
 rw[RA,BG x ha,BG x hb,vu,BitVec.toNat_xor,BitVec.toNat_xor,BitVec.toNat_ushiftRight];rfl
theorem QK(x y z:U):QX x.toNat y.toNat z.toNat=(IX x y z).toNat:=by
 rw[IX,BitVec.toNat_xor,BitVec.toNat_and,BitVec.toNat_and,BitVec.toNat_not];rfl
theorem Q1(x y z:U):Rx x.toNat y.toNat z.toNat=(Et x y z).toNat:=by
 rw[Et,BitVec.toNat_xor,BitVec.toNat_xor,BitVec.toNat_and,BitVec.toNat_and,BitVec.toNat_and];rfl
def mB(l:List U):List Nat:=l.map BitVec.toNat
theorem Gv(l:List U)(i:Nat):gt (mB l) i=(jW l i).toNat:=by
 unfold gt mB jW;rw[List.getD_eq_getElem?_getD,List.getD_eq_getElem?_getD,List.getElem?_map];cases l[i]? <;>rfl
theorem QS(l:List U):Qu (mB l)=(nx l).toNat:=by
 unfold Qu nx;rw[Gv,Gv,Gv,Gv,Pc _ (by decide) (by decide),Pc _ (by decide) (by decide),oo,oo,oo]
theorem IU:∀(ks w:List U) (s:S8),runN (mB ks) (mB w) s.a.toNat s.b.toNat s.c.toNat s.d.toNat s.e.toNat s.f.toNat s.g.toNat s.i.toNat=mB (Lb ks w s).l
 | [],_,_=>rfl
 | k::r,w,s=>by
  show runN (k.toNat::mB r) _ _ _ _ _ _ _ _ _ = _;have e:(mB w).tail++[Qu (mB w)]=mB (w.tail++[nx w]):=by
   rw[QS];simp[mB]
  rw[Ky,e,Gv,O2 _ (by decide) (by decide) (by decide),O2 _ (by decide) (by decide) (by decide),QK,Q1,oo,oo,oo,oo,oo,oo,oo,Lb];exact IU r (w.tail++[nx w]) (s.Qf k (jW w 0))
def Pd:List Nat:=mB tu
noncomputable def N7(s w:List Nat):List Nat:=List.zipWith ad s (runN Pd w (gt s 0) (gt s 1) (gt s 2) (gt s 3) (gt s 4) (gt s 5) (gt s 6) (gt s 7))
theorem PJ(s:S8)(w:List U)(hw:w.length=16):N7 (mB s.l) (mB w)=mB (s.add (u6 (gY w 48) s 64)).l:=by
 have h:=Mz hw s 64 0 (by omega);have h:Lb tu w s=u6 (gY w 48) s 64:=h;have h2:=IU tu w s;rw[h]at h2;unfold N7;have h3:runN Pd (mB w) (gt (mB s.l) 0) (gt (mB s.l) 1) (gt (mB s.l) 2) (gt (mB s.l) 3) (gt (mB s.l) 4) (gt (mB s.l) 5) (gt (mB s.l) 6) (gt (mB s.l) 7)=mB (u6 (gY w 48) s 64).l:=h2;rw[h3];show [ad _ _,ad _ _,ad _ _,ad _ _,ad _ _,ad _ _,ad _ _,ad _ _]=_;rw[oo,oo,oo,oo,oo,oo,oo,oo];rfl
def jw(l:List Nat):ByteArray:=ofBytes (l.map λn:Nat=>(n:Int))
def OG(l:List Nat):Prop:=∀x∈l,x<256
theorem ni(a b:List Nat):jw (a++b)=jw a++jw b:=by rw[jw,List.map_append,y7];rfl
theorem oM(l:List Nat):(jw l).size=l.length:=by simp[jw,ofBytes,ByteArray.size]
theorem LM{l:List Nat}(h:OG l)(i:Nat):aE (jw l) i=(l.getD i 0:Nat):=by
 unfold aE jw ofBytes;simp only[List.map_map,List.getD_eq_getElem?_getD,List.getElem?_map];cases e:l[i]? with
 | none=>rfl
 | some x=>
  have:x<256:=h x (List.mem_of_getElem? e);simp only[Option.map_some,Option.getD_some,Function.comp_apply,Int.toNat_natCast];show(((UInt8.ofNat x).toNat:Nat):Int)=_;rw[UInt8.toNat_ofNat'];omega
def RQ(l:List Nat)(i:Nat):Nat:=((l.getD (4*i) 0*256+l.getD (4*i+1) 0)*256+l.getD (4*i+2) 0)*256+l.getD (4*i+3) 0
def DB:List Nat->List Nat
 | a::b::c::d::r=>Nat.add (Nat.mul (Nat.add (Nat.mul (Nat.add (Nat.mul a 256) b) 256) c) 256) d::DB r
 | _=>[]
theorem DN:∀l:List Nat,DB l=(List.range (l.length/4)).map (RQ l)
 | []=>rfl
 | [_]=>by simp[DB]
 | [_,_]=>by simp[DB]
 | [_,_,_]=>by simp[DB]
 | a::b::c::d::r=>by
  have e:(a::b::c::d::r).length/4=r.length/4+1:=by simp only[List.length_cons];omega
  rw[DB,DN r,e,List.range_succ_eq_map,List.map_cons,List.map_map];congr 1
theorem Il{l:List Nat}(h:OG l)(i:Nat):(kC true (jw l) i).toNat=RQ l i:=by
 have e:=HX (jw l) i;simp only[lZ,LM h]at e;unfold ui at e;unfold RQ;rw[Nat.add_zero]at e;omega
noncomputable def Iq:List Nat->List Nat->Nat->List Nat
 | st,_,0=>st
 | st,ws,n+1=>Iq (N7 st (ws.take 16)) (ws.drop 16) n
theorem Cs:∀(k:Nat) (st ws:List Nat),Iq st ws (k+1)=N7 (Iq st ws k) ((ws.drop (16*k)).take 16)
 | 0,st,ws=>rfl
 | k+1,st,ws=>by
  rw[Iq,Cs k,Iq,List.drop_drop,show 16+16*k=16*(k+1) by omega]
theorem GP{l:List Nat}(h:OG l){k:Nat}(hk:64*k+64≤l.length):mB (bK true ((jw l).extract (64*k) (64*k+64)))=((DB l).drop (16*k)).take 16∧(bK true ((jw l).extract (64*k) (64*k+64))).length=16:=by
 have hz:((jw l).extract (64*k) (64*k+64)).size=64:=by rw[ByteArray.size_extract,oM];omega
 have hl:(bK true ((jw l).extract (64*k) (64*k+64))).length=16:=by rw[jv,hz]
 refine⟨?_,hl⟩;refine List.ext_getElem ?_ λi h1 h2=>?_
 ·rw[mB,List.length_map,hl,DN];simp;omega
 ·have hi:i<16:=by rw[mB,List.length_map,hl]at h1;exact h1
  have e1:kC true ((jw l).extract (64*k) (64*k+64)) i=kC true (jw l) (16*k+i):=by
   unfold kC;rw[kL _ _ _ _ (by omega) (by rw[oM];omega),kL _ _ _ _ (by omega) (by rw[oM];omega),kL _ _ _ _ (by omega) (by rw[oM];omega),kL _ _ _ _ (by omega) (by rw[oM];omega)];rw[show 64*k+4*i=4*(16*k+i) by omega,show 64*k+(4*i+1)=4*(16*k+i)+1 by omega,show 64*k+(4*i+2)=4*(16*k+i)+2 by omega,show 64*k+(4*i+3)=4*(16*k+i)+3 by omega]
  simp only[mB,bK,List.getElem_map,List.getElem_range,DN,List.getElem_take,List.getElem_drop];rw[e1,Il h]
theorem Jm{l:List Nat}(h:OG l)(s:S8):∀k,64*k≤l.length->mB (pF s (jw l) k).l=Iq (mB s.l) (DB l) k
 | 0,_=>rfl
 | k+1,hk=>by
  obtain⟨h1,h2⟩:=GP h (k:=k) (by omega);rw[Cs,←Jm h s k (by omega),←h1,pF,S8.block];exact(PJ _ _ h2).symm
def Pn(ws:List Nat):List Nat:=ws.flatMap λw=>[Nat.mod (Nat.div w 16777216) 256,Nat.mod (Nat.div w 65536) 256,Nat.mod (Nat.div w 256) 256,Nat.mod w 256]
theorem Ay(us:List U):lu true us=jw (Pn (mB us)):=by
 unfold lu jw;congr 1;unfold Dx Pn mB;induction us with
 | nil=>rfl
 | cons x r ih=>
  simp only[List.flatMap_cons,List.map_cons,List.map_append,ih];congr 1;simp only[wz,cond_true,vF,List.map_cons,List.map_nil];rw[show 256^3=16777216 from rfl,show 256^2=65536 from rfl,show 256^1=256 from rfl,show 256^0=1 from rfl,Nat.div_one];rfl
theorem Ox(ws:List Nat):OG (Pn ws):=by
 intro x hx;obtain⟨w,_,hx⟩:=List.mem_flatMap.1 hx;simp only[List.mem_cons,List.not_mem_nil,or_false]at hx;rcases hx with rfl|rfl|rfl|rfl<;>exact Nat.mod_lt _ (by decide)
theorem NP(ws:List Nat):(Pn ws).length=4*ws.length:=by
 induction ws with
 | nil=>rfl
 | cons x r ih=>
  have:Pn (x::r)=[Nat.mod (Nat.div x 16777216) 256,Nat.mod (Nat.div x 65536) 256,Nat.mod (Nat.div x 256) 256,Nat.mod x 256]++Pn r:=rfl;rw[this,List.length_append,ih];simp only[List.length_cons,List.length_nil];omega
def Lf(n:Nat):List Nat:=(128::List.replicate (pN n) 0)++Pn [Nat.mod (Nat.div (Nat.mul 8 n) 4294967296) 4294967296,Nat.mod (Nat.mul 8 n) 4294967296]
theorem I4(n:Nat):q9 n=jw (Lf n):=by
 have h1:(⟨#[128]⟩++kN (pN n):ByteArray)=jw (128::List.replicate (pN n) 0):=by
  have:kN (pN n)=jw (List.replicate (pN n) 0):=by
   unfold kN jw;rw[List.map_replicate];rfl
  rw[this,show(⟨#[128]⟩:ByteArray)=jw [128] from rfl,←ni];rfl
 have h2:mB (AL n)=[Nat.mod (Nat.div (Nat.mul 8 n) 4294967296) 4294967296,Nat.mod (Nat.mul 8 n) 4294967296]:=by
  simp only[mB,AL,List.map_cons,List.map_nil,BitVec.toNat_ofNat];rfl
 rw[q9,h1,Ay,h2,←ni];rfl
def PA:List Nat:=mB S8.first.l
noncomputable def N2(l:List Nat):List Nat:=Pn (Iq PA (DB (l++Lf l.length)) ((l.length+9+pN l.length)/64))
theorem Qe{l:List Nat}(h:OG l):nN (jw l)=jw (N2 l):=by
 have hp:OG (Lf l.length):=by
  intro x hx;rcases List.mem_append.1 hx with hx|hx
  ·rcases List.mem_cons.1 hx with rfl|hx
   ·decide
   ·rw[List.eq_of_mem_replicate hx];decide
  ·exact Ox _ x hx
 have hb:OG (l++Lf l.length):=λx hx=>(List.mem_append.1 hx).elim (h x) (hp x);have hl:(Lf l.length).length=9+pN l.length:=by
  rw[Lf,List.length_append,NP];simp;omega
 have hpad:=(Ad l.length).1;have e:(jw l).size+(q9 (jw l).size).size=l.length+9+pN l.length:=by
  rw[oM,I4,oM,hl];omega
 unfold nN N2;rw[Ay,e,oM,I4,←ni,Jm hb _ _ (by rw[List.length_append,hl];omega)];rfl
theorem OO{l:List Nat}(k:Nat)(hk:k<256)(h:OG l):dQ (UInt8.ofNat k) (jw l)=jw (N2 (k::l)):=by
 have e:(⟨#[UInt8.ofNat k]⟩++jw l:ByteArray)=jw (k::l):=by
  rw[show k::l=[k]++l from rfl,ni];rfl
 rw[dQ,e];exact Qe λx hx=>(List.mem_cons.1 hx).elim (λe=>e ▸ hk) (h x)
set_option maxRecDepth 100000
def Cm:List Nat:=[48,49,50,51,52,53,54,55,56,57,97,98,99,100,101,102,48,49,50,51,52,53,54,55,56,57,97,98,99,100,101,102]
def DA:List Nat:=[0,0,0,0,0,0,0,2,0,0,0,0]
def Sz:List Nat:=[0,0,0,0,0,0,0,1,0,0,0,0,0,0,0,3]
def SK:List Nat:=[37,19,122,105,238,175,126,31,244,56,24,213,18,86,115,219,33,36,201,215,171,248,201,49,171,232,140,223,204,98,11,71,77,21,131,161,148,241,156,39,59,159,57,26,227,183,66,30,28,129,159,98,112,60,130,7,117,70,226,37,213,251,47,84]
def SC:List Nat:=[40,222,159,50,37,220,200,164,91,21,14,47,238,35,108,62,131,236,219,244,172,174,223,64,180,176,244,229,14,74,53,209,171,109,149,222,16,226,46,33,118,28,25,16,107,217,66,235,141,113,253,114,240,44,214,135,189,206,223,152,124,245,147,70]
def QO:List Nat:=[24,239,173,1,17,233,254,147,99,44,111,77,141,71,9,88,179,221,233,199,152,155,233,119,140,137,149,135,109,46,80,183]
def Ry:List Nat:=[92,27,106,208,214,53,26,172,129,39,170,178,218,121,194,135]
def Jc:List Nat:=[110,52,11,156,255,179,122,152,156,165,68,230,187,120,10,44,120,144,29,63,179,55,56,118,133,17,163,6,23,175,160,29]
def QV:List Nat:=[163,202,91,100,13,97,3,47,169,17,187,101,4,215,158,251,24,250,11,112,44,74,190,135,85,243,191,135,122,45,125,90]
def Px:List Nat:=[254,67,214,106,250,74,154,92,79,156,157,168,159,79,251,82,99,92,143,52,46,127,251,115,29,104,227,108,89,130,7,42]
def Rw:List Nat:=[124,217,29,21,2,101,84,43,69,165,57,237,128,43,31,245,236,171,245,236,246,156,179,133,41,216,125,75,142,166,94,151]
def GW:List Nat:=[222,184,46,21,89,84,214,190,20,89,44,102,204,247,161,236,225,147,238,235,205,171,175,116,123,145,244,69,25,240,159,71]
def RD:List Nat:=[27,150,181,208,105,115,45,226,72,193,205,50,251,8,36,130,246,14,107,250,209,3,68,105,45,195,176,28,11,220,227,152]
def nE:List Nat:=[92,207,141,12,255,213,33,79,195,235,13,154,13,26,31,241,33,28,52,9,12,210,61,146,112,99,104,158,182,44,216,135]
def Ql:List Nat:=[5,87,214,59,41,68,143,175,172,32,190,128,199,216,36,169,59,213,131,129,117,254,121,0,163,57,105,229,128,107,154,54]
def SI:List Nat:=[0,0,0,0,0,0,0,8,0,0,0,0,0,0,0,3,0,0,0,0,0,0,0,80,0,0,0,0,0,0,0,101,0,0,0,0,0,0,0,64,254,67,214,106,250,74,154,92,79,156,157,168,159,79,251,82,99,92,143,52,46,127,251,115,29,104,227,108,89,130,7,42,124,217,29,21,2,101,84,43,69,165,57,237,128,43,31,245,236,171,245,236,246,156,179,133,41,216,125,75,142,166,94,151,0,0,0,0,0,0,0,80,0,0,0,0,0,0,0,103,0,0,0,0,0,0,0,64,110,52,11,156,255,179,122,152,156,165,68,230,187,120,10,44,120,144,29,63,179,55,56,118,133,17,163,6,23,175,160,29,163,202,91,100,13,97,3,47,169,17,187,101,4,215,158,251,24,250,11,112,44,74,190,135,85,243,191,135,122,45,125,90,0,0,0,0,0,0,0,76,0,0,0,0,0,0,0,123,0,0,0,0,0,0,0,60,0,0,0,0,0,0,0,2,0,0,0,0,24,239,173,1,17,233,254,147,99,44,111,77,141,71,9,88,179,221,233,199,152,155,233,119,140,137,149,135,109,46,80,183,92,27,106,208,214,53,26,172,129,39,170,178,218,121,194,135]
def SM:List Nat:=[0,0,0,0,0,0,0,2,0,0,0,0,0,0,0,2,0,0,0,0,0,0,0,2,0,0,0,0,0,0,0,4,0,0,0,0,0,0,0,0,0,0,0,0,0,0,0,0,0,0,0,0,0,0,0,0,0,0,0,0,0,0,0,4,0,0,0,0,0,0,0,0,0,0,0,0,0,0,0,1,0,0,0,0,0,0,0,2,0,0,0,0,0,0,0,3,0,0,0,0,0,0,0,5,0,0,0,0,0,0,0,1,0,0,0,0,0,0,0,32,222,184,46,21,89,84,214,190,20,89,44,102,204,247,161,236,225,147,238,235,205,171,175,116,123,145,244,69,25,240,159,71,0,0,0,0,0,0,0,32,92,207,141,12,255,213,33,79,195,235,13,154,13,26,31,241,33,28,52,9,12,210,61,146,112,99,104,158,182,44,216,135,0,0,0,0,0,0,0,1,0,0,0,0,0,0,0,32,222,184,46,21,89,84,214,190,20,89,44,102,204,247,161,236,225,147,238,235,205,171,175,116,123,145,244,69,25,240,159,71,0,0,0,0,0,0,0,32,92,207,141,12,255,213,33,79,195,235,13,154,13,26,31,241,33,28,52,9,12,210,61,146,112,99,104,158,182,44,216,135,0,0,0,0,0,0,0,1,0,0,0,0,0,0,0,32,222,184,46,21,89,84,214,190,20,89,44,102,204,247,161,236,225,147,238,235,205,171,175,116,123,145,244,69,25,240,159,71,0,0,0,0,0,0,0,32,92,207,141,12,255,213,33,79,195,235,13,154,13,26,31,241,33,28,52,9,12,210,61,146,112,99,104,158,182,44,216,135,0,0,0,0,0,0,0,1,0,0,0,0,0,0,0,32,222,184,46,21,89,84,214,190,20,89,44,102,204,247,161,236,225,147,238,235,205,171,175,116,123,145,244,69,25,240,159,71,0,0,0,0,0,0,0,32,92,207,141,12,255,213,33,79,195,235,13,154,13,26,31,241,33,28,52,9,12,210,61,146,112,99,104,158,182,44,216,135,0,0,0,0,0,0,0,0,0,0,0,0,0,0,0,32,0,0,0,0,0,0,0,0,0,0,0,0,0,0,0,0,0,0,0,0,0,0,0,0,0,0,0,0,0,0,0,0,0,0,0,0,0,0,0,32,92,207,141,12,255,213,33,79,195,235,13,154,13,26,31,241,33,28,52,9,12,210,61,146,112,99,104,158,182,44,216,135]
def SP:List Nat:=[0,0,0,0,0,0,0,3,0,0,0,0,0,0,0,2,0,0,0,0,0,0,0,2,0,0,0,0,0,0,0,4,0,0,0,0,0,0,0,0,0,0,0,0,0,0,0,0,0,0,0,0,0,0,0,0,0,0,0,0,0,0,0,4,0,0,0,0,0,0,0,0,0,0,0,0,0,0,0,1,0,0,0,0,0,0,0,2,0,0,0,0,0,0,0,3,0,0,0,0,0,0,0,5,0,0,0,0,0,0,0,1,0,0,0,0,0,0,0,32,222,184,46,21,89,84,214,190,20,89,44,102,204,247,161,236,225,147,238,235,205,171,175,116,123,145,244,69,25,240,159,71,0,0,0,0,0,0,0,32,92,207,141,12,255,213,33,79,195,235,13,154,13,26,31,241,33,28,52,9,12,210,61,146,112,99,104,158,182,44,216,135,0,0,0,0,0,0,0,1,0,0,0,0,0,0,0,32,27,150,181,208,105,115,45,226,72,193,205,50,251,8,36,130,246,14,107,250,209,3,68,105,45,195,176,28,11,220,227,152,0,0,0,0,0,0,0,32,5,87,214,59,41,68,143,175,172,32,190,128,199,216,36,169,59,213,131,129,117,254,121,0,163,57,105,229,128,107,154,54,0,0,0,0,0,0,0,1,0,0,0,0,0,0,0,32,222,184,46,21,89,84,214,190,20,89,44,102,204,247,161,236,225,147,238,235,205,171,175,116,123,145,244,69,25,240,159,71,0,0,0,0,0,0,0,32,92,207,141,12,255,213,33,79,195,235,13,154,13,26,31,241,33,28,52,9,12,210,61,146,112,99,104,158,182,44,216,135,0,0,0,0,0,0,0,1,0,0,0,0,0,0,0,32,222,184,46,21,89,84,214,190,20,89,44,102,204,247,161,236,225,147,238,235,205,171,175,116,123,145,244,69,25,240,159,71,0,0,0,0,0,0,0,32,92,207,141,12,255,213,33,79,195,235,13,154,13,26,31,241,33,28,52,9,12,210,61,146,112,99,104,158,182,44,216,135,0,0,0,0,0,0,0,0,0,0,0,0,0,0,0,32,0,0,0,0,0,0,0,0,0,0,0,0,0,0,0,0,0,0,0,0,0,0,0,0,0,0,0,0,0,0,0,0,0,0,0,0,0,0,0,32,92,207,141,12,255,213,33,79,195,235,13,154,13,26,31,241,33,28,52,9,12,210,61,146,112,99,104,158,182,44,216,135]
def SJ:List Nat:=[138,144,10,9,218,171,139,167,62,90,82,224,167,116,67,61,173,182,156,9,206,15,108,74,217,92,194,70,42,176,47,110]
def SQ:List Nat:=[171,150,25,157,102,251,122,57,66,214,206,109,114,104,36,94,19,52,140,30,115,235,178,53,38,193,132,44,211,169,184,88]
theorem kd(k:Nat){l r:List Nat}{t:ByteArray}(hk:k<256)(ht:t=jw l)(h:l.all (Nat.blt · 256)=true)(e:N2 (k::l)=r):dQ (UInt8.ofNat k) t=jw r:=by
 subst ht e;exact OO k hk λx hx=>by simpa using List.all_eq_true.1 h x hx
theorem QJ:jo=jw Cm:=by decide +kernel
theorem QZ:nV 2 0=jw DA:=by decide +kernel
theorem RT:zD 1 3=jw Sz:=by decide +kernel
theorem Sd:nQ (jw Cm) (jw DA) 0=jw SK:=by decide +kernel
theorem RL:nQ (jw Cm) (jw DA) 1=jw SC:=by decide +kernel
theorem R8:nr (jw Cm) (jw DA) 1 (jw Cm)=jw QO:=by
 have e:nr (jw Cm) (jw DA) 1 (jw Cm)=yu 32 λi=>bx (aE (jw Cm) i) (aE (jw SC) (i%64)):=by
  unfold nr;rw[show(jw Cm).size=32 by decide +kernel];refine ym λi hi=>?_;unfold OB;rw[show i/64=0 by omega,show(1:U)+BitVec.ofNat 32 0=1 by decide,RL]
 rw[e];decide +kernel
theorem Rl:yg (jw Cm) (jw DA) (jw Sz) (jw QO)=jw Ry:=by
 unfold yg;rw[Sd];decide +kernel
theorem LJ:jf=jw (DA++(QO++Ry)):=by
 unfold jf cellOf qK;rw[QJ,QZ,RT,R8,Rl,ni,ni]
theorem QI:dQ 0 ByteArray.empty=jw Jc:=kd 0 (l:=[]) (by decide) rfl rfl (by decide +kernel)
theorem Sf:dQ 0 jf=jw QV:=kd 0 (by decide) LJ (by decide +kernel) (by decide +kernel)
theorem P4:dQ 1 (jw Jc++jw Jc)=jw Px:=kd 1 (by decide) (ni _ _).symm (by decide +kernel) (by decide +kernel)
theorem Rs:dQ 1 (jw Jc++jw QV)=jw Rw:=kd 1 (by decide) (ni _ _).symm (by decide +kernel) (by decide +kernel)
theorem RN:dQ 1 (jw Px++jw Px)=jw GW:=kd 1 (by decide) (ni _ _).symm (by decide +kernel) (by decide +kernel)
theorem RS:dQ 1 (jw Px++jw Rw)=jw RD:=kd 1 (by decide) (ni _ _).symm (by decide +kernel) (by decide +kernel)
theorem node4(a b c d:ByteArray):iz [a,b,c,d] 2=dQ 1 (a++b)∧iz [a,b,c,d] 3=dQ 1 (c++d)∧iz [a,b,c,d] 1=dQ 1 (dQ 1 (a++b)++dQ 1 (c++d))∧fV [a,b,c,d] 1=dQ 1 (a++b)++dQ 1 (c++d)∧fV [a,b,c,d] 3=c++d:=by
 have l4:iz [a,b,c,d] 4=a:=kr (ls:=[a,b,c,d]) (i:=4) (by simp);have l5:iz [a,b,c,d] 5=b:=kr (ls:=[a,b,c,d]) (i:=5) (by simp);have l6:iz [a,b,c,d] 6=c:=kr (ls:=[a,b,c,d]) (i:=6) (by simp);have l7:iz [a,b,c,d] 7=d:=kr (ls:=[a,b,c,d]) (i:=7) (by simp);have p3:fV [a,b,c,d] 3=c++d:=by unfold fV;rw[l6,l7]
 have p2:fV [a,b,c,d] 2=a++b:=by unfold fV;rw[l4,l5]
 have h2:iz [a,b,c,d] 2=dQ 1 (a++b):=by rw[m7 (by decide) (by simp),p2];rfl
 have h3:iz [a,b,c,d] 3=dQ 1 (c++d):=by rw[m7 (by decide) (by simp),p3];rfl
 have p1:fV [a,b,c,d] 1=dQ 1 (a++b)++dQ 1 (c++d):=by unfold fV;rw[h2,h3]
 exact⟨h2,h3,by rw[m7 (by decide) (by simp),p1];rfl,p1,p3⟩
theorem IN:jy 4=jw GW:=by
 have e:ko 4=[jw Jc,jw Jc,jw Jc,jw Jc]:=by
  rw[←QI];rfl
 unfold jy;rw[e,(node4 _ _ _ _).2.2.1,P4,RN]
theorem Q3:GF cs0 jf=[jw Jc,jw Jc,jw Jc,jw QV]:=by
 rw[←QI,←Sf];rfl
theorem QT:tK jf=jw RD:=by
 unfold tK;rw[Q3,(node4 _ _ _ _).2.2.1,P4,Rs,RS]
theorem IL:gH=jw nE:=by
 have e:pR mz [jb 0]=jw [0,0,0,0,0,0,0,8,0,0,0,0,0,0,0,0]:=by decide +kernel
 unfold gH yw;exact kd 2 (by decide) e (by decide +kernel) (by decide +kernel)
theorem Q5:M1 jf=jw Ql:=by
 have e:wu jf=[(101,jw (Px++Rw)),(103,jw (Jc++QV)),(123,jw (DA++(QO++Ry)))]:=by
  unfold wu Ce;rw[Q3,(node4 _ _ _ _).2.2.2.1,(node4 _ _ _ _).2.2.2.2,P4,Rs,LJ,ni Px,ni Jc]
 have e2:pR mz (lH [(101,jw (Px++Rw)),(103,jw (Jc++QV)),(123,jw (DA++(QO++Ry)))])=jw SI:=by decide +kernel
 unfold M1;rw[e];exact kd 2 (by decide) e2 (by decide +kernel) (by decide +kernel)
theorem RK:dQ 2 (ia S2)=jw SJ:=by
 have g:ia S2=nC S2:=if_pos Eb.1;have e:nC S2=nC ⟨2,2,2,4,0,0,false,[0,1,2,3],[⟨1,jw GW,jw nE⟩,⟨1,jw GW,jw nE⟩,⟨1,jw GW,jw nE⟩,⟨1,jw GW,jw nE⟩,⟨0,kN 32,jw nE⟩]⟩:=by
  unfold S2 Bc lK xH;rw[IN,IL]
 have e2:nC ⟨2,2,2,4,0,0,false,[0,1,2,3],[⟨1,jw GW,jw nE⟩,⟨1,jw GW,jw nE⟩,⟨1,jw GW,jw nE⟩,⟨1,jw GW,jw nE⟩,⟨0,kN 32,jw nE⟩]⟩=jw SM:=by decide +kernel
 rw[g,e];exact kd 2 (by decide) e2 (by decide +kernel) (by decide +kernel)
theorem Sl:dQ 2 (ia (S3 jf))=jw SQ:=by
 have g:ia (S3 jf)=nC (S3 jf):=if_pos Ek.1;have e:nC (S3 jf)=nC ⟨3,2,2,4,0,0,false,[0,1,2,3],[⟨1,jw GW,jw nE⟩,⟨1,jw RD,jw Ql⟩,⟨1,jw GW,jw nE⟩,⟨1,jw GW,jw nE⟩,⟨0,kN 32,jw nE⟩]⟩:=by
  unfold S3 Bc lK xH;rw[IN,IL,QT,Q5]
 have e2:nC ⟨3,2,2,4,0,0,false,[0,1,2,3],[⟨1,jw GW,jw nE⟩,⟨1,jw RD,jw Ql⟩,⟨1,jw GW,jw nE⟩,⟨1,jw GW,jw nE⟩,⟨0,kN 32,jw nE⟩]⟩=jw SP:=by decide +kernel
 rw[g,e];exact kd 2 (by decide) e2 (by decide +kernel) (by decide +kernel)
theorem Qj:Iy:=by
 unfold Iy;rw[RK,Sl];decide +kernel
end Go.Proofs.YtmfcgihgdhfalaaGreatDoor

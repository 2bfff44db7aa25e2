/- A record is published, found; a log is read, replayed (the program's). A record is found; a log is read, and replayed (the program's). A volume is made, and opened (the program's). A volume is made (the program's). Shelves: where the chunks of a stripe lie. A store that is open: its record, its layout, its shelves; chunks are sealed (the program's). A map over whole numbers, of any values, in memory. A commit under way: its record, as a plan makes it; disks that fail; may the volume stand (the program's). What a commit writes: prepared, logged, done (the program's). What a commit writes, walked: prepared, logged, done (the program's). What a commit writes, walked: prepared, logged, done (the program's). The logs of a commit are written, and done (the program's). -/
import Derived.Test.YtmfcgihgdhfalaaGreatDoorN10
import Derived.Test.YtmfcgihgdhfalaaGreatDoorN09
open ByteArray(empty)
open Go.IntKind(wrap)
set_option linter.unusedSimpArgs false
set_option linter.unusedVariables false
namespace Go.Proofs.YtmfcgihgdhfalaaGreatDoor
open Go.Sh Go.RowKit Classical
abbrev uZ(b a:Nat)(V:qG):List Chunk:=[dO b V.B,.blk a (mV V.cnt V.gC)]
section
variable {h0 h:H}{b a c k':Nat}{B:ak}{V:qG}{d at_:Int}{t key:ByteArray}{s:gD}{sa ma:Option Addr}{sl sc ml mc:Nat}{L:List Chunk}
theorem Kl{p:Option Addr}{Q:Int->H->Prop}(w:Wd h0 h [dO b B])(rm:Bk B c 2)(k:∀h',Wd h0 h' [dO b (lB B d at_ t).2]->Q (lB B d at_ t).1 h'):cZ (some ⟨b,0,none⟩) p key d at_ t h Q:=by
 unfold cZ;refine M.aK w λb2 h3 w=>M.nF (w.blk 1 rfl) rfl ?_;unfold lB at k;have r2:=(rm.write (k:=1) d at_ t).rm;obtain⟨hx,k0,k1,wx,wr,back⟩:=w.on (i:=0) rfl;refine GY wx (by have:=rm.rm.steps;omega) rm.rm.left (rm.rm.hU d) λh4 w1=>?_;have w:=back _ _ w1;by_cases e:(B.write d at_ t).1=0
 ·rw[if_neg (by simp[e])]at k;refine cf (by simp[e]) (M.nF (w.blk 1 rfl) rfl ?_);obtain⟨hx,k0,k1,wx,wr,back⟩:=w.on (i:=0) rfl;refine HT wx (by have:=r2.steps;omega) r2.left λh5 w1=>?_;have w:=back _ _ w1;exact k _ (w.drop (i:=1) rfl)
 ·rw[if_pos e]at k;exact ct (by simpa using e) (k _ (w.drop (i:=1) rfl))
theorem EC{Q:ByteArray->H->Prop}(ht:t.size≤800000)(tb:Tabs h)(k:∀h',bq h h'->Q (dH 2 t) h'):ee t h Q:=by
 unfold ee;exact Gp ht tb k
theorem Kc{s:gD}(g:s.good):(od s).size≤2048:=by
 obtain⟨gl1,gl2,gl3⟩:=g.len;have gm:=g.2.1.1;have h1:=sJ (l:=s.aj) gm;rw[od];simp only[ByteArray.size_append,eF,qE,h1,gl3];omega
theorem yu(s:gD):(gJ s).size≤2048:=by
 unfold gJ;split
 ·exact Kc ‹_›
 ·simp
theorem M6{n:Int}(h:0≤n):n.tmod 2=0∨n.tmod 2=1:=by
 rw[Int.tmod_eq_emod_of_nonneg h];omega
theorem sE{Q:Int->H->Prop}(w:Wd h0 h (uZ b a V))(f1:Ro eI h0 sa sl s.av)(f:Ro kf h0 ma ml s.aj)(hl:ml≤1000000)(hl1:sl≤1000000)(hb:s.ji)(v:rW V c 25)(tb:Tabs h0)
  (k:∀h',Wd h0 h' (uZ b a (iY V s).2)->Q (iY V s).1 h'):aE (some ⟨b,0,none⟩) (some ⟨a,0,none⟩) key s.count s.dS s.data s.slots s.mark s.built s.aJ sa sl sc ma ml mc h Q:=by
 unfold aE aE.g;have hn:=v.bk.ok.small;have hts:=yu s;have h2:=M6 hb.1.1;refine M.aK w λb2 h3 w=>M.aK w λb4 h5 w=>kq (s:=s) (hM (w.blk 3 rfl)) ?_;refine Ij (f1.keep w.keep) (f.keep w.keep) hl hl1 hb.1 hb.2 λh30 k30=>?_;have w:=w.keeps k30;have hst:(if s.good then od s else empty)=gJ s:=rfl
 rw[hst];unfold iY at k;have hB:∀m,m≤V.B.ds.length->Bk (lI (s.count.tmod 2) (gJ s) V.B m).2.2 c (1+2*(V.B.ds.length-m)):=λm hm=>Bk.Rt _ _ m (v.bk.mono (by omega));have hN:∀m,(lI (s.count.tmod 2) (gJ s) V.B m).2.2.ds.length=V.B.ds.length:=λm=>A7 m;have hS:∀m,lI (s.count.tmod 2) (gJ s) V.B (m+1)=if(lI (s.count.tmod 2) (gJ s) V.B m).1=true then lI (s.count.tmod 2) (gJ s) V.B m else
   (decide ((lB (lI (s.count.tmod 2) (gJ s) V.B m).2.2 m (s.count.tmod 2) (gJ s)).1=21),(lI (s.count.tmod 2) (gJ s) V.B m).2.1 || decide ((lB (lI (s.count.tmod 2) (gJ s) V.B m).2.2 m (s.count.tmod 2) (gJ s)).1=0),(lB (lI (s.count.tmod 2) (gJ s) V.B m).2.2 m (s.count.tmod 2) (gJ s)).2):=λm=>rfl
 have h0':lI (s.count.tmod 2) (gJ s) V.B 0=(false,false,V.B):=rfl;generalize lI (s.count.tmod 2) (gJ s) V.B=P at *;have hfail:∀m j,m+j=V.B.ds.length->(P m).1=true->P (m+j)=P m:=λm j=>by
  induction j with
  | zero=>intro _ _;rfl
  | succ j ih=>
   intro e h;have hh:∀i,P (m+i)=P m:=λi=>by
    induction i with
    | zero=>rfl
    | succ i ihh=>rw[←Nat.add_assoc,hS,ihh,if_pos h]
   exact hh _
 refine M.aO (λd h'=>(P V.B.ds.length).1=false∧d=(P V.B.ds.length).2.1∧Wd h0 h' [dO b (P V.B.ds.length).2.2,.blk a (mV V.cnt V.gC),.blk b2 (.cells #[.pointer (some ⟨b,0,none⟩),.pointer (some ⟨a,0,none⟩),.string key] 120),.blk b4 (.cells (gH s sa sl sc ma ml mc).toArray 40)]) (λJ hJ=>M.nF (w.blk 2 rfl) rfl ?_) ?_
 ·skip
  obtain⟨hx,k0,k1,wx,wr,_⟩:=w.on (i:=0) rfl;refine EH wx ?_;refine M.aP (I:=λ(p:Bool×Int) h'=>∃m:Nat,m≤V.B.ds.length∧p=((P m).2.1,(m:Int))∧(P m).1=false∧Wd h0 h' [dO b (P m).2.2,.blk a (mV V.cnt V.gC),.blk b2 (.cells #[.pointer (some ⟨b,0,none⟩),.pointer (some ⟨a,0,none⟩),.string key] 120),.blk b4 (.cells (gH s sa sl sc ma ml mc).toArray 40)]) (μ:=λp=>(V.B.ds.length-p.2).toNat)
   ⟨0,by omega,by rw[h0'];rfl,by rw[h0'],by rw[h0'];exact w⟩ ?_
  clear w wx wr;rintro p h6 J2 ⟨m,hm,rfl,hp,w⟩ hJ2;by_cases g:m<V.B.ds.length
  ·have hbm:=hB m hm;have e1:=hS m;rw[if_neg (by simp[hp])]at e1;refine eN (by simp only[];omega) (nS (w.blk 2 rfl) rfl rfl rfl (M.gv (w.blk 3 rfl) rfl ⟨by decide,dN (M.vis (s.count.tmod 2) (qJ (by omega) (by omega)) ?_)⟩));obtain⟨hx,k0,k1,wx,wr,back⟩:=w.on (i:=0) rfl;refine Kl wx (hbm.mono (by omega)) λh7 w1=>?_;have w:=back _ _ w1;generalize hq:lB (P m).2.2 m (s.count.tmod 2) (gJ s)=q at *;by_cases e2:q.1=21
   ·refine ct (by simp[e2]) ?_;have hl:P V.B.ds.length=P (m+1):=by
     have:=hfail (m+1) (V.B.ds.length-(m+1)) (by omega) (by rw[e1];simp[e2])
     rwa [show m+1+(V.B.ds.length-(m+1))=V.B.ds.length by omega]at this
    rw[hl,e1]at k;unfold ED at k;rw[if_pos (by simp[e2])]at k;exact k _ ((w.drop (i:=3) rfl).drop (i:=2) rfl)
   ·have hf:(P (m+1)).1=false:=by rw[e1];simp[e2]
    have wn:Wd h0 h7 [dO b (P (m+1)).2.2,.blk a (mV V.cnt V.gC),.blk b2 (.cells #[.pointer (some ⟨b,0,none⟩),.pointer (some ⟨a,0,none⟩),.string key] 120),.blk b4 (.cells (gH s sa sl sc ma ml mc).toArray 40)]:=by rw[e1];exact w
    have v1:wrap .i64 ((m:Int)+1)=((m+1:Nat):Int):=by rw[IntKind.wrap_i64];omega
    refine cf (by simpa using e2) ?_;by_cases e3:q.1=0
    ·refine ct (by simp[e3]) (M.vis _ v1 (hJ2 _ _ ⟨m+1,by omega,?_,hf,wn⟩ (by simp only[];omega)));rw[e1];simp[e3]
    ·refine cf (by simpa using e3) (M.vis _ v1 (hJ2 _ _ ⟨m+1,by omega,?_,hf,wn⟩ (by simp only[];omega)));rw[e1];simp[e3]
  ·obtain rfl:m=V.B.ds.length:=by omega
   exact gI (by simp only[];omega) (hJ _ _ ⟨hp,rfl,w⟩)
 clear w;rintro _ h6 ⟨hp,rfl,w⟩;have hbl:=hB V.B.ds.length (Nat.le_refl _);have hnl:=hN V.B.ds.length;generalize P V.B.ds.length=r at *;unfold ED at k;rw[if_neg (by simp[hp])]at k;by_cases e:r.2.1=true;rotate_left
 ·rw[Bool.not_eq_true]at e;rw[if_pos e]at k;exact ct (by simp[e]) (k _ ((w.drop (i:=3) rfl).drop (i:=2) rfl))
 rw[if_neg (by simp[e])]at k;refine cf (by simp[e]) (M.nF (w.blk 2 rfl) rfl ?_);obtain⟨hx,k0,k1,wx,wr,back⟩:=w.on (i:=0) rfl;refine Hh wx (by have:=hbl.rm.steps;omega) hbl.rm.left λh7 w1=>?_;have w:=back _ _ w1;by_cases e1:r.2.2.iU.1=0;rotate_left
 ·rw[if_pos e1]at k;exact ct (by simpa using e1) (k _ ((w.drop (i:=3) rfl).drop (i:=2) rfl))
 rw[if_neg (by simp[e1])]at k;have hb2:=w.blk 2 rfl;have hb4:=w.blk 3 rfl;refine cf (by simp[e1]) (M.nF hb2 rfl (M.gv hb4 rfl (EC (by omega) (tb.keep w.keep) λh8 k8=>M.cY k8 ⟨_,hb4⟩ (M.cY k8 ⟨_,hb2⟩ ?_))));have w:=w.keeps k8;obtain⟨hx,k0,k1,wx,wr,back⟩:=w.on (i:=1) rfl;refine Kk wx (jJ _ _) λh9 w1=>?_;have w:=back _ _ w1;unfold BW at w ⊢;by_cases e2:s.count≤V.cnt
 ·rw[if_pos e2]at k w ⊢;exact k _ ((w.drop (i:=3) rfl).drop (i:=2) rfl)
 ·rw[if_neg e2]at k w ⊢;exact k _ ((w.drop (i:=3) rfl).drop (i:=2) rfl)
end
section
variable {B:ak}{gC:ByteArray}{n:Nat}{d:Int}{x:Int×gD}
theorem BJ{m:Nat}(h:mF B gC n m=some x):∀j,mF B gC n (m+j)=some x
 | 0=>h
 | j+1=>by
  show mF B gC n ((m+j)+1)=_;rw[mF,BJ h j]
theorem oY{m:Nat}(h0:mF B gC n m=none)(hm:m<n)(h:findD B gC n m=some x):(mF B gC n n).getD (24,mN)=x:=by
 have h1:mF B gC n (m+1)=some x:=by rw[mF,h0];exact h
 have:=BJ h1 (n-(m+1));rw[show m+1+(n-(m+1))=n by omega]at this;rw[this];rfl
theorem FW{y:Nat}(hy:y<2)(hp:∀j:Nat,j<y->(B.read d j).2=0∧oB gC n (B.read d j).1=none):
  ((B.read d y).2=21->findD B gC n d=some (21,mN))∧((B.read d y).2≠21->(B.read d y).2≠0->findD B gC n d=none)∧((B.read d y).2=0->∀x,oB gC n (B.read d y).1=some x->findD B gC n d=some x):=by
 unfold findD;have:y=0∨y=1:=by omega
 rcases this with rfl|rfl
 ·simp only[Int.natCast_zero];refine⟨λh=>if_pos h,λh g=>?_,λh x g=>?_⟩
  ·rw[if_neg h,if_pos g]
  ·rw[if_neg (by rw[h];simp),if_neg (by rw[h];simp),g]
 ·obtain⟨h1,h2⟩:=hp 0 (by omega);simp only[Int.natCast_zero]at h1 h2;rw[if_neg (by rw[h1];simp),if_neg (by simp[h1]),h2];simp only[Int.natCast_one];refine⟨λh=>if_pos h,λh g=>?_,λh x g=>?_⟩
  ·rw[if_neg h,if_pos g]
  ·rw[if_neg (by rw[h];simp),if_neg (by simp[h]),g]
theorem BO(hp:∀j:Nat,j<2->(B.read d j).2=0∧oB gC n (B.read d j).1=none):findD B gC n d=none:=by
 unfold findD;obtain⟨h1,h2⟩:=hp 0 (by omega);obtain⟨h3,h4⟩:=hp 1 (by omega);simp only[Int.natCast_zero,Int.natCast_one]at h1 h2 h3 h4;rw[if_neg (by rw[h1];simp),if_neg (by simp[h1]),h2];simp only;rw[if_neg (by rw[h3];simp),if_neg (by simp[h3]),h4]
theorem xZ{m:Nat}(h:(kK B d m).2≠0):∀j,kK B d (m+j)=kK B d m
 | 0=>rfl
 | j+1=>by
  show kK B d ((m+j)+1)=_;rw[kK,xZ h j,if_pos h]
end
theorem tJ{h0 h:H}{L:List Chunk}{b i:Nat}{C:Array Value}{e:TypeId}{K:Int->Int->Int->Int->Int->Int->Bool->Option Addr->Nat->Nat->Option Addr->Nat->Nat->H->Prop}(s:gD)(sa:Option Addr)(sl sc:Nat)(ma:Option Addr)(ml mc:Nat)(w:Wd h0 h L)
  (hi:L[i]? = some (.blk b (.cells C e (0,0)))) (hC:C.size=9) (k:∀h',Wd h0 h' (L.set i (.blk b (.cells (gH s sa sl sc ma ml mc).toArray e (0,0))))->K s.count s.dS s.data s.slots s.mark s.built s.aJ sa sl sc ma ml mc h'):
  M.nN 9 h ⟨b,0,none⟩ (gH s sa sl sc ma ml mc) (λh'=>M.kC h' ⟨b,0,none⟩ λn0 n1 n2 n3 n4 n5 n6 a1 l1 c1 a2 l2 c2=>K n0 n1 n2 n3 n4 n5 n6 a1 l1 c1 a2 l2 c2 h'):=by
 refine⟨rfl,M.bz w i hi (by simp[gH,ag]) (by rw[hC];rfl) λh1 w1=>?_⟩;have hb:h1 b=some (.cells (gH s sa sl sc ma ml mc).toArray e (0,0)):=w1.blk i (by rw[List.getElem?_set_self (List.getElem?_eq_some_iff.1 hi).1]);exact kq (s:=s) (sa:=sa) (sl:=sl) (sc:=sc) (ma:=ma) (ml:=ml) (mc:=mc) (hM hb) (k _ w1)
section
variable {h0 h:H}{b a c k':Nat}{B:ak}{V:qG}{d at_:Int}{t key:ByteArray}{s:gD}{sa ma:Option Addr}{sl sc ml mc:Nat}{L:List Chunk}
theorem find_spec{Q:Int->Int->Int->Int->Int->Int->Bool->Option Addr->Nat->Nat->Option Addr->Nat->Nat->Int->H->Prop}(wx:Wd h0 h (uZ b a V))(bk:Bk V.B c 1)(tb:Tabs h)
  (k0:(ig V.B V.gC).1=0->∀a1 c1 a2 c2 h',Wd h h' (L1 (ig V.B V.gC).2 a1 c1 a2 c2)->Q (ig V.B V.gC).2.count (ig V.B V.gC).2.dS (ig V.B V.gC).2.data (ig V.B V.gC).2.slots (ig V.B V.gC).2.mark (ig V.B V.gC).2.built (ig V.B V.gC).2.aJ a1 (ig V.B V.gC).2.av.length c1 a2 (ig V.B V.gC).2.aj.length c2 0 h')
  (k1:(ig V.B V.gC).1≠0->∀h',bq h h'->Q 0 0 0 0 0 0 false none 0 0 none 0 0 (ig V.B V.gC).1 h'):cC (some ⟨b,0,none⟩) (some ⟨a,0,none⟩) key h Q:=by
 unfold cC cC.g;unfold ig at k0 k1;have hn:=bk.ok.small;generalize hN:V.B.ds.length=N at *;refine M.aK (Wd.start h) λb1 h1 w=>M.aK w λb2 h2 w=>M.nF (w.blk 0 rfl) rfl ?_;have ha:=wx.keeps w.keep;refine yT (ha.blk 1 rfl) ?_;have kz:∀(z:Int) h',(mF V.B V.gC N N).getD (24,mN)=(z,mN)->z≠0->Wd h h' [.blk b1 (.cells #[.pointer (some ⟨b,0,none⟩),.pointer (some ⟨a,0,none⟩),.string key] 120),.blk b2 (.cells (gH mN none 0 0 none 0 0).toArray 40)] ->
   M.nN 9 h' ⟨b2,0,none⟩ (gH mN none 0 0 none 0 0) (λh'=>M.kC h' ⟨b2,0,none⟩ λn0 n1 n2 n3 n4 n5 n6 a1 l1 c1 a2 l2 c2=>Q n0 n1 n2 n3 n4 n5 n6 a1 l1 c1 a2 l2 c2 z h'):=λz h' e hz w=>by
  rw[e]at k1;exact tJ (K:=λn0 n1 n2 n3 n4 n5 n6 a1 l1 c1 a2 l2 c2 h'=>Q n0 n1 n2 n3 n4 n5 n6 a1 l1 c1 a2 l2 c2 z h') mN none 0 0 none 0 0 w (i:=1) rfl rfl λh2 w2=>k1 hz _ w2.keep
 refine M.aO (λ_ h'=>mF V.B V.gC N N=none∧Wd h h' [.blk b1 (.cells #[.pointer (some ⟨b,0,none⟩),.pointer (some ⟨a,0,none⟩),.string key] 120),.blk b2 (.cells (gH mN none 0 0 none 0 0).toArray 40)]) (λJ hJ=>M.nF (w.blk 0 rfl) rfl ?_) ?_;rotate_left
 ·rintro _ h3 ⟨e,w⟩;exact kz 24 h3 (by rw[e];rfl) (by decide) w
 obtain⟨_,_,_,wb,_,_⟩:=ha.on (i:=0) rfl;refine EH wb ?_;rw[hN];refine M.aP (I:=λ(p:Int) h'=>∃m:Nat,m≤N∧p=(m:Int)∧mF V.B V.gC N m=none∧Wd h h' [.blk b1 (.cells #[.pointer (some ⟨b,0,none⟩),.pointer (some ⟨a,0,none⟩),.string key] 120),.blk b2 (.cells (gH mN none 0 0 none 0 0).toArray 40)]) (μ:=λp=>(N-p).toNat) ⟨0,by omega,rfl,rfl,w⟩ ?_;clear w wb ha;rintro p h3 J2 ⟨m,hm,rfl,hf,w⟩ hJ2;by_cases g:m<N;rotate_left
 ·obtain rfl:m=N:=by omega
  exact gI (by omega) (hJ () _ ⟨hf,w⟩)
 refine eN (by omega) ?_;have hnx:∀h',findD V.B V.gC N m=none->Wd h h' [.blk b1 (.cells #[.pointer (some ⟨b,0,none⟩),.pointer (some ⟨a,0,none⟩),.string key] 120),.blk b2 (.cells (gH mN none 0 0 none 0 0).toArray 40)]->M.val (wrap .i64 ((m:Int)+1)) λz=>J2 z h':=λh' e w=>
  M.vis ((m+1:Nat):Int) (by rw[IntKind.wrap_i64];omega) (hJ2 _ _ ⟨m+1,by omega,rfl,by rw[mF,hf];exact e,w⟩ (by omega))
 refine M.aP (I:=λ(p:Int) h'=>∃y:Nat,y≤2∧p=(y:Int)∧(∀j:Nat,j<y->(V.B.read m j).2=0∧oB V.gC N (V.B.read m j).1=none)∧Wd h h' [.blk b1 (.cells #[.pointer (some ⟨b,0,none⟩),.pointer (some ⟨a,0,none⟩),.string key] 120),.blk b2 (.cells (gH mN none 0 0 none 0 0).toArray 40)]) (μ:=λp=>(2-p).toNat) ⟨0,by omega,rfl,λj hj=>by omega,w⟩ ?_;clear w;rintro p h4 J3 ⟨y,hy,rfl,hp,w⟩ hJ3;by_cases gy:y<2;rotate_left
 ·obtain rfl:y=2:=by omega
  exact gI (by omega) (hnx _ (BO hp) w)
 obtain⟨d1,d2,d3⟩:=FW gy hp;have wv:=wx.keeps w.keep;obtain⟨_,_,_,wb,_,_⟩:=wv.on (i:=0) rfl;have hsz:=bk.sm m y;refine eN (by omega) (M.nF (w.blk 0 rfl) rfl (IT wb ?_));have hp2:(V.B.read m y).2=0->oB V.gC N (V.B.read m y).1=none->∀j:Nat,j<y+1->(V.B.read m j).2=0∧oB V.gC N (V.B.read m j).1=none:=λe1 e2 j hj=>by
  by_cases e:j=y
  ·subst e;exact⟨e1,e2⟩
  ·exact hp j (by omega)
 generalize V.B.read m y=r at *;by_cases e1:r.2=21
 ·refine ct (by simp[e1]) ?_;rw[e1];exact kz 21 _ (oY hf g (d1 e1)) (by decide) w
 refine cf (by simpa using e1) ?_;by_cases e2:r.2=0;rotate_left
 ·exact ct (by simpa using e2) (hnx _ (d2 e1 e2) w)
 have hny:∀h',oB V.gC N r.1=none->Wd h h' [.blk b1 (.cells #[.pointer (some ⟨b,0,none⟩),.pointer (some ⟨a,0,none⟩),.string key] 120),.blk b2 (.cells (gH mN none 0 0 none 0 0).toArray 40)]->M.val (wrap .i64 ((y:Int)+1)) λz=>J3 z h':=λh' e w=>
  M.vis ((y+1:Nat):Int) (by rw[IntKind.wrap_i64];omega) (hJ3 _ _ ⟨y+1,by omega,rfl,hp2 e2 e,w⟩ (by omega))
 have hx:=d3 e2;refine cf (by simp[e2]) (EC (by omega) (tb.keep w.keep) λh5 k5=>?_);have w:=w.keeps k5;rw[kg];unfold oB at hny hx;by_cases e3:dH 2 r.1=V.gC;rotate_left
 ·exact ct (by simp[e3]) (hny _ (by rw[if_pos e3]) w)
 rw[if_neg (by simp[e3])]at hny hx;refine cf (by simp[e3]) (Hw (by omega) (λs a1 c1 a2 c2 h6 hs w6=>?_) λhs h6 k6=>?_)
 ·rw[hs]at hx hny;simp only at hx hny;have w:=w.join w6;refine M.aK w λb3 h7 w=>⟨rfl,M.bz w 4 rfl (by simp[ag]) rfl λh8 w=>ct rfl (M.lW (w.blk 4 rfl) rfl (M.nF (w.blk 0 rfl) rfl ?_))⟩;have wv:=wx.keeps w.keep;obtain⟨_,_,_,wb,_,_⟩:=wv.on (i:=0) rfl;refine EH wb (M.cY (bq.refl _) ⟨_,w.blk 4 rfl⟩ ?_);rw[hN];by_cases e4:s.aj.length=N;rotate_left
  ·rw[if_pos e4]at hx;refine ct (by simp;omega) ?_;have w:=((w.drop (i:=4) rfl).drop (i:=3) rfl).drop (i:=2) rfl;exact kz 24 _ (oY hf g (hx _ rfl)) (by decide) w
  ·rw[if_neg (by simp[e4])]at hx;have hres:=oY hf g (hx _ rfl);rw[hres]at k0;refine cf (by simp[e4]) (kq (s:=s) (sa:=a1) (sl:=s.av.length) (sc:=c1) (ma:=a2) (ml:=s.aj.length) (mc:=c2) (hM (w.blk 4 rfl)) ?_);refine tJ (K:=λn0 n1 n2 n3 n4 n5 n6 a1 l1 c1 a2 l2 c2 h'=>Q n0 n1 n2 n3 n4 n5 n6 a1 l1 c1 a2 l2 c2 0 h') s a1 _ c1 a2 _ c2 w (i:=1) rfl rfl λh9 w=>?_;exact k0 rfl a1 c1 a2 c2 h9 (((w.drop (i:=4) rfl).drop (i:=1) rfl).drop (i:=0) rfl)
 ·rw[hs]at hny;have w:=w.keeps k6;refine M.aK w λb3 h7 w=>⟨rfl,M.bz w 2 rfl (by simp[ag]) rfl λh8 w=>cf rfl (hny _ rfl (w.drop (i:=2) rfl))⟩
theorem MW{p:Option Addr}{gC:ByteArray}{Q:Option Addr->Nat->Nat->Int->H->Prop}(wx:Wd h0 h [dO b B])(bk:Bk B c 1)(tb:Tabs h)
  (k:∀a' c' h',Wd h h' [.sl 261 2 a' (lC B d gC).1.length c' (eP.row (lC B d gC).1)]->Q a' (lC B d gC).1.length c' (lC B d gC).2 h'):cV (some ⟨b,0,none⟩) p key d gC h Q:=by
 unfold cV;have hz:∀m,∀s∈(kK B d m).1,s.size≤2048:=λm=>xI (P:=λs=>s.size≤2048) (λa=>bk.sm d a) m;have ke:∀(e:Int) h',bq h h'->lC B d gC=([],e)->Q none 0 0 e h':=λe h' k' g=>by
  rw[g]at k;exact k _ _ _ (((Wd.start h).keeps k').jt _ _)
 unfold lC at k ke;refine M.aK (Wd.start h) λb1 h1 w=>?_;have w:=w.jt 9 1;refine M.aO (λv h'=>(B.read d 2).2=0∧(jb (B.read d 2).1).2=0∧v.2.1=(jb (B.read d 2).1).1.toNat∧(kK B d v.2.1).2=0∧Wd h h' [.blk b1 (.cells #[.pointer (some ⟨b,0,none⟩),.pointer p,.string key] 120),.sl 9 1 v.1 v.2.1 v.2.2 (eS.row (kK B d v.2.1).1)]) (λJ hJ=>?_) ?_;rotate_left
 ·rintro⟨a2,l2,c2⟩ h3 ⟨e1,e2,e3,e4,w⟩;simp only at e3 e4 w ⊢;have hb:=qD e2;have hl:=Bn l2 e4;rw[if_neg (by simp[e1]),if_neg (by simp[e2]),←e3,if_neg (by simp[e4])]at k;have hc:=(w.mI 1 rfl).2.1;refine Jx (w.ro (E:=eS) 1 rfl (by decide)) (by omega) (by omega) (hz l2) (tb.keep w.keep) λa3 c3 h4 w4=>?_;exact k _ _ _ (w4.base w.keep)
 refine M.aP (I:=λ(p':(Option Addr×Nat×Nat)×Int) h'=>∃y:Nat,p'.1.2.1=y∧(kK B d y).2=0∧((y=0∧p'.2=1)∨(1≤y∧(y:Int)≤p'.2∧(B.read d 2).2=0∧(jb (B.read d 2).1).2=0∧p'.2=(jb (B.read d 2).1).1)) ∧
   Wd h h' [.blk b1 (.cells #[.pointer (some ⟨b,0,none⟩),.pointer p,.string key] 120),.sl 9 1 p'.1.1 p'.1.2.1 p'.1.2.2 (eS.row (kK B d y).1)]) (μ:=λp'=>200-p'.1.2.1) ⟨0,rfl,rfl,.inl ⟨rfl,rfl⟩,w⟩ ?_
 clear w;rintro⟨⟨a2,l2,c2⟩,n2⟩ h2 J2 ⟨y,hl,hr,hc,w⟩ hJ2;simp only at hl hc w ⊢;subst hl;have hb:n2≤96:=by
  rcases hc with ⟨_,h⟩|⟨_,_,_,h1,h2⟩
  ·omega
  ·have:=qD h1;omega
 by_cases g:(l2:Int)<n2
 rotate_left
 ·refine gI g ?_;rcases hc with ⟨h1,h2⟩|⟨h1,h2,h3,h4,h5⟩
  ·omega
  ·exact hJ (a2,l2,c2) _ ⟨h3,h4,by simp only;omega,hr,w⟩
 refine eN g (M.nF (w.blk 0 rfl) rfl (M.vis (2+(l2:Int)) (qJ (by omega) (by omega)) (IT (wx.keeps w.keep) ?_)));by_cases e1:(B.read d (2+(l2:Int))).2=0;rotate_left
 ·refine ct (by simpa using e1) (ke _ _ w.keep ?_);rcases hc with ⟨rfl,h2⟩|⟨h1,h2,h3,h4,h5⟩
  ·rw[if_pos (by simpa using e1)];simp
  ·have hs:(kK B d (l2+1)).2=(B.read d (2+(l2:Int))).2:=by rw[kK,if_neg (by simp[hr]),if_pos e1]
   have hm:=xZ (m:=l2+1) (by rw[hs];exact e1) ((jb (B.read d 2).1).1.toNat-(l2+1));rw[show l2+1+((jb (B.read d 2).1).1.toNat-(l2+1))=(jb (B.read d 2).1).1.toNat by omega]at hm;rw[if_neg (by simp[h3]),if_neg (by simp[h4]),hm,hs,if_pos e1]
 have hs:kK B d (l2+1)=((kK B d l2).1++[(B.read d (2+(l2:Int))).1],0):=by rw[kK,if_neg (by simp[hr]),if_neg (by simp[e1])]
 refine cf (by simp[e1]) (Wd.push w 1 rfl rfl rfl (eS.iq [_]) (by omega) (by omega) λa3 c3 h3 w=>?_);have w:Wd h h3 [.blk b1 (.cells #[.pointer (some ⟨b,0,none⟩),.pointer p,.string key] 120),.sl 9 1 a3 (l2+1) c3 (eS.row (kK B d (l2+1)).1)]:=by
  rw[hs,eS.iX];exact w
 rcases hc with ⟨rfl,h2⟩|⟨h1,h2,h3,h4,h5⟩
 ·have hsz:=bk.sm d 2;simp only[Int.natCast_zero,Int.add_zero]at e1 hs ⊢;refine ct (by simp) (AB (by omega) λh4 k4=>?_);by_cases e2:(jb (B.read d 2).1).2=0;rotate_left
  ·exact ct (by simpa using e2) (ke _ _ (w.keep.trans k4) (by rw[if_neg (by simp[e1]),if_pos e2]))
  have:=qD e2;exact cf (by simp[e2]) (hJ2 _ _ ⟨1,rfl,by rw[hs],.inr ⟨by omega,by simp only;omega,e1,e2,rfl⟩,w.keeps k4⟩ (by simp only;omega))
 ·exact cf (by simp;omega) (hJ2 _ _ ⟨l2+1,rfl,by rw[hs],.inr ⟨by omega,by simp only;omega,h3,h4,h5⟩,w⟩ (by simp only;omega))
theorem Gf{p:Option Addr}{Q:Int->H->Prop}(w:Wd h0 h [dO b B])(f:Ro kf h0 ma ml s.aj)(hl:ml≤12)(bk:Bk B c (96*ml+1))(tb:Tabs h0)
  (k:∀h',Wd h0 h' [dO b (lq key s B ml).2]->Q (lq key s B ml).1 h'):bY (some ⟨b,0,none⟩) p key s.count s.dS s.data s.slots s.mark s.built s.aJ sa sl sc ma ml mc h Q:=by
 unfold bY bY.g;have hx:=f.len;refine M.aK w λb1 h1 w=>M.aK w λb2 h2 w=>M.lW (w.blk 2 rfl) rfl ?_;have hS:∀m,lq key s B (m+1)=if(lq key s B m).1≠0 then lq key s B m else
   (if(pN key s.slots (lq key s B m).2 m (mb s.aj m)).1=21 then 21 else 0,(pN key s.slots (lq key s B m).2 m (mb s.aj m)).2):=λm=>rfl
 have hB:∀m,m≤ml->Bk (lq key s B m).2 c (96*(ml-m)+1):=λm hm=>Bk.rep m (bk.mono (by omega));have hR0:lq key s B 0=(0,B):=rfl;generalize lq key s B=R at *;have hfail:∀m j,(R m).1≠0->R (m+j)=R m:=λm j h=>by
  induction j with
  | zero=>rfl
  | succ j ih=>rw[←Nat.add_assoc,hS,ih,if_pos h]
 refine M.aP (I:=λ(q:Int) h'=>∃m:Nat,m≤ml∧q=(m:Int)∧(R m).1=0∧Wd h0 h' [dO b (R m).2,.blk b1 (.cells #[.pointer (some ⟨b,0,none⟩),.pointer p,.string key] 120),.blk b2 (.cells (gH s sa sl sc ma ml mc).toArray 40)]) (μ:=λq=>(ml-q).toNat) ⟨0,by omega,rfl,by rw[hR0],by rw[hR0];exact w⟩ ?_;clear w;rintro q h3 J ⟨m,hm,rfl,hr,w⟩ hJ;by_cases g:m<ml;rotate_left
 ·obtain rfl:m=ml:=by omega
  rw[hr]at k;exact gI (by omega) (k _ ((w.drop (i:=2) rfl).drop (i:=1) rfl))
 have hbm:=hB m hm;have e1:=hS m;rw[if_neg (by simp[hr])]at e1;refine eN (by omega) (Ro.BY (f.keep w.keep) (by omega) (by omega) (M.aK w λb3 h4 w=>⟨rfl,M.bz w 3 rfl (by simp[ag]) rfl λh5 w=>?_⟩));simp only[Int.toNat_natCast]at w ⊢;have hnx:∀h',pN key s.slots (R m).2 m (mb s.aj m)=(0,(R m).2)∨True->(pN key s.slots (R m).2 m (mb s.aj m)).1≠21->Wd h0 h' [dO b (pN key s.slots (R m).2 m (mb s.aj m)).2,.blk b1 (.cells #[.pointer (some ⟨b,0,none⟩),.pointer p,.string key] 120),.blk b2 (.cells (gH s sa sl sc ma ml mc).toArray 40)]->M.val (wrap .i64 ((m:Int)+1)) λz=>J z h':=λh' _ e w=>by
  refine M.vis ((m+1:Nat):Int) (by rw[IntKind.wrap_i64];omega) (hJ _ _ ⟨m+1,by omega,rfl,?_,?_⟩ (by omega))
  ·rw[e1,if_neg e]
  ·rw[e1];exact w
 have hq:∀h',(pN key s.slots (R m).2 m (mb s.aj m)).1=21->Wd h0 h' [dO b (pN key s.slots (R m).2 m (mb s.aj m)).2]->Q 21 h':=λh' e w=>by
  have hl:R ml=R (m+1):=by
   have:=hfail (m+1) (ml-(m+1)) (by rw[e1,if_pos e];simp)
   rwa [show m+1+(ml-(m+1))=ml by omega]at this
  rw[hl,e1,if_pos e]at k;exact k _ w
 unfold pN at hnx hq;generalize hme:mb s.aj m=x at *;have hb3:=w.blk 3 rfl;refine M.gv hb3 rfl (M.oL hb3 rfl (M.oL hb3 rfl (Aj λh6 k6=>?_)));have w:=w.keeps k6;by_cases e2:x.o5;rotate_left
 ·rw[if_pos e2]at hnx;exact ct (by simp[e2]) (hnx _ (.inr trivial) (by simp) (w.drop (i:=3) rfl))
 rw[if_neg (by simp[e2])]at hnx hq;refine cf (by simp[e2]) (nS (w.blk 1 rfl) rfl rfl rfl (M.oL (w.blk 3 rfl) rfl ?_));obtain⟨_,_,_,wb,_,_⟩:=w.on (i:=0) rfl;refine MW wb (hbm.mono (by omega)) (tb.keep w.keep) λa4 c4 h7 w7=>?_;have w:=(w.join w7).drop (i:=3) rfl;clear w7 wb;have hlen:=De (B:=(R m).2) (d:=(m:Int)) x.log;generalize lC (R m).2 m x.log=r at *;refine M.aO (λz h'=>z=(if r.2=0∧0<r.1.length then jN (R m).2 key m s.slots r.1 else(r.2,(R m).2)).1∧Wd h0 h' [dO b (if r.2=0∧0<r.1.length then jN (R m).2 key m s.slots r.1 else(r.2,(R m).2)).2,.blk b1 (.cells #[.pointer (some ⟨b,0,none⟩),.pointer p,.string key] 120),.blk b2 (.cells (gH s sa sl sc ma ml mc).toArray 40)]) (λJ1 hJ1=>?_) ?_
 ·have hel:∀h',¬(r.2=0∧0<r.1.length)->h'=h7->J1 r.2 h':=λh' e eh=>by
   rw[if_neg e]at hJ1;rw[eh];exact hJ1 _ _ ⟨rfl,w.drop (i:=3) rfl⟩
  refine M.aO (λz h'=>z=decide (r.2=0∧0<r.1.length)∧h'=h7) (λJ3 hJ3=>?_) ?_
  ·by_cases e3:r.2=0
   ·refine ct (by simp[e3]) (hJ3 _ _ ⟨?_,rfl⟩);by_cases e4:0<r.1.length
    ·rw[decide_eq_true (by omega),decide_eq_true ⟨e3,e4⟩]
    ·rw[decide_eq_false (by omega),decide_eq_false λg=>e4 g.2]
   ·exact cf (by simpa using e3) (hJ3 _ _ ⟨(decide_eq_false λg=>e3 g.1).symm,rfl⟩)
  rintro _ h8 ⟨rfl,eh⟩;rw[eh];by_cases e:r.2=0∧0<r.1.length;rotate_left
  ·exact cf (decide_eq_false e) (hel _ e rfl)
  rw[if_pos e]at hJ1;refine ct (decide_eq_true e) (nS (w.blk 1 rfl) rfl rfl rfl (M.gv (w.blk 2 rfl) rfl (mG λh9 k9=>?_)));have w:=w.keeps k9;obtain⟨hx,k0,k1,wx,wr,back⟩:=w.on (i:=0) rfl;refine vR wx (wr.ro (E:=eP) 2 rfl (by decide)) ((hbm.mono (m:=r.1.length+1) (by omega)).rm) (tb.keep k0) λh10 w1=>?_;have w:=back _ _ w1;exact hJ1 _ _ ⟨rfl,w.drop (i:=3) rfl⟩
 rintro _ h8 ⟨rfl,w⟩;generalize (if r.2=0∧0<r.1.length then jN (R m).2 key m s.slots r.1 else(r.2,(R m).2))=q at *
 by_cases e:q.1=21
 ·refine ct (by simp[e]) ?_;rw[e];exact hq _ e ((w.drop (i:=2) rfl).drop (i:=1) rfl)
 ·exact cf (by simpa using e) (hnx _ (.inr trivial) e w)
end
theorem Ga{α:Type}{E:wY α}{o:Nat}{v:Value}{x':α}(ho:o<E.sz):∀{xs:List α} {j:Nat} (hj:j<xs.length),(E.enc xs[j]).set o v=E.enc x'->(E.row xs).set (j*E.sz+o) v=E.row (xs.set j x')
 | x::xs,0,_,h=>by
  rw[Nat.zero_mul,Nat.zero_add,E.kN,List.set_append_left _ _ (by rw[E.len];exact ho),List.set_cons_zero,E.kN];congr 1
 | x::xs,j+1,hj,h=>by
  have e:(j+1)*E.sz+o=E.sz+(j*E.sz+o):=by rw[Nat.succ_mul];omega
  rw[e,E.kN,List.set_append_right _ _ (by rw[E.len];omega),E.len,Nat.add_sub_cancel_left,Ga (xs:=xs) (j:=j) ho (by simpa using hj) h,List.set_cons_succ,E.kN]
theorem sQ{α:Type}(E:wY α){h0 h:H}{L:List Chunk}{a:Option Addr}{l c:Nat}{e:TypeId}{xs:List α}{z o:Nat}{zi:Int}{v:Value}{K:H->Prop}(w:Wd h0 h L)(i:Nat)(hi:L[i]? = some (.sl e E.sz a l c (E.row xs)))(hz:zi=(z:Int))(hl:z<xs.length)(ho:o<E.sz)(hp:ag v=true)(x':α)
  (hx:(E.enc xs[z]).set o v=E.enc x') (k:∀h',Wd h0 h' (L.set i (.sl e E.sz a l c (E.row (xs.set z x'))))->K h'):M.idx a l zi λb j=>M.put h (Addr.add (Addr.add b (j*E.sz)) o) v K:=by
 subst hz;obtain⟨h1,_,h2,_⟩:=w.mI i hi;rw[E.jR]at h1;have hll:xs.length=l:=Nat.eq_of_mul_eq_mul_right (by omega) h1;cases a with
 | none=>have:=(h2 rfl).2;omega
 | some b=>
  refine M.mq (by omega) (by omega) ?_;rw[Int.toNat_natCast,KT];refine M.DH w i hi hp ?_ λh' w=>k h' ?_
  ·rw[E.jR];have:(z+1)*E.sz≤xs.length*E.sz:=Nat.mul_le_mul_right _ hl;rw[Nat.succ_mul]at this;omega
  ·rw[Ga ho hl hx]at w;exact w
structure uY where
 S:gD
 nx:Int
 dead:Bool
structure gD.Fit (s:gD):Prop where
 d:2≤s.data∧s.data≤8
 sl:dep s.slots≠0
 ns:(s.av.length:Int)=s.mT
 rg:∀i∈s.av,0≤i∧i<s.aj.length
 ml:1≤s.aj.length∧s.aj.length≤12
theorem gD.good.fit{s:gD}(g:s.good):s.Fit:=⟨⟨g.1.1.1,g.1.1.2.1⟩,g.1.2.1,g.2.2.1,g.2.2.2.1,g.1.2.2.2.2.2⟩
theorem gD.Fit.len{s:gD}(g:s.Fit):s.av.length≤11∧s.aj.length≤12:=by
 refine⟨?_,g.ml.2⟩;have h1:=g.ns;have h2:=g.d;unfold gD.mT at h1;split at h1<;>omega
structure uY.Ok (T:uY):Prop where
 g:T.S.Fit
 ji:T.S.ji
 ep:1≤T.S.dS∧T.S.dS≤4294967295
 nx:0≤T.nx∧T.nx≤4294967296
def yG(b a:Nat)(key:ByteArray)(T:uY)(sa:Option Addr)(sc:Nat)(ma:Option Addr)(mc src:Nat):Array Value:=#[.pointer (some ⟨b,0,none⟩),.pointer (some ⟨a,0,none⟩),.string key,.int .u64 T.S.count,.int .u64 T.S.dS,.int .i64 T.S.data,.int .i64 T.S.slots,.int .i64 T.S.mark,.int .i64 T.S.built,.bool T.S.aJ,
 .slice sa T.S.av.length sc,.slice ma T.S.aj.length mc,.pointer (some ⟨src,0,none⟩),.bool T.dead]
def jB(p b a:Nat)(key:ByteArray)(T:uY):Chunk:=Wd.obj (α:=Option Addr×Nat×Option Addr×Nat×Nat) (λ_=>T.Ok) λv=>[.blk p (.cells (yG b a key T v.1 v.2.1 v.2.2.1 v.2.2.2.1 v.2.2.2.2) 123),.sl 3 1 v.1 T.S.av.length v.2.1 (eI.row T.S.av),
 .sl 51 3 v.2.2.1 T.S.aj.length v.2.2.2.1 (kf.row T.S.aj),.blk v.2.2.2.2 (Ca T.S.dS T.nx)]
def nG(s:gD):uY:=⟨s,0,false⟩
section
variable {h0 h:H}{b a c:Nat}{V:qG}{key:ByteArray}{data slots:Int}
theorem yg{Q:Option Addr->Int->H->Prop}(w:Wd h0 h (uZ b a V))(v:rW V c 1300)(tb:Tabs h0)
  (k1:(lH V key).1≠0->∀h',Wd h0 h' (uZ b a (lH V key).2.1)->Q none (lH V key).1 h')
  (k0:(lH V key).1=0->∀p h',Wd h0 h' (uZ b a (lH V key).2.1++[jB p b a key (nG (lH V key).2.2)])->Q (some ⟨p,0,none⟩) 0 h'):cT (some ⟨b,0,none⟩) (some ⟨a,0,none⟩) key h Q:=by
 unfold cT cT.g;have hon:=Ax (V:=V) (key:=key);unfold lH at k0 k1 hon;refine M.aK w λb1 h1 w=>⟨rfl,M.bz w 2 rfl (by simp[ag]) rfl λh2 w=>nS (w.blk 2 rfl) rfl rfl rfl ?_⟩;obtain⟨_,_,_,wb,_,_⟩:=w.on (i:=0) rfl;refine Dq (a:=a) wb rfl λh3 k3=>?_;clear wb;have w:=w.keeps k3;by_cases e1:oy V.B key=0;rotate_left
 ·rw[if_pos e1]at k1;exact ct (by simpa using e1) (k1 e1 _ (w.drop (i:=2) rfl))
 rw[if_neg (by simp[e1])]at k0 k1 hon;refine cf (by simp[e1]) (yT (w.blk 1 rfl) ?_);by_cases e2:V.cnt=0
 ·rw[if_pos e2]at k1;exact ct (by simp[e2]) (k1 (show(11:Int)≠0 by decide) _ (w.drop (i:=2) rfl))
 rw[if_neg e2]at k0 k1 hon;refine cf (by simpa using e2) (nS (w.blk 2 rfl) rfl rfl rfl ?_);obtain⟨h4,_,kk4,w4,wr4,back4⟩:=w.split 2;refine find_spec w4 (v.bk.mono (by omega)) (tb.keep w.keep) (λef a1 c1 a2 c2 h5 w5=>?_) λef h5 k5=>?_;rotate_left
 ·have w:=w.keeps k5;rw[if_pos ef]at k1;refine M.aK w λb2 h6 w=>⟨rfl,M.bz w 3 rfl (by simp[ag]) rfl λh7 w=>?_⟩;exact ct (by simpa using ef) (k1 ef _ ((w.drop (i:=3) rfl).drop (i:=2) rfl))
 clear w4 wr4 back4;have w:=w.join w5;clear w5;rw[if_neg (by simp[ef])]at k0 k1 hon;obtain⟨hg,hbig,hlen⟩:=qo ef;generalize (ig V.B V.gC).2=s at *;refine M.aK w λb2 h6 w=>⟨rfl,M.bz w 5 rfl (by simp[ag]) rfl λh7 w=>cf rfl (M.gv (w.blk 5 rfl) rfl ?_)⟩;by_cases e3:s.dS≥4294967295
 ·rw[if_pos e3]at k1;exact eN e3 (k1 (show(25:Int)≠0 by decide) _ ((((w.drop (i:=5) rfl).drop (i:=4) rfl).drop (i:=3) rfl).drop (i:=2) rfl))
 rw[if_neg e3]at k0 k1 hon;refine gI e3 (nS (w.blk 2 rfl) rfl rfl rfl (kq (s:=s) (sa:=a1) (sl:=s.av.length) (sc:=c1) (ma:=a2) (ml:=s.aj.length) (mc:=c2) (hM (w.blk 5 rfl)) ?_));have hn:=v.bk.ok.small;obtain⟨h8,k08,kk8,w8,wr8,back8⟩:=w.on (i:=0) rfl;refine Gf (c:=c) w8 (wr8.ro (E:=kf) 3 rfl (by decide)) (by omega) (v.bk.mono (by omega)) (tb.keep k08) λh9 w9=>?_;have w:=back8 _ _ w9;clear w8 wr8 back8 w9 kk8 k08 h8;have hrep:Bk (lq key s V.B s.aj.length).2 c 100:=Bk.rep s.aj.length (v.bk.mono (by omega));dsimp only at k0 k1 hon;generalize lq key s V.B s.aj.length=r at *;by_cases e4:r.1=0;rotate_left
 ·rw[if_pos e4]at k1;exact ct (by simpa using e4) (k1 e4 _ ((((w.drop (i:=5) rfl).drop (i:=4) rfl).drop (i:=3) rfl).drop (i:=2) rfl))
 rw[if_neg (by simp[e4])]at k0 k1 hon;refine cf (by simp[e4]) (M.gv (w.blk 5 rfl) rfl (M.vis (Du (s.count+1)) rfl (M.bg w 5 rfl rfl (by simp) λh10 w=>M.gv (w.blk 5 rfl) rfl (M.vis (Du (s.dS+1)) rfl (M.bg w 5 rfl rfl (by simp) λh11 w=>?_)))))
 have w:Wd h0 h11 [dO b r.2,.blk a (mV V.cnt V.gC),.blk b1 (.cells #[.pointer (some ⟨b,0,none⟩),.pointer (some ⟨a,0,none⟩),.string key] 120),.sl 3 1 a1 s.av.length c1 (eI.row s.av),.sl 51 3 a2 s.aj.length c2 (kf.row s.aj),
  .blk b2 (.cells (gH s.next a1 s.av.length c1 a2 s.aj.length c2).toArray 40)]:=w
 refine M.aO (λ_ h'=>Wd h0 h' [dO b r.2,.blk a (mV V.cnt V.gC),.blk b1 (.cells #[.pointer (some ⟨b,0,none⟩),.pointer (some ⟨a,0,none⟩),.string key] 120),.sl 3 1 a1 s.av.length c1 (eI.row s.av),.sl 51 3 a2 s.aj.length c2 (kf.row s.next.aj),
  .blk b2 (.cells (gH s.next a1 s.av.length c1 a2 s.aj.length c2).toArray 40)]) (λJ hJ=>M.lW (w.blk 5 rfl) rfl ?_) ?_
 ·refine M.aP (I:=λ(p:Int) h'=>∃m:Nat,m≤s.aj.length∧p=(m:Int)∧Wd h0 h' [dO b r.2,.blk a (mV V.cnt V.gC),.blk b1 (.cells #[.pointer (some ⟨b,0,none⟩),.pointer (some ⟨a,0,none⟩),.string key] 120),.sl 3 1 a1 s.av.length c1 (eI.row s.av),.sl 51 3 a2 s.aj.length c2 (kf.row (s.next.aj.take m++s.aj.drop m)),
   .blk b2 (.cells (gH s.next a1 s.av.length c1 a2 s.aj.length c2).toArray 40)]) (μ:=λp=>(s.aj.length-p).toNat) ⟨0,by omega,rfl,by simpa using w⟩ ?_
  clear w;rintro p h12 J2 ⟨m,hm,rfl,w⟩ hJ2;have hnl:s.next.aj.length=s.aj.length:=by simp[gD.next]
  by_cases g:m<s.aj.length
  ·refine eN (by omega) (M.lW (w.blk 5 rfl) rfl (vN (tb.keep w.keep) λh13 Cz=>M.cY Cz ⟨_,w.blk 5 rfl⟩ ?_));have w:=w.keeps Cz;have hl2:m<(s.next.aj.take m++s.aj.drop m).length:=by simp[hnl];omega
   have hg2:(s.next.aj.take m++s.aj.drop m)[m]=s.aj[m]:=by
    rw[List.getElem_append_right (by simp;omega)];simp[hnl,Nat.min_eq_left hm]
   refine sQ kf w 4 rfl (z:=m) (o:=2) rfl hl2 (by decide) rfl { s.aj[m]with log:=gF } (by rw[hg2];rfl) λh14 w=>?_;refine M.vis ((m+1:Nat):Int) (by rw[IntKind.wrap_i64];omega) (hJ2 _ _ ⟨m+1,by omega,rfl,?_⟩ (by omega));have hs:(s.next.aj.take m++s.aj.drop m).set m { s.aj[m]with log:=gF } = s.next.aj.take (m+1)++s.aj.drop (m+1):=by
    rw[List.set_append_right _ _ (by simp;omega),List.length_take,hnl,Nat.min_eq_left hm,Nat.sub_self,List.drop_eq_getElem_cons g,List.set_cons_zero,List.take_succ_eq_append_getElem (by omega),List.append_assoc];simp[gD.next]
   rw[←hs];exact w
  ·obtain rfl:m=s.aj.length:=by omega
   rw[List.take_of_length_le (by omega),List.drop_length,List.append_nil]at w;exact gI (by omega) (hJ () _ w)
 clear w;rintro _ h12 w;have hnl:s.next.aj.length=s.aj.length:=by simp[gD.next]
 have hns:s.next.av=s.av:=rfl
 have vr:rW { V with B:=r.2 } c 25:=⟨hrep.mono (by omega),v.c0,v.c1⟩
 refine nS (w.blk 2 rfl) rfl rfl rfl (kq (s:=s.next) (sa:=a1) (sl:=s.av.length) (sc:=c1) (ma:=a2) (ml:=s.aj.length) (mc:=c2) (hM (w.blk 5 rfl)) ?_)
 obtain⟨h13,k013,kk13,w13,wr13,back13⟩:=w.split 2;refine sE (V:={ V with B:=r.2 }) w13 (wr13.ro (E:=eI) 1 rfl (by decide)) (by have:=wr13.ro (E:=kf) (xs:=s.next.aj) 2 rfl (by decide);exact this) (by omega) (by have:=hg.len;omega) (gD.uz _) vr (tb.keep k013) λh14 w14=>?_
 have w:=back13 _ _ w14;clear w13 wr13 back13 w14 kk13 k013;generalize iY { V with B:=r.2 } s.next=P at *
 by_cases e5:P.1=0
 rotate_left
 ·rw[if_pos e5]at k1;exact ct (by simpa using e5) (k1 e5 _ ((((w.drop (i:=5) rfl).drop (i:=4) rfl).drop (i:=3) rfl).drop (i:=2) rfl))
 rw[if_neg (by simp[e5])]at k0 k1 hon;obtain⟨q1,q2,q3,q4,q5,q6,q7⟩:=hon rfl;refine cf (by simp[e5]) (M.gv (w.blk 5 rfl) rfl (Ks ⟨q5,q4⟩ λb3 h15 w15=>?_));have w:=w.join w15;clear w15;refine nS (w.blk 2 rfl) rfl rfl rfl (kq (s:=s.next) (sa:=a1) (sl:=s.av.length) (sc:=c1) (ma:=a2) (ml:=s.aj.length) (mc:=c2) (hM (w.blk 5 rfl)) (M.aK w λp h16 w=>k0 rfl p h16 ?_))
 have w:=(w.drop (i:=5) rfl).drop (i:=2) rfl;have w:=((w.mv (i:=2) rfl).mv (i:=2) rfl).mv (i:=2) rfl;have w':Wd h0 h16 (uZ b a P.2++[.blk p (.cells (yG b a key (nG s.next) a1 c1 a2 c2 b3) 123),.sl 3 1 a1 s.next.av.length c1 (eI.row s.next.av),.sl 51 3 a2 s.next.aj.length c2 (kf.row s.next.aj),.blk b3 (Ca s.next.dS 0)]):=by
  unfold yG;rw[show(nG s.next).S.aj.length=s.aj.length from hnl,hnl]
  exact w
 exact w'.close 2 (a1,c1,a2,c2,b3) rfl ⟨q1.fit,q2,⟨q5,q4⟩,Int.le_refl 0,show(0:Int)≤4294967296 by decide⟩
end
def ko(data:Int)(m:Nat):List Int:=((List.range m).filter λi:Nat=>(i:Int)<data+2).map λi:Nat=>(i:Int)
theorem vP(data:Int)(m:Nat):ko data (m+1)=if(m:Int)<data+2 then ko data m++[(m:Int)] else ko data m:=by
 unfold ko;rw[List.range_succ,List.filter_append,List.map_append];by_cases h:(m:Int)<data+2
 ·simp[h]
 ·simp[h]
theorem uT(data:Int)(m:Nat):(ko data m).length≤m:=by
 unfold ko;rw[List.length_map];have:=List.length_filter_le (λi:Nat=>decide ((i:Int)<data+2)) (List.range m)
 rwa [List.length_range]at this
section
variable {h0 h:H}{b a c:Nat}{V:qG}{key:ByteArray}{data slots:Int}
theorem y8{Q:Int->H->Prop}(w:Wd h0 h (uZ b a V))(v:rW V c 600)(tb:Tabs h0)(tl:yo h0)
  (k:∀h',Wd h0 h' (uZ b a (mO V key data slots).2)->Q (mO V key data slots).1 h'):dx (some ⟨b,0,none⟩) (some ⟨a,0,none⟩) key data slots h Q:=by
 unfold dx dx.g;unfold mO at k;refine M.aK w λb1 h1 w=>⟨rfl,M.bz w 2 rfl (by simp[ag]) rfl λh2 w=>nS (w.blk 2 rfl) rfl rfl rfl ?_⟩;obtain⟨_,_,_,wb,_,_⟩:=w.on (i:=0) rfl;refine Dq (a:=a) wb rfl λh3 k3=>?_;clear wb;have w:=w.keeps k3;by_cases e1:oy V.B key=0;rotate_left
 ·rw[if_pos e1]at k;exact ct (by simpa using e1) (k _ (w.drop (i:=2) rfl))
 rw[if_neg (by simp[e1])]at k;have hkey:key.size=32:=by
  unfold oy at e1;by_cases e:key.size=32
  ·exact e
  ·rw[if_pos (.inl e)]at e1;simp at e1
 refine cf (by simp[e1]) (M.aK w λb2 h4 w=>⟨rfl,M.bz w 3 rfl (by simp[ag]) rfl λh5 w=>?_⟩);have hn:=v.bk.ok.small;refine M.aO (λz h'=>z=decide (¬ij data slots 0 false∨(V.B.ds.length:Int)<data+2)∧Wd h0 h' [dO b V.B,.blk a (mV V.cnt V.gC),.blk b1 (.cells #[.pointer (some ⟨b,0,none⟩),.pointer (some ⟨a,0,none⟩),.string key] 120)]) (λJ hJ=>?_) ?_
 ·have hb:=w.blk 3 rfl;refine M.gv hb rfl (M.gv hb rfl (M.gv hb rfl (M.Bi hb rfl (sD (tl.keep w.keep) λh6 k6=>?_))));have w:=(w.keeps k6).drop (i:=3) rfl;by_cases e:ij data slots 0 false;rotate_left
  ·exact ct (by simp[e]) (hJ _ _ ⟨(decide_eq_true (.inl e)).symm,w⟩)
  obtain⟨_,_,_,wb,_,_⟩:=w.on (i:=0) rfl;refine cf (by simp[e]) (EH wb (M.vis (data+2) ?_ (hJ _ _ ⟨?_,w⟩)))
  ·obtain⟨_,h2,h3,_⟩:=e;simp only[Bool.false_eq_true,if_false]at h3;exact qJ (by omega) (by omega)
  ·by_cases e2:(V.B.ds.length:Int)<data+2
   ·rw[decide_eq_true e2,decide_eq_true (.inr e2)]
   ·rw[decide_eq_false e2,decide_eq_false λg=>g.elim (λx=>x e) e2]
 clear w;rintro _ h6 ⟨rfl,w⟩;by_cases e2:¬ij data slots 0 false∨(V.B.ds.length:Int)<data+2
 ·rw[if_pos e2]at k;exact ct (decide_eq_true e2) (k _ (w.drop (i:=2) rfl))
 rw[if_neg e2]at k;have hlg:ij data slots 0 false:=Decidable.not_not.1 λg=>e2 (.inl g);obtain⟨hd,hd2,hd8,_⟩:=hlg;simp only[Bool.false_eq_true,if_false]at hd8;have hsl:=iC hd;refine cf (decide_eq_false e2) (yT (w.blk 1 rfl) ?_);by_cases e3:V.cnt=0;rotate_left
 ·rw[if_pos e3]at k;exact ct (by simpa using e3) (k _ (w.drop (i:=2) rfl))
 rw[if_neg (by simp[e3])]at k;refine cf (by simp[e3]) (M.aK w λb3 h7 w=>⟨rfl,M.bz w 3 rfl (by simp[ag]) rfl λh8 w=>?_⟩);have hS:∀m,mz key data slots V.B (m+1)=if(mz key data slots V.B m).1≠0 then mz key data slots V.B m else if(m:Int)<data+2 then jN (mz key data slots V.B m).2 key m slots (jQ slots)else mz key data slots V.B m:=λm=>rfl
 have hB:∀m,m≤V.B.ds.length->Bk (mz key data slots V.B m).2 c (33*(V.B.ds.length-m)+60):=λm hm=>Bk.fmt hd m (v.bk.mono (by omega));have hN:∀m,(mz key data slots V.B m).2.ds.length=V.B.ds.length:=λm=>wR m;have hR0:mz key data slots V.B 0=(0,V.B):=rfl;dsimp only at k;generalize mz key data slots V.B=R at *;have hfail:∀m j,(R m).1≠0->R (m+j)=R m:=λm j h=>by
  induction j with
  | zero=>rfl
  | succ j ih=>rw[←Nat.add_assoc,hS,ih,if_pos h]
 generalize hnn:V.B.ds.length=n at *;have w:=(w.jt 3 1).jt 51 3
 refine M.aO (λ_ h'=>(R n).1=0∧∃sa sc ma mc,Wd h0 h' [dO b (R n).2,.blk a (mV V.cnt V.gC),.blk b1 (.cells #[.pointer (some ⟨b,0,none⟩),.pointer (some ⟨a,0,none⟩),.string key] 120),.blk b3 (.cells (gH (dz data slots n) sa (ko data n).length sc ma n mc).toArray 40),
  .sl 3 1 sa (ko data n).length sc (eI.row (ko data n)),.sl 51 3 ma n mc (kf.row ((List.range n).map (iA data slots)))]) (λJ hJ=>?_) ?_
 ·obtain⟨_,_,_,wb,_,_⟩:=w.on (i:=0) rfl;refine EH wb ?_;rw[hnn];clear wb
  refine M.aP (I:=λ(p:Int) h'=>∃m:Nat,m≤n∧p=(m:Int)∧(R m).1=0∧∃sa sc ma mc,Wd h0 h' [dO b (R m).2,.blk a (mV V.cnt V.gC),.blk b1 (.cells #[.pointer (some ⟨b,0,none⟩),.pointer (some ⟨a,0,none⟩),.string key] 120),.blk b3 (.cells (gH (dz data slots n) sa (ko data m).length sc ma m mc).toArray 40),
   .sl 3 1 sa (ko data m).length sc (eI.row (ko data m)),.sl 51 3 ma m mc (kf.row ((List.range m).map (iA data slots)))]) (μ:=λp=>(n-p).toNat) ⟨0,by omega,rfl,by rw[hR0],none,0,none,0,by rw[hR0];exact w⟩ ?_
  clear w;rintro p h9 J2 ⟨m,hm,rfl,hr,sa,sc,ma,mc,w⟩ hJ2;by_cases g:m<n;rotate_left
  ·obtain rfl:m=n:=by omega
   exact gI (by omega) (hJ () _ ⟨hr,sa,sc,ma,mc,w⟩)
  have hbm:=hB m hm;have e4:=hS m;rw[if_neg (by simp[hr])]at e4;have hsel:=uT data m;have hses:=vP data m;refine eN (by omega) (uV (by decide) (by decide) λh10 Ny=>vN (tb.keep ((w.keeps Ny).keep)) λh11 u7=>?_);have w:=w.keeps (Ny.trans u7);refine M.aK w λb4 h12 w=>⟨rfl,M.bz w 6 rfl (by simp[ag]) rfl λh13 w=>?_⟩
  refine M.aO (λ_ h'=>(R (m+1)).1=0∧∃sa sc,Wd h0 h' [dO b (R (m+1)).2,.blk a (mV V.cnt V.gC),.blk b1 (.cells #[.pointer (some ⟨b,0,none⟩),.pointer (some ⟨a,0,none⟩),.string key] 120),.blk b3 (.cells (gH (dz data slots n) sa (ko data (m+1)).length sc ma m mc).toArray 40),
   .sl 3 1 sa (ko data (m+1)).length sc (eI.row (ko data (m+1))),.sl 51 3 ma m mc (kf.row ((List.range m).map (iA data slots))),.blk b4 (.cells (kf.enc (iA data slots m)).toArray 51)]) (λJ3 hJ3=>M.vis (data+2) (qJ (by omega) (by omega)) ?_) ?_
  ·by_cases e5:(m:Int)<data+2
   rotate_left
   ·rw[if_neg e5]at e4 hses;refine gI e5 (hJ3 () _ ⟨by rw[e4];exact hr,sa,sc,?_⟩);rw[e4,hses];have:iA data slots m=⟨0,kL 32,gF⟩:=by unfold iA;rw[if_neg e5]
    rw[this];exact w
   rw[if_pos e5]at e4 hses;refine eN e5 (nS (w.blk 2 rfl) rfl rfl rfl (mG λh14 Mv=>?_));have w:=w.keeps Mv;obtain⟨_,_,_,wb,_,_⟩:=w.on (i:=0) rfl;have hgs:iS (R m).2 (m:Int) slots key:=⟨hd,hkey,ak.jX.2 (by rw[hN];omega)⟩;refine Bl wb hgs (tb.keep w.keep) λa5 c5 h15 w15=>?_;have w:=w.join w15;clear wb w15;refine nS (w.blk 2 rfl) rfl rfl rfl (mG λh16 N0=>?_);have w:=w.keeps N0;obtain⟨h17,k017,kk17,w17,wr17,back17⟩:=w.on (i:=0) rfl;have hbl:=wI hd;refine vR w17 (wr17.ro (E:=eP) 6 rfl (by decide)) ((hbm.mono (m:=(jQ slots).length+1) (by omega)).rm) (tb.keep k017) λh18 w18=>?_;have w:=(back17 _ _ w18).drop (i:=7) rfl;clear w17 wr17 back17 w18 kk17 k017;rw[←e4]at w ⊢;by_cases e6:(R (m+1)).1=0;rotate_left
   ·have hl:R n=R (m+1):=by
     have:=hfail (m+1) (n-(m+1)) e6
     rwa [show m+1+(n-(m+1))=n by omega]at this
    rw[hl,if_pos e6]at k;exact ct (by simpa using e6) (k _ (((((w.drop (i:=6) rfl).drop (i:=5) rfl).drop (i:=4) rfl).drop (i:=3) rfl).drop (i:=2) rfl))
   refine cf (by simp[e6]) (M.bg w 6 rfl rfl (by simp) λh19 w=>M.bg w 6 rfl rfl (by simp) λh20 w=>M.lW (w.blk 3 rfl) rfl ?_);refine Wd.push w 4 rfl rfl rfl (eI.iq [(m:Int)]) (by omega) (by omega) λa6 c6 h21 w=>M.bg w 3 rfl rfl (by simp[gH]) λh22 w=>hJ3 () _ ⟨e6,a6,c6,?_⟩;have:iA data slots m=⟨1,jx slots,gF⟩:=by unfold iA;rw[if_pos e5]
   rw[hses,this,eI.iX,List.length_append];exact w
  ·clear w;rintro _ h14 ⟨hr',sa,sc,w⟩;refine M.lW (w.blk 3 rfl) rfl (M.gv (w.blk 6 rfl) rfl (M.oL (w.blk 6 rfl) rfl (M.oL (w.blk 6 rfl) rfl ?_)));refine Wd.push w 5 rfl rfl rfl (kf.iq [iA data slots m]) (by omega) (by omega) λa6 c6 h21 w=>M.bg w 3 rfl rfl (by simp[gH]) λh22 w=>M.vis ((m+1:Nat):Int) (by rw[IntKind.wrap_i64];omega) (hJ2 _ _ ⟨m+1,by omega,rfl,hr',sa,sc,a6,c6,?_⟩ (by omega));rw[List.range_succ,List.map_append,kf.iX];exact w.drop (i:=6) rfl
 clear w;rintro _ h9 ⟨hr,sa,sc,ma,mc,w⟩;have hsel:=uT data n;rw[if_neg (by simp[hr])]at k;have vr:rW { V with B:=(R n).2 } c 25:=⟨(hB n (Nat.le_refl _)).mono (by omega),v.c0,v.c1⟩
 refine nS (w.blk 2 rfl) rfl rfl rfl (kq (s:=dz data slots n) (sa:=sa) (sl:=(ko data n).length) (sc:=sc) (ma:=ma) (ml:=n) (mc:=mc) (hM (w.blk 3 rfl)) ?_);obtain⟨h13,k013,kk13,w13,wr13,back13⟩:=w.split 2;refine sE (V:={ V with B:=(R n).2 }) (s:=dz data slots n) w13 (wr13.ro (E:=eI) (xs:=ko data n) 2 rfl (by decide)) (wr13.ro (E:=kf) (xs:=(List.range n).map (iA data slots)) 3 rfl (by decide)) (by omega) (by omega) (sL _ _ _) vr (tb.keep k013) λh14 w14=>?_
 have w:=back13 _ _ w14;exact k _ ((((w.drop (i:=5) rfl).drop (i:=4) rfl).drop (i:=3) rfl).drop (i:=2) rfl)
end
end Go.Proofs.YtmfcgihgdhfalaaGreatDoor
namespace Go.Proofs.YtmfcgihgdhfalaaGreatDoor
open Go.Sh Go.RowKit
structure O6 where
 b:Nat
 d:Int
 n:Int
 key:ByteArray
 top:ByteArray
 use:Bool
def eH:wY O6:=⟨λs=>[.pointer (some ⟨s.b,0,none⟩),.int .i64 s.d,.int .i64 s.n,.string s.key,.string s.top,.bool s.use],6,λ_=>rfl,by simp[ag]⟩
def ha(xs:List O6)(i:Nat):O6:=xs.getD i ⟨0,0,0,empty,empty,false⟩
theorem Qd{xs:List O6}{i:Nat}(h:i<xs.length):ha xs i=xs[i]:=by simp[ha,h]
end Go.Proofs.YtmfcgihgdhfalaaGreatDoor
namespace Go.Proofs.YtmfcgihgdhfalaaGreatDoor
open Go.Sh Go.RowKit Classical
section
variable {h0 h:H}{p b a c:Nat}{B:ak}{V:qG}{T:uY}{key:ByteArray}{d slot t:Int}{L:List Chunk}
theorem nj(w:Wd h0 h [jB p b a key T]):T.Ok∧∃sa sc ma mc src,Wd h0 h [.blk p (.cells (yG b a key T sa sc ma mc src) 123),.sl 3 1 sa T.S.av.length sc (eI.row T.S.av),.sl 51 3 ma T.S.aj.length mc (kf.row T.S.aj),.blk src (Ca T.S.dS T.nx)]:=by
 obtain⟨⟨sa,sc,ma,mc,src⟩,ok,w⟩:=w.tw 0 rfl;exact⟨ok,sa,sc,ma,mc,src,w⟩
theorem Ay{sa ma:Option Addr}{sc mc src:Nat}(ok:T.Ok)(w:Wd h0 h [.blk p (.cells (yG b a key T sa sc ma mc src) 123),.sl 3 1 sa T.S.av.length sc (eI.row T.S.av),.sl 51 3 ma T.S.aj.length mc (kf.row T.S.aj),.blk src (Ca T.S.dS T.nx)]):Wd h0 h [jB p b a key T]:=
 w.close 0 (sa,sc,ma,mc,src) rfl ok
theorem Ht{Q:Bool->H->Prop}(k:Q false h):dD none h Q:=by
 unfold dD;exact M.jn (cf rfl k)
theorem AZ{Q:Int->H->Prop}(w:Wd h0 h [jB p b a key T])(k:Q (if T.dead=true then 21 else 0) h):bK (some ⟨p,0,none⟩) h Q:=by
 unfold bK;obtain⟨_,_,_,_,_,_,w⟩:=nj w;refine cf rfl (iw (M.Bi (w.blk 0 rfl) rfl ?_));cases hd:T.dead with
 | true=>rw[hd]at k;exact ct rfl k
 | false=>rw[hd]at k;exact cf rfl k
theorem Dl{Q:Int->H->Prop}(k:Q 1 h):bK none h Q:=by
 unfold bK;exact ct rfl k
theorem BZ{Q:Int->Int->Int->Bool->H->Prop}(w:Wd h0 h [jB p b a key T])(k:∀h',bq h h'->Q T.S.data T.S.slots T.S.mark T.S.aJ h'):bC (some ⟨p,0,none⟩) h Q:=by
 unfold bC;obtain⟨_,_,_,_,_,_,w⟩:=nj w;have hb:=w.blk 0 rfl;refine M.aK (Wd.start h) λb2 h1 w1=>cf rfl ?_;have hb1:=w1.keep _ _ hb;refine iw (M.gv hb1 rfl (iw (M.gv hb1 rfl (iw (M.gv hb1 rfl (iw (M.Bi hb1 rfl ⟨rfl,M.bz w1 0 rfl (by simp[ag]) rfl λh2 w2=>?_⟩)))))));have hb2:=w2.blk 0 rfl;exact M.gv hb2 rfl (M.gv hb2 rfl (M.gv hb2 rfl (M.Bi hb2 rfl (k _ w2.keep))))
theorem xF{Q:Int->Int->Int->Bool->H->Prop}(k:∀h',bq h h'->Q 0 0 0 false h'):bC none h Q:=by
 unfold bC;refine M.aK (Wd.start h) λb2 h1 w1=>ct rfl ⟨rfl,M.bz w1 0 rfl (by simp[ag]) rfl λh2 w2=>?_⟩;have hb2:=w2.blk 0 rfl;exact M.gv hb2 rfl (M.gv hb2 rfl (M.gv hb2 rfl (M.Bi hb2 rfl (k _ w2.keep))))
theorem mL{Q:Int->Int->Int->Int->Int->Int->Bool->Option Addr->Nat->Nat->Option Addr->Nat->Nat->H->Prop}(w:Wd h0 h [jB p b a key T])
  (k:∀a1 c1 a2 c2 h',Wd h h' (L1 T.S a1 c1 a2 c2)->Q T.S.count T.S.dS T.S.data T.S.slots T.S.mark T.S.built T.S.aJ a1 T.S.av.length c1 a2 T.S.aj.length c2 h'):aT (some ⟨p,0,none⟩) h Q:=by
 unfold aT;obtain⟨ok,sa,sc,ma,mc,src,w⟩:=nj w;have hg:=ok.g.len;refine M.aK (Wd.start h) λb2 h1 w1=>cf rfl (iw ?_);have w':=w.keeps w1.keep;refine kq (s:=T.S) (sa:=sa) (sl:=T.S.av.length) (sc:=sc) (ma:=ma) (ml:=T.S.aj.length) (mc:=mc) (pZ (w'.blk 0 rfl) rfl) ?_;refine CN (w'.ro (E:=eI) 1 rfl (by decide)) (w'.ro (E:=kf) 2 rfl (by decide)) (by omega) (by omega) λa1 c1 a2 c2 h2 w2=>?_;have w1:=w1.join w2;refine tJ (K:=λn0 n1 n2 n3 n4 n5 n6 a1 l1 c1 a2 l2 c2 h'=>Q n0 n1 n2 n3 n4 n5 n6 a1 l1 c1 a2 l2 c2 h') T.S a1 _ c1 a2 _ c2 w1 (i:=0) rfl rfl λh3 w3=>?_;exact k a1 c1 a2 c2 h3 (w3.drop (i:=0) rfl)
theorem GH{Q:Int->Int->Int->Int->Int->Int->Bool->Option Addr->Nat->Nat->Option Addr->Nat->Nat->H->Prop}(k:∀h',bq h h'->Q 0 0 0 0 0 0 false none 0 0 none 0 0 h'):aT none h Q:=by
 unfold aT;refine M.aK (Wd.start h) λb2 h1 w1=>ct rfl ?_;exact tJ (K:=λn0 n1 n2 n3 n4 n5 n6 a1 l1 c1 a2 l2 c2 h'=>Q n0 n1 n2 n3 n4 n5 n6 a1 l1 c1 a2 l2 c2 h') mN none 0 0 none 0 0 w1 (i:=0) rfl rfl λh3 w3=>k _ w3.keep
def Ct(B:ak)(key:ByteArray)(T:uY)(d slot:Int)(pl:ByteArray):ByteArray×Int×uY:=
 if T.dead=true then(empty,21,T)else if(nP T.S.dS T.nx).2.1≠0 then(empty,(nP T.S.dS T.nx).2.1,T)else
 ((xh (iS B d T.S.slots key) key d T.S.slots slot (nP T.S.dS T.nx).1 pl).1,(xh (iS B d T.S.slots key) key d T.S.slots slot (nP T.S.dS T.nx).1 pl).2,{ T with nx:=T.nx+1 })
theorem KY{e n:Int}(h:(nP e n).2.1=0):n≤4294967295∧(nP e n).2.2=n+1∧(nP e n).1=nX e n:=by
 unfold nP at h ⊢;split at h
 ·simp at h
 ·rename_i g;rw[if_neg g];exact⟨by omega,rfl,rfl⟩
theorem FC{pl:ByteArray}{Q:ByteArray->Int->H->Prop}(w:Wd h0 h [dO b B,jB p b a key T])(tb:Tabs h0)
  (k:∀h',Wd h0 h' [dO b B,jB p b a key (Ct B key T d slot pl).2.2]->Q (Ct B key T d slot pl).1 (Ct B key T d slot pl).2.1 h'):br (some ⟨p,0,none⟩) d slot pl h Q:=by
 unfold br;obtain⟨hx,k0,k1,wx,wr,back⟩:=w.on (i:=1) rfl;have ok:=(nj wx).1;unfold Ct at k;refine AZ wx ?_;cases hd:T.dead with
 | true=>
  rw[if_pos (by simp[hd])]at k;exact ct rfl (k _ w)
 | false=>
 rw[if_neg (by simp[hd])]at k;obtain⟨_,sa,sc,ma,mc,src,w2⟩:=nj wx;have he:=ok.ep;refine cf rfl (iw (M.nF (w2.blk 0 rfl) rfl ?_));obtain⟨hy,k2,k3,wy,wr2,back2⟩:=w2.on (i:=3) rfl;refine G8 wy ⟨by omega,he.2⟩ ok.nx λh1 w3=>?_;have w4:=back2 _ _ w3;by_cases e:(nP T.S.dS T.nx).2.1=0;rotate_left
 ·rw[if_pos e]at k;have en:(nP T.S.dS T.nx).2.2=T.nx:=by
   unfold nP at e ⊢;split
   ·rfl
   ·rename_i g;rw[if_neg g]at e;simp at e
  rw[en]at w4;exact ct (by simpa using e) (k _ (back _ _ (Ay ok w4)))
 obtain⟨q1,q2,q3⟩:=KY e;rw[if_neg (by simp[e])]at k;rw[q2]at w4;have ok2:({ T with nx:=T.nx+1 }:uY).Ok:=⟨ok.g,ok.ji,ok.ep,by have:=ok.nx;simp only;omega⟩
 have w5:=back _ _ (Ay (T:={ T with nx:=T.nx+1 }) ok2 w4)
 have hb:=w4.blk 0 rfl;refine cf (by simp[e]) (iw (nS hb rfl rfl rfl (iw (M.gv hb rfl (mG λh2 k4=>?_)))));have w6:=w5.keeps k4;obtain⟨_,_,_,wb,_,_⟩:=w6.on (i:=0) rfl;refine Hp wb (tb.keep w6.keep) λh3 k5=>?_;exact k _ (w6.keeps k5)
theorem Hr{pl:ByteArray}{Q:ByteArray->Int->H->Prop}(k:Q empty 1 h):br none d slot pl h Q:=by
 unfold br;exact Dl (ct rfl k)
def LM(S:gD)(m:Mem)(t:Int):Bool:=decide (m.st=1) || (decide (m.st=3) && decide (t<S.built))
def sN(b:Nat)(key:ByteArray)(S:gD)(t:Int)(i:Nat):O6:=
 let d:=za S.av (pI S.data S.slots S.mark S.aJ t i).1.toNat
 ⟨b,d,S.slots,key,(mb S.aj d.toNat).top,LM S (mb S.aj d.toNat) t⟩
def rU(b:Nat)(key:ByteArray)(S:gD)(t:Int):List O6:=if lK S.data S.slots S.mark S.aJ t=0 then [] else(List.range (lK S.data S.slots S.mark S.aJ t+2).toNat).map (sN b key S t)
theorem Oj{S:gD}(g:S.Fit){t:Int}{i:Nat}(hi:(i:Int)<lK S.data S.slots S.mark S.aJ t+2)(hz:lK S.data S.slots S.mark S.aJ t≠0):
  0≤(pI S.data S.slots S.mark S.aJ t i).1∧(pI S.data S.slots S.mark S.aJ t i).1<S.av.length∧(pI S.data S.slots S.mark S.aJ t i).2=0:=by
 have hl:ij S.data S.slots S.mark S.aJ∧0≤t:=by
  unfold lK at hz;split at hz
  ·simp at hz
  ·rename_i e;exact⟨Decidable.not_not.1 λg=>e (.inl g),by omega⟩
 have hw:=Eu S.data S.slots S.mark S.aJ t;have hle:lK S.data S.slots S.mark S.aJ t+2≤S.av.length:=by
  obtain⟨⟨_,_,_,_,hm,hgr⟩,_⟩:=hl;rw[g.ns,gD.mT];unfold lK;split
  ·omega
  ·rcases hgr with hgr|hgr
   ·rw[hgr];simp only[if_true];split<;>omega
   ·rw[if_neg (by omega)];split<;>omega
 unfold pI;rw[if_neg (by simp[hl.1]),if_neg (by omega)];rw[Int.tmod_eq_emod_of_nonneg (by omega)];have h1:=Int.emod_nonneg ((i:Int)+t) (show lK S.data S.slots S.mark S.aJ t+2≠0 by omega);have h2:=Int.emod_lt_of_pos ((i:Int)+t) (show 0<lK S.data S.slots S.mark S.aJ t+2 by omega);exact⟨h1,by simp only;omega,rfl⟩
theorem KH{S:gD}(g:S.Fit){j:Nat}(hj:j<S.av.length):0≤za S.av j∧za S.av j<S.aj.length:=by
 rw[kP hj];exact g.rg _ (List.getElem_mem _)
theorem AV{Q:Option Addr->Nat->Nat->H->Prop}(w:Wd h0 h [jB p b a key T])(tl:yo h)
  (k:∀a' c' h',Wd h h' [.sl 136 6 a' (rU b key T.S t).length c' (eH.row (rU b key T.S t))]->Q a' (rU b key T.S t).length c' h'):aH (some ⟨p,0,none⟩) t h Q:=by
 unfold aH;obtain⟨ok,sa,sc,ma,mc,src,w0⟩:=nj w;refine BZ w λh1 k1=>?_;have wS:=w0.keeps k1;refine M.aK ((Wd.start h).keeps k1) λb2 h2 w=>⟨rfl,M.bz w 0 rfl (by simp[ag]) rfl λh3 w=>?_⟩;have hb:=w.blk 0 rfl;refine M.gv hb rfl (M.gv hb rfl (M.gv hb rfl (M.Bi hb rfl (wC (tl.keep w.keep) λh4 k4=>?_))));have w:=w.keeps k4;have hseat:=λi=>@Oj T.S ok.g t i;have hw:=Eu T.S.data T.S.slots T.S.mark T.S.aJ t;have hsl:rU b key T.S t=if lK T.S.data T.S.slots T.S.mark T.S.aJ t=0 then [] else(List.range (lK T.S.data T.S.slots T.S.mark T.S.aJ t+2).toNat).map (sN b key T.S t):=rfl
 rw[hsl]at k;generalize hz:lK T.S.data T.S.slots T.S.mark T.S.aJ t=z at *;by_cases e:z=0
 ·rw[if_pos e]at k;exact ct (by simp[e]) (k _ _ _ (((Wd.start h).keeps w.keep).jt _ _))
 rw[if_neg e]at k;have w:=w.jt 136 6;refine cf (by simpa using e) (M.vis (z+2) (qJ (by omega) (by omega)) ?_);obtain⟨n,hn⟩:∃n:Nat,z+2=n:=⟨(z+2).toNat,by omega⟩;rw[hn]at k hseat ⊢;rw[Int.toNat_natCast,List.length_map,List.length_range]at k;refine M.aP (I:=λ(q:(Option Addr×Nat×Nat)×Int) h'=>∃m:Nat,m≤n∧q.2=(m:Int)∧q.1.2.1=m∧Wd h h' [.blk b2 (.cells #[.int .i64 T.S.data,.int .i64 T.S.slots,.int .i64 T.S.mark,.bool T.S.aJ] 59),.sl 136 6 q.1.1 q.1.2.1 q.1.2.2 (eH.row ((List.range m).map (sN b key T.S t)))]) (μ:=λq=>(n-q.2).toNat) ⟨0,by omega,rfl,rfl,w⟩ ?_;clear w hb wS;rintro⟨⟨a3,l3,c3⟩,i⟩ h5 J ⟨m,hm,hi,hl,w⟩ hJ;simp only at hi hl w ⊢;subst hi hl;by_cases g:l3<n;rotate_left
 ·obtain rfl:l3=n:=by omega
  exact gI (by omega) (k _ _ _ (w.drop (i:=0) rfl))
 have hb:=w.blk 0 rfl;refine eN (by omega) (M.gv hb rfl (M.gv hb rfl (M.gv hb rfl (M.Bi hb rfl (Ib (tl.keep w.keep) λh6 k6=>?_)))));have w:=w.keeps k6;obtain⟨s1,s2,s3⟩:=hseat l3 (by omega) e;have hse:sN b key T.S t l3=⟨b,za T.S.av (pI T.S.data T.S.slots T.S.mark T.S.aJ t l3).1.toNat,T.S.slots,key,(mb T.S.aj (za T.S.av (pI T.S.data T.S.slots T.S.mark T.S.aJ t l3).1.toNat).toNat).top,LM T.S (mb T.S.aj (za T.S.av (pI T.S.data T.S.slots T.S.mark T.S.aJ t l3).1.toNat).toNat) t⟩:=rfl;generalize (pI T.S.data T.S.slots T.S.mark T.S.aJ t l3).1=z1 at *;obtain⟨d1,d2⟩:=KH ok.g (j:=z1.toNat) (by omega);have wS:=w0.keeps w.keep;refine iw (M.lW (wS.blk 0 rfl) rfl (Ro.Ii (wS.ro (E:=eI) 1 rfl (by decide)) s1 s2 ?_));generalize za T.S.av z1.toNat=d at *;refine iw (M.lW (wS.blk 0 rfl) rfl (Ro.BY (wS.ro (E:=kf) 2 rfl (by decide)) d1 d2 (M.aK w λb4 h7 w=>⟨rfl,M.bz w 2 rfl (by simp[ag]) rfl λh8 w=>?_⟩)));generalize mb T.S.aj d.toNat=x at *;have wS:=w0.keeps w.keep;have hb4:=w.blk 2 rfl;refine M.aO (λy h'=>y=LM T.S x t∧h'=h8) (λJ2 hJ2=>M.gv hb4 rfl ?_) ?_
 ·unfold LM at hJ2;by_cases e1:x.st=1
  ·exact ct (by simp[e1]) (hJ2 _ _ ⟨by simp[e1],rfl⟩)
  refine cf (by simpa using e1) (M.gv hb4 rfl ?_);by_cases e2:x.st=3
  ·exact ct (by simp[e2]) (iw (M.gv (wS.blk 0 rfl) rfl (hJ2 _ _ ⟨by simp[e2],rfl⟩)))
  ·exact cf (by simpa using e2) (hJ2 _ _ ⟨by simp[e1,e2],rfl⟩)
 rintro _ _ ⟨rfl,rfl⟩;refine iw (nS (wS.blk 0 rfl) rfl rfl rfl (iw (M.gv (wS.blk 0 rfl) rfl (M.oL hb4 rfl (mG λh9 k9=>M.cY k9 ⟨_,hb4⟩ ?_)))));have w:=w.keeps k9;refine Wd.push w 1 rfl rfl rfl (eH.iq [⟨b,d,T.S.slots,key,x.top,LM T.S x t⟩]) (by omega) (by omega) λa6 c6 h10 w=>M.vis ((l3+1:Nat):Int) (by rw[IntKind.wrap_i64];omega) (hJ _ _ ⟨l3+1,by omega,rfl,rfl,?_⟩ (by simp only;omega));rw[List.range_succ,List.map_append,eH.iX,List.map_cons,List.map_nil,hse];exact w.drop (i:=2) rfl
theorem Ch{Q:Option Addr->Nat->Nat->H->Prop}(tl:yo h)(k:∀h',bq h h'->Q none 0 0 h'):aH none t h Q:=by
 unfold aH;refine xF λh1 k1=>M.aK ((Wd.start h).keeps k1) λb2 h2 w=>⟨rfl,M.bz w 0 rfl (by simp[ag]) rfl λh3 w=>?_⟩;have hb:=w.blk 0 rfl;refine M.gv hb rfl (M.gv hb rfl (M.gv hb rfl (M.Bi hb rfl (wC (tl.keep w.keep) λh4 k4=>?_))));have:lK 0 0 0 false t=0:=by
  unfold lK;rw[if_pos (.inl (by decide))]
 rw[this];exact ct rfl (k _ (w.keep.trans k4))
end
def BU(es:List MapEntry)(f:Int->Option Value):Prop:=(∀e∈es,Qp e.key)∧(es.map (·.key)).Nodup∧∀z:Int,(ic (.int .i64 z) es 0).map (·.2)=f z
def Ez(b:Nat)(f:Int->Option Value):Chunk:=Wd.obj (α:=Array MapEntry×Nat) (λp=>BU p.1.toList f∧qH p.1.toList p.2) λp=>[.blk b (.map p.1 p.2)]
def qF(f:Int->Option Value)(k:Int)(v:Option Value):Int->Option Value:=λz=>if z=k then v else f z
theorem Dg{k x:Value}:∀{l:List MapEntry} {i j:Nat} {u:Value},(∀e∈l,Qp e.key)->(l.map (·.key)).Nodup->ic k l i=some (j,u)->(ic x (l.eraseIdx (j-i)) 0).map (·.2)=if x=k then none else(ic x l 0).map (·.2)
 | [],_,_,_,_,_,h=>by simp[ic]at h
 | e::r,i,j,u,hk,hn,h=>by
  rw[List.map_cons,List.nodup_cons]at hn;unfold ic at h;split at h
  ·rename_i he;simp only[Option.some.injEq,Prod.mk.injEq]at h;obtain⟨rfl,rfl⟩:=h;rw[Nat.sub_self,List.eraseIdx_cons_zero];by_cases hx:x=k
   ·rw[if_pos hx,hx];have:∀{l:List MapEntry} {n:Nat},e.key∉l.map (·.key)->(ic e.key l n).map (·.2)=none:=λ{l}=>by
     induction l with
     | nil=>intro n _;rfl
     | cons a l ih=>
      intro n hm;rw[List.map_cons,List.mem_cons,not_or]at hm;unfold ic;rw[if_neg hm.1];exact ih hm.2
    rw[he];exact this hn.1
   ·rw[if_neg hx];conv=>rhs;unfold ic
    rw[if_neg (λg=>hx (g.trans he.symm))];exact nW
  ·rename_i he;obtain⟨_,h1,_⟩:=nt h;rw[show j-i=(j-(i+1))+1 by omega,List.eraseIdx_cons_succ];have ih:=Dg (x:=x) (λe' h'=>hk e' (List.mem_cons_of_mem _ h')) hn.2 h;unfold ic;by_cases hx:x=e.key
   ·rw[if_pos hx,if_pos hx,if_neg (λg=>he (g.symm.trans hx))]
   ·rw[if_neg hx,if_neg hx];rw[nW (j:=0),ih];by_cases hx2:x=k
    ·rw[if_pos hx2,if_pos hx2]
    ·rw[if_neg hx2,if_neg hx2];exact nW
theorem FE{k:Value}:∀{l:List MapEntry} {i:Nat},ic k l i=none->k∉l.map (·.key)
 | [],_,_=>by simp
 | e::r,i,h=>by
  unfold ic at h;by_cases g:k=e.key
  ·rw[if_pos g]at h;simp at h
  ·rw[if_neg g]at h;rw[List.map_cons,List.mem_cons,not_or];exact⟨g,FE h⟩
theorem A6:∀{l:List MapEntry} {i:Nat} {e:MapEntry},(l.map (·.born)).Nodup->l[i]? = some e->l.findIdx? (λx=>(x.born:Int) == (e.born:Int))=some i
 | [],i,e,_,h=>by simp at h
 | a::l,0,e,_,h=>by
  simp only[List.getElem?_cons_zero,Option.some.injEq]at h;subst h;simp[List.findIdx?_cons]
 | a::l,i+1,e,hn,h=>by
  rw[List.map_cons,List.nodup_cons]at hn;rw[List.getElem?_cons_succ]at h;have hne:a.born≠e.born:=λg=>hn.1 (by rw[g];exact List.mem_map.2 ⟨e,List.mem_of_getElem? h,rfl⟩);rw[List.findIdx?_cons,A6 hn.2 h];have:((a.born:Int) == (e.born:Int))=false:=by rw[beq_eq_false_iff_ne];omega
  rw[this];rfl
theorem Gi(es:Array MapEntry)(p:MapEntry->Bool):es.findIdx? p=es.toList.findIdx? p:=by
 cases es
 exact List.findIdx?_toArray ..
theorem yU{α:Type}(f:α -> α)(a:α):∀l:List α,(l++[a]).modify l.length f=l++[f a]
 | []=>rfl
 | b::l=>by rw[List.cons_append,List.length_cons,List.modify_succ_cons,yU f a l];rfl
theorem zc(x:Value):∀(l:List MapEntry) (j:Nat),(l.modify j λe=>{ e with val:=x }).map (·.key)=l.map (·.key)
 | [],j=>by cases j<;>rfl
 | _ :: _,0=>rfl
 | e::l,j+1=>by rw[List.modify_succ_cons,List.map_cons,List.map_cons,zc x l j]
theorem sw(x:Value):∀(l:List MapEntry) (j:Nat),(l.modify j λe=>{ e with val:=x }).map (·.born)=l.map (·.born)
 | [],j=>by cases j<;>rfl
 | _ :: _,0=>rfl
 | e::l,j+1=>by rw[List.modify_succ_cons,List.map_cons,List.map_cons,sw x l j]
theorem BH{k x:Value}:∀{l:List MapEntry} {j:Nat} {e:MapEntry},l[j]? = some e->e.key=k->(l.modify j λe=>{ e with val:=x })=l.modify j λe=>{ e with key:=k,val:=x }
 | [],j,e,h,_=>by simp at h
 | a::l,0,e,h,hk=>by
  simp only[List.getElem?_cons_zero,Option.some.injEq]at h;subst h;rw[List.modify_zero_cons,List.modify_zero_cons,hk]
 | a::l,j+1,e,h,hk=>by rw[List.modify_succ_cons,List.modify_succ_cons,BH (by simpa using h) hk]
theorem zg{k:Value}:∀{l:List MapEntry} {j:Nat} {e:MapEntry},l[j]? = some e->e.key=k->(l.modify j λe=>{ e with key:=k })=l
 | [],j,e,h,_=>by simp at h
 | a::l,0,e,h,hk=>by
  simp only[List.getElem?_cons_zero,Option.some.injEq]at h;subst h;rw[List.modify_zero_cons,←hk]
 | a::l,j+1,e,h,hk=>by rw[List.modify_succ_cons,zg (by simpa using h) hk]
theorem BU.mod{l:List MapEntry}{f:Int->Option Value}{z:Int}{j:Nat}{u x:Value}(hs:BU l f)(hf:ic (.int .i64 z) l 0=some (j,u)):BU (l.modify j λe=>{ e with val:=x }) (qF f z (some x)):=by
 obtain⟨h1,h2,h3⟩:=hs;obtain⟨e,_,he,hek,_⟩:=nt hf;rw[Nat.sub_zero]at he;have hkk:=zc x l j;refine⟨λe' he'=>?_,by rw[hkk];exact h2,λy=>?_⟩
 ·have:e'.key∈l.map (·.key):=by rw[←hkk];exact List.mem_map.2 ⟨e',he',rfl⟩
  obtain⟨q,hq,e⟩:=List.mem_map.1 this;rw[←e];exact h1 q hq
 ·have:=su (x:=.int .i64 y) (v:=x) (m:=0) hf;rw[Nat.sub_zero]at this;rw[BH he hek,this,h3,qF];by_cases g:y=z
  ·subst g;rw[if_pos rfl,if_pos rfl]
  ·rw[if_neg (by simpa using g),if_neg g]
theorem BU.app{l:List MapEntry}{f:Int->Option Value}{z:Int}{c:Nat}{x:Value}(hs:BU l f)(hf:ic (.int .i64 z) l 0=none):BU (l++[{ key:=.int .i64 z,val:=x,born:=c }]) (qF f z (some x)):=by
 obtain⟨h1,h2,h3⟩:=hs;have hno:=FE hf;refine⟨λe' he'=>?_,?_,λy=>?_⟩
 ·rcases List.mem_append.1 he' with h|h
  ·exact h1 e' h
  ·rw[List.mem_singleton.1 h];exact⟨z,rfl⟩
 ·rw[List.map_append,List.nodup_append];refine⟨h2,by simp,λa ha b hb e=>?_⟩;simp only[List.map_cons,List.map_nil,List.mem_singleton]at hb;rw[e,hb]at ha;exact hno ha
 ·rw[sP,h3,qF];have h4:=h3 z;rw[hf]at h4;by_cases g:y=z
  ·subst g;rw[←h4];simp
  ·rw[if_neg g];cases f y with
   | some v=>rfl
   | none=>simp[g]
theorem BU.del{l:List MapEntry}{f:Int->Option Value}{z:Int}{j:Nat}{u:Value}(hs:BU l f)(hf:ic (.int .i64 z) l 0=some (j,u)):BU (l.eraseIdx j) (qF f z none):=by
 obtain⟨h1,h2,h3⟩:=hs;refine⟨λe' he'=>h1 e' (List.mem_of_mem_eraseIdx he'),?_,λy=>?_⟩
 ·exact h2.sublist ((List.eraseIdx_sublist l j).map _)
 ·have:=Dg (x:=.int .i64 y) h1 h2 hf;rw[Nat.sub_zero]at this;rw[this,h3,qF];by_cases g:y=z
  ·subst g;rw[if_pos rfl,if_pos rfl]
  ·rw[if_neg (by simpa using g),if_neg g]
theorem BU.same{l:List MapEntry}{f:Int->Option Value}{z:Int}(hs:BU l f)(hf:ic (.int .i64 z) l 0=none):BU l (qF f z none):=by
 refine⟨hs.1,hs.2.1,λy=>?_⟩;have h4:=hs.2.2 z;rw[hf]at h4;rw[hs.2.2,qF];by_cases g:y=z
 ·subst g;rw[if_pos rfl,←h4];rfl
 ·rw[if_neg g]
section
variable {h0 h:H}{L:List Chunk}{b i:Nat}{f:Int->Option Value}{z:Int}{x:Value}{ty et:TypeId}
theorem No(w:Wd h0 h (L++[.blk b (.map #[] 0)])):Wd h0 h (L++[Ez b λ_=>none]):=by
 have:=w.close (p:=λ(p:Array MapEntry×Nat)=>BU p.1.toList (λ_=>none)∧qH p.1.toList p.2) (cs:=λp=>[.blk b (.map p.1 p.2)]) L.length (#[],0) (by simp) ⟨⟨by simp,by simp,λ_=>rfl⟩,.nil 0⟩;rw[List.take_left']at this
 ·exact this
 ·rfl
theorem Lz(w:Wd h0 h L)(hi:L[i]? = some (Ez b f)):∃es c,h b=some (.map es c)∧BU es.toList f∧qH es.toList c:=by
 obtain⟨v,hv,w⟩:=w.tw i hi;exact⟨v.1,v.2,w.blk (L.eraseIdx i).length (by simp),hv⟩
theorem P0{z0:Value}{K:Value->Bool->H->Prop}(hu:Tryz.prog.underlying ty=some (.map 3 et))(hz:∀w,(zeroValue et).run Tryz.prog w = .ok z0 w)(w:Wd h0 h L)(i:Nat)(hi:L[i]? = some (Ez b f))(kk:K ((f z).getD z0) (f z).isSome h):M.Nz Tryz.prog ty (.map (some b)) (.int .i64 z) h K:=by
 obtain⟨es,c,hb,hs,hag⟩:=Lz w hi;refine Hs (f:=λk=>(ic k es.toList 0).map (·.2)) hu rq hz ⟨es,c,hb,hs.1,rfl,λk i=>nW⟩ ⟨z,rfl⟩ ?_;simp only[hs.2.2];exact kk
theorem Q5{z0:Value}{K:Value->H->Prop}(hu:Tryz.prog.underlying ty=some (.map 3 et))(hz:∀w,(zeroValue et).run Tryz.prog w = .ok z0 w)(w:Wd h0 h L)(i:Nat)(hi:L[i]? = some (Ez b f))(kk:K ((f z).getD z0) h):M.lk Tryz.prog ty (.map (some b)) (.int .i64 z) h K:=by
 obtain⟨es,c,hb,hs,hag⟩:=Lz w hi;refine MS (f:=λk=>(ic k es.toList 0).map (·.2)) hu rq hz ⟨es,c,hb,hs.1,rfl,λk i=>nW⟩ ⟨z,rfl⟩ ?_;simp only[hs.2.2];exact kk
theorem LP{z0:Value}{K:H->Prop}(hu:Tryz.prog.underlying ty=some (.map 3 et))(hz:∀w,(zeroValue et).run Tryz.prog w = .ok z0 w)(w:Wd h0 h L)(i:Nat)(hi:L[i]? = some (Ez b f))(kk:∀h',Wd h0 h' (L.set i (Ez b (qF f z (some x))))->K h'):
  M.ID Tryz.prog ty (.map (some b)) (.int .i64 z) h λv n h1=>M.Iz (.map (some b)) (.int .i64 n) x h1 K:=by
 obtain⟨h1,_,k1,w1,_,back⟩:=w.on hi;obtain⟨⟨es,c⟩,⟨hs,hag⟩,w2⟩:=w1.tw 0 rfl;have w2:Wd h1 h [.blk b (.map es c)]:=w2;simp only at hs hag;have hb:=w2.blk 0 rfl;have fin:∀es' c',BU es'.toList (qF f z (some x))->qH es'.toList c'->K (h.nh b (.map es' c')):=λes' c' g1 g2=>
  kk _ (back _ _ ((w2.nh (i:=0) rfl (.map es' c')).close (p:=λ(p:Array MapEntry×Nat)=>BU p.1.toList (qF f z (some x))∧qH p.1.toList p.2) (cs:=λp=>[.blk b (.map p.1 p.2)]) 0 (es',c') rfl ⟨g1,g2⟩))
 refine⟨3,et,b,es,c,_,hu,rfl,hb,rq.at ⟨z,rfl⟩ hs.1,?_⟩;cases hf:ic (.int .i64 z) es.toList 0 with
 | none=>
  refine⟨z0,hz,b,_,_,_,es.size,rfl,H.jD _ _ _,rfl,?_,?_⟩
  ·rw[Gi,Array.toList_push];have:=A6 (l:=es.toList++[{ key:=.int .i64 z,val:=z0,born:=c }]) (i:=es.size) (e:={ key:=.int .i64 z,val:=z0,born:=c }) (hag.push (.int .i64 z) z0).2 (by rw[List.getElem?_append_right (by simp)];simp);exact this
  ·rw[DW];refine fin _ _ ?_ ?_
   ·rw[Array.toList_modify,Array.toList_push];have e:(es.toList++[({ key:=.int .i64 z,val:=z0,born:=c }:MapEntry)]).modify es.size (λe=>{ e with val:=x })=es.toList++[{ key:=.int .i64 z,val:=x,born:=c }]:=by
     rw[←Array.length_toList];exact yU _ _ _
    rw[e];exact hs.app hf
   ·rw[Array.toList_modify,Array.toList_push];have hp:=hag.push (.int .i64 z) z0;have hb2:=sw x (es.toList++[{ key:=.int .i64 z,val:=z0,born:=c }]) es.size;refine⟨λy hy=>?_,by rw[hb2];exact hp.2⟩;have:y.born∈(es.toList++[({ key:=.int .i64 z,val:=z0,born:=c }:MapEntry)]).map (·.born):=by rw[←hb2];exact List.mem_map.2 ⟨y,hy,rfl⟩
    obtain⟨q,hq,e⟩:=List.mem_map.1 this;rw[←e];exact hp.1 q hq
 | some q=>
  obtain⟨j,u⟩:=q;obtain⟨e,_,he,hek,_⟩:=nt hf;rw[Nat.sub_zero]at he;have hee:es[j]? = some e:=by simpa using he
  have hsame:(es.modify j λe=>{ e with key:=.int .i64 z })=es:=by
   apply Array.ext';rw[Array.toList_modify,zg he hek]
  refine⟨?_,?_⟩
  ·rw[hee];simp only[Option.map_some,Option.getD_some,hek];exact rq.same _ ⟨z,rfl⟩
  ·rw[hee,hsame];refine⟨b,es,c,_,j,rfl,H.jD _ _ _,rfl,?_,?_⟩
   ·rw[Gi];exact A6 hag.2 he
   ·rw[DW];refine fin _ _ ?_ ?_
    ·rw[Array.toList_modify];exact hs.mod hf
    ·rw[Array.toList_modify];have hb2:=sw x es.toList j;refine⟨λy hy=>?_,by rw[hb2];exact hag.2⟩;have:y.born∈es.toList.map (·.born):=by rw[←hb2];exact List.mem_map.2 ⟨y,hy,rfl⟩
     obtain⟨q,hq,e⟩:=List.mem_map.1 this;rw[←e];exact hag.1 q hq
theorem P4{K:H->Prop}(hu:Tryz.prog.underlying ty=some (.map 3 et))(w:Wd h0 h L)(i:Nat)(hi:L[i]? = some (Ez b f))(kk:∀h',Wd h0 h' (L.set i (Ez b (qF f z none)))->K h'):
  M.P8 Tryz.prog ty (.map (some b)) (.int .i64 z) h K:=by
 obtain⟨h1,_,k1,w1,_,back⟩:=w.on hi;obtain⟨⟨es,c⟩,⟨hs,hag⟩,w2⟩:=w1.tw 0 rfl;have w2:Wd h1 h [.blk b (.map es c)]:=w2;simp only at hs hag;have hb:=w2.blk 0 rfl;have fin:∀es' c',BU es'.toList (qF f z none)->qH es'.toList c'->K (h.nh b (.map es' c')):=λes' c' g1 g2=>
  kk _ (back _ _ ((w2.nh (i:=0) rfl (.map es' c')).close (p:=λ(p:Array MapEntry×Nat)=>BU p.1.toList (qF f z none)∧qH p.1.toList p.2) (cs:=λp=>[.blk b (.map p.1 p.2)]) 0 (es',c') rfl ⟨g1,g2⟩))
 refine⟨3,et,b,es,c,_,hu,rfl,hb,rq.at ⟨z,rfl⟩ hs.1,?_⟩;cases hf:ic (.int .i64 z) es.toList 0 with
 | none=>exact fin _ _ (hs.same hf) hag
 | some q=>
  obtain⟨j,u⟩:=q;refine fin _ _ ?_ ?_
  ·show BU (es.eraseIdxIfInBounds j).toList _;rw[Array.toList_eraseIdxIfInBounds];exact hs.del hf
  ·show qH (es.eraseIdxIfInBounds j).toList _;rw[Array.toList_eraseIdxIfInBounds];refine⟨λy hy=>hag.1 y (List.mem_of_mem_eraseIdx hy),?_⟩;exact hag.2.sublist ((List.eraseIdx_sublist _ j).map _)
end
theorem M.Qq{h:H}{b o:Nat}{c:Array Value}{e:TypeId}{f:Nat×Nat}{r:Option Nat}{K:Option Nat->Prop}(hb:h b=some (.cells c e f))(hv:c[o]? = some (.map r))(k:K r):M.load h ⟨b,o,none⟩ λv=>M.map v K:=M.uM hb hv ⟨_,rfl,k⟩
structure pH where
 S:gD
 blank:List Int
 vv:List (Int×Int×ByteArray)
def eC:wY (Int×Int×ByteArray):=⟨λm=>[.int .i64 m.1,.int .i64 m.2.1,.string m.2.2],3,λ_=>rfl,by simp[ag]⟩
def ch(xs:List (Int×Int×ByteArray))(i:Nat):Int×Int×ByteArray:=xs.getD i (0,0,empty)
theorem HQ{xs:List (Int×Int×ByteArray)}{i:Nat}(h:i<xs.length):ch xs i=xs[i]:=by simp[ch,h]
theorem QH{h:H}{a:Option Addr}{l:Nat}{z:Int}{xs:List (Int×Int×ByteArray)}{K:Int->Int->ByteArray->Prop}(f:Ro eC h a l xs)(h0:0≤z)(h1:z<l)(k:K (ch xs z.toNat).1 (ch xs z.toNat).2.1 (ch xs z.toNat).2.2):
  M.idx a l z λb j=>M.load h ((Addr.add b (j*3)).add 0) λv=>M.int .i64 v λn=>M.load h ((Addr.add b (j*3)).add 1) λv=>M.int .i64 v λs=>M.load h ((Addr.add b (j*3)).add 2) λv=>M.str v λt=>K n s t:=by
 refine f.at h0 h1 λb hi hc=>?_;have c0:h.cell ((b.add (z.toNat * 3)).add 0)=some (.int .i64 (xs[z.toNat]).1):=hc 0 (by decide);have c1:h.cell ((b.add (z.toNat * 3)).add 1)=some (.int .i64 (xs[z.toNat]).2.1):=hc 1 (by decide);have c2:h.cell ((b.add (z.toNat * 3)).add 2)=some (.string (xs[z.toNat]).2.2):=hc 2 (by decide);rw[←HQ hi]at c0 c1 c2;exact⟨_,c0,_,rfl,_,c1,_,rfl,_,c2,_,rfl,k⟩
def sV(xs ys:List Mem):List Mem:=List.zipWith (λx y=>⟨x.st,y.top,y.log⟩) xs ys
def xN(S P:gD):gD:={ P with count:=S.count,dS:=S.dS,aj:=sV P.aj S.aj }
def there(n:Nat)(x:Int):Prop:=0≤x∧x<n
def wJ(S:gD)(P:pH):Prop:=P.S.aj.length=S.aj.length∧P.S.slots=S.slots∧(xN S P.S).good∧(∀i∈P.blank,there S.aj.length i)∧∀c∈P.vv,there S.aj.length c.1
def vw(S P:gD):gD:={ xN S P with count:=Du (S.count+1) }
def LN(S:gD)(sa:Option Addr)(sc:Nat)(ma:Option Addr)(mc bw bt:Nat):Array Value:=#[.int .u64 S.count,.int .u64 S.dS,.int .i64 S.data,.int .i64 S.slots,.int .i64 S.mark,.int .i64 S.built,.bool S.aJ,.slice sa S.av.length sc,.slice ma S.aj.length mc,.map (some bw),.map (some bt)]
abbrev Nw:=Option Addr×Nat×Option Addr×Nat×Nat×Nat
def rH(wk:Nat)(v:Nw)(S:gD)(f g:Int->Option Value):List Chunk:=[.blk wk (.cells (LN S v.1 v.2.1 v.2.2.1 v.2.2.2.1 v.2.2.2.2.1 v.2.2.2.2.2) 146),.sl 3 1 v.1 S.av.length v.2.1 (eI.row S.av),
 .sl 51 3 v.2.2.1 S.aj.length v.2.2.2.1 (kf.row S.aj),Ez v.2.2.2.2.1 f,Ez v.2.2.2.2.2 g]
def lN(wk:Nat)(v:Nw)(S:gD)(f g:Int->Option Value):Chunk:=Wd.obj (α:=Nw) (λu=>u=v) λu=>rH wk u S f g
section
variable {h0 h:H}{wk p b a c:Nat}{S:gD}{f g:Int->Option Value}{T:uY}{P:pH}{key:ByteArray}{L:List Chunk}{x:Int}
theorem ni{v:Nw}(w:Wd h0 h [lN wk v S f g]):Wd h0 h (rH wk v S f g):=by
 obtain⟨u,rfl,w⟩:=w.tw 0 rfl;exact w
theorem tE{v:Nw}(w:Wd h0 h (rH wk v S f g)):Wd h0 h [lN wk v S f g]:=
 w.close 0 v rfl rfl
theorem Au{a1:Addr}{Q:Bool->H->Prop}{C:Array Value}{e:TypeId}{fz:Nat×Nat}{ma:Option Addr}{ml mc:Nat}(h1:h.cell a1=some (.pointer (some ⟨wk,0,none⟩)))(h2:h wk=some (.cells C e fz))(h3:C[8]? = some (.slice ma ml mc))(k:Q (decide (there ml x)) h):aQ x a1 h Q:=by
 unfold aQ;refine M.jn ?_;by_cases e1:x≥0
 ·refine eN e1 ⟨_,h1,_,rfl,iw (M.lW h2 h3 ?_)⟩;by_cases e2:x<(ml:Int)
  ·rw[decide_eq_true (show there ml x from⟨e1,e2⟩)]at k;rw[decide_eq_true e2];exact k
  ·rw[decide_eq_false (show ¬there ml x from λg=>e2 g.2)]at k;rw[decide_eq_false e2];exact k
 ·rw[decide_eq_false (show ¬there ml x from λg=>e1 g.1)]at k;exact gI e1 k
structure OY (h:H) (a1:Addr) (ml:Nat):Prop where
 ex:∃(a2:Addr) (wk:Nat) (C:Array Value) (e:TypeId) (fz:Nat×Nat) (ma:Option Addr) (mc:Nat),h.cell a1=some (.func (.func 131) #[] #[.pointer (some a2)])∧h.cell a2=some (.pointer (some ⟨wk,0,none⟩))∧h wk=some (.cells C e fz)∧C[8]? = some (.slice ma ml mc)
theorem OY.keep{h':H}{a1:Addr}{ml:Nat}(c:OY h a1 ml)(k:bq h h'):OY h' a1 ml:=by
 obtain⟨a2,wk,C,e,fz,ma,mc,h1,h2,h3,h4⟩:=c;exact⟨a2,wk,C,e,fz,ma,mc,k.cell h1,k.cell h2,k _ _ h3,h4⟩
theorem Ic{a1:Addr}{ml:Nat}{Q:Bool->H->Prop}(c:OY h a1 ml)(k:Q (!decide (there ml x)) h):aW x a1 h Q:=by
 unfold aW;obtain⟨a2,wk,C,e,fz,ma,mc,h1,h2,h3,h4⟩:=c;refine⟨_,h1,?_⟩;show aQ x a2 h λb h'=>Q (!b) h';exact Au h2 h3 h4 k
theorem GU{a1:Addr}{ml:Nat}{s:Int}{t:ByteArray}{Q:Bool->H->Prop}(c:OY h a1 ml)(k:∀h',bq h h'->Q (!decide (there ml x)) h'):cx x s t a1 h Q:=by
 unfold cx;refine M.aK (Wd.start h) λb h1 w=>?_;obtain⟨a2,wk,C,e,fz,ma,mc,g1,g2,g3,g4⟩:=c.keep w.keep;refine⟨_,g1,M.gv (w.blk 0 rfl) rfl ?_⟩;show aQ x a2 h1 λb h'=>Q (!b) h';exact Au g2 g3 g4 (k _ w.keep)
theorem B4{a1:Addr}{ml l c':Nat}{ba:Option Addr}{xs:List Int}{Q:Bool->H->Prop}(r:Ro eI h ba l xs)(hl:l≤1000000000)(c:OY h a1 ml)(k:Q (decide (¬∀i∈xs,there ml i)) h):aq ba l c' a1 h Q:=by
 unfold aq;unfold au;have hx:=r.len;refine M.aP (I:=λ(q:Int) h'=>∃m:Nat,m≤l∧q=(m:Int)∧h'=h∧∀i∈xs.take m,there ml i) (μ:=λq=>(l-q).toNat) ⟨0,by omega,rfl,rfl,by simp⟩ ?_;rintro q h5 J ⟨m,hm,rfl,rfl,hok⟩ hJ;by_cases g:m<l
 ·refine eN (by omega) (r.Ii (by omega) (by omega) (Ic c ?_));rw[Int.toNat_natCast];have hz:=kP (xs:=xs) (i:=m) (by omega);by_cases e:there ml (za xs m)
  ·rw[decide_eq_true e];refine cf rfl (M.vis ((m+1:Nat):Int) (by rw[IntKind.wrap_i64];omega) (hJ _ _ ⟨m+1,by omega,rfl,rfl,λi hi=>?_⟩ (by omega)));rw[List.take_succ_eq_append_getElem (by omega),List.mem_append,List.mem_singleton]at hi;rcases hi with hi|rfl
   ·exact hok i hi
   ·rw[←hz];exact e
  ·rw[decide_eq_false e];refine ct rfl ?_;show Q (decide ((m:Int)≥0)) _;rw[decide_eq_true (show(m:Int)≥0 by omega)];rw[←dT (show ¬∀i∈xs,there ml i from λgg=>e (gg _ (by rw[hz];exact List.getElem_mem _)))]at k;exact k
 ·obtain rfl:m=l:=by omega
  rw[List.take_of_length_le (by omega)]at hok;refine gI (by omega) ?_;rw[←dF (λgg:¬∀i∈xs,there ml i=>gg hok)]at k;exact k
theorem GK{a1:Addr}{ml l c':Nat}{ba:Option Addr}{xs:List (Int×Int×ByteArray)}{Q:Bool->H->Prop}(r:Ro eC h ba l xs)(hl:l≤1000000000)(c:OY h a1 ml)(k:∀h',bq h h'->Q (decide (¬∀i∈xs,there ml i.1)) h'):aa ba l c' a1 h Q:=by
 unfold aa;unfold af;have hx:=r.len;refine M.aP (I:=λ(q:Int) h'=>∃m:Nat,m≤l∧q=(m:Int)∧bq h h'∧∀i∈xs.take m,there ml i.1) (μ:=λq=>(l-q).toNat) ⟨0,by omega,rfl,bq.refl _,by simp⟩ ?_;rintro q h5 J ⟨m,hm,rfl,k5,hok⟩ hJ;by_cases g:m<l
 ·refine eN (by omega) (QH (r.keep k5) (by omega) (by omega) (GU (c.keep k5) λh6 k6=>?_));rw[Int.toNat_natCast];have hz:=HQ (xs:=xs) (i:=m) (by omega);by_cases e:there ml (ch xs m).1
  ·rw[decide_eq_true e];refine cf rfl (M.vis ((m+1:Nat):Int) (by rw[IntKind.wrap_i64];omega) (hJ _ _ ⟨m+1,by omega,rfl,k5.trans k6,λi hi=>?_⟩ (by omega)));rw[List.take_succ_eq_append_getElem (by omega),List.mem_append,List.mem_singleton]at hi;rcases hi with hi|rfl
   ·exact hok i hi
   ·rw[←hz];exact e
  ·rw[decide_eq_false e];refine ct rfl ?_;show Q (decide ((m:Int)≥0)) _;rw[decide_eq_true (show(m:Int)≥0 by omega)];have:=k _ (k5.trans k6);rw[←dT (show ¬∀i∈xs,there ml i.1 from λgg=>e (gg _ (by rw[hz];exact List.getElem_mem _)))]at this;exact this
 ·obtain rfl:m=l:=by omega
  rw[List.take_of_length_le (by omega)]at hok;refine gI (by omega) ?_;have:=k _ k5;rw[←dF (λgg:¬∀i∈xs,there ml i.1=>gg hok)]at this;exact this
theorem Cx{xs ys:List Mem}(h:xs.length=ys.length):(sV xs ys).length=ys.length:=by simp[sV,h]
theorem Kt{sa ma ba ca:Option Addr}{sl sc ml mc bl bc cl cc:Nat}{Q:Option Addr->Int->H->Prop}(w:Wd h0 h [jB p b a key T])(r1:Ro eI h sa sl P.S.av)(r2:Ro kf h ma ml P.S.aj)(r3:Ro eI h ba bl P.blank)(r4:Ro eC h ca cl P.vv)
  (hl:sl≤1000000∧ml≤1000000∧bl≤1000000∧cl≤1000000) (k1:¬wJ T.S P->∀h',bq h h'->Q none 4 h') (k0:wJ T.S P->∀wk v h',Wd h h' [lN wk v (vw T.S P.S) (λ_=>none) λ_=>none]->Q (some ⟨wk,0,none⟩) 0 h'):
  cu (some ⟨p,0,none⟩) P.S.count P.S.dS P.S.data P.S.slots P.S.mark P.S.built P.S.aJ sa sl sc ma ml mc ba bl bc ca cl cc h Q:=by
 unfold cu cu.g;obtain⟨ok,tsa,tsc,tma,tmc,src,wS0⟩:=nj w;have hg:=ok.g.len;have x1:=r1.len;have x2:=r2.len;subst x1 x2;unfold wJ at k1 k0;refine M.aK (Wd.start h) λb3 h4 w=>kq (s:=P.S) (sa:=sa) (sl:=_) (sc:=sc) (ma:=ma) (ml:=_) (mc:=mc) (pZ (w.blk 0 rfl) rfl) ?_;refine CN (r1.keep w.keep) (r2.keep w.keep) (by omega) (by omega) λa1 c1 a2 c2 h5 w5=>?_;have w:=w.join w5;refine M.aK w λbw h6 w=>M.aK w λbt h7 w=>?_;have w:Wd h h7 ([_,_,_,_]++[.blk bt (.map #[] 0)]):=w;have w:=No w;have w:=w.mv (i:=3) rfl;have w:Wd h h7 ([_,_,_,_]++[.blk bw (.map #[] 0)]):=w;have w:=No w;have w:=w.mv (i:=3) rfl;refine M.aK w λwk h8 w=>M.aK w λbp h9 w=>M.bg w 6 rfl rfl (by simp) λh10 w=>?_;have wS:=wS0.keeps w.keep;have hS:=wS.blk 0 rfl;refine M.aO (λd h'=>d=decide (¬(P.S.aj.length=T.S.aj.length∧P.S.slots=T.S.slots))∧h'=h10) (λJ hJ=>M.nF (w.blk 6 rfl) rfl (iw (M.lW (w.blk 5 rfl) rfl (iw (M.lW hS rfl ?_))))) ?_
 ·by_cases e1:P.S.aj.length=T.S.aj.length
  rotate_left
  ·exact ct (by simp;omega) (hJ _ _ ⟨dT λg=>e1 g.1,rfl⟩)
  refine cf (by simp[e1]) (M.nF (w.blk 6 rfl) rfl (iw (M.gv (w.blk 5 rfl) rfl (iw (M.gv hS rfl (hJ _ _ ⟨?_,rfl⟩))))));refine jT ?_;rw[bne_iff_ne];exact⟨λg h=>g h.2,λg h=>g ⟨e1,h⟩⟩
 rintro _ h11 ⟨rfl,rfl⟩;by_cases e1:P.S.aj.length=T.S.aj.length∧P.S.slots=T.S.slots;rotate_left
 ·exact ct (decide_eq_true e1) (k1 (λg=>e1 ⟨g.1,g.2.1⟩) _ w.keep)
 refine cf (decide_eq_false λg=>g e1) (M.nF (w.blk 6 rfl) rfl (M.nF (w.blk 6 rfl) rfl (iw (M.gv hS rfl (iw (M.gv hS rfl (iw ?_)))))));have hbp:=w.blk 6 rfl;refine M.bg w 5 rfl rfl (by simp) λh12 w=>M.tA hbp (w.blk 6 rfl) (iw (M.bg w 5 rfl rfl (show(1:Nat)<11 by decide) λh13 w=>?_));have hl2:(sV P.S.aj T.S.aj).length=P.S.aj.length:=by rw[Cx e1.1,e1.1]
 refine M.aO (λ_ h'=>Wd h h' [.blk b3 (.cells #[.int .u64 P.S.count,.int .u64 P.S.dS,.int .i64 P.S.data,.int .i64 P.S.slots,.int .i64 P.S.mark,.int .i64 P.S.built,.bool P.S.aJ,.slice sa P.S.av.length sc,.slice ma P.S.aj.length mc,.slice ba bl bc,.slice ca cl cc] 55),.sl 3 1 a1 P.S.av.length c1 (eI.row P.S.av),.sl 51 3 a2 P.S.aj.length c2 (kf.row (sV P.S.aj T.S.aj)),Ez bw λ_=>none,Ez bt λ_=>none,
  .blk wk (.cells #[.int .u64 T.S.count,.int .u64 T.S.dS,.int .i64 P.S.data,.int .i64 P.S.slots,.int .i64 P.S.mark,.int .i64 P.S.built,.bool P.S.aJ,.slice a1 P.S.av.length c1,.slice a2 P.S.aj.length c2,.map (some bw),.map (some bt)] 146),.blk bp (.cells #[.pointer (some ⟨wk,0,none⟩)] 138)]) (λJ hJ=>iw ?_) ?_
 ·refine M.lW ((wS0.keeps w.keep).blk 0 rfl) rfl ?_
  refine M.aP (I:=λ(q:Int) h'=>∃m:Nat,m≤T.S.aj.length∧q=(m:Int)∧Wd h h' [.blk b3 (.cells #[.int .u64 P.S.count,.int .u64 P.S.dS,.int .i64 P.S.data,.int .i64 P.S.slots,.int .i64 P.S.mark,.int .i64 P.S.built,.bool P.S.aJ,.slice sa P.S.av.length sc,.slice ma P.S.aj.length mc,.slice ba bl bc,.slice ca cl cc] 55),.sl 3 1 a1 P.S.av.length c1 (eI.row P.S.av),.sl 51 3 a2 P.S.aj.length c2 (kf.row ((sV P.S.aj T.S.aj).take m++P.S.aj.drop m)),Ez bw λ_=>none,Ez bt λ_=>none,
   .blk wk (.cells #[.int .u64 T.S.count,.int .u64 T.S.dS,.int .i64 P.S.data,.int .i64 P.S.slots,.int .i64 P.S.mark,.int .i64 P.S.built,.bool P.S.aJ,.slice a1 P.S.av.length c1,.slice a2 P.S.aj.length c2,.map (some bw),.map (some bt)] 146),.blk bp (.cells #[.pointer (some ⟨wk,0,none⟩)] 138)]) (μ:=λq=>(T.S.aj.length-q).toNat) ⟨0,by omega,rfl,by rw[List.take_zero,List.nil_append,List.drop_zero];exact w⟩ ?_
  clear w;rintro q h14 J2 ⟨m,hm,rfl,w⟩ hJ2;by_cases g:m<T.S.aj.length;rotate_left
  ·obtain rfl:m=T.S.aj.length:=by omega
   rw[List.take_of_length_le (by omega),List.drop_of_length_le (by omega),List.append_nil]at w;exact gI (by omega) (hJ () _ w)
  have hmP:m<P.S.aj.length:=by omega
  refine eN (by omega) (Ro.BY ((wS0.keeps w.keep).ro (E:=kf) 2 rfl (by decide)) (by omega) (by omega) (M.aK w λb5 h15 w=>⟨rfl,M.bz w 7 rfl (by simp[ag]) rfl λh16 w=>?_⟩));simp only[Int.toNat_natCast]at w ⊢;have hmz:=mJ (xs:=T.S.aj) (i:=m) g;have hb5:=w.blk 7 rfl;refine M.nF (w.blk 6 rfl) rfl (iw (M.lW (w.blk 5 rfl) rfl (M.nF (w.blk 6 rfl) rfl (iw (M.lW (w.blk 5 rfl) rfl (M.oL hb5 rfl (M.oL hb5 rfl ?_)))))));have ln:((sV P.S.aj T.S.aj).take m++P.S.aj.drop m).length=P.S.aj.length:=by simp[hl2];omega
  have hg2:((sV P.S.aj T.S.aj).take m++P.S.aj.drop m)[m]'(by omega)=P.S.aj[m]:=by
   rw[List.getElem_append_right (by simp;omega)];simp[hl2,Nat.min_eq_left (Nat.le_of_lt hmP)]
  refine sQ kf w 2 rfl (z:=m) (o:=1) rfl (by omega) (by decide) rfl { P.S.aj[m]with top:=(mb T.S.aj m).top } (by rw[hg2];rfl) λh17 w=>M.tA hb5 (w.blk 7 rfl) ?_;refine sQ kf w 2 rfl (z:=m) (o:=2) rfl (by rw[List.length_set];omega) (by decide) rfl ⟨P.S.aj[m].st,(mb T.S.aj m).top,(mb T.S.aj m).log⟩ (by rw[List.getElem_set_self];rfl) λh18 w=>?_;refine M.vis ((m+1:Nat):Int) (by rw[IntKind.wrap_i64];omega) (hJ2 _ _ ⟨m+1,by omega,rfl,?_⟩ (by omega));have hs:((((sV P.S.aj T.S.aj).take m++P.S.aj.drop m).set m { P.S.aj[m]with top:=(mb T.S.aj m).top }).set m ⟨P.S.aj[m].st,(mb T.S.aj m).top,(mb T.S.aj m).log⟩)=(sV P.S.aj T.S.aj).take (m+1)++P.S.aj.drop (m+1):=by
   rw[List.set_set,List.set_append_right _ _ (by simp;omega),List.length_take,hl2,Nat.min_eq_left (Nat.le_of_lt hmP),Nat.sub_self,List.drop_eq_getElem_cons hmP,List.set_cons_zero,List.take_succ_eq_append_getElem (by omega),List.append_assoc,hmz];simp[sV]
  rw[←hs];exact w.drop (i:=7) rfl
 clear w hbp;rintro _ h14 w;refine M.aK w λbc' h15 w=>M.bg w 7 rfl rfl (by simp[ag]) λh16 w=>?_;have clo:OY h16 ⟨bc',0,none⟩ T.S.aj.length:=⟨⟨bp,0,none⟩,wk,_,_,_,a2,c2,by rw[dA (w.blk 7 rfl)];rfl,by rw[dA (w.blk 6 rfl)];rfl,w.blk 5 rfl,by rw[←e1.1];rfl⟩;have hmd:(xN T.S P.S).aj.length=P.S.aj.length:=hl2;refine M.aO (λd h'=>d=decide (¬((xN T.S P.S).good∧(∀i∈P.blank,there T.S.aj.length i)∧∀c∈P.vv,there T.S.aj.length c.1))∧bq h16 h') (λJ hJ=>M.nF (w.blk 6 rfl) rfl (iw (kq (s:=xN T.S P.S) (sa:=a1) (sl:=P.S.av.length) (sc:=c1) (ma:=a2) (ml:=P.S.aj.length) (mc:=c2) (pZ (w.blk 5 rfl) rfl) ?_))) ?_
 ·refine pT (s:=xN T.S P.S) (w.ro (E:=eI) 1 rfl (by decide)) (by have:=w.ro (E:=kf) (xs:=sV P.S.aj T.S.aj) 2 rfl (by decide);exact this) (by omega) (by omega) λh17 Jf=>?_;by_cases g1:(xN T.S P.S).good;rotate_left
  ·exact ct (by simp[g1]) (hJ _ _ ⟨dT λg=>g1 g.1,Jf⟩)
  have w:=w.keeps Jf;refine cf (by simp[g1]) (M.lW (w.blk 0 rfl) rfl (B4 (r3.keep w.keep) (by omega) (clo.keep Jf) ?_));by_cases g2:∀i∈P.blank,there T.S.aj.length i;rotate_left
  ·exact ct (decide_eq_true g2) (hJ _ _ ⟨dT λg=>g2 g.2.1,Jf⟩)
  refine cf (decide_eq_false λg=>g g2) (M.lW (w.blk 0 rfl) rfl (GK (r4.keep w.keep) (by omega) (clo.keep Jf) λh18 Q0=>hJ _ _ ⟨?_,Jf.trans Q0⟩));exact jT (decide_eq_true_iff.trans ⟨λg h=>g h.2.2,λg h=>g ⟨g1,g2,h⟩⟩)
 rintro _ h17 ⟨rfl,Jf⟩;have w:=w.keeps Jf;by_cases gg:(xN T.S P.S).good∧(∀i∈P.blank,there T.S.aj.length i)∧∀c∈P.vv,there T.S.aj.length c.1;rotate_left
 ·exact ct (decide_eq_true gg) (k1 (λg=>gg g.2.2) _ w.keep)
 refine cf (decide_eq_false λg=>g gg) (M.nF (w.blk 6 rfl) rfl (iw (M.gv (w.blk 5 rfl) rfl (M.vis (Du (T.S.count+1)) rfl (iw (M.bg w 5 rfl rfl (by simp) λh18 w=>M.nF (w.blk 6 rfl) rfl (k0 ⟨e1.1,e1.2,gg⟩ wk (a1,c1,a2,c2,bw,bt) _ ?_)))))));have w:=((((((w.drop (i:=7) rfl).drop (i:=6) rfl).drop (i:=0) rfl).mv (i:=0) rfl).mv (i:=0) rfl).mv (i:=0) rfl).mv (i:=0) rfl;have e0:(vw T.S P.S).aj.length=P.S.aj.length:=hl2;refine tE (v:=(a1,c1,a2,c2,bw,bt)) ?_;rw[rH,LN,e0];exact w
def Bw(S:gD)(i:Nat):gD:={ S with built:=if(mb S.aj i).st=3 then 0 else S.built,aj:=S.aj.set i { mb S.aj i with st:=2 } }
def I9(S:gD):Nat:=S.av.countP λi=>decide ((mb S.aj i.toNat).st≠1)
def mu(S:gD):Prop:=I9 S≤2
instance (S:gD):Decidable (mu S):=by unfold mu;infer_instance
end
abbrev tN:=Nat->Option (KV×ByteArray)
def tN.set(J:tN)(m:Nat)(v:Option (KV×ByteArray)):tN:=λi=>if i=m then v else J i
structure wF where
 S:gD
 J:tN
def oV(l:List (Int×Int×ByteArray))(m:Nat):KV:=(l.filter λc=>c.1=(m:Int)).map λc=>(c.2.1,c.2.2)
def wF.yL(W:wF)(m:Nat)(r:KV×ByteArray×Int):Int×wF:=
 if r.2.2=0 then(0,{ W with J:=W.J.set m (some (r.1,r.2.1)) })else if r.2.2=21 then(21,W)else(0,⟨Bw W.S m,W.J.set m none⟩)
noncomputable def vh(B:ak)(key:ByteArray)(P:pH)(W:wF)(m:Nat):Int×wF:=
 if ¬(mb W.S.aj m).o5 then(0,W)else if(m:Int)∈P.blank then W.yL m (jQ W.S.slots,jx W.S.slots,0)
 else if oV P.vv m=[] then(0,W)else W.yL m (sY B key m W.S.slots (mb W.S.aj m).top (oV P.vv m))
noncomputable def kO(B:ak)(key:ByteArray)(P:pH)(W:wF):Nat->Int×wF
 | 0=>(0,W)
 | m+1=>if(kO B key P W m).1≠0 then kO B key P W m else vh B key P (kO B key P W m).2 m
def mj(hB:H)(J:tN)(f g:Int->Option Value):Prop:=
 (∀m:Nat,match J m with|none=>f m=none|some (ws,top)=>(∃a c,f m=some (.slice a ws.length c)∧Ro eP hB a ws.length ws)∧g m=some (.string top))
theorem mj.keep{hB hB':H}{J:tN}{f g:Int->Option Value}(j:mj hB J f g)(k:bq hB hB'):mj hB' J f g:=λm=>by
 have:=j m;cases e:J m with
 | none=>rw[e]at this;exact this
 | some q=>
  obtain⟨ws,top⟩:=q;rw[e]at this;obtain⟨⟨a,c,h1,h2⟩,h3⟩:=this;exact⟨⟨a,c,h1,h2.keep k⟩,h3⟩
theorem mj.put{hB:H}{J:tN}{f g:Int->Option Value}{m:Nat}{ws:KV}{top:ByteArray}{a:Option Addr}{c:Nat}(j:mj hB J f g)(r:Ro eP hB a ws.length ws):mj hB (J.set m (some (ws,top))) (qF f m (some (.slice a ws.length c))) (qF g m (some (.string top))):=λi=>by
 have:=j i;unfold tN.set qF;by_cases e:i=m
 ·subst e;simp only[if_true];exact⟨⟨a,c,rfl,r⟩,trivial⟩
 ·have e2:¬((i:Int)=(m:Int)):=by omega
  simp only[e,e2,if_false];exact this
theorem mj.del{hB:H}{J:tN}{f g:Int->Option Value}{m:Nat}(j:mj hB J f g):mj hB (J.set m none) (qF f m none) g:=λi=>by
 have:=j i;unfold tN.set qF;by_cases e:i=m
 ·subst e;simp only[if_true]
 ·have e2:¬((i:Int)=(m:Int)):=by omega
  simp only[e,e2,if_false];exact this
theorem rG(S:gD)(i:Nat):(Bw S i).aj.length=S.aj.length:=by simp[Bw]
theorem gD.Fit.fail{S:gD}(f:S.Fit)(i:Nat):(Bw S i).Fit:=⟨f.d,f.sl,f.ns,by rw[rG];exact f.rg,by rw[rG];exact f.ml⟩
section
variable {h0 h:H}{wk p b a c:Nat}{S:gD}{f g:Int->Option Value}{T:uY}{P:pH}{key:ByteArray}{L:List Chunk}{x:Int}{B:ak}
theorem Oc:Tryz.prog.underlying 143=some (.map 3 160):=by kernel_rfl
theorem QO:Tryz.prog.underlying 144=some (.map 3 9):=by kernel_rfl
theorem z143:∀w,(zeroValue 160).run Tryz.prog w = .ok (.slice none 0 0) w:=λw=>by kernel_rfl
theorem Bq{m:Nat}{Q:H->Prop}{v:Nw}(w:Wd h0 h [lN wk v S f g])(hm:m<S.aj.length)(k:∀h',Wd h0 h' [lN wk v (Bw S m) (qF f m none) g]->Q h'):ck (some ⟨wk,0,none⟩) (m:Int) h Q:=by
 unfold ck;obtain⟨sa,sc,ma,mc,bw,bt⟩:=v;have w:=ni w;have hz:=mJ (xs:=S.aj) (i:=m) hm;refine M.aO (λ_ h'=>Wd h0 h' [.blk wk (.cells (LN { S with built:=if(mb S.aj m).st=3 then 0 else S.built } sa sc ma mc bw bt) 146),.sl 3 1 sa S.av.length sc (eI.row S.av),.sl 51 3 ma S.aj.length mc (kf.row S.aj),Ez bw f,Ez bt g]) (λJ hJ=>iw (M.lW (w.blk 0 rfl) rfl ?_)) ?_
 ·have r:=w.ro (E:=kf) 2 rfl (by decide);refine r.at (by omega) (by omega) λq hi hc=>?_;simp only[Int.toNat_natCast]at hi hc ⊢;have c0:h.cell ((q.add (m*3)).add 0)=some (.int .i64 (S.aj[m]).st):=hc 0 (by decide);refine⟨_,c0,_,rfl,?_⟩;rw[←hz];by_cases e:(mb S.aj m).st=3
  ·rw[if_pos e]at hJ;exact ct (by simp[e]) (iw (M.bg w 0 rfl rfl (show(5:Nat)<11 by decide) λh1 w=>hJ () _ w))
  ·rw[if_neg e]at hJ;exact cf (by simpa using e) (hJ () _ w)
 clear w;rintro _ h1 w;refine iw (M.lW (w.blk 0 rfl) rfl (sQ kf w 2 rfl (z:=m) (o:=0) rfl hm (by decide) rfl { mb S.aj m with st:=2 } (by rw[hz];rfl) λh2 w=>iw (M.Qq (w.blk 0 rfl) rfl (P4 Oc w 3 rfl λh3 w=>k _ ?_))))
 refine tE (S:=Bw S m) (v:=(sa,sc,ma,mc,bw,bt)) ?_;rw[rH,LN,rG];exact w
theorem H9{m:Nat}(hm:m<S.av.length):(S.av.take (m+1)).countP (λi=>decide ((mb S.aj i.toNat).st≠1))=(S.av.take m).countP (λi=>decide ((mb S.aj i.toNat).st≠1))+if(mb S.aj (za S.av m).toNat).st≠1 then 1 else 0:=by
 rw[List.take_succ_eq_append_getElem hm,List.countP_append,kP hm];simp[List.countP_cons]
theorem y5{Q:Bool->H->Prop}{v:Nw}(w:Wd h0 h [lN wk v S f g])(ft:S.Fit)(k:Q (decide (mu S)) h):bW (some ⟨wk,0,none⟩) h Q:=by
 unfold bW;obtain⟨sa,sc,ma,mc,bw,bt⟩:=v;have w:=ni w;have r1:=w.ro (E:=eI) 1 rfl (by decide);have r2:=w.ro (E:=kf) 2 rfl (by decide);have hl:=ft.len;refine M.aO (λd h'=>d=(I9 S:Int)∧h'=h) (λJ hJ=>iw (M.lW (w.blk 0 rfl) rfl ?_)) ?_
 ·refine M.aP (I:=λ(q:Int×Int) h'=>∃m:Nat,m≤S.av.length∧q=((((S.av.take m).countP (λi=>decide ((mb S.aj i.toNat).st≠1)):Nat):Int),(m:Int))∧h'=h) (μ:=λq=>(S.av.length-q.2).toNat) ⟨0,by omega,rfl,rfl⟩ ?_;rintro q h5 J2 ⟨m,hm,rfl,rfl⟩ hJ2;by_cases e:m<S.av.length
  ·refine eN (by simp only;omega) (r1.Ii (by simp only;omega) (by simp only;omega) ?_);simp only[Int.toNat_natCast];obtain⟨d1,d2⟩:0≤za S.av m∧za S.av m<S.aj.length:=by rw[kP e];exact ft.rg _ (List.getElem_mem _)
   have ht:=H9 (S:=S) e;have hle:(S.av.take m).countP (λi=>decide ((mb S.aj i.toNat).st≠1))≤m:=Nat.le_trans List.countP_le_length (by simp;omega);refine iw (M.lW (w.blk 0 rfl) rfl (r2.at d1 (by omega) λq hi hc=>?_));have c0:h5.cell ((q.add ((za S.av m).toNat * 3)).add 0)=some (.int .i64 (S.aj[(za S.av m).toNat]).st):=hc 0 (by decide);refine⟨_,c0,_,rfl,?_⟩;rw[←mJ hi];have v1:wrap .i64 ((m:Int)+1)=((m+1:Nat):Int):=by rw[IntKind.wrap_i64];omega
   by_cases e2:(mb S.aj (za S.av m).toNat).st=1
   ·rw[if_neg (by simp[e2])]at ht;exact cf (by simp[e2]) (M.vis _ v1 (hJ2 _ _ ⟨m+1,by omega,by rw[ht];rfl,rfl⟩ (by simp only;omega)))
   ·rw[if_pos e2]at ht;exact ct (by simpa using e2) (M.vis (((S.av.take (m+1)).countP (λi=>decide ((mb S.aj i.toNat).st≠1)):Nat):Int) (by rw[ht,IntKind.wrap_i64];omega) (M.vis _ v1 (hJ2 _ _ ⟨m+1,by omega,rfl,rfl⟩ (by simp only;omega))))
  ·obtain rfl:m=S.av.length:=by omega
   refine gI (by simp only;omega) (hJ _ _ ⟨?_,rfl⟩);rw[List.take_of_length_le (Nat.le_refl _)];rfl
 rintro _ _ ⟨rfl,rfl⟩;unfold mu at k;by_cases e:I9 S≤2
 ·rw[decide_eq_true e]at k;rw[decide_eq_true (by omega)];exact k
 ·rw[decide_eq_false e]at k;rw[decide_eq_false (by omega)];exact k
end
def nQ(cells:List ByteArray):KV:=cells.mapIdx λi c=>(2+(i:Int),c)
def wD(S:gD)(m:Nat)(top log:ByteArray):gD:={ S with aj:=S.aj.set m { mb S.aj m with top:=top,log:=log } }
def lE(S:gD)(m:Nat)(log:ByteArray):gD:={ S with aj:=S.aj.set m { mb S.aj m with log:=log } }
noncomputable def oZ(B:ak)(d:Int)(ws:KV):Int×ak:=if(oq ws).2.2=0 then dX B d (nQ (oq ws).1)else((oq ws).2.2,B)
noncomputable def tZ(W:wF)(B:ak)(m:Nat):Int×wF×ak:=match W.J m with
 | none=>(0,{ W with S:=lE W.S m gF },B)
 | some (ws,top)=>if(oZ B m ws).1=0 then(0,{ W with S:=wD W.S m top (oq ws).2.1 },(oZ B m ws).2)else
  if(oZ B m ws).1=21 then(21,{ W with S:=lE W.S m gF },(oZ B m ws).2)else(0,⟨Bw (lE W.S m gF) m,W.J.set m none⟩,(oZ B m ws).2)
noncomputable def kD(W:wF)(B:ak):Nat->Int×wF×ak
 | 0=>(0,W,B)
 | m+1=>if(kD W B m).1≠0 then kD W B m else tZ (kD W B m).2.1 (kD W B m).2.2 m
def nw(key:ByteArray)(n:Int)(J:tN)(B:ak):Nat->Int×ak
 | 0=>(0,B)
 | m+1=>if(nw key n J B m).1≠0 then nw key n J B m else match J m with
  | none=>nw key n J B m
  | some (ws,_)=>(if(jN (nw key n J B m).2 key m n ws).1=21 then 21 else 0,(jN (nw key n J B m).2 key m n ws).2)
/-! ### What stays -/
section
variable {B:ak}{key:ByteArray}{P:pH}{W:wF}{m:Nat}{c k:Nat}
theorem Lq{r:KV×ByteArray×Int}(ft:W.S.Fit):(W.yL m r).2.S.Fit∧(W.yL m r).2.S.aj.length=W.S.aj.length∧(W.yL m r).2.S.slots=W.S.slots∧(W.yL m r).2.S.count=W.S.count∧(W.yL m r).2.S.dS=W.S.dS:=by
 unfold wF.yL;split
 ·exact⟨ft,rfl,rfl,rfl,rfl⟩
 ·split
  ·exact⟨ft,rfl,rfl,rfl,rfl⟩
  ·exact⟨ft.fail m,rG _ _,rfl,rfl,rfl⟩
structure Alike (S S':gD):Prop where
 len:S'.aj.length=S.aj.length
 sl:S'.slots=S.slots
 co:S'.count=S.count
 ep:S'.dS=S.dS
theorem Alike.refl(S:gD):Alike S S:=⟨rfl,rfl,rfl,rfl⟩
theorem Alike.trans{S S' S'':gD}(a:Alike S S')(b:Alike S' S''):Alike S S'':=⟨b.len.trans a.len,b.sl.trans a.sl,b.co.trans a.co,b.ep.trans a.ep⟩
theorem Jy(ft:W.S.Fit):(vh B key P W m).2.S.Fit∧Alike W.S (vh B key P W m).2.S:=by
 unfold vh
 repeat' split
 all_goals first|exact⟨ft,.refl _⟩|exact(let ⟨a,b,c,d,e⟩:=Lq ft;⟨a,b,c,d,e⟩)
theorem uI(ft:W.S.Fit):∀m,(kO B key P W m).2.S.Fit∧Alike W.S (kO B key P W m).2.S
 | 0=>⟨ft,.refl _⟩
 | m+1=>by
  have h:=uI ft m;rw[kO];split
  ·exact h
  ·have h2:=Jy (B:=B) (key:=key) (P:=P) (m:=m) h.1;exact⟨h2.1,h.2.trans h2.2⟩
theorem qQ{S:gD}{x:Mem}(ft:S.Fit):({ S with aj:=S.aj.set m x }:gD).Fit:=⟨ft.d,ft.sl,ft.ns,by simp only[List.length_set];exact ft.rg,by simp only[List.length_set];exact ft.ml⟩
theorem sH(S:gD)(l:ByteArray):(lE S m l).aj.length=S.aj.length:=by simp[lE]
theorem A0(S:gD)(t l:ByteArray):(wD S m t l).aj.length=S.aj.length:=by simp[wD]
theorem Ms(ft:W.S.Fit):(tZ W B m).2.1.S.Fit∧Alike W.S (tZ W B m).2.1.S:=by
 unfold tZ;cases W.J m with
 | none=>exact⟨qQ ft,sH _ _,rfl,rfl,rfl⟩
 | some q=>
  obtain⟨ws,top⟩:=q;simp only
  repeat' split
  ·exact⟨qQ ft,A0 _ _ _,rfl,rfl,rfl⟩
  ·exact⟨qQ ft,sH _ _,rfl,rfl,rfl⟩
  ·refine⟨gD.Fit.fail (qQ ft) m,?_,rfl,rfl,rfl⟩;rw[rG,sH]
theorem xT(ft:W.S.Fit):∀m,(kD W B m).2.1.S.Fit∧Alike W.S (kD W B m).2.1.S
 | 0=>⟨ft,.refl _⟩
 | m+1=>by
  have h:=xT ft m;rw[kD];split
  ·exact h
  ·have h2:=Ms (B:=(kD W B m).2.2) (m:=m) h.1;exact⟨h2.1,h.2.trans h2.2⟩
theorem Fj(l:KV):(oq l).1.length≤96:=by
 unfold oq
 repeat' split
 ·simp
 ·simp
 ·simp[lF];omega
theorem Bk.Sc{d:Int}{ws:KV}(b:Bk B c (k+97)):Bk (oZ B d ws).2 c k:=by
 unfold oZ;have:=Fj ws;split
 ·exact Bk.writes (b.mono (by simp[nQ];omega))
 ·exact b.mono (by omega)
theorem Bk.tZ(b:Bk B c (k+97)):Bk (tZ W B m).2.2 c k:=by
 unfold Go.Proofs.YtmfcgihgdhfalaaGreatDoor.tZ;cases W.J m with
 | none=>exact b.mono (by omega)
 | some q=>
  obtain⟨ws,top⟩:=q;simp only
  repeat' split
  all_goals exact b.Sc
theorem Bk.Oq:∀(m:Nat) {k:Nat},Bk B c (k+97*m)->Bk (kD W B m).2.2 c k
 | 0,_,b=>b
 | m+1,k,b=>by
  have h:=Bk.Oq (k:=k+97) m (b.mono (by omega));rw[kD];split
  ·exact h.mono (by omega)
  ·exact h.tZ
theorem Bk.app{n:Int}{J:tN}(hJ:∀i,i<m->∀ws top,J i=some (ws,top)->ws.length≤95):∀{k:Nat},Bk B c (k+96*m)->Bk (nw key n J B m).2 c k:=by
 induction m with
 | zero=>intro k b;exact b
 | succ m ih=>
  intro k b;have h:=ih (λi hi=>hJ i (by omega)) (k:=k+96) (b.mono (by omega));have hj:=hJ m (by omega);rw[nw];split
  ·exact h.mono (by omega)
  ·cases e:J m with
   | none=>exact h.mono (by omega)
   | some q=>
    obtain⟨ws,top⟩:=q;have:=hj ws top e;exact Bk.apply (h.mono (by omega))
theorem EN{d:Int}{ws:KV}(h:(oZ B d ws).1=0):ws.length≤95:=by
 by_cases e:96≤ws.length
 ·unfold oZ oq at h;rw[if_pos e]at h;simp at h
 ·omega
theorem Po:(tZ W B m).2.1.J=W.J∨(tZ W B m).2.1.J=W.J.set m none:=by
 unfold tZ;cases W.J m with
 | none=>exact .inl rfl
 | some q=>
  obtain⟨ws,top⟩:=q;simp only
  repeat' split
  ·exact .inl rfl
  ·exact .inl rfl
  ·exact .inr rfl
theorem wh:∀m,(kD W B m).1=0->∀i,i<m->∀ws top,(kD W B m).2.1.J i=some (ws,top)->ws.length≤95
 | 0,_,i,hi,_,_,_=>by omega
 | m+1,h,i,hi,ws,top,hj=>by
  rw[kD]at h hj;by_cases e:(kD W B m).1=0;rotate_left
  ·rw[if_pos e]at h;exact absurd h e
  rw[if_neg (by simp[e])]at h hj;have ih:=wh m e;have hJ:=Po (W:=(kD W B m).2.1) (B:=(kD W B m).2.2) (m:=m);by_cases em:i=m
  ·subst em;unfold tZ at h hj;cases ej:(kD W B i).2.1.J i with
   | none=>
    simp only[ej]at hj;simp at hj
   | some q=>
    obtain⟨ws',top'⟩:=q;simp only[ej]at h hj;by_cases e1:(oZ (kD W B i).2.2 i ws').1=0
    ·rw[if_pos e1]at hj;simp only[ej,Option.some.injEq,Prod.mk.injEq]at hj;obtain⟨rfl,_⟩:=hj;exact EN e1
    ·rw[if_neg e1]at h hj;by_cases e2:(oZ (kD W B i).2.2 i ws').1=21
     ·rw[if_pos e2]at h;simp at h
     ·rw[if_neg e2]at hj;simp[tN.set]at hj
  ·rcases hJ with hJ|hJ
   ·rw[hJ]at hj;exact ih i (by omega) ws top hj
   ·rw[hJ]at hj;unfold tN.set at hj;rw[if_neg em]at hj;exact ih i (by omega) ws top hj
end
section
variable {h0 h:H}{wk p b a c:Nat}{S:gD}{f g:Int->Option Value}{T:uY}{P:pH}{key:ByteArray}{L:List Chunk}{x:Int}{B:ak}{W:wF}
theorem H8{l:List (Int×Int×ByteArray)}{m y:Nat}(hy:y<l.length):oV (l.take (y+1)) m=if(ch l y).1=(m:Int)then oV (l.take y) m++[((ch l y).2.1,(ch l y).2.2)] else oV (l.take y) m:=by
 unfold oV;rw[List.take_succ_eq_append_getElem hy,HQ hy,List.filter_append,List.map_append];by_cases e:l[y].1=(m:Int)
 ·simp[e]
 ·simp[e]
theorem CQ(l:List (Int×Int×ByteArray))(m:Nat):(oV l m).length≤l.length:=by
 unfold oV;rw[List.length_map];exact List.length_filter_le _ _
def AT(C:Array Value)(b a:Nat)(key:ByteArray):Prop:=C[0]? = some (.pointer (some ⟨b,0,none⟩))∧C[1]? = some (.pointer (some ⟨a,0,none⟩))∧C[2]? = some (.string key)
theorem Em{x0 x1 x2 x3 x4 x5:Int}{x6:Bool}{sa ma ba ca:Option Addr}{sl sc ml mc bl bc cl cc:Nat}{X:Chunk}{v:Nw}{Q:Int->H->Prop}(w:Wd h0 h [dO b B,lN wk v W.S f g,X])(hp:∀F h,X.holds F h->∃C e fz,h p=some (.cells C e fz)∧AT C b a key)
  (r3:Ro eI h0 ba bl P.blank) (r4:Ro eC h0 ca cl P.vv) (hl:bl≤1000000∧cl≤1000000) (ft:W.S.Fit) (hn:W.S.aj.length=B.ds.length) (hk:key.size=32) (bk:Bk B c 1) (tb:Tabs h0) (hj:mj h0 W.J f g)
  (k:∀hB f' g' h',bq h0 hB->Wd hB h' [dO b B,lN wk v (kO B key P W W.S.aj.length).2.S f' g',X]->mj hB (kO B key P W W.S.aj.length).2.J f' g' ->
   Q (if(kO B key P W W.S.aj.length).1≠0 then(kO B key P W W.S.aj.length).1 else if mu (kO B key P W W.S.aj.length).2.S then 0 else 24) h'):
  bL (some ⟨p,0,none⟩) (some ⟨wk,0,none⟩) x0 x1 x2 x3 x4 x5 x6 sa sl sc ma ml mc ba bl bc ca cl cc h Q:=by
 unfold bL bL.g;have hN:∀m,(kO B key P W m).2.S.Fit∧Alike W.S (kO B key P W m).2.S:=uI ft;have hS:∀m,kO B key P W (m+1)=if(kO B key P W m).1≠0 then kO B key P W m else vh B key P (kO B key P W m).2 m:=λm=>rfl
 have hR0:kO B key P W 0=(0,W):=rfl;generalize kO B key P W=R at *;generalize hNN:W.S.aj.length=N at *;have hfail:∀m j,(R m).1≠0->R (m+j)=R m:=λm j h=>by
  induction j with
  | zero=>rfl
  | succ j ih=>rw[←Nat.add_assoc,hS,ih,if_pos h]
 have hs:=bk.ok.small;have x4:=r4.len;subst x4;obtain⟨va,vb,vc,vd,ve,vf⟩:=v;refine M.aK w λb2 h1 w=>?_;refine M.aO (λ_ h'=>(R N).1=0∧∃hB f' g',bq h0 hB∧Wd hB h' [dO b B,lN wk (va,vb,vc,vd,ve,vf) (R N).2.S f' g',X]∧mj hB (R N).2.J f' g') (λJ hJ=>iw ?_) ?_;rotate_left
 ·rintro _ h2 ⟨hr,hB,f',g',kB,w,hj'⟩;obtain⟨_,_,_,wx,_,_⟩:=w.on (i:=1) rfl;refine y5 wx (hN N).1 ?_;have:=k hB f' g' h2 kB w hj';rw[if_neg (by simp[hr])]at this;by_cases e:mu (R N).2.S
  ·rw[if_pos e]at this;exact cf (by simp[e]) this
  ·rw[if_neg e]at this;exact ct (by simp[e]) this
 obtain⟨_,_,_,wx,_,_⟩:=w.on (i:=1) rfl;refine M.lW ((ni wx).blk 0 rfl) rfl ?_;clear wx;rw[hNN];have w:Wd h0 h1 [dO b B,lN wk (va,vb,vc,vd,ve,vf) W.S f g,X,.blk b2 (.cells #[.int .u64 x0,.int .u64 x1,.int .i64 x2,.int .i64 x3,.int .i64 x4,.int .i64 x5,.bool x6,.slice sa sl sc,.slice ma ml mc,.slice ba bl bc,.slice ca P.vv.length cc] 55)]:=w;refine M.aP (I:=λ(q:Int) h'=>∃m:Nat,m≤N∧q=(m:Int)∧(R m).1=0∧∃hB f' g',bq h0 hB∧Wd hB h' [dO b B,lN wk (va,vb,vc,vd,ve,vf) (R m).2.S f' g',X,.blk b2 (.cells #[.int .u64 x0,.int .u64 x1,.int .i64 x2,.int .i64 x3,.int .i64 x4,.int .i64 x5,.bool x6,.slice sa sl sc,.slice ma ml mc,.slice ba bl bc,.slice ca P.vv.length cc] 55)]∧mj hB (R m).2.J f' g')
  (μ:=λq=>(N-q).toNat) ⟨0,by omega,rfl,by rw[hR0],h0,f,g,bq.refl _,by rw[hR0];exact w,by rw[hR0];exact hj⟩ ?_
 clear w;rintro q h2 J2 ⟨m,hm,rfl,hr,hB,f',g',kB,w,hj'⟩ hJ2;by_cases gm:m<N;rotate_left
 ·obtain rfl:m=N:=by omega
  exact gI (by omega) (hJ () _ ⟨hr,hB,f',g',kB,w.drop (i:=3) rfl,hj'⟩)
 have e1:=hS m;rw[if_neg (by simp[hr])]at e1;obtain⟨ftm,alm⟩:=hN m;have hlm:(R m).2.S.aj.length=N:=by rw[alm.len,hNN]
 have rM:∀{h3:H} {L:List Chunk},Wd hB h3 (dO b B::lN wk (va,vb,vc,vd,ve,vf) (R m).2.S f' g'::L)->∃hx,Wd hx h3 (rH wk (va,vb,vc,vd,ve,vf) (R m).2.S f' g'):=λ{h3 L} w3=>by
  obtain⟨hx,_,_,wx,_,_⟩:=w3.on (i:=1) rfl;exact⟨hx,ni wx⟩
 have hnx:∀h',R (m+1)=(0,(R m).2)->Wd hB h' [dO b B,lN wk (va,vb,vc,vd,ve,vf) (R m).2.S f' g',X,.blk b2 (.cells #[.int .u64 x0,.int .u64 x1,.int .i64 x2,.int .i64 x3,.int .i64 x4,.int .i64 x5,.bool x6,.slice sa sl sc,.slice ma ml mc,.slice ba bl bc,.slice ca P.vv.length cc] 55)]->M.val (wrap .i64 ((m:Int)+1)) λz=>J2 z h':=λh' e w=>
  M.vis ((m+1:Nat):Int) (by rw[IntKind.wrap_i64];omega) (hJ2 _ _ ⟨m+1,by omega,rfl,by rw[e],hB,f',g',kB,by rw[e];exact w,by rw[e];exact hj'⟩ (by omega))
 refine eN (by omega) ?_;obtain⟨hx,wx⟩:=rM w;refine Ro.BY (xs:=(R m).2.S.aj) (l:=N) (by have:=wx.ro (E:=kf) 2 rfl (by decide);rw[hlm]at this;exact this) (by omega) (by omega) ?_;clear wx;simp only[Int.toNat_natCast];unfold vh at e1;generalize hxm:mb (R m).2.S.aj m=x at *;refine M.aK w λb3 h3 w=>⟨rfl,M.bz w 4 rfl (by simp[ag]) rfl λh4 w=>?_⟩;refine M.gv (w.blk 4 rfl) rfl (M.oL (w.blk 4 rfl) rfl (M.oL (w.blk 4 rfl) rfl (Aj λh5 k5=>?_)));have w:=w.keeps k5;by_cases g1:x.o5;rotate_left
 ·rw[if_pos g1]at e1;exact ct (by simp[g1]) (hnx _ e1 (w.drop (i:=4) rfl))
 rw[if_neg (by simp[g1])]at e1;refine cf (by simp[g1]) ?_;refine M.aO (λd h'=>d.2.1=(oV P.vv m).length∧Wd hB h' [dO b B,lN wk (va,vb,vc,vd,ve,vf) (R m).2.S f' g',X,.blk b2 (.cells #[.int .u64 x0,.int .u64 x1,.int .i64 x2,.int .i64 x3,.int .i64 x4,.int .i64 x5,.bool x6,.slice sa sl sc,.slice ma ml mc,.slice ba bl bc,.slice ca P.vv.length cc] 55),.blk b3 (.cells #[.int .i64 x.st,.string x.top,.string x.log] 51),.sl 109 2 d.1 d.2.1 d.2.2 (eP.row (oV P.vv m))]) (λJ3 hJ3=>M.lW (w.blk 3 rfl) rfl ?_) ?_
 ·have w:=w.jt 109 2;refine M.aP (I:=λ(q:(Option Addr×Nat×Nat)×Int) h'=>∃y:Nat,y≤P.vv.length∧q.2=(y:Int)∧q.1.2.1=(oV (P.vv.take y) m).length∧Wd hB h' [dO b B,lN wk (va,vb,vc,vd,ve,vf) (R m).2.S f' g',X,.blk b2 (.cells #[.int .u64 x0,.int .u64 x1,.int .i64 x2,.int .i64 x3,.int .i64 x4,.int .i64 x5,.bool x6,.slice sa sl sc,.slice ma ml mc,.slice ba bl bc,.slice ca P.vv.length cc] 55),.blk b3 (.cells #[.int .i64 x.st,.string x.top,.string x.log] 51),.sl 109 2 q.1.1 q.1.2.1 q.1.2.2 (eP.row (oV (P.vv.take y) m))]) (μ:=λq=>(P.vv.length-q.2).toNat) ⟨0,by omega,rfl,rfl,w⟩ ?_;clear w;rintro⟨⟨a6,l6,c6⟩,i6⟩ h6 J4 ⟨y,hy,hi,hl6,w⟩ hJ4;simp only at hi hl6 w ⊢;subst hi;by_cases gy:y<P.vv.length;rotate_left
  ·obtain rfl:y=P.vv.length:=by omega
   rw[List.take_length]at hl6 w;exact gI (by omega) (hJ3 (a6,l6,c6) _ ⟨hl6,w⟩)
  have ht:=H8 (m:=m) gy;have hle:=CQ (P.vv.take y) m;rw[List.length_take]at hle;refine eN (by omega) (QH (r4.keep (kB.trans w.keep)) (by omega) (by omega) (M.aK w λb5 h7 w=>⟨rfl,M.bz w 6 rfl (by simp[ag]) rfl λh8 w=>?_⟩));simp only[Int.toNat_natCast]at w ⊢;refine M.gv (w.blk 6 rfl) rfl ?_;by_cases e5:(ch P.vv y).1=(m:Int)
  ·rw[if_pos e5]at ht;refine ct (by simp[e5]) (M.gv (w.blk 6 rfl) rfl (M.oL (w.blk 6 rfl) rfl (Wd.push w 5 rfl rfl rfl (eP.iq [((ch P.vv y).2.1,(ch P.vv y).2.2)]) (by omega) (by omega) λa9 c9 h9 w=>M.vis ((y+1:Nat):Int) (by rw[IntKind.wrap_i64];omega) (hJ4 _ _ ⟨y+1,by omega,rfl,by rw[ht,List.length_append,←hl6];rfl,?_⟩ (by simp only;omega)))));rw[ht,eP.iX];exact w.drop (i:=6) rfl
  ·rw[if_neg e5]at ht;exact cf (by simpa using e5) (M.vis ((y+1:Nat):Int) (by rw[IntKind.wrap_i64];omega) (hJ4 _ _ ⟨y+1,by omega,rfl,by rw[ht];exact hl6,by rw[ht];exact w.drop (i:=6) rfl⟩ (by simp only;omega)))
 clear w;rintro⟨a6,l6,c6⟩ h6 ⟨hl6,w⟩;simp only at hl6 w ⊢;have hle:=CQ P.vv m;refine M.aO (λd h'=>∃ws top er,d.1.2.1=ws.length∧d.2.1=top∧d.2.2=er∧R (m+1)=(R m).2.yL m (ws,top,er)∧Wd hB h' [dO b B,lN wk (va,vb,vc,vd,ve,vf) (R m).2.S f' g',X,.blk b2 (.cells #[.int .u64 x0,.int .u64 x1,.int .i64 x2,.int .i64 x3,.int .i64 x4,.int .i64 x5,.bool x6,.slice sa sl sc,.slice ma ml mc,.slice ba bl bc,.slice ca P.vv.length cc] 55),.sl 261 2 d.1.1 ws.length d.1.2.2 (eP.row ws)])
  (λJ5 hJ5=>M.lW (w.blk 3 rfl) rfl (ri (r3.keep (kB.trans w.keep)) (by omega) ?_)) ?_
 ·obtain⟨FX,hFX,_⟩:=w.get (i:=2) rfl;obtain⟨C,eC',fz,wp,c0,c1,c2⟩:=hp _ _ hFX;obtain⟨hx,wx⟩:=rM w;by_cases g2:(m:Int)∈P.blank
  ·rw[if_pos g2]at e1;refine ct (decide_eq_true g2) (iw (nS wp c0 c1 c2 (iw (M.gv (wx.blk 0 rfl) rfl (mG λh7 k7=>?_)))));clear wx;have w:=w.keeps k7;obtain⟨_,_,_,wb,_,_⟩:=w.on (i:=0) rfl;refine Bl wb ⟨ftm.sl,hk,ak.jX.2 (by omega)⟩ (tb.keep (kB.trans w.keep)) λa8 c8 h8 w8=>hJ5 ((a8,_,c8),_,_) _ ⟨_,_,_,rfl,rfl,rfl,e1,?_⟩;exact((w.join w8).drop (i:=5) rfl).drop (i:=4) rfl
  rw[if_neg g2]at e1;refine cf (decide_eq_false g2) ?_;by_cases g3:oV P.vv m=[]
  ·rw[if_pos g3]at e1;have:l6=0:=by rw[hl6,g3];rfl
   exact gI (by omega) (hnx _ e1 ((w.drop (i:=5) rfl).drop (i:=4) rfl))
  rw[if_neg g3]at e1;have hl0:0<l6:=by
   have:=List.length_pos_iff.2 g3;omega
  have hb3:=w.blk 4 rfl;refine eN (by omega) (iw (nS wp c0 c1 c2 (iw (M.gv (wx.blk 0 rfl) rfl (M.oL hb3 rfl (mG λh7 k7=>M.cY k7 ⟨_,hb3⟩ ?_))))));clear wx;have w:=w.keeps k7;obtain⟨_,_,_,wb,_,_⟩:=w.on (i:=0) rfl;refine Ea wb (by have:=w.ro (E:=eP) (xs:=oV P.vv m) 5 rfl (by decide);exact this) (by omega) bk.sm (tb.keep (kB.trans w.keep)) λa8 c8 h8 w8=>hJ5 ((a8,_,c8),_,_) _ ⟨_,_,_,rfl,rfl,rfl,e1,?_⟩;exact((w.join w8).drop (i:=5) rfl).drop (i:=4) rfl
 clear w e1;rintro⟨⟨a7,l7,c7⟩,t7,r7⟩ h7 ⟨ws,top,er,rfl,rfl,rfl,e1,w⟩;simp only at e1 w ⊢;unfold wF.yL at e1;by_cases q1:r7=0
 ·rw[if_pos q1]at e1;obtain⟨hx,kx0,kx1,wx,wr,back⟩:=w.on (i:=1) rfl;have wx:=ni wx;refine ct (by simp[q1]) (iw (M.Qq (wx.blk 0 rfl) rfl (iw (M.Qq (wx.blk 0 rfl) rfl (LP Oc z143 wx 3 rfl λh8 wx=>LP QO GI wx 4 rfl λh9 wx=>?_)))));have w:=back _ _ (tE (v:=(va,vb,vc,vd,ve,vf)) wx);have w:Wd hB h9 [dO b B,lN wk (va,vb,vc,vd,ve,vf) (R m).2.S (qF f' m (some (.slice a7 ws.length c7))) (qF g' m (some (.string t7))),X,.blk b2 (.cells #[.int .u64 x0,.int .u64 x1,.int .i64 x2,.int .i64 x3,.int .i64 x4,.int .i64 x5,.bool x6,.slice sa sl sc,.slice ma ml mc,.slice ba bl bc,.slice ca P.vv.length cc] 55),.sl 261 2 a7 ws.length c7 (eP.row ws)]:=w;obtain⟨hB2,k02,yb,w2,wr2,_⟩:=w.split 4;refine M.vis ((m+1:Nat):Int) (by rw[IntKind.wrap_i64];omega) (hJ2 _ _ ⟨m+1,by omega,rfl,by rw[e1],hB2,_,_,kB.trans k02,by rw[e1];exact w2,?_⟩ (by omega));rw[e1];exact(hj'.keep k02).put (by have:=wr2.ro (E:=eP) (xs:=ws) 0 rfl (by decide);exact this)
 rw[if_neg q1]at e1;refine cf (by simpa using q1) ?_;by_cases q2:r7=21
 ·rw[if_pos q2]at e1;refine ct (by simp[q2]) ?_;have hlN:R N=R (m+1):=by
   have:=hfail (m+1) (N-(m+1)) (by rw[e1];simp)
   rwa [show m+1+(N-(m+1))=N by omega]at this
  rw[hlN,e1]at k;have:=k hB f' g' h7 kB ((w.drop (i:=4) rfl).drop (i:=3) rfl) hj';rw[if_pos (by simp)]at this;rw[q2];exact this
 ·rw[if_neg q2]at e1;obtain⟨hx,kx0,kx1,wx,wr,back⟩:=w.on (i:=1) rfl;refine cf (by simpa using q2) (Bq wx (by omega) λh8 wx=>?_);have w:=back _ _ wx;refine M.vis ((m+1:Nat):Int) (by rw[IntKind.wrap_i64];omega) (hJ2 _ _ ⟨m+1,by omega,rfl,by rw[e1],hB,_,_,kB,by rw[e1];exact w.drop (i:=4) rfl,?_⟩ (by omega));rw[e1];exact hj'.del
end
section
variable {h0 h:H}{wk p b a c:Nat}{S:gD}{f g:Int->Option Value}{T:uY}{P:pH}{key:ByteArray}{L:List Chunk}{x:Int}{B:ak}{W:wF}{v:Nw}{X:Chunk}
theorem Iw{cells:List ByteArray}{y:Nat}(hy:y<cells.length):(nQ cells).drop y=(2+(y:Int),sa cells y)::(nQ cells).drop (y+1):=by
 have hl:(nQ cells).length=cells.length:=by simp[nQ]
 rw[List.drop_eq_getElem_cons (by omega),kM hy];congr 1;simp[nQ]
theorem Fm{d:Int}{xa:Option Addr}{xc:Nat}{cells:List ByteArray}{C:Array Value}{e:TypeId}{fz:Nat×Nat}{xl:Nat}{Q:Int->H->Prop}(w:Wd h0 h [dO b B])(hp:h0 p=some (.cells C e fz))(hC:AT C b a key)(r:Ro eS h0 xa xl cells)(hl:cells.length≤96)(bk:Bk B c 97)
  (k:∀h',Wd h0 h' [dO b (dX B d (nQ cells)).2]->Q (dX B d (nQ cells)).1 h'):bZ (some ⟨p,0,none⟩) d xa xl xc h Q:=by
 unfold bZ;obtain⟨c0,c1,c2⟩:=hC;have hx:=r.len;subst hx;have hll:(nQ cells).length=cells.length:=by simp[nQ]
 generalize hG:dX B d (nQ cells)=G at *;refine M.aO (λ_ h'=>∃B',G=B'.flush d∧Wd h0 h' [dO b B']∧Bk B' c 1) (λJ hJ=>?_) ?_
 ·refine M.aP (I:=λ(q:Int) h'=>∃(y:Nat) (B':ak),y≤cells.length∧q=(y:Int)∧G=dX B' d ((nQ cells).drop y)∧Wd h0 h' [dO b B']∧Bk B' c (97-y)) (μ:=λq=>(cells.length-q).toNat) ⟨0,B,by omega,rfl,by rw[List.drop_zero];exact hG.symm,w,bk⟩ ?_;clear w;rintro q h2 J2 ⟨y,B',hy,rfl,hg,w,bk'⟩ hJ2;by_cases gy:y<cells.length;rotate_left
  ·obtain rfl:y=cells.length:=by omega
   rw[List.drop_of_length_le (by omega)]at hg;exact gI (by omega) (hJ () _ ⟨B',hg,w,bk'.mono (by omega)⟩)
  have hb:=w.keep _ _ hp;rw[Iw gy,dX]at hg;refine eN (by omega) ((r.keep w.keep).vu (by omega) (by omega) (iw (M.nF hb c0 (M.vis (2+(y:Int)) (qJ (by omega) (by omega)) ?_))));rw[Int.toNat_natCast];have bk2:Bk (B'.write d (2+(y:Int)) (sa cells y)).2 c (97-(y+1)):=(bk'.mono (show 97-(y+1)+1≤97-y by omega)).write d _ _;refine GY w (by have:=bk'.rm.steps;omega) bk'.rm.left (bk'.rm.hU d) λh3 w=>?_;by_cases e:(B'.write d (2+(y:Int)) (sa cells y)).1=0
  ·rw[if_neg (by simp[e])]at hg;exact cf (by simp[e]) (M.vis ((y+1:Nat):Int) (by rw[IntKind.wrap_i64];omega) (hJ2 _ _ ⟨y+1,_,by omega,rfl,hg,w,bk2⟩ (by omega)))
  ·rw[if_pos e]at hg;rw[hg]at k;exact ct (by simpa using e) (k _ w)
 clear w;rintro _ h2 ⟨B',hg,w,bk'⟩;rw[hg]at k;refine iw (M.nF (w.keep _ _ hp) c0 ?_);exact HT w (by have:=bk'.rm.steps;omega) bk'.rm.left k
theorem KB{Q:Int->H->Prop}(w:Wd h0 h [dO b B,lN wk v W.S f g,X])(hp:∀F h,X.holds F h->∃C e fz,h p=some (.cells C e fz)∧AT C b a key)
  (ft:W.S.Fit) (bk:Bk B c (97*W.S.aj.length+1)) (tb:Tabs h0) (hj:mj h0 W.J f g)
  (k:∀f' h',Wd h0 h' [dO b (kD W B W.S.aj.length).2.2,lN wk v (kD W B W.S.aj.length).2.1.S f' g,X]->mj h0 (kD W B W.S.aj.length).2.1.J f' g ->
   Q (if(kD W B W.S.aj.length).1≠0 then(kD W B W.S.aj.length).1 else if mu (kD W B W.S.aj.length).2.1.S then 0 else 24) h'):
  cF (some ⟨p,0,none⟩) (some ⟨wk,0,none⟩) h Q:=by
 unfold cF cF.g;have hN:∀m,(kD W B m).2.1.S.Fit∧Alike W.S (kD W B m).2.1.S:=xT ft;have hS:∀m,kD W B (m+1)=if(kD W B m).1≠0 then kD W B m else tZ (kD W B m).2.1 (kD W B m).2.2 m:=λm=>rfl
 have hB:∀m,m≤W.S.aj.length->Bk (kD W B m).2.2 c (97*(W.S.aj.length-m)+1):=λm hm=>Bk.Oq m (bk.mono (by omega));have hR0:kD W B 0=(0,W,B):=rfl;have hml:=ft.len.2;generalize kD W B=R at *;generalize hNN:W.S.aj.length=N at *;have hfail:∀m j,(R m).1≠0->R (m+j)=R m:=λm j h=>by
  induction j with
  | zero=>rfl
  | succ j ih=>rw[←Nat.add_assoc,hS,ih,if_pos h]
 obtain⟨va,vb,vc,vd,ve,vf⟩:=v;refine M.aO (λ_ h'=>(R N).1=0∧∃f',Wd h0 h' [dO b (R N).2.2,lN wk (va,vb,vc,vd,ve,vf) (R N).2.1.S f' g,X]∧mj h0 (R N).2.1.J f' g) (λJ hJ=>iw ?_) ?_;rotate_left
 ·rintro _ h2 ⟨hr,f',w,hj'⟩;obtain⟨_,_,_,wx,_,_⟩:=w.on (i:=1) rfl;refine y5 wx (hN N).1 ?_;have:=k f' h2 w hj';rw[if_neg (by simp[hr])]at this;by_cases e:mu (R N).2.1.S
  ·rw[if_pos e]at this;exact cf (by simp[e]) this
  ·rw[if_neg e]at this;exact ct (by simp[e]) this
 obtain⟨_,_,_,wx,_,_⟩:=w.on (i:=1) rfl;refine M.lW ((ni wx).blk 0 rfl) rfl ?_;clear wx;rw[hNN];refine M.aP (I:=λ(q:Int) h'=>∃m:Nat,m≤N∧q=(m:Int)∧(R m).1=0∧∃f',Wd h0 h' [dO b (R m).2.2,lN wk (va,vb,vc,vd,ve,vf) (R m).2.1.S f' g,X]∧mj h0 (R m).2.1.J f' g)
  (μ:=λq=>(N-q).toNat) ⟨0,by omega,rfl,by rw[hR0],f,by rw[hR0];exact w,by rw[hR0];exact hj⟩ ?_
 clear w;rintro q h2 J2 ⟨m,hm,rfl,hr,f',w,hj'⟩ hJ2;by_cases gm:m<N;rotate_left
 ·obtain rfl:m=N:=by omega
  exact gI (by omega) (hJ () _ ⟨hr,f',w,hj'⟩)
 have e1:=hS m;rw[if_neg (by simp[hr])]at e1;obtain⟨ftm,alm⟩:=hN m;have hbm:=hB m hm;have hlm:(R m).2.1.S.aj.length=N:=by rw[alm.len,hNN]
 have hmz:=mJ (xs:=(R m).2.1.S.aj) (i:=m) (by omega);refine eN (by omega) (iw ?_);have wk8:∀{h3:H} {S2:gD} {f2:Int->Option Value} {B2:ak} {K:Option Addr->Nat->Nat->Prop} {Y:List Chunk},Wd h0 h3 (dO b B2::lN wk (va,vb,vc,vd,ve,vf) S2 f2 g::Y)->K vc S2.aj.length vd->M.load h3 (Addr.add (Addr.add ⟨wk,0,none⟩ 0) 8) λv=>M.slc v K:=λ{h3 S2 f2 B2 K Y} w3 kk=>by
  obtain⟨hx,_,_,wx,_,_⟩:=w3.on (i:=1) rfl;exact M.lW ((ni wx).blk 0 rfl) rfl kk
 have wkb:∀{h3:H} {S2:gD} {f2:Int->Option Value} {B2:ak} {Y:List Chunk},Wd h0 h3 (dO b B2::lN wk (va,vb,vc,vd,ve,vf) S2 f2 g::Y)->∃ob,h3 wk=some ob:=λ{h3 S2 f2 B2 Y} w3=>by
  obtain⟨hx,_,_,wx,_,_⟩:=w3.on (i:=1) rfl;exact⟨_,(ni wx).blk 0 rfl⟩
 refine wk8 w (vN (tb.keep w.keep) λh3 k3=>M.cY k3 (wkb w) ?_);have w:=w.keeps k3;rw[hlm];obtain⟨hx,kx0,kx1,wx,wr,back⟩:=w.on (i:=1) rfl;have wx:=ni wx;have hS1:(lE (R m).2.1.S m gF).aj.length=N:=by rw[sH,hlm]
 refine sQ kf wx 2 (by show some (Chunk.sl 51 3 vc (R m).2.1.S.aj.length vd (kf.row (R m).2.1.S.aj))=some (Chunk.sl 51 3 vc N vd (kf.row (R m).2.1.S.aj));rw[hlm]) (z:=m) (o:=2) rfl (by omega) (by decide) rfl { mb (R m).2.1.S.aj m with log:=gF } (by rw[hmz];rfl) λh4 wx=>?_
 have wx:Wd hx h4 (rH wk (va,vb,vc,vd,ve,vf) (lE (R m).2.1.S m gF) f' g):=by
  rw[rH,LN,hS1];have:(LN (R m).2.1.S va vb vc vd ve vf) = #[.int .u64 (R m).2.1.S.count,.int .u64 (R m).2.1.S.dS,.int .i64 (R m).2.1.S.data,.int .i64 (R m).2.1.S.slots,.int .i64 (R m).2.1.S.mark,.int .i64 (R m).2.1.S.built,.bool (R m).2.1.S.aJ,.slice va (R m).2.1.S.av.length vb,.slice vc N vd,.map (some ve),.map (some vf)]:=by rw[LN,hlm]
  rw[rH,this]at wx;exact wx
 have w:=back _ _ (tE wx);have w:Wd h0 h4 [dO b (R m).2.2,lN wk (va,vb,vc,vd,ve,vf) (lE (R m).2.1.S m gF) f' g,X]:=w;clear wx wr back;unfold tZ at e1;have hjm:=hj' m;have v1:wrap .i64 ((m:Int)+1)=((m+1:Nat):Int):=by rw[IntKind.wrap_i64];omega
 obtain⟨hx,kx0,kx1,wx,wr,back⟩:=w.on (i:=1) rfl;have wx:=ni wx;refine iw (M.Qq (wx.blk 0 rfl) rfl (P0 Oc z143 wx 3 rfl ?_));clear wx wr back;cases hjj:(R m).2.1.J m with
 | none=>
  rw[hjj]at e1 hjm;simp only at e1 hjm;rw[hjm];refine⟨_,_,_,rfl,ct rfl (M.vis _ v1 (hJ2 _ _ ⟨m+1,by omega,rfl,by rw[e1],f',by rw[e1];exact w,by rw[e1];exact hj'⟩ (by omega)))⟩
 | some jq=>
 obtain⟨ws,top⟩:=jq;rw[hjj]at e1 hjm;simp only at e1 hjm;obtain⟨⟨ja,jc,hjf,rj⟩,hjg⟩:=hjm;rw[hjf];refine⟨_,_,_,rfl,cf rfl (Cp (rj.keep w.keep) (tb.keep w.keep) λa5 c5 h5 w5=>?_)⟩;have w:=w.join w5;have hcl:=Fj ws;refine M.aO (λz h'=>z=(oZ (R m).2.2 m ws).1∧Wd h0 h' [dO b (oZ (R m).2.2 m ws).2,lN wk (va,vb,vc,vd,ve,vf) (lE (R m).2.1.S m gF) f' g,X]) (λJ3 hJ3=>?_) ?_
 ·unfold oZ at hJ3;by_cases e2:(oq ws).2.2=0
  ·rw[if_pos e2]at hJ3;refine ct (by simp[e2]) ?_;obtain⟨FX,hFX,_⟩:=w.get (i:=2) rfl;obtain⟨hx,kx0,kx1,wx,wr,back⟩:=w.on (i:=0) rfl;obtain⟨FX,hFX,_⟩:=wr.get (i:=1) rfl;obtain⟨C,eC',fz,wp,hC⟩:=hp _ _ hFX;refine Fm wx wp hC (by have:=wr.ro (E:=eS) (xs:=(oq ws).1) 2 rfl (by decide);exact this) hcl (hbm.mono (by omega)) λh6 w6=>hJ3 _ _ ⟨rfl,?_⟩;exact(back _ _ w6).drop (i:=3) rfl
  ·rw[if_neg e2]at hJ3;exact cf (by simpa using e2) (hJ3 _ _ ⟨rfl,w.drop (i:=3) rfl⟩)
 clear w w5;rintro _ h6 ⟨rfl,w⟩;generalize oZ (R m).2.2 m ws=q at *;by_cases e2:q.1=0
 ·rw[if_pos e2]at e1;refine ct (by simp[e2]) (iw (wk8 w (iw (wk8 w (iw ?_)))));obtain⟨hx,kx0,kx1,wx,wr,back⟩:=w.on (i:=1) rfl;have wx:=ni wx;refine M.Qq (wx.blk 0 rfl) rfl (Q5 QO GI wx 4 rfl ?_);rw[hjg];refine⟨_,rfl,M.cY (bq.refl _) (wkb w) (M.cY (bq.refl _) (wkb w) ?_)⟩;rw[hS1];have ln:(lE (R m).2.1.S m gF).aj.length=N:=hS1;have hg1:(lE (R m).2.1.S m gF).aj[m]'(by omega) = { mb (R m).2.1.S.aj m with log:=gF }:=by simp[lE]
  refine sQ kf wx 2 (by show some (Chunk.sl 51 3 vc (lE (R m).2.1.S m gF).aj.length vd (kf.row (lE (R m).2.1.S m gF).aj))=some (Chunk.sl 51 3 vc N vd (kf.row (lE (R m).2.1.S m gF).aj));rw[hS1]) (z:=m) (o:=1) rfl (by omega) (by decide) rfl { mb (R m).2.1.S.aj m with top:=top,log:=gF } (by rw[hg1];rfl) λh7 wx=>?_
  refine sQ kf wx 2 rfl (z:=m) (o:=2) rfl (by rw[List.length_set];omega) (by decide) rfl { mb (R m).2.1.S.aj m with top:=top,log:=(oq ws).2.1 } (by rw[List.getElem_set_self];rfl) λh8 wx=>?_
  have hset:((lE (R m).2.1.S m gF).aj.set m { mb (R m).2.1.S.aj m with top:=top,log:=gF }).set m { mb (R m).2.1.S.aj m with top:=top,log:=(oq ws).2.1 } = (wD (R m).2.1.S m top (oq ws).2.1).aj:=by simp[lE,wD]
  have hlj:(wD (R m).2.1.S m top (oq ws).2.1).aj.length=N:=by rw[A0,hlm]
  have wx:Wd hx h8 (rH wk (va,vb,vc,vd,ve,vf) (wD (R m).2.1.S m top (oq ws).2.1) f' g):=by
   rw[rH,LN,hlj];have:(LN (lE (R m).2.1.S m gF) va vb vc vd ve vf) = #[.int .u64 (R m).2.1.S.count,.int .u64 (R m).2.1.S.dS,.int .i64 (R m).2.1.S.data,.int .i64 (R m).2.1.S.slots,.int .i64 (R m).2.1.S.mark,.int .i64 (R m).2.1.S.built,.bool (R m).2.1.S.aJ,.slice va (R m).2.1.S.av.length vb,.slice vc N vd,.map (some ve),.map (some vf)]:=by rw[LN,hS1];rfl
   rw[rH,this,hset]at wx;exact wx
  have w:=back _ _ (tE wx);exact M.vis _ v1 (hJ2 _ _ ⟨m+1,by omega,rfl,by rw[e1],f',by rw[e1];exact w,by rw[e1];exact hj'⟩ (by omega))
 rw[if_neg e2]at e1;refine cf (by simpa using e2) ?_;by_cases e3:q.1=21
 ·rw[if_pos e3]at e1;refine ct (by simp[e3]) ?_;have hlN:R N=R (m+1):=by
   have:=hfail (m+1) (N-(m+1)) (by rw[e1];simp)
   rwa [show m+1+(N-(m+1))=N by omega]at this
  rw[hlN,e1]at k;have:=k f' h6 w hj';rw[if_pos (by simp)]at this;rw[e3];exact this
 ·rw[if_neg e3]at e1;obtain⟨hx,kx0,kx1,wx,wr,back⟩:=w.on (i:=1) rfl;refine cf (by simpa using e3) (Bq wx (by omega) λh8 wx=>?_);have w:=back _ _ wx;exact M.vis _ v1 (hJ2 _ _ ⟨m+1,by omega,rfl,by rw[e1],_,by rw[e1];exact w,by rw[e1];exact hj'.del⟩ (by omega))
theorem Nb{es:Array MapEntry}{cc bb:Nat}{ty et:TypeId}{z:Int}{z0:Value}{K:Value->Bool->H->Prop}(hu:Tryz.prog.underlying ty=some (.map 3 et))(hz:∀w,(zeroValue et).run Tryz.prog w = .ok z0 w)(hb:h bb=some (.map es cc))(hs:BU es.toList f)(kk:K ((f z).getD z0) (f z).isSome h):M.Nz Tryz.prog ty (.map (some bb)) (.int .i64 z) h K:=by
 refine Hs (f:=λk=>(ic k es.toList 0).map (·.2)) hu rq hz ⟨es,cc,hb,hs.1,rfl,λk i=>nW⟩ ⟨z,rfl⟩ ?_;simp only[hs.2.2];exact kk
theorem Hz{C D:Array Value}{eC' eD:TypeId}{fz fy:Nat×Nat}{es:Array MapEntry}{cc bb N:Nat}{ma:Option Addr}{mc:Nat}{n:Int}{J:tN}{Q:Int->H->Prop}(w:Wd h0 h [dO b B])(hp:h0 p=some (.cells C eC' fz))(hC:AT C b a key)(hwk:h0 wk=some (.cells D eD fy))
  (d3:D[3]? = some (.int .i64 n)) (d8:D[8]? = some (.slice ma N mc)) (d9:D[9]? = some (.map (some bb))) (hm:h0 bb=some (.map es cc)) (hs:BU es.toList f) (hj:mj h0 J f g) (hN:N≤12) (hJ:∀i,i<N->∀ws top,J i=some (ws,top)->ws.length≤95) (bk:Bk B c (96*N+1)) (tb:Tabs h0)
  (k:∀h',Wd h0 h' [dO b (nw key n J B N).2]->Q (nw key n J B N).1 h'):cn (some ⟨p,0,none⟩) (some ⟨wk,0,none⟩) h Q:=by
 unfold cn;obtain⟨c0,c1,c2⟩:=hC;have hS:∀m,nw key n J B (m+1)=if(nw key n J B m).1≠0 then nw key n J B m else match J m with
  | none=>nw key n J B m
  | some (ws,_)=>(if(jN (nw key n J B m).2 key m n ws).1=21 then 21 else 0,(jN (nw key n J B m).2 key m n ws).2):=λm=>rfl
 have hB:∀m,m≤N->Bk (nw key n J B m).2 c (96*(N-m)+1):=λm hm=>Bk.app (m:=m) (λi hi=>hJ i (by omega)) (bk.mono (by omega));have hR0:nw key n J B 0=(0,B):=rfl;generalize nw key n J B=R at *;have hfail:∀m j,(R m).1≠0->R (m+j)=R m:=λm j h=>by
  induction j with
  | zero=>rfl
  | succ j ih=>rw[←Nat.add_assoc,hS,ih,if_pos h]
 refine iw (M.lW (w.keep _ _ hwk) d8 ?_);refine M.aP (I:=λ(q:Int) h'=>∃m:Nat,m≤N∧q=(m:Int)∧(R m).1=0∧Wd h0 h' [dO b (R m).2]) (μ:=λq=>(N-q).toNat) ⟨0,by omega,rfl,by rw[hR0],by rw[hR0];exact w⟩ ?_;clear w;rintro q h2 J2 ⟨m,hm',rfl,hr,w⟩ hJ2;by_cases gm:m<N;rotate_left
 ·obtain rfl:m=N:=by omega
  rw[hr]at k;exact gI (by omega) (k _ w)
 have e1:=hS m;rw[if_neg (by simp[hr])]at e1;have hbm:=hB m hm';have hjm:=hj m;have v1:wrap .i64 ((m:Int)+1)=((m+1:Nat):Int):=by rw[IntKind.wrap_i64];omega
 refine eN (by omega) (iw (M.Qq (w.keep _ _ hwk) d9 (Nb Oc z143 (w.keep _ _ hm) hs ?_)));cases hjj:J m with
 | none=>
  rw[hjj]at e1 hjm;simp only at e1 hjm;rw[hjm];exact⟨_,_,_,rfl,cf rfl (M.vis _ v1 (hJ2 _ _ ⟨m+1,by omega,rfl,by rw[e1];exact hr,by rw[e1];exact w⟩ (by omega)))⟩
 | some jq=>
 obtain⟨ws,top⟩:=jq;rw[hjj]at e1 hjm;simp only at e1 hjm;obtain⟨⟨ja,jc,hjf,rj⟩,_⟩:=hjm;have hwl:=hJ m gm ws top hjj;rw[hjf];refine⟨_,_,_,rfl,ct rfl (iw (nS (w.keep _ _ hp) c0 c1 c2 (iw (M.gv (w.keep _ _ hwk) d3 (mG λh3 k3=>?_)))))⟩;have w:=w.keeps k3;refine vR w rj ((hbm.mono (m:=ws.length+1) (by omega)).rm) tb λh4 w=>?_;generalize jN (R m).2 key m n ws=q at *;by_cases e:q.1=21
 ·rw[if_pos e]at e1;have hlN:R N=R (m+1):=by
   have:=hfail (m+1) (N-(m+1)) (by rw[e1];simp)
   rwa [show m+1+(N-(m+1))=N by omega]at this
  rw[hlN,e1]at k;refine ct (by simp[e]) ?_;rw[e];exact k _ w
 ·rw[if_neg e]at e1;exact cf (by simpa using e) (M.vis _ v1 (hJ2 _ _ ⟨m+1,by omega,rfl,by rw[e1],by rw[e1];exact w⟩ (by omega)))
end
end Go.Proofs.YtmfcgihgdhfalaaGreatDoor

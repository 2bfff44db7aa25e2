/- A commit (the program's). A volume whose disks all work: how it is written, published, found, opened. A new volume: it is made, and opened. A log that is read again; a chunk that is put into a small slab. One chunk is put into a new volume, and it is opened again. The chunk's commit, and the opening behind it. The volume is opened again. Layer 20's waking: a chunk is put, and had again. A shelf is read. Layer 20's waking, walked. The document's slab: may there be one, what is written for no chunks, writes that are made. The document's layouts, anchors and records: when they are good. The document's record: its bytes. The document's record read of its bytes: the program's reading. The document's logs: cells, digest, size, what is read. -/
import Derived.Test.YtmfcgihgdhfalaaGreatDoorN11
import Derived.Test.YtmfcgihgdhfalaaGreatDoorN10
import Derived.Test.YtmfcgihgdhfalaaGreatDoorN09
open ByteArray(empty)
open Go.IntKind(wrap)
set_option linter.unusedSimpArgs false
set_option linter.unusedVariables false
namespace Go.Proofs.YtmfcgihgdhfalaaGreatDoor
open Go.Sh Go.RowKit Classical
noncomputable def NI(V:qG)(key:ByteArray)(T:uY)(W:wF):Int×qG×uY:=
 ((nw key W.S.slots W.J V.B W.S.aj.length).1,{ V with B:=(nw key W.S.slots W.J V.B W.S.aj.length).2 },{ T with S:=W.S,dead:=decide ((nw key W.S.slots W.J V.B W.S.aj.length).1=21) })
noncomputable def NH(V:qG)(key:ByteArray)(T:uY)(W:wF):Int×qG×uY:=
 if(iY V W.S).1≠0 then((iY V W.S).1,(iY V W.S).2,{ T with dead:=decide ((iY V W.S).1=21) })else NI (iY V W.S).2 key T W
noncomputable def NB(V:qG)(key:ByteArray)(T:uY)(W:wF):Int×qG×uY:=
 let r:=kD W V.B W.S.aj.length
 let e:=if r.1≠0 then r.1 else if mu r.2.1.S then 0 else 24
 if e≠0 then(e,{ V with B:=r.2.2 },{ T with dead:=decide (e=21) })else NH { V with B:=r.2.2 } key T r.2.1
noncomputable def NV(V:qG)(key:ByteArray)(T:uY)(P:pH)(W:wF):Int×qG×uY:=
 let r:=kO V.B key P W W.S.aj.length
 let e:=if r.1≠0 then r.1 else if mu r.2.S then 0 else 24
 if e≠0 then(e,V,{ T with dead:=decide (e=21) })else NB V key T r.2
noncomputable def qO(V:qG)(key:ByteArray)(T:uY)(P:pH):Int×qG×uY:=
 if T.dead=true then(21,V,T)else if ¬wJ T.S P then(4,V,T)else NV V key T P ⟨vw T.S P.S,λ_=>none⟩
theorem Db{S:gD}{P:pH}(h:wJ S P):(vw S P.S).Fit:=let f:=h.2.2.1.fit;⟨f.d,f.sl,f.ns,f.rg,f.ml⟩
theorem Ki{S:gD}{P:pH}(h:wJ S P):(vw S P.S).aj.length=S.aj.length:=Cx h.1
section
variable {h0 h:H}{wk p b a c:Nat}{S:gD}{f g:Int->Option Value}{T:uY}{P:pH}{key:ByteArray}{L:List Chunk}{x:Int}{B:ak}{W:wF}{v:Nw}{V:qG}
theorem Jv{env:Env}{u:Value}{F:H->(Int->H->Prop)->Prop}{K:Int->H->Prop}(hv:∀Q h,F h (λn h'=>Q (.int .i64 n) h')->sg env u [] Q h)(hk:F h K):sg env u [] (λr h'=>M.L9 .i64 r λn=>K n h') h:=hv _ _ hk
theorem M4{b2:Nat}{e:Int}{Y:List Chunk}{Q:Int->H->Prop}(he:e≠0)(hd:T.dead=false)(w:Wd h0 h (jB p b a key T :: .blk b2 (.cells #[.pointer (some ⟨p,0,none⟩)] 26)::Y)){R:Prop}(k:∀h',Wd h0 h' (jB p b a key { T with dead:=decide (e=21) } :: .blk b2 (.cells #[.pointer (some ⟨p,0,none⟩)] 26)::Y)->Q e h'):
  bif(e != 0)then M.join (α:=Unit) (λd68 h69=>Q e h69) λJ56=>M.load h ⟨b2,0,none⟩ λv=>M.ptr v λp58=>M.load h ⟨b2,0,none⟩ λv=>M.ptr v λp60=>M.nn p60 λa61=>M.load h (Addr.add a61 13) λv=>M.bool v λb63=>
   (bif b63 then M.nn p58 λa64=>M.put h (Addr.add a64 13) (.bool true) λh65=>J56 () h65 else M.nn p58 λa66=>M.put h (Addr.add a66 13) (.bool (e == 21)) λh67=>J56 () h67)else R:=by
 have hb2:=w.blk 1 rfl;obtain⟨hx,k0,k1,wx,wr,back⟩:=w.on (i:=0) rfl;obtain⟨ok,sa,sc,ma,mc,src,wx⟩:=nj wx;refine ct (by simpa using he) (M.jn (M.nF hb2 rfl (M.nF hb2 rfl (iw (M.Bi (wx.blk 0 rfl) rfl ?_)))));rw[hd];refine cf rfl (iw (M.bg wx 0 rfl rfl (show(13:Nat)<14 by decide) λh1 wx=>k _ ?_));have e1:(e == 21)=decide (e=21):=by
  by_cases g:e=21
  ·simp[g]
  ·simp[g]
 rw[e1]at wx;exact back _ _ (Ay (T:={ T with dead:=decide (e=21) }) ⟨ok.g,ok.ji,ok.ep,ok.nx⟩ wx)
theorem Ip(T:uY)(S':gD)(ta:Option Addr)(tb':Nat)(tc:Option Addr)(td te:Nat)(va:Option Addr)(vb:Nat)(vc:Option Addr)(vd:Nat):splice (yG b a key T ta tb' tc td te) 3 [.int .u64 S'.count,.int .u64 S'.dS,.int .i64 S'.data,.int .i64 S'.slots,.int .i64 S'.mark,.int .i64 S'.built,.bool S'.aJ,.slice va S'.av.length vb,.slice vc S'.aj.length vd]=yG b a key { T with S:=S' } va vb vc vd te:=by
 simp only[yG,bl,bs]
theorem N6{X:Chunk}{Y:List Chunk}{A:Chunk}(hX:X = .sep (A::jB p b a key T::Y)):∀F h,X.holds F h->∃C e fz,h p=some (.cells C e fz)∧AT C b a key:=λF h hh=>by
 have w:Wd (λ_=>none) h [X]:=Wd.one (λ_ _ x=>by simp at x) hh λ_ _=>rfl;subst hX;have w:=w.IM (i:=0) rfl;obtain⟨_,_,_,wx,_,_⟩:=w.on (i:=1) rfl;obtain⟨ok,sa,sc,ma,mc,src,wx⟩:=nj wx;exact⟨_,_,_,wx.blk 0 rfl,rfl,rfl,rfl⟩
theorem Fg{sa ma ba ca:Option Addr}{sl sc ml mc bl bc cl cc:Nat}{Q:Int->H->Prop}(w:Wd h0 h (uZ b a V++[jB p b a key T]))(r1:Ro eI h0 sa sl P.S.av)(r2:Ro kf h0 ma ml P.S.aj)(r3:Ro eI h0 ba bl P.blank)(r4:Ro eC h0 ca cl P.vv)
  (hl:sl≤1000000∧ml≤1000000∧bl≤1000000∧cl≤1000000) (hn:T.S.aj.length=V.B.ds.length) (hk:key.size=32) (vo:rW V c 2600) (tb:Tabs h0)
  (k:∀h',Wd h0 h' (uZ b a (qO V key T P).2.1++[jB p b a key (qO V key T P).2.2])->Q (qO V key T P).1 h'):
  aN (some ⟨p,0,none⟩) P.S.count P.S.dS P.S.data P.S.slots P.S.mark P.S.built P.S.aJ sa sl sc ma ml mc ba bl bc ca cl cc h Q:=by
 unfold aN aN.g;unfold qO at k;refine M.aK w λb2 h1 w=>M.aK w λb4 h2 w=>M.nF (w.blk 3 rfl) rfl ?_;obtain⟨hx,_,kx,wx,_,_⟩:=w.on (i:=2) rfl;have okT:=(nj wx).1;refine AZ wx ?_;cases hd:T.dead with
 | true=>
  rw[if_pos (by simp[hd])]at k;exact ct rfl (k _ ((w.drop (i:=4) rfl).drop (i:=3) rfl))
 | false=>
 rw[if_neg (by simp[hd])]at k;refine cf rfl (M.nF (w.blk 3 rfl) rfl (kq (s:=P.S) (sa:=sa) (sl:=sl) (sc:=sc) (ma:=ma) (ml:=ml) (mc:=mc) (pZ (w.blk 4 rfl) rfl) (M.lW (w.blk 4 rfl) rfl (M.lW (w.blk 4 rfl) rfl ?_))));have kw:=w.keep;refine Kt wx (r1.keep kw) (r2.keep kw) (r3.keep kw) (r4.keep kw) hl (λhno h3 k3=>?_) λhok wk v h3 w3=>?_
 ·rw[if_pos hno]at k;have w:=w.keeps k3;refine M.aK w λb5 h4 w=>M.bg w 5 rfl rfl (by simp) λh5 w=>ct rfl (k _ (((w.drop (i:=5) rfl).drop (i:=4) rfl).drop (i:=3) rfl))
 rw[if_neg (by simp[hok])]at k;clear wx kx;have w:=w.join w3;clear w3;have hfit:=Db hok;have hmlen:=Ki hok;have hmbig:(vw T.S P.S).ji:=⟨DZ _,okT.ji.2⟩;have hmep:(vw T.S P.S).dS=T.S.dS:=rfl;generalize hW0:vw T.S P.S=S0 at *;refine M.aK w λb5 h4 w=>M.bg w 6 rfl rfl (by simp) λh5 w=>cf rfl ?_;have w:=(((w.mv (i:=1) rfl).mv (i:=1) rfl).mv (i:=1) rfl).mv (i:=1) rfl;have w:=w.mv (i:=2) rfl;simp only[bs,List.eraseIdx_cons_zero,List.eraseIdx_cons_succ]at w;obtain⟨o4,ho4⟩:∃o,o=Obj.cells #[.int .u64 P.S.count,.int .u64 P.S.dS,.int .i64 P.S.data,.int .i64 P.S.slots,.int .i64 P.S.mark,.int .i64 P.S.built,.bool P.S.aJ,.slice sa sl sc,.slice ma ml mc,.slice ba bl bc,.slice ca cl cc] 55:=⟨_,rfl⟩;obtain⟨oS,hoS⟩:∃o,o=Obj.cells #[.pointer (some ⟨p,0,none⟩)] 26:=⟨_,rfl⟩;obtain⟨oW,hoW⟩:∃o,o=Obj.cells #[.pointer (some ⟨wk,0,none⟩)] 138:=⟨_,rfl⟩;rw[←ho4,←hoS,←hoW]at w;have vu:∀{h':H} {K:Option Addr->Prop},h' b2=some oS->K (some ⟨p,0,none⟩)->M.load h' ⟨b2,0,none⟩ λv=>M.ptr v K:=λ{h' K} e kk=>by rw[hoS]at e;exact M.nF e rfl kk
 have PC:∀{h':H} {K:Option Addr->Prop},h' b5=some oW->K (some ⟨wk,0,none⟩)->M.load h' ⟨b5,0,none⟩ λv=>M.ptr v K:=λ{h' K} e kk=>by rw[hoW]at e;exact M.nF e rfl kk
 have fin:∀{e:Int} {V':qG} {T':uY} {h' hB:H} {R:Prop},e≠0->T'.dead=false->bq h0 hB->Wd hB h' [dO b V'.B,.blk a (mV V'.cnt V'.gC),jB p b a key T',.blk b2 oS]->(∀h'',Wd h0 h'' (uZ b a V'++[jB p b a key { T' with dead:=decide (e=21) }])->Q e h'') ->
   bif(e != 0)then M.join (α:=Unit) (λd68 h69=>Q e h69) λJ56=>M.load h' ⟨b2,0,none⟩ λv=>M.ptr v λp58=>M.load h' ⟨b2,0,none⟩ λv=>M.ptr v λp60=>M.nn p60 λa61=>M.load h' (Addr.add a61 13) λv=>M.bool v λb63=>
    (bif b63 then M.nn p58 λa64=>M.put h' (Addr.add a64 13) (.bool true) λh65=>J56 () h65 else M.nn p58 λa66=>M.put h' (Addr.add a66 13) (.bool (e == 21)) λh67=>J56 () h67)else R:=λ{e V' T' h' hB R} he hd' kB w kk=>by
  have w:=(w.mv (i:=0) rfl).mv (i:=0) rfl;simp only[bs,List.eraseIdx_cons_zero,List.eraseIdx_cons_succ]at w;rw[hoS]at w;refine M4 (Y:=[dO b V'.B,.blk a (mV V'.cnt V'.gC)]) he hd' w λh'' w=>kk h'' ?_;have w:=((w.drop (i:=1) rfl).mv (i:=0) rfl).base kB;simp only[bs,List.eraseIdx_cons_zero,List.eraseIdx_cons_succ]at w;exact w
 have hX:=N6 (p:=p) (b:=b) (a:=a) (key:=key) (T:=T) (X:=.sep [.blk a (mV V.cnt V.gC),jB p b a key T,.blk b2 oS,.blk b4 o4,.blk b5 oW]) rfl;have hopen:∀{hB h':H} {A B':Chunk},Wd hB h' [A,B',.sep [.blk a (mV V.cnt V.gC),jB p b a key T,.blk b2 oS,.blk b4 o4,.blk b5 oW]]->Wd hB h' [A,B',.blk a (mV V.cnt V.gC),jB p b a key T,.blk b2 oS,.blk b4 o4,.blk b5 oW]:=λw=>w.IM (i:=2) rfl;have wf:=w.fold 2 (Chunk.Le.refl _);have wf:Wd h0 h5 [dO b V.B,lN wk v S0 (λ_=>none) λ_=>none,.sep [.blk a (mV V.cnt V.gC),jB p b a key T,.blk b2 oS,.blk b4 o4,.blk b5 oW]]:=wf;unfold NV at k;dsimp only at k;rw[hmlen]at k;refine M.times 5 (M.bM (eN (by decide) ⟨by decide,by decide,_,rfl,?_⟩));refine Jv (F:=λh K=>bI ⟨b2,0,none⟩ ⟨b5,0,none⟩ ⟨b4,0,none⟩ h K) (λQ h hh=>hh) ?_;unfold bI;have hb4:=w.blk 5 rfl;rw[ho4]at hb4;refine vu (w.blk 4 rfl) (PC (w.blk 6 rfl) (kq (s:=P.S) (sa:=sa) (sl:=sl) (sc:=sc) (ma:=ma) (ml:=ml) (mc:=mc) (pZ hb4 rfl) (M.lW hb4 rfl (M.lW hb4 rfl ?_))));refine Em (P:=P) (W:=⟨S0,λ_=>none⟩) (a:=a) wf hX r3 r4 ⟨hl.2.2.1,hl.2.2.2⟩ hfit (by rw[hmlen];exact hn) hk (vo.bk.mono (by omega)) tb (λm=>rfl) λhB f1 j1 h6 kB w1 hj1=>?_;clear w wf hb4;simp only at w1 hj1 ⊢;rw[hmlen]at w1 hj1 ⊢;have hP:=uI (B:=V.B) (key:=key) (P:=P) (W:=⟨S0,λ_=>none⟩) hfit T.S.aj.length;generalize kO V.B key P ⟨S0,λ_=>none⟩ T.S.aj.length=R1 at *;obtain⟨ft1,al1⟩:=hP;simp only at al1;have w1':=hopen w1;generalize he1:(if R1.1≠0 then R1.1 else if mu R1.2.S then 0 else 24)=e1 at *
 by_cases g1:e1=0
 rotate_left
 ·rw[if_pos g1]at k;refine fin g1 hd kB ?_ k;exact((w1'.drop (i:=6) rfl).drop (i:=5) rfl).drop (i:=1) rfl
 rw[if_neg (by simp[g1])]at k;refine cf (by simp[g1]) (M.vis 1 (by decide) (M.bM (eN (by decide) ⟨by decide,by decide,_,rfl,?_⟩)));refine Jv (F:=λh K=>bJ ⟨b2,0,none⟩ ⟨b5,0,none⟩ h K) (λQ h hh=>hh) ?_;unfold bJ;have hn1:R1.2.S.aj.length=T.S.aj.length:=by rw[al1.len,hmlen]
 have hm12:=ft1.len.2;unfold NB at k;dsimp only at k;rw[hn1]at k;refine vu (w1'.blk 4 rfl) (PC (w1'.blk 6 rfl) (KB (W:=R1.2) (a:=a) (key:=key) w1 hX ft1 (vo.bk.mono (by omega)) (tb.keep kB) hj1 λf2 h7 w2 hj2=>?_));clear w1 w1' hj1;have hbL:Bk (kD R1.2 V.B R1.2.S.aj.length).2.2 c 1300:=Bk.Oq _ (vo.bk.mono (by omega));have hP:=xT (B:=V.B) (W:=R1.2) ft1 R1.2.S.aj.length;have hsh:=wh (B:=V.B) (W:=R1.2) R1.2.S.aj.length;rw[hn1]at w2 hj2 hbL hP hsh ⊢;generalize kD R1.2 V.B T.S.aj.length=R2 at *;obtain⟨ft2,al2⟩:=hP;have w2':=hopen w2;generalize he2:(if R2.1≠0 then R2.1 else if mu R2.2.1.S then 0 else 24)=e2 at *
 by_cases g2:e2=0
 rotate_left
 ·rw[if_pos g2]at k;refine fin (V':={ V with B:=R2.2.2 }) g2 hd kB ?_ k
  exact((w2'.drop (i:=6) rfl).drop (i:=5) rfl).drop (i:=1) rfl
 rw[if_neg (by simp[g2])]at k;have hR2:R2.1=0:=by
  by_cases q:R2.1=0
  ·exact q
  ·rw[if_pos q]at he2;exact absurd (he2.trans g2) q
 have hsh:=hsh hR2;have hn2:R2.2.1.S.aj.length=T.S.aj.length:=by rw[al2.len,hn1]
 have big2:R2.2.1.S.ji:=by
  have h1:=al2.co;have h2:=al2.ep;have h3:=al1.co;have h4:=al1.ep;rw[gD.ji,h1,h2,h3,h4];exact hmbig
 refine cf (by simp[g2]) (M.vis 2 (by decide) (M.bM (eN (by decide) ⟨by decide,by decide,_,rfl,?_⟩)));refine Jv (F:=λh K=>bH ⟨b2,0,none⟩ ⟨b5,0,none⟩ h K) (λQ h hh=>hh) ?_;unfold bH;obtain⟨va,vb,vc,vd,ve,vf⟩:=v;have wq:=w2'.mv (i:=1) rfl;simp only[bs,List.eraseIdx_cons_zero,List.eraseIdx_cons_succ]at wq;obtain⟨hP,kP0,kP1,wP,wrP,backP⟩:=wq.split 2;obtain⟨_,_,kS1,wS,_,_⟩:=wrP.on (i:=0) rfl;obtain⟨_,sa',sc',ma',mc',src',wS⟩:=nj wS;obtain⟨_,_,kW1,wW,_,_⟩:=wrP.on (i:=4) rfl;have wW:=ni wW;have rI:=wW.ro (E:=eI) 1 rfl (by decide);have rM:=wW.ro (E:=kf) 2 rfl (by decide);have hlf:=ft2.len;have vo2:rW { V with B:=R2.2.2 } c 25:=⟨hbL.mono (by omega),vo.c0,vo.c1⟩
 refine vu (w2'.blk 4 rfl) (iw (nS (kP1 _ _ (wS.blk 0 rfl)) rfl rfl rfl (PC (w2'.blk 6 rfl) (iw (kq (s:=R2.2.1.S) (sa:=va) (sl:=R2.2.1.S.av.length) (sc:=vb) (ma:=vc) (ml:=R2.2.1.S.aj.length) (mc:=vd) (pZ (kP1 _ _ (wW.blk 0 rfl)) rfl) ?_)))));refine sE (V:={ V with B:=R2.2.2 }) (s:=R2.2.1.S) wP rI rM (by omega) (by omega) big2 vo2 (tb.keep (kB.trans kP0)) λh8 w8=>?_
 have w:=backP _ _ w8;clear w8 wq wP wrP backP wS wW rI rM w2 w2' kP0 kP1;have hbP:=vo2.xu (k:=0) big2;have hbP:rW (iY { V with B:=R2.2.2 } R2.2.1.S).2 c 1200:=(show rW { V with B:=R2.2.2 } c (1200+25)from⟨hbL.mono (by omega),vo.c0,vo.c1⟩).xu big2
 unfold NH at k;generalize iY { V with B:=R2.2.2 } R2.2.1.S=R3 at *
 simp only[bs,List.drop_succ_cons,List.drop_zero]at w;by_cases g3:R3.1=0;rotate_left
 ·rw[if_pos g3]at k;refine fin (V':=R3.2) g3 hd kB ?_ k;exact((w.drop (i:=6) rfl).drop (i:=5) rfl).drop (i:=4) rfl
 rw[if_neg (by simp[g3])]at k;refine cf (by simp[g3]) (M.vis 3 (by decide) (M.bM (eN (by decide) ⟨by decide,by decide,_,rfl,?_⟩)));refine Jv (F:=λh K=>bG ⟨b5,0,none⟩ ⟨b2,0,none⟩ h K) (λQ h hh=>hh) ?_;unfold bG;unfold NI at k;rw[hn2]at k;have w:=w.tw 2 rfl;obtain⟨⟨ta,tb',tc,td,te⟩,okT',w⟩:=w;have w:=w.tw 5 rfl;obtain⟨_,rfl,w⟩:=w;simp only[bs,List.eraseIdx_cons_zero,List.eraseIdx_cons_succ,rH]at w;refine vu (w.blk 2 rfl) (PC (w.blk 4 rfl) (iw (kq (s:=R2.2.1.S) (sa:=va) (sl:=R2.2.1.S.av.length) (sc:=vb) (ma:=vc) (ml:=R2.2.1.S.aj.length) (mc:=vd) (pZ (w.blk 9 rfl) rfl) (iw ⟨rfl,M.HL (b:=p) (o:=3) w 5 rfl (by simp[ag]) (show(12:Nat)≤14 by decide) λh9 w=>vu (w.blk 2 rfl) (PC (w.blk 4 rfl) ?_)⟩))));rw[Ip]at w
 have w:Wd hB h9 [dO b R3.2.B,.blk a (mV R3.2.cnt R3.2.gC),.blk b2 oS,.blk b4 o4,.blk b5 oW,.blk p (.cells (yG b a key { T with S:=R2.2.1.S } va vb vc vd te) 123),.sl 3 1 ta T.S.av.length tb' (eI.row T.S.av),.sl 51 3 tc T.S.aj.length td (kf.row T.S.aj),.blk te (Ca T.S.dS T.nx),.blk wk (.cells (LN R2.2.1.S va vb vc vd ve vf) 146),
  .sl 3 1 va R2.2.1.S.av.length vb (eI.row R2.2.1.S.av),.sl 51 3 vc R2.2.1.S.aj.length vd (kf.row R2.2.1.S.aj),Ez ve f2,Ez vf j1]:=w
 obtain⟨hA,kA0,kA1,wA,wrA,backA⟩:=w.on (i:=0) rfl;obtain⟨es,ec,hem,hes,_⟩:=Lz (i:=11) wrA rfl;have hm12':T.S.aj.length≤12:=by omega
 refine Hz (J:=R2.2.1.J) (N:=T.S.aj.length) (n:=R2.2.1.S.slots) (a:=a) wA (wrA.blk 4 rfl) ⟨rfl,rfl,rfl⟩ (wrA.blk 8 rfl) rfl (by show some (Value.slice vc R2.2.1.S.aj.length vd)=_;rw[hn2]) rfl hem hes (hj2.keep kA0) hm12' hsh (hbP.bk.mono (by omega)) (tb.keep (kB.trans kA0)) λh10 w10=>?_;have w:=backA _ _ w10;clear wA wrA backA w10 kA0 kA1 hem hes;have w:=(((((((w.drop (i:=13) rfl).drop (i:=12) rfl).drop (i:=9) rfl).drop (i:=7) rfl).drop (i:=6) rfl).drop (i:=4) rfl).drop (i:=3) rfl).mv (i:=4) rfl;simp only[bs,List.eraseIdx_cons_zero,List.eraseIdx_cons_succ]at w;generalize nw key R2.2.1.S.slots R2.2.1.J R3.2.B T.S.aj.length=R4 at *;have ep2:R2.2.1.S.dS=T.S.dS:=by rw[al2.ep,al1.ep];exact hmep
 have ok':({ T with S:=R2.2.1.S }:uY).Ok:=⟨ft2,big2,by rw[show({ T with S:=R2.2.1.S }:uY).S.dS=T.S.dS from ep2];exact okT.ep,okT.nx⟩
 rw[←ep2]at w;have w:=w.close (p:=λ_=>({ T with S:=R2.2.1.S }:uY).Ok) (cs:=λv=>[.blk p (.cells (yG b a key { T with S:=R2.2.1.S } v.1 v.2.1 v.2.2.1 v.2.2.2.1 v.2.2.2.2) 123),.sl 3 1 v.1 R2.2.1.S.av.length v.2.1 (eI.row R2.2.1.S.av),.sl 51 3 v.2.2.1 R2.2.1.S.aj.length v.2.2.2.1 (kf.row R2.2.1.S.aj),.blk v.2.2.2.2 (Ca R2.2.1.S.dS T.nx)]) 3 (va,vb,vc,vd,te) rfl ok'
 have w:Wd hB h10 [dO b R4.2,.blk a (mV R3.2.cnt R3.2.gC),.blk b2 oS,jB p b a key { T with S:=R2.2.1.S }]:=w
 have w:=w.mv (i:=2) rfl;simp only[bs,List.eraseIdx_cons_zero,List.eraseIdx_cons_succ]at w;by_cases g4:R4.1=0
 ·refine cf (by simp[g4]) (M.vis 4 (by decide) (M.bM (gI (by decide) ?_)));have e1:decide (R4.1=21)=T.dead:=by rw[hd,g4];rfl
  rw[e1]at k;have:=k h10 ((w.drop (i:=3) rfl).base kB);rw[g4]at this;exact this
 ·exact fin (V':={ R3.2 with B:=R4.2 }) (T':={ T with S:=R2.2.1.S }) g4 hd kB w k
end
structure Up (B:ak) (N:Nat):Prop where
 n:B.ds.length=N
 lv:∀d:Nat,d<N->Lv B d
structure Fr (B B':ak) (d:Nat):Prop where
 n:B'.ds.length=B.ds.length
 pw:B'.oN=B.oN
 ot:∀j:Nat,j≠d->B'.hU j=B.hU j
section
variable {B B' B'':ak}{N d j:Nat}{a n:Int}{t s key:ByteArray}
theorem Fr.refl(B:ak)(d:Nat):Fr B B d:=⟨rfl,rfl,λ_ _=>rfl⟩
theorem Fr.trans(f:Fr B B' d)(g:Fr B' B'' d):Fr B B'' d:=⟨g.n.trans f.n,g.pw.trans f.pw,λj hj=>(g.ot j hj).trans (f.ot j hj)⟩
theorem MB{D:cP}(h1:B'.ds=B.ds)(h2:B'.oN=B.oN):Fr B (B'.set (d:Int) D) d:=by
 refine⟨by simp[ak.set,h1],h2,λj hj=>?_⟩;simp only[ak.hU,ak.set,h1,Int.toNat_natCast,List.getD_eq_getElem?_getD];rw[List.getElem?_set_ne (λe=>hj e.symm)]
theorem zn:B.iU.2.oN=B.oN:=by unfold ak.iU;split<;>rfl
theorem Bu:Fr B (B.write d a s).2 d:=by
 unfold ak.write;split
 ·exact Fr.refl _ _
 ·split
  ·exact Fr.refl _ _
  ·exact MB B.j3 zn
theorem EX:Fr B (B.flush d).2 d:=by
 unfold ak.flush;split
 ·exact Fr.refl _ _
 ·split
  ·exact Fr.refl _ _
  ·exact MB B.j3 zn
theorem rJ:∀{l:KV} {B:ak},Fr B (dX B d l).2 d
 | [],B=>EX
 | p::l,B=>by
  rw[dX];split
  ·exact Bu
  ·exact Bu.trans rJ
theorem Fr.lv(f:Fr B B' d)(hj:j≠d)(v:Lv B j)(ti:B'.ur):Lv B' j:=by
 have e:=f.ot j hj;refine⟨?_,by rw[f.pw];exact v.pw,by rw[e];exact v.al,by rw[e];exact v.ln,ti⟩;have:=ak.jX.1 v.nb;rw[ak.jX,f.n];exact this
theorem Fr.mK(f:Fr B B' d)(hj:j≠d)(x:Int):mK B' j x=mK B j x:=by unfold Go.Proofs.YtmfcgihgdhfalaaGreatDoor.mK;rw[f.ot j hj]
theorem Up.step(u:Up B N)(f:Fr B B' d)(v:Lv B' d):Up B' N:=⟨by rw[f.n];exact u.n,λj hj=>by
 by_cases e:j=d
 ·rw[e];exact v
 ·exact f.lv e (u.lv j hj) v.ti⟩
theorem Holds.of{top:ByteArray}{cs:List ByteArray}{D:Int}(o:Holds B D n top cs)(v:Lv B D)(v':Lv B' D)(hc:∀x,100≤x->x<140->Go.Proofs.YtmfcgihgdhfalaaGreatDoor.mK B' D x=Go.Proofs.YtmfcgihgdhfalaaGreatDoor.mK B D x):Holds B' D n top cs:=by
 have hn:=pS o.has.hd;have hsm:=iC o.has.hd;refine⟨⟨o.has.hd,o.has.len,o.has.sz,o.has.top,λi h0 hi=>?_⟩,λi hi=>?_⟩
 ·have hi16:(i:Int)<16:=by
   generalize 2^dep n=w at hn hi;omega
  have hp:=o.has.pairs i h0 hi;have hp:ak.read _ _ _ = _:=hp;show ak.read _ _ _ = _;rw[lZ v (by omega)]at hp;rw[lZ v' (by omega),hc _ (by omega) (by omega)];exact hp
 ·have hi16:(i:Int)<16:=by
   generalize 2^dep n=w at hn hi;omega
  rw[hc _ (by omega) (by omega)];exact o.cell i hi
theorem JI(u:Up B N)(hd:d<N)(ha:0≤a∧a<140)(ht:t.size≤2048):
  (lB B d a t).1=0∧Up (lB B d a t).2 N∧Fr B (lB B d a t).2 d∧∀x,mK (lB B d a t).2 d x=if x.toNat=a.toNat then t else mK B d x:=by
 obtain⟨h1,h2,h3,_,_⟩:=Ap (u.lv d hd) ha ht;obtain⟨g1,g2,g3,_,_,_⟩:=AO h2;unfold lB;rw[if_neg (by simp[h1])];have f:Fr B ((B.write d a t).2.flush d).2 d:=Bu.trans EX;exact⟨g1,u.step f g2,f,λx=>by rw[g3,h3]⟩
theorem Fq(u:Up B N)(ha:0≤a∧a<140)(ht:t.size≤2048):∀m,m≤N->(lI a t B m).1=false∧(lI a t B m).2.1=decide (0<m)∧Up (lI a t B m).2.2 N ∧
  ∀d:Nat,∀x,0≤x->mK (lI a t B m).2.2 d x=if d<m∧x=a then t else mK B d x
 | 0,_=>⟨rfl,rfl,u,λd x _=>by rw[if_neg (by omega)];rfl⟩
 | m+1,hm=>by
  obtain⟨h1,h2,h3,h4⟩:=Fq u ha ht m (by omega);obtain⟨g1,g2,g3,g4⟩:=JI h3 (d:=m) (by omega) ha ht;rw[lI,if_neg (by simp[h1])];refine⟨by simp[g1],by simp[g1],g2,λd x hx=>?_⟩;simp only;by_cases e:d=m
  ·subst e;rw[g4,h4 d x hx];by_cases e1:x=a
   ·rw[if_pos (by rw[e1]),if_pos ⟨by omega,e1⟩]
   ·rw[if_neg (by omega),if_neg (λg=>e1 g.2),if_neg (λg=>e1 g.2)]
  ·rw[g3.mK e,h4 d x hx];by_cases e1:d<m∧x=a
   ·rw[if_pos e1,if_pos ⟨by omega,e1.2⟩]
   ·rw[if_neg e1,if_neg (λg=>e1 ⟨by omega,g.2⟩)]
theorem PV(h:B'.ds=B.ds)(D x:Int):mK B' D x=mK B D x:=by unfold mK ak.hU;rw[h]
theorem Mb(u:Up B N)(hN:0<N):B.iU.1=0∧Up B.iU.2 N:=by
 have np:=(u.lv 0 hN).np;have hs:=wL (u.lv 0 hN);refine⟨by unfold ak.iU;rw[if_neg np],by rw[hs];exact u.n,λd hd=>?_⟩;rw[hs];exact⟨(u.lv d hd).nb,(u.lv d hd).pw,(u.lv d hd).al,(u.lv d hd).ln,(u.lv d hd).ti⟩
theorem sK{V:qG}{S:gD}(u:Up V.B N)(hN:0<N)(hc:V.cnt<S.count)(h0:0≤S.count):
  ∃B',iY V S=(0,⟨B',S.count,dH 2 (gJ S)⟩)∧Up B' N∧∀d:Nat,d<N->∀x,0≤x->mK B' d x=if x=S.count.tmod 2 then gJ S else mK V.B d x:=by
 have h2:=M6 h0;obtain⟨h3,h4,h5,h6⟩:=Fq (a:=S.count.tmod 2) (t:=gJ S) u (by omega) (yu S) N (Nat.le_refl _);obtain⟨g1,g2⟩:=Mb h5 hN;refine⟨(lI (S.count.tmod 2) (gJ S) V.B N).2.2.iU.2,?_,g2,λd hd x hx=>?_⟩
 ·unfold iY ED;rw[u.n,if_neg (by simp[h3]),if_neg (by rw[h4];simp;omega),if_neg (by simp[g1]),if_neg (by omega)]
 ·rw[PV (ak.j3 _),h6 d x hx];by_cases e:x=S.count.tmod 2
  ·rw[if_pos ⟨hd,e⟩,if_pos e]
  ·rw[if_neg (λg=>e g.2),if_neg e]
theorem K3(hd:dep n≠0){x:Int}(hx:x<100)(c:ByteArray):mR (jQ n) x c=c:=by
 refine mD λp hp=>?_;rw[jQ,List.mem_append,List.mem_map,List.mem_map]at hp;rcases hp with ⟨i,hi,rfl⟩|⟨i,hi,rfl⟩
 ·simp only;omega
 ·simp only;omega
theorem Gm{data:Int}(u:Up B N)(hk:key.size=32)(hd:dep n≠0):∀m,m≤N->(mz key data n B m).1=0∧Up (mz key data n B m).2 N ∧
  (∀d:Nat,d<m->(d:Int)<data+2->Holds (mz key data n B m).2 d n (jx n) (List.replicate n.toNat empty))∧∀d:Nat,∀x,0≤x->x<100->mK (mz key data n B m).2 d x=mK B d x
 | 0,_=>⟨rfl,u,λd h=>by omega,λ_ _ _ _=>rfl⟩
 | m+1,hm=>by
  obtain⟨h1,h2,h3,h4⟩:=Gm (data:=data) u hk hd m (by omega);rw[mz,if_neg (by simp[h1])];by_cases e:(m:Int)<data+2;rotate_left
  ·rw[if_neg e];refine⟨h1,h2,λd hdm hdd=>h3 d ?_ hdd,h4⟩;by_cases e2:d=m
   ·rw[e2]at hdd;exact absurd hdd e
   ·omega
  rw[if_pos e];have v:=h2.lv m (by omega);rw[tY ⟨hd,hk,v.nb⟩];obtain⟨g1,g2,g3,_,_,_⟩:=lT v (Df hd);have f:Fr (mz key data n B m).2 (dX (mz key data n B m).2 m (jQ n)).2 m:=rJ;have u2:=h2.step f g2;refine⟨g1,u2,λd hdm hdd=>?_,λd x hx hx2=>?_⟩
  ·by_cases e2:d=m
   ·subst e2;exact Kz v hd
   ·exact(h3 d (by omega) hdd).of (h2.lv d (by omega)) (u2.lv d (by omega)) λx _ _=>f.mK e2 x
  ·rw[←h4 d x hx hx2];by_cases e2:d=m
   ·subst e2;rw[g3 x hx,K3 hd hx2]
   ·exact f.mK e2 x
/-! ### A record is found -/
theorem Ed:nC empty=none:=by
 cases h:nC empty with
 | none=>rfl
 | some S=>
  obtain⟨_,_,h3⟩:=sO h;have:=congrArg ByteArray.size h3;rw[sA,ByteArray.size_append,eF]at this;simp at this
theorem Ma{gC:ByteArray}{m:Nat}(h:nC t=none):oB gC m t=none:=by
 unfold oB;rw[h];split<;>rfl
theorem K4{gC:ByteArray}{m:Nat}(h:dH 2 t≠gC):oB gC m t=none:=if_pos h
theorem LH{S:gD}(g:S.good)(hb:S.ji):oB (dH 2 (gJ S)) S.aj.length (gJ S)=some (0,S):=by
 have e:gJ S=od S:=if_pos g;unfold oB;rw[if_neg (by simp),e,xL g hb];simp
theorem RF{gC:ByteArray}{x:Int×gD}(u:Up B N)(hN:0<N)(h:oB gC N (mK B ((0:Nat):Int) 0)=some x):ig B gC=x:=by
 unfold ig;rw[u.n];refine oY (m:=0) rfl hN ?_;unfold findD;rw[lZ (u.lv 0 hN) (by omega),if_neg (by simp),if_neg (by simp),h]
theorem My{gC:ByteArray}{x:Int×gD}(u:Up B N)(hN:0<N)(h0:oB gC N (mK B ((0:Nat):Int) 0)=none)(h:oB gC N (mK B ((0:Nat):Int) 1)=some x):ig B gC=x:=by
 unfold ig;rw[u.n];refine oY (m:=0) rfl hN ?_;unfold findD;rw[lZ (u.lv 0 hN) (by omega),if_neg (by simp),if_neg (by simp),h0,lZ (u.lv 0 hN) (by omega)];simp only;rw[if_neg (by simp),if_neg (by simp),h]
theorem y2:(jb empty).2=4:=by
 have h:=Rd.uh ⟨empty,0⟩;unfold jb Rd.below Rd.num Rd.done;simp
theorem vK{D:Int}{x:Mem}(v:Lv B D)(h:mK B D 2=empty):(pN key n B D x).1≠21∧(pN key n B D x).2=B:=by
 have hr:lC B D x.log=([],4):=by
  unfold lC;rw[lZ v (by omega),h,if_neg (by simp),if_pos (by simp[y2])];simp[y2]
 unfold pN;rw[hr];split
 ·exact⟨by simp,rfl⟩
 ·rw[if_neg (by simp)];exact⟨by simp,rfl⟩
theorem CE{S:gD}(u:Up B N)(h:∀d:Nat,d<N->mK B d 2=empty):∀m,m≤N->lq key S B m=(0,B)
 | 0,_=>rfl
 | m+1,hm=>by
  have h1:=CE (S:=S) u h m (by omega);obtain⟨h2,h3⟩:=vK (key:=key) (n:=S.slots) (x:=mb S.aj m) (u.lv m (by omega)) (h m (by omega));rw[lq,h1];simp only;rw[if_neg (by simp),if_neg h2,h3]
theorem E1(u:Up B N)(hN:0<N)(hk:key.size=32):oy B key=0:=by
 unfold oy;rw[if_neg];have:=(u.lv 0 hN).ln;simp only[Int.natCast_zero]at this;omega
theorem Dv{V:qG}{S:gD}(u:Up V.B N)(hN:0<N)(hk:key.size=32)(hf:ig V.B V.gC=(0,S))(h0:0<V.cnt)(hc:V.cnt=S.count)(hc2:S.count<18446744073709551615)(he:S.dS<4294967295)
  (hr:(lq key S V.B N).1=0) (u1:Up (lq key S V.B N).2 N):
  ∃B',lH V key=(0,⟨B',S.count+1,dH 2 (gJ S.next)⟩,S.next)∧Up B' N∧∀d:Nat,d<N->∀x,0≤x->mK B' d x=if x=(S.count+1).tmod 2 then gJ S.next else mK (lq key S V.B N).2 d x:=by
 have fg:=qo (B:=V.B) (gC:=V.gC) (by rw[hf]);rw[hf]at fg;simp only at fg;have hl:S.aj.length=N:=by rw[fg.2.2,u.n]
 have hn:S.next.count=S.count+1:=by
  show Du _ = _;unfold Du;rw[IntKind.wrap_u64];omega
 obtain⟨B',g1,g2,g3⟩:=sK (V:={ V with B:=(lq key S V.B N).2 }) (S:=S.next) u1 hN (by rw[hn];simp only;omega) (by rw[hn];omega)
 rw[hn]at g1 g3;refine⟨B',?_,g2,g3⟩;unfold lH;rw[if_neg (by simp[E1 u hN hk]),if_neg (by omega),hf];dsimp only;rw[if_neg (by simp),if_neg (by omega),hl,if_neg (by simp[hr]),g1,if_neg (by simp)]
end
theorem y9{data:Int}(hd:0≤data+2):∀N:Nat,ko data N=(List.range (min N (data+2).toNat)).map λi:Nat=>(i:Int)
 | 0=>by simp[ko]
 | N+1=>by
  rw[vP,y9 hd N];by_cases e:(N:Int)<data+2
  ·rw[if_pos e,Nat.min_eq_left (by omega),Nat.min_eq_left (by omega),List.range_succ,List.map_append];rfl
  ·rw[if_neg e,Nat.min_eq_right (by omega),Nat.min_eq_right (by omega)]
theorem E4{n:Int}(hd:dep n≠0):(jx n).size=32:=by
 have hsm:=iC hd;exact jK (oM n) (by omega) (by rw[ox];omega)
section
variable {data slots:Int}{N:Nat}{key:ByteArray}
theorem yP(hd:0≤data+2)(hN:data+2≤N):(dz data slots N).av=(List.range (data+2).toNat).map λi:Nat=>(i:Int):=by
 have:=y9 hd N;rw[Nat.min_eq_right (by omega)]at this;exact this
theorem PJ{i:Nat}(hi:i<N):mb (dz data slots N).aj i=iA data slots i:=by
 have:i<(dz data slots N).aj.length:=by simp[dz,hi]
 rw[mJ this];simp[dz]
theorem CF(i:Nat):(iA data slots i).st=if(i:Int)<data+2 then 1 else 0:=by
 unfold iA;split<;>rfl
theorem BL(hl:ij data slots 0 false)(hN:data+2≤N)(h12:N≤12):(dz data slots N).good:=by
 obtain⟨hs,h2,h8,_⟩:=hl;simp only[Bool.false_eq_true,if_false]at h8;have hsm:=iC hs;have hse:=yP (slots:=slots) (show 0≤data+2 by omega) hN;have hml:(dz data slots N).aj.length=N:=by simp[dz]
 have hin:∀i:Nat,((i:Int)∈(dz data slots N).av↔(i:Int)<data+2):=λi=>by
  rw[hse,List.mem_map];constructor
  ·rintro⟨j,hj,e⟩;have:=List.mem_range.1 hj;omega
  ·exact λh=>⟨i,List.mem_range.2 (by omega),rfl⟩
 refine⟨⟨⟨h2,h8,by simp[dz]⟩,hs,⟨by simp[dz],by show(0:Int)≤slots;omega,by simp[dz]⟩,by simp[dz],by show(0:Int)≤slots;omega,by rw[hml];omega,by rw[hml];exact h12⟩,⟨λm hm=>?_,.inr ⟨?_,rfl⟩⟩,?_,λi hi=>?_,?_,λi hi h=>?_⟩
 ·obtain⟨i,hi,rfl⟩:=List.mem_map.1 (show m∈(List.range N).map (iA data slots)from hm);unfold iA;split
  ·exact⟨by simp,by simp,E4 hs,tM⟩
  ·exact⟨by simp,by simp,by simp only;decide,tM⟩
 ·unfold yD;rw[List.countP_eq_zero];intro m hm;obtain⟨i,hi,rfl⟩:=List.mem_map.1 (show m∈(List.range N).map (iA data slots)from hm);rw[CF];split<;>simp
 ·rw[hse,List.length_map,List.length_range];unfold gD.mT;simp[dz];omega
 ·rw[hse]at hi;obtain⟨j,hj,rfl⟩:=List.mem_map.1 hi;have:=List.mem_range.1 hj;rw[hml];omega
 ·rw[hse];exact List.pairwise_map.2 (List.nodup_range.imp λh e=>h (by omega))
 ·rw[hml]at hi;rw[hin,PJ hi,CF];split
  ·simp[*]
  ·simp[*]
theorem O0(h1:1≤N)(h12:N≤12):(ak.new N 140).ds=List.replicate N (cP.new 140):=by
 have:(mx 1 (mn (N:Int) 12)).toNat=N:=by
  unfold mx mn;split<;>split<;>omega
 simp[ak.new,this]
theorem Jj(h1:1≤N)(h12:N≤12){d:Nat}(hd:d<N):(ak.new N 140).hU d=cP.new 140:=by
 unfold ak.hU;rw[O0 h1 h12,Int.toNat_natCast,List.getD_eq_getElem?_getD,List.getElem?_replicate,if_pos hd];rfl
theorem PK(h1:1≤N)(h12:N≤12):Up (ak.new N 140) N:=by
 have hn:(ak.new N 140).ds.length=N:=by rw[O0 h1 h12,List.length_replicate]
 refine⟨hn,λd hd=>?_⟩;have e:=Jj h1 h12 hd;exact⟨ak.jX.2 (by rw[hn];omega),rfl,by rw[e];rfl,by rw[e];decide +kernel,Fw _ _⟩
theorem IF(h1:1≤N)(h12:N≤12){d:Nat}(hd:d<N)(x:Int):mK (ak.new N 140) d x=empty:=by
 unfold mK;rw[Jj h1 h12 hd,List.getD_eq_getElem?_getD];show(List.replicate _ _)[_]?.getD _ = _;rw[List.getElem?_replicate];split<;>rfl
def V0(N:Nat):qG:=⟨ak.new N 140,0,empty⟩
structure Made (B:ak) (N:Nat) (data slots:Int):Prop where
 up:Up B N
 ho:∀d:Nat,(d:Int)<data+2->Holds B d slots (jx slots) (List.replicate slots.toNat empty)
 c0:∀d:Nat,d<N->mK B d 0=gJ (dz data slots N).next
 c2:∀d:Nat,d<N->mK B d 2=empty
theorem fresh(hk:key.size=32)(hl:ij data slots 0 false)(hN:data+2≤N)(h12:N≤12):
  ∃V1 B,mO (V0 N) key data slots=(0,V1)∧lH V1 key=(0,⟨B,2,dH 2 (gJ (dz data slots N).next)⟩,(dz data slots N).next)∧Made B N data slots:=by
 have hl':=hl;obtain⟨hs,h2,h8,_⟩:=hl';have h1:1≤N:=by omega
 have u0:=PK h1 h12;have g:=BL hl hN h12;have hbg:=sL data slots N;have hml:(dz data slots N).aj.length=N:=by simp[dz]
 obtain⟨f1,f2,f3,f4⟩:=Gm (data:=data) u0 hk hs N (Nat.le_refl _);obtain⟨B1,p1,p2,p3⟩:=sK (V:=⟨(mz key data slots (ak.new N 140) N).2,0,empty⟩) (S:=dz data slots N) f2 (by omega) (by simp[dz]) (by simp[dz]);have hct:(dz data slots N).count.tmod 2=1:=rfl;rw[hct]at p3;have hfm:mO (V0 N) key data slots=(0,⟨B1,1,dH 2 (gJ (dz data slots N))⟩):=by
  unfold mO;rw[show(V0 N).B=ak.new N 140 from rfl,if_neg (by simp[E1 u0 (by omega) hk]),if_neg (by rw[u0.n];simp[hl];omega),if_neg (by simp[V0])];dsimp only;rw[u0.n,if_neg (by simp[f1])];exact p1
 have e0:∀d:Nat,d<N->mK B1 d 0=empty:=λd hd=>by rw[p3 d hd 0 (by omega),if_neg (by omega)];rw[f4 d 0 (by omega) (by omega),IF h1 h12 hd]
 have e2:∀d:Nat,d<N->mK B1 d 2=empty:=λd hd=>by rw[p3 d hd 2 (by omega),if_neg (by omega)];rw[f4 d 2 (by omega) (by omega),IF h1 h12 hd]
 have e1:mK B1 ((0:Nat):Int) 1=gJ (dz data slots N):=by rw[p3 0 (by omega) 1 (by omega),if_pos rfl]
 have hfd:ig B1 (dH 2 (gJ (dz data slots N)))=(0,dz data slots N):=by
  refine My p2 (by omega) (by rw[e0 0 (by omega)];exact Ma Ed) ?_;rw[e1];have:=LH g hbg
  rwa [hml]at this
 have hrp:=CE (key:=key) (S:=dz data slots N) p2 e2 N (Nat.le_refl _);obtain⟨B2,q1,q2,q3⟩:=Dv (V:=⟨B1,1,dH 2 (gJ (dz data slots N))⟩) (S:=dz data slots N) (N:=N) p2 (by omega) hk hfd (by simp) rfl (by simp[dz]) (by simp[dz]) (by simp only;rw[hrp]) (by simp only;rw[hrp];exact p2);refine⟨_,B2,hfm,q1,q2,λd hd=>?_,λd hd=>?_,λd hd=>?_⟩
 ·have hdN:d<N:=by omega
  refine(f3 d hdN hd).of (f2.lv d hdN) (q2.lv d hdN) λx hx _=>?_;have ct2:((dz data slots N).count+1).tmod 2=0:=rfl;rw[q3 d hdN x (by omega),ct2,if_neg (by omega),hrp];simp only;rw[p3 d hdN x (by omega),if_neg (by omega)]
 ·have ct2:((dz data slots N).count+1).tmod 2=0:=rfl;rw[q3 d hd 0 (by omega),ct2,if_pos rfl]
 ·have ct2:((dz data slots N).count+1).tmod 2=0:=rfl;rw[q3 d hd 2 (by omega),ct2,if_neg (by omega),hrp];exact e2 d hd
end
section
variable {B:ak}{d:Int}{ws:KV}
theorem IX{n:Nat}(hn:n<96):jb (iZ n)=((n:Int)+1,0):=by
 have h:=Rd.jP (n:=n) (b:=96) hn (by omega) empty;rw[ByteArray.append_empty]at h;unfold jb;rw[h];simp[Rd.done]
theorem Cw{p:Int×ByteArray}(h:mM p=0):nI (Nx p)=some p:=by
 have hm:=uR h;have h1:=Rd.jP (n:=p.1.toNat) (b:=140) (by omega) (by omega) (mw p.2);have h2:=Rd.qt (s:=p.2) (by omega) empty;rw[ByteArray.append_empty]at h2;have e:((p.1.toNat:Int),p.2)=p:=by rw[Int.toNat_of_nonneg (by omega)]
 unfold nI Nx;rw[h1];simp only;rw[h2];simp only[e,h];simp[Rd.done]
theorem MN(h:∀p∈ws,mM p=0)(hl:ws.length≤95):qV (lF ws) (yq (lF ws))=(ws,0):=by
 have h0:sa (lF ws) 0=iZ ws.length:=rfl;have hn:=IX (n:=ws.length) (by omega);have ht:(lF ws).take ((ws.length:Int)+1).toNat=lF ws:=List.take_of_length_le (by simp[lF]);have hd:(lF ws).drop 1=ws.map Nx:=rfl;unfold qV;rw[if_neg (by simp[lF]),h0,hn,if_neg (by simp),if_neg (by simp[lF])];simp only;rw[ht,if_neg (by simp),hd,if_neg]
 ·rw[List.map_map];congr 1;conv=>rhs;rw[←List.map_id ws]
  exact List.map_congr_left λp hp=>by simp[Cw (h p hp)]
 ·rintro⟨s,hs,g⟩;obtain⟨p,hp,rfl⟩:=List.mem_map.1 hs;rw[Cw (h p hp)]at g;simp at g
def Log(B:ak)(d:Int)(ws:KV):Prop:=∀i:Nat,i<ws.length+1->mK B d (2+(i:Int))=sa (lF ws) i
theorem FF(v:Lv B d)(hg:Log B d ws)(hl:ws.length≤95):∀m,m≤ws.length+1->kK B d m=((lF ws).take m,0)
 | 0,_=>rfl
 | m+1,hm=>by
  have h1:=FF v hg hl m (by omega);have hlen:(lF ws).length=ws.length+1:=by simp[lF]
  rw[kK,h1,if_neg (by simp),lZ v (by omega),if_neg (by simp),hg m (by omega),List.take_succ_eq_append_getElem (by omega),kM (by omega)]
theorem Na(v:Lv B d)(hg:Log B d ws)(h:∀p∈ws,mM p=0)(hl:ws.length≤95):lC B d (yq (lF ws))=(ws,0):=by
 have h0:mK B d 2=iZ ws.length:=hg 0 (by omega);have hn:=IX (n:=ws.length) (by omega);have hR:=FF v hg hl (ws.length+1) (Nat.le_refl _);have hlen:(lF ws).length=ws.length+1:=by simp[lF]
 unfold lC;rw[lZ v (by omega)];simp only[h0,hn];rw[if_neg (by simp),if_neg (by simp),show((ws.length:Int)+1).toNat=ws.length+1 by omega,hR,if_neg (by simp)];simp only;rw[List.take_of_length_le (by omega)];exact MN h hl
theorem GZ(l:KV)(x:Int)(c:ByteArray):mR l x (mR l x c)=mR l x c:=by
 by_cases h:∃p∈l,p.1=x
 ·have key:∀(l:KV) (c c':ByteArray),(∃p∈l,p.1=x)->mR l x c=mR l x c':=by
   intro l;induction l with
   | nil=>intro c c' ⟨p,hp,_⟩;simp at hp
   | cons q r ih=>
    intro c c' ⟨p,hp,e⟩;rw[mC,mC];by_cases e2:q.1=x
    ·rw[if_pos e2,if_pos e2]
    ·rw[if_neg e2,if_neg e2];refine ih _ _ ⟨p,?_,e⟩;rcases List.mem_cons.1 hp with rfl|hp
     ·exact absurd e e2
     ·exact hp
  exact key l _ _ h
 ·exact mD λp hp e=>h ⟨p,hp,e⟩
end
/-! ### One chunk of four -/
section
variable {B:ak}{d:Int}{key top c:ByteArray}{cs:List ByteArray}
def GB(cs:List ByteArray)(c:ByteArray):List ByteArray:=(cs.map (dH 0)).set 3 (dH 0 c)
def Cd(cs:List ByteArray)(c:ByteArray):KV:=[(101,fU (GB cs c) 1),(103,fU (GB cs c) 3),(123,c)]
theorem Gq(v:Lv B d)(hk:key.size=32)(o:Holds B d 4 top cs)(hc:c.size≤2032):sY B key d 4 top [(3,c)]=(Cd cs c,iz (GB cs c) 1,0):=by
 have g:iS B d 4 key:=⟨o.has.hd,hk,v.nb⟩;have hck:qj (iS B d 4 key) 4 [(3,c)]=0:=by
  unfold qj;rw[if_neg (by simp[g]),B7,if_neg (by simp[oz.2 ⟨g,show(0:Int)≤3∧(3:Int)<4 by decide⟩]),if_neg (by simp only;omega)];rfl
 have hs:3<2^dep 4:=by decide
 have ho:=BB o.Ph hs;have hp:jC 4 3=[1,3]:=by decide
 have hw:o7 (2^dep 4+3) (dep 4)=[1,3]:=by decide
 have e:=Ev (x:=dH 0 c) o.has.len o.has.sz hs (dep 4) (Nat.le_refl _);rw[show(2^dep 4+3)/2^dep 4=1 by decide,hw]at e;rw[hw]at ho;have ho3:lP B d 4 (kG []) top 3=([1,3].map (fU (cs.map (dH 0))),sa (cs.map (dH 0)) 3,0):=ho;have hS:pG B d 4 top [] [] [(3,c)]=(lU [] [1,3] ([1,3].map (fU (GB cs c))),o8 [] 3 c,iz (GB cs c) 1,0):=by
  rw[pG,ho3,if_neg (by simp),pG];simp only[hp];rw[show(3:Int).toNat=3 from rfl,e];rfl
 unfold sY;rw[if_neg (by simp[hck]),hS,if_neg (by simp)];simp only[List.map_cons,List.map_nil];generalize hx1:fU (GB cs c) 1=x1;generalize hx:fU (GB cs c) 3=x3;have h1:lU [] [1,3] [x1,x3]=[(1,x1),(3,x3)]:=by simp[lU,o8]
 have h2:o8 [] (3:Int) c=[(3,c)]:=by simp[o8]
 rw[h1,h2];have s1:ou [1,3]=[1,3]:=by unfold ou;first|exact List.mergeSort_of_pairwise (by simp)|exact List.mergeSort_of_sorted (by simp)|(simp[List.mergeSort,List.merge])
 have s2:ou [3]=[3]:=by unfold ou;first|exact List.mergeSort_of_pairwise (by simp)|exact List.mergeSort_of_sorted (by simp)|(simp[List.mergeSort,List.merge])
 simp only[outs,List.map_cons,List.map_nil,s1,s2,kG];rw[Cd,hx,hx1];simp
theorem N8(o:Holds B d 4 top cs)(hc:c.size≤2032):∀p∈Cd cs c,mM p=0:=by
 have hl:(GB cs c).length=4:=by rw[GB,List.length_set];exact o.has.len
 have hz:∀p∈GB cs c,p.size=32:=λp hp=>by
  rcases List.mem_or_eq_of_mem_set hp with hp|rfl
  ·exact o.has.sz p hp
  ·exact jJ _ _
 have p1:=mH hz (i:=1) (by omega) (by omega);have p3:=mH hz (i:=3) (by omega) (by omega);intro p hp;unfold mM;simp only[Cd,List.mem_cons,List.not_mem_nil,or_false]at hp;rcases hp with rfl|rfl|rfl
 ·rw[if_neg (by simp),if_neg (by simp only;omega)]
 ·rw[if_neg (by simp),if_neg (by simp only;omega)]
 ·rw[if_neg (by simp),if_neg (by simp only;omega)]
end
def cs0:List ByteArray:=List.replicate 4 empty
def tL(c:ByteArray):ByteArray:=iz (GB cs0 c) 1
def wj(c:ByteArray):KV:=Cd cs0 c
def M3(c:ByteArray):ByteArray:=yq (lF (wj c))
def lJ:Mem:=⟨1,jx 4,gF⟩
def xE:Mem:=⟨0,kL 32,gF⟩
def Bc(n:Int)(m:Mem):gD:=⟨n,2,2,4,0,0,false,[0,1,2,3],[lJ,m,lJ,lJ,xE]⟩
def S2:gD:=Bc 2 lJ
def S3(c:ByteArray):gD:=Bc 3 ⟨1,tL c,M3 c⟩
theorem Me:(dz 2 4 5).next=S2:=by
 have h1:iA 2 4 0=lJ:=rfl;have h2:iA 2 4 1=lJ:=rfl;have h3:iA 2 4 2=lJ:=rfl;have h4:iA 2 4 3=lJ:=rfl;have h5:iA 2 4 4=xE:=rfl;have hm:(List.range 5).map (iA 2 4)=[lJ,lJ,lJ,lJ,xE]:=by
  show [iA 2 4 0,iA 2 4 1,iA 2 4 2,iA 2 4 3,iA 2 4 4]=_;rw[h1,h2,h3,h4,h5]
 have hc:Du ((1:Int)+1)=2:=by decide
 have hs:=yP (data:=2) (slots:=4) (N:=5) (by decide) (by decide);have hs2:(dz 2 4 5).av=[0,1,2,3]:=by rw[hs];rfl
 unfold gD.next
 rw[hs2];show(⟨Du (1+1),Du (1+1),2,4,0,0,false,[0,1,2,3],((List.range 5).map (iA 2 4)).map _⟩:gD)=_;rw[hm,hc];rfl
theorem Eb:S2.good∧S2.ji:=by
 rw[←Me];exact⟨gD.yO (BL (by unfold ij;decide) (by decide) (by decide)),gD.uz _⟩
theorem JK{n:Int}{m:Mem}(h1:m.st=1)(h2:m.top.size=32)(h3:m.log.size=32):(Bc n m).good:=by
 have g:=Eb.1;obtain⟨g1,⟨g2,g3⟩,g4,g5,g6,g7⟩:=g;refine⟨g1,⟨λx hx=>?_,?_⟩,g4,g5,g6,λi hi=>?_⟩
 ·have hx:x ∈ [lJ,m,lJ,lJ,xE]:=hx;simp only[List.mem_cons,List.not_mem_nil,or_false]at hx;have hA:=g2 lJ (by simp[S2,Bc]);have hZ:=g2 xE (by simp[S2,Bc]);rcases hx with rfl|rfl|rfl|rfl|rfl
  ·exact hA
  ·exact⟨by omega,by omega,h2,h3⟩
  ·exact hA
  ·exact hA
  ·exact hZ
 ·right;refine⟨?_,rfl⟩;show yD [lJ,m,lJ,lJ,xE]=0;simp[yD,h1,lJ,xE]
 ·have hi:i<5:=hi;have h:=g7 i hi;by_cases e:i=1
  ·subst e;intro _;show((1:Nat):Int) ∈ [0,1,2,3]↔m.st≠0;simp[h1]
  ·have:mb (Bc n m).aj i=mb S2.aj i:=by
    have:i=0∨i=2∨i=3∨i=4:=by omega
    rcases this with rfl|rfl|rfl|rfl<;>rfl
   rw[this];exact h
section
variable {B:ak}{V:qG}{key c:ByteArray}{nx:Int}{P:pH}{W:wF}{m:Nat}
theorem Nf(h:oV P.vv m=[])(hb:P.blank=[]):vh B key P W m=(0,W):=by
 unfold vh;by_cases hw:(mb W.S.aj m).o5
 ·exact(if_neg (not_not.2 hw)).trans ((if_neg (show ¬(m:Int)∈P.blank by rw[hb];simp)).trans (if_pos h))
 ·exact if_pos hw
theorem Gr{S:gD}(hm:m<S.aj.length)(h:(mb S.aj m).log=gF):lE S m gF=S:=by
 unfold lE;have:({ mb S.aj m with log:=gF }:Mem)=S.aj[m]:=by
  rw[←h,mJ hm]
 rw[this,List.set_getElem_self]
theorem IG{ws:KV}(h:∀p∈ws,mM p=0)(hl:ws.length≤95):oq ws=(lF ws,yq (lF ws),0):=by
 unfold oq;rw[if_neg (by omega),if_neg (by simp[uO h])]
theorem Ko{ws:KV}(h:∀p∈ws,mM p=0)(hl:ws.length≤95):Iq (nQ (lF ws)):=by
 intro p hp;obtain⟨i,hi,rfl⟩:=List.mem_mapIdx.1 hp;have hll:(lF ws).length=ws.length+1:=by simp[lF]
 refine⟨by simp only;omega,?_⟩;have hm:(lF ws)[i]∈lF ws:=List.getElem_mem _;rcases List.mem_cons.1 hm with e|hs
 ·rw[e,eF];omega
 ·obtain⟨q,hq,e⟩:=List.mem_map.1 hs;rw[←e];exact uq (h q hq)
theorem GX{cells:List ByteArray}{i:Nat}(hi:i<cells.length)(x:ByteArray):mR (nQ cells) (2+(i:Int)) x=sa cells i:=by
 refine rF (λp hp e=>?_) ⟨(2+(i:Int),cells[i]),List.mem_mapIdx.2 ⟨i,hi,rfl⟩,rfl⟩;obtain⟨j,hj,rfl⟩:=List.mem_mapIdx.1 hp;have:j=i:=by simp only at e;omega
 subst this;rw[kM hi]
theorem KX{cells:List ByteArray}{y:Int}(hy:y<2∨100≤y)(hl:cells.length≤96)(x:ByteArray):mR (nQ cells) y x=x:=by
 refine mD λp hp e=>?_;obtain⟨j,hj,rfl⟩:=List.mem_mapIdx.1 hp;simp only at e;omega
end
structure Rn (B:ak) (c:ByteArray):Prop where
 up:Up B 5
 ho:Holds B 1 4 (tL c) (cs0.set 3 c)
 c0:mK B 0 0=gJ S2
 c1:mK B 0 1=gJ (S3 c)
 c2:∀d:Nat,d<5->d≠1->mK B d 2=empty
 lg:Log B 1 (wj c)
 ap:∀x,0≤x->mR (wj c) x (mK B 1 x)=mK B 1 x
section
variable {B:ak}{V:qG}{key c:ByteArray}{nx:Int}{W:wF}{m:Nat}
def oR(c:ByteArray):pH:=⟨S2,[],[(1,3,c)]⟩
theorem Rs(m:Nat):oV (oR c).vv m=if m=1 then [(3,c)] else []:=by
 unfold oV oR;by_cases e:m=1
 ·subst e;rfl
 ·rw[if_neg e];have:¬((1:Int)=(m:Int)):=by omega
  simp[this]
theorem PE(m:Made B 5 2 4):Holds B 1 4 (jx 4) cs0:=m.ho 1 (by decide)
theorem NP(mk:Made V.B 5 2 4)(hc:V.cnt=2)(hk:key.size=32)(hz:c.size≤2032):∃B',qO V key ⟨S2,nx,false⟩ (oR c)=(0,⟨B',3,dH 2 (gJ (S3 c))⟩,⟨S3 c,nx,false⟩)∧Rn B' c:=by
 have u:=mk.up;have v1:Lv V.B 1:=u.lv 1 (by omega);have h1:=PE mk;have hmay:=N8 h1 hz;have hwl:(wj c).length=3:=rfl;have hp:=Gq (key:=key) v1 hk h1 hz;have hok:wJ S2 (oR c):=by
  refine⟨rfl,rfl,?_,by simp[oR],?_⟩
  ·show(xN S2 S2).good;exact Eb.1
  ·intro x hx;have:x=(1,3,c):=by simpa [oR] using hx
   subst this;exact⟨show(0:Int)≤1 by decide,show(1:Int)<((5:Nat):Int) by decide⟩
 obtain⟨W0,hW0⟩:∃W0:wF,W0=⟨Bc 3 lJ,λ_=>none⟩:=⟨_,rfl⟩;obtain⟨W1,hW1⟩:∃W1:wF,W1=⟨Bc 3 lJ,tN.set (λ_=>none) 1 (some (wj c,tL c))⟩:=⟨_,rfl⟩;have no:∀(W:wF) (m:Nat),m≠1->vh V.B key (oR c) W m=(0,W):=λW m hm=>Nf (by rw[Rs,if_neg hm]) rfl;have p1:kO V.B key (oR c) W0 1=(0,W0):=by rw[kO,kO,if_neg (by simp)];exact no _ 0 (by decide)
 have p2:kO V.B key (oR c) W0 2=(0,W1):=by
  rw[kO,p1,if_neg (by simp)];simp only;have hw:(mb W0.S.aj 1).o5:=by subst hW0;exact .inl rfl
  have htop:(mb W0.S.aj 1).top=jx 4:=by subst hW0;rfl
  have hsl:W0.S.slots=4:=by subst hW0;rfl
  unfold vh;rw[if_neg (by simp[hw]),if_neg (show ¬((1:Nat):Int)∈(oR c).blank by simp[oR]),Rs,if_pos rfl,if_neg (by simp),htop,hsl];have hp':sY V.B key ((1:Nat):Int) 4 (jx 4) [(3,c)]=(wj c,tL c,0):=hp;rw[hp'];unfold wF.yL;rw[if_pos rfl];subst hW0 hW1;rfl
 have p5:kO V.B key (oR c) W0 5=(0,W1):=by
  have st:∀m,m≠1->kO V.B key (oR c) W0 m=(0,W1)->kO V.B key (oR c) W0 (m+1)=(0,W1):=λm hm h=>by
   rw[kO,h,if_neg (by simp)];exact no _ m hm
  exact st 4 (by decide) (st 3 (by decide) (st 2 (by decide) p2))
 have stand:∀n x,x.st=1->mu (Bc n x):=λn x hx=>by
  unfold mu I9;show([0,1,2,3]:List Int).countP (λi=>decide ((mb [lJ,x,lJ,lJ,xE] i.toNat).st≠1))≤2;have e0:(mb [lJ,x,lJ,lJ,xE] (0:Int).toNat).st=1:=rfl;have e1:(mb [lJ,x,lJ,lJ,xE] (1:Int).toNat).st=1:=hx;have e2:(mb [lJ,x,lJ,lJ,xE] (2:Int).toNat).st=1:=rfl;have e3:(mb [lJ,x,lJ,lJ,xE] (3:Int).toNat).st=1:=rfl;simp only[List.countP_cons,List.countP_nil,e0,e1,e2,e3];decide
 obtain⟨B2,hB2⟩:∃B2:ak,B2=(dX V.B 1 (nQ (lF (wj c)))).2:=⟨_,rfl⟩;have hfit:=Ko (ws:=wj c) hmay (by rw[hwl];decide);obtain⟨g1,g2,g3,_,_,_⟩:=lT v1 hfit;have f2:Fr V.B B2 1:=by rw[hB2];exact rJ (d:=1)
 rw[←hB2]at g2 g3;have u2:Up B2 5:=u.step f2 g2;obtain⟨W2,hW2⟩:∃W2:wF,W2=⟨S3 c,tN.set (λ_=>none) 1 (some (wj c,tL c))⟩:=⟨_,rfl⟩;have lno:∀(W:wF) (B:ak) (m:Nat),W.J m=none->m<W.S.aj.length->(mb W.S.aj m).log=gF->tZ W B m=(0,W,B):=λW B m hJ hm hl=>by
  unfold tZ;rw[hJ];simp only;rw[Gr hm hl]
 have l1:kD W1 V.B 1=(0,W1,V.B):=by
  rw[kD,kD,if_neg (by simp)];subst hW1;exact lno _ _ 0 rfl (by show 0<5;decide) rfl
 have l2:kD W1 V.B 2=(0,W2,B2):=by
  rw[kD,l1,if_neg (by simp)];simp only;have hJ:W1.J 1=some (wj c,tL c):=by subst hW1;rfl
  have hwl2:oZ V.B ((1:Nat):Int) (wj c)=(0,B2):=by
   unfold oZ;rw[IG (ws:=wj c) hmay (by rw[hwl];decide),if_pos rfl];simp only;have:dX V.B ((1:Nat):Int) (nQ (lF (wj c)))=dX V.B 1 (nQ (lF (wj c))):=rfl;rw[this,hB2];exact Prod.ext g1 rfl
  unfold tZ;rw[hJ];simp only;rw[hwl2,if_pos rfl,IG (ws:=wj c) hmay (by rw[hwl];decide)];subst hW1 hW2;rfl
 have l5:kD W1 V.B 5=(0,W2,B2):=by
  have st:∀m,2≤m->m<5->kD W1 V.B m=(0,W2,B2)->kD W1 V.B (m+1)=(0,W2,B2):=λm hm hm5 h=>by
   rw[kD,h,if_neg (by simp)];subst hW2;have:m=2∨m=3∨m=4:=by omega
   rcases this with rfl|rfl|rfl
   ·exact lno _ _ 2 rfl (by show 2<5;decide) rfl
   ·exact lno _ _ 3 rfl (by show 3<5;decide) rfl
   ·exact lno _ _ 4 rfl (by show 4<5;decide) rfl
  exact st 4 (by decide) (by decide) (st 3 (by decide) (by decide) (st 2 (by decide) (by decide) l2))
 obtain⟨B3,q1,q2,q3⟩:=sK (V:={ V with B:=B2 }) (S:=S3 c) (N:=5) u2 (by decide) (by show V.cnt<3;omega) (by show(0:Int)≤3;decide)
 have ct:(S3 c).count.tmod 2=1:=rfl;rw[ct]at q3;have c12:∀x,100≤x->mK B2 1 x=mK V.B 1 x:=λx hx=>by
  rw[g3 x (by omega),KX (.inr hx) (by simp[lF,hwl])]
 have v3:Lv B3 1:=q2.lv 1 (by omega);have h3:Holds B3 1 4 (jx 4) cs0:=h1.of v1 v3 λx hx _=>by
  have:=q3 1 (by decide) x (by omega);rw[if_neg (by omega)]at this;rw[←c12 x hx];exact this
 obtain⟨ws',top',hpr,hfw,_,hho⟩:=Mg (l:=[(3,c)]) v3 hk h3 (λp hp=>by
  have:p=(3,c):=by simpa using hp
  subst this
  exact⟨show(0:Int)≤3 by decide,show(3:Int)<4 by decide,hz⟩)
 rw[Gq v3 hk h3 hz]at hpr;obtain⟨e1,e2⟩:=Prod.mk.inj hpr;obtain⟨e2,_⟩:=Prod.mk.inj e2;subst e1 e2;obtain⟨k1,k2,k3,_,_,_⟩:=lT v3 hfw;have f4:Fr B3 (dX B3 1 (Cd cs0 c)).2 1:=rJ (d:=1);have u4:=q2.step f4 k2;have hws:∀(x:Int) (y:ByteArray),x<100->mR (Cd cs0 c) x y=y:=λx y hx=>by
  refine mD λp hp=>?_;have:=(uR (hmay p hp)).1;omega
 have hB4:∀(d:Nat) (x:Int),d<5->0≤x->x<100->mK (dX B3 1 (Cd cs0 c)).2 d x=mK B3 d x:=λd x hd h0 hx=>by
  by_cases e:d=1
  ·subst e;have:=k3 x h0;rw[hws x _ hx]at this;exact this
  ·exact f4.mK e x
 refine⟨(dX B3 1 (Cd cs0 c)).2,?_,u4,hho,?_,?_,λd hd h1=>?_,λi hi=>?_,λx hx=>by rw[k3 x hx];exact GZ _ _ _⟩
 ·have hap:nw key 4 W2.J B3 5=(0,(dX B3 1 (Cd cs0 c)).2):=by
   have a1:nw key 4 W2.J B3 1=(0,B3):=by
    rw[nw,nw,if_neg (by simp)];subst hW2;rfl
   have a2:nw key 4 W2.J B3 2=(0,(dX B3 1 (Cd cs0 c)).2):=by
    rw[nw,a1,if_neg (by simp)];have hJ:W2.J 1=some (wj c,tL c):=by subst hW2;rfl
    rw[hJ];simp only;have ha:jN B3 key ((1:Nat):Int) 4 (wj c)=(0,(dX B3 1 (Cd cs0 c)).2):=by
     have:=tY (l:=wj c) (show iS B3 1 4 key from⟨h3.has.hd,hk,v3.nb⟩);have e:jN B3 key ((1:Nat):Int) 4 (wj c)=dX B3 1 (Cd cs0 c):=this;rw[e];exact Prod.ext k1 rfl
    rw[ha,if_neg (by simp)]
   have st:∀m,2≤m->nw key 4 W2.J B3 m=(0,(dX B3 1 (Cd cs0 c)).2)->nw key 4 W2.J B3 (m+1)=(0,(dX B3 1 (Cd cs0 c)).2):=λm hm h=>by
    rw[nw,h,if_neg (by simp)];have hJ:W2.J m=none:=by
     subst hW2;show(if m=1 then _ else none)=none
     rw[if_neg (by omega)]
    rw[hJ]
   exact st 4 (by decide) (st 3 (by decide) (st 2 (by decide) a2))
  unfold qO;rw[if_neg (by simp),if_neg (by simp only;exact not_not.2 hok)];simp only;rw[show(⟨vw S2 (oR c).S,λ_=>none⟩:wF)=W0 by rw[hW0];rfl];unfold NV;rw[show W0.S.aj.length=5 by rw[hW0];rfl];dsimp only;rw[p5];have s1:mu W1.S:=by rw[hW1];exact stand 3 lJ rfl
  simp only[s1,if_true,ne_eq,not_true_eq_false,if_false];unfold NB;rw[show W1.S.aj.length=5 by rw[hW1];rfl];dsimp only;rw[l5];have s2:mu W2.S:=by rw[hW2];exact stand 3 _ rfl
  simp only[s2,if_true,ne_eq,not_true_eq_false,if_false];unfold NH;rw[show W2.S=S3 c by rw[hW2],q1,if_neg (by simp)];unfold NI;simp only;rw[show W2.S=S3 c by rw[hW2],show(S3 c).aj.length=5 from rfl,show(S3 c).slots=4 from rfl,hap];rfl
 ·rw[show mK (dX B3 1 (Cd cs0 c)).2 0 0=mK (dX B3 1 (Cd cs0 c)).2 ((0:Nat):Int) 0 from rfl,hB4 0 0 (by decide) (by decide) (by decide),q3 0 (by decide) 0 (by decide),if_neg (by decide),f2.mK (by decide)];rw[mk.c0 0 (by decide),Me]
 ·rw[show mK (dX B3 1 (Cd cs0 c)).2 0 1=mK (dX B3 1 (Cd cs0 c)).2 ((0:Nat):Int) 1 from rfl,hB4 0 1 (by decide) (by decide) (by decide),q3 0 (by decide) 1 (by decide),if_pos rfl]
 ·rw[hB4 d 2 hd (by decide) (by decide),q3 d hd 2 (by decide),if_neg (by decide),f2.mK h1];exact mk.c2 d hd
 ·have hi4:i<4:=hi;have h5:=hB4 1 (2+(i:Int)) (by decide) (by omega) (by omega);have h6:=q3 1 (by decide) (2+(i:Int)) (by omega);rw[if_neg (by omega)]at h6;have h7:=g3 (2+(i:Int)) (by omega);rw[GX (by simp[lF,hwl];omega)]at h7;rw[←h7];exact h5.trans h6
end
section
variable {B:ak}{key c:ByteArray}
theorem NX(hc:c.size≤2032):∀p∈wj c,mM p=0:=by
 have hl:(GB cs0 c).length=4:=by simp[GB,cs0]
 have hz:∀p∈GB cs0 c,p.size=32:=λp hp=>by
  rcases List.mem_or_eq_of_mem_set hp with hp|rfl
  ·obtain⟨q,_,rfl⟩:=List.mem_map.1 hp;exact jJ _ _
  ·exact jJ _ _
 have p1:=mH hz (i:=1) (by omega) (by omega);have p3:=mH hz (i:=3) (by omega) (by omega);intro p hp;unfold mM;simp only[wj,Cd,List.mem_cons,List.not_mem_nil,or_false]at hp;rcases hp with rfl|rfl|rfl
 ·rw[if_neg (by simp),if_neg (by simp only;omega)]
 ·rw[if_neg (by simp),if_neg (by simp only;omega)]
 ·rw[if_neg (by simp),if_neg (by simp only;omega)]
theorem LZ:∀p∈GB cs0 c,p.size=32:=λp hp=>by
 rcases List.mem_or_eq_of_mem_set hp with hp|rfl
 ·obtain⟨q,_,rfl⟩:=List.mem_map.1 hp;exact jJ _ _
 ·exact jJ _ _
theorem Lj:(tL c).size=32:=jK LZ (by decide) (by simp[GB,cs0])
theorem Ej:(S3 c).good∧(S3 c).ji:=⟨JK rfl Lj (jJ _ _),⟨⟨show(0:Int)≤3 by decide,show(3:Int)<18446744073709551616 by decide⟩,show(0:Int)≤2 by decide,show(2:Int)<18446744073709551616 by decide⟩⟩
theorem NT(d:Rn B c)(hk:key.size=32)(hz:c.size≤2032)(hne:dH 2 (gJ S2)≠dH 2 (gJ (S3 c))):
  ∃V',lH ⟨B,3,dH 2 (gJ (S3 c))⟩ key=(0,V',(S3 c).next)∧Up V'.B 5∧Holds V'.B 1 4 (tL c) (cs0.set 3 c):=by
 have u:=d.up;have v1:Lv B 1:=u.lv 1 (by decide);have hmay:=NX hz;have hwl:(wj c).length=3:=rfl;have hfw:Iq (wj c):=λp hp=>by have:=uR (hmay p hp);omega
 obtain⟨g1,g2,g3,_,_,_⟩:=lT v1 hfw;obtain⟨B2,hB2⟩:∃B2:ak,B2=(dX B 1 (wj c)).2:=⟨_,rfl⟩;have f2:Fr B B2 1:=by rw[hB2];exact rJ (d:=1)
 rw[←hB2]at g2 g3;have u2:Up B2 5:=u.step f2 g2;have hfd:ig B (dH 2 (gJ (S3 c)))=(0,S3 c):=by
  refine My u (by decide) ?_ ?_
  ·rw[show mK B ((0:Nat):Int) 0=gJ S2 from d.c0];exact K4 hne
  ·rw[show mK B ((0:Nat):Int) 1=gJ (S3 c)from d.c1];exact LH (S:=S3 c) Ej.1 Ej.2
 have r1:lq key (S3 c) B 1=(0,B):=by
  obtain⟨h2,h3⟩:=vK (key:=key) (n:=(S3 c).slots) (x:=mb (S3 c).aj 0) (u.lv 0 (by decide)) (d.c2 0 (by decide) (by decide));rw[lq,lq,if_neg (by simp)];simp only;rw[if_neg h2,h3]
 have r2:lq key (S3 c) B 2=(0,B2):=by
  have hm:mb (S3 c).aj 1=⟨1,tL c,M3 c⟩:=rfl;have hrl:lC B ((1:Nat):Int) (M3 c)=(wj c,0):=Na v1 d.lg hmay (by rw[hwl];decide);have hap:jN B key ((1:Nat):Int) (S3 c).slots (wj c)=(0,B2):=by
   have:=tY (l:=wj c) (show iS B 1 4 key from⟨d.ho.has.hd,hk,v1.nb⟩);have e:jN B key ((1:Nat):Int) (S3 c).slots (wj c)=dX B 1 (wj c):=this;rw[e,hB2];exact Prod.ext g1 rfl
  have h1:pN key (S3 c).slots B ((1:Nat):Int) (mb (S3 c).aj 1)=(0,B2):=by
   unfold pN;rw[hm,if_neg (not_not.2 (.inl rfl))];simp only;rw[hrl,if_pos ⟨rfl,by rw[hwl];decide⟩];exact hap
  rw[lq,r1,if_neg (by simp)];simp only;rw[h1,if_neg (by simp)]
 have c22:∀m:Nat,m<5->m≠1->mK B2 m 2=empty:=λm hm h1=>by rw[f2.mK h1];exact d.c2 m hm h1
 have st:∀m,2≤m->m<5->lq key (S3 c) B m=(0,B2)->lq key (S3 c) B (m+1)=(0,B2):=λm h2 hm h=>by
  obtain⟨h3,h4⟩:=vK (key:=key) (n:=(S3 c).slots) (x:=mb (S3 c).aj m) (u2.lv m hm) (c22 m hm (by omega));rw[lq,h,if_neg (by simp)];simp only;rw[if_neg h3,h4]
 have r5:lq key (S3 c) B 5=(0,B2):=st 4 (by decide) (by decide) (st 3 (by decide) (by decide) (st 2 (by decide) (by decide) r2));obtain⟨B',q1,q2,q3⟩:=Dv (V:=⟨B,3,dH 2 (gJ (S3 c))⟩) (S:=S3 c) (N:=5) u (by decide) hk hfd (show(0:Int)<3 by decide) rfl (show(3:Int)<18446744073709551615 by decide) (show(2:Int)<4294967295 by decide) (by simp only;rw[r5]) (by simp only;rw[r5];exact u2);refine⟨_,q1,q2,?_⟩;refine d.ho.of v1 (q2.lv 1 (by decide)) λx hx _=>?_;have h1:=q3 1 (by decide) x (by omega);have ct:((S3 c).count+1).tmod 2=0:=rfl;rw[ct,if_neg (by omega),r5]at h1;have h1:mK B' 1 x=mK B2 1 x:=h1;rw[h1,g3 x (by omega)];exact d.ap x (by omega)
end
abbrev jr:ByteArray:=⟨#[48,49,50,51,52,53,54,55,56,57,97,98,99,100,101,102,48,49,50,51,52,53,54,55,56,57,97,98,99,100,101,102]⟩
theorem mQ:jr.size=32:=rfl
section
variable {V:qG}{key:ByteArray}{T:uY}{P:pH}{c k:Nat}
theorem rW.PB(v:rW V c (k+2600))(ok:T.Ok):rW (qO V key T P).2.1 c k:=by
 unfold qO;split
 ·exact v.mono (by omega)
 split
 ·exact v.mono (by omega)
 rename_i hm;have hm:=not_not.1 hm;have ft0:=Db hm;obtain⟨W0,hW0⟩:∃W0:wF,W0=⟨vw T.S P.S,λ_=>none⟩:=⟨_,rfl⟩;rw[←hW0];have ft0:W0.S.Fit:=by rw[hW0];exact ft0
 have bg0:W0.S.ji:=by rw[hW0];exact⟨DZ _,ok.ji.2⟩
 unfold NV;obtain⟨ft1,al1⟩:=uI (B:=V.B) (key:=key) (P:=P) (W:=W0) ft0 W0.S.aj.length;generalize kO V.B key P W0 W0.S.aj.length=r at *;dsimp only;by_cases g:(if r.1≠0 then r.1 else if mu r.2.S then 0 else 24)=0
 rotate_left
 ·rw[if_pos g];exact v.mono (by omega)
 rw[if_neg (not_not.2 g)];unfold NB;obtain⟨ft2,al2⟩:=xT (B:=V.B) (W:=r.2) ft1 r.2.S.aj.length;have hsh:=wh (B:=V.B) (W:=r.2) r.2.S.aj.length;have m1:=ft1.ml.2;have hB:=Bk.Oq (W:=r.2) r.2.S.aj.length (k:=k+1300) (v.bk.mono (by omega));generalize kD r.2 V.B r.2.S.aj.length=q at *;dsimp only;have vq:rW { V with B:=q.2.2 } c (k+1300):=⟨hB,v.c0,v.c1⟩
 by_cases g2:(if q.1≠0 then q.1 else if mu q.2.1.S then 0 else 24)=0
 rotate_left
 ·rw[if_pos g2];exact vq.mono (by omega)
 rw[if_neg (not_not.2 g2)];have hq:q.1=0:=by
  by_cases e:q.1=0
  ·exact e
  ·rw[if_pos e]at g2;exact absurd g2 e
 have hsh:=hsh hq;have bg2:q.2.1.S.ji:=by
  have a:=al1.trans al2;obtain⟨h1,h2⟩:=bg0;exact⟨by rw[a.co];exact h1,by rw[a.ep];exact h2⟩
 unfold NH;have vp:=(show rW { V with B:=q.2.2 } c ((k+1275)+25)from vq).xu bg2
 generalize iY { V with B:=q.2.2 } q.2.1.S=p at *
 by_cases g3:p.1=0
 rotate_left
 ·rw[if_pos g3];exact vp.mono (by omega)
 rw[if_neg (not_not.2 g3)];unfold NI;have m2:=ft2.ml.2;have hln:q.2.1.S.aj.length=r.2.S.aj.length:=al2.len;exact⟨Bk.app (by rw[hln];exact hsh) (vp.bk.mono (by omega)),vp.c0,vp.c1⟩
end
theorem Py(n c:Int):Bk (ak.new n c) (mx 1 (mn c 512)).toNat 1000000:=by
 have hm:∀D∈(ak.new n c).ds,D=cP.new c:=λD hD=>List.eq_of_mem_replicate (show D∈List.replicate _ (cP.new c)from hD);refine⟨ak.wE n c,⟨by simp[ak.new],by simp[ak.new],λD hD=>?_⟩,Fw n c,λD hD=>?_⟩
 ·rw[hm D hD];simp[cP.new]
 ·rw[hm D hD];simp[cP.new]
theorem I8(n c:Int):rW ⟨ak.new n c,0,empty⟩ (mx 1 (mn c 512)).toNat 1000000:=⟨Py n c,Int.le_refl 0,show(0:Int)<18446744073709551616 by decide⟩
def je:ByteArray:=cellOf jr 1 3 (nX 2 0) jr
theorem BR:je.size=60:=by rw[je,zk,tT,mQ]
theorem Pt{B:ak}(u:Up B 5):Ct B jr ⟨S2,0,false⟩ 1 3 jr=(je,0,⟨S2,1,false⟩):=by
 have hn:nP 2 0=(nX 2 0,0,1):=by unfold nP;rw[if_neg (by decide)];rfl
 have hg:iS B 1 4 jr:=⟨by decide,mQ,(u.lv 1 (by decide)).nb⟩;have hs:xh (iS B 1 4 jr) jr 1 4 3 (nX 2 0) jr=(je,0):=by
  unfold xh;rw[if_neg (by simp[(oz (g:=iS B 1 4 jr)).2 ⟨hg,show(0:Int)≤3∧(3:Int)<4 by decide⟩]),if_neg (by simp[tT,mQ])];rfl
 unfold Ct;rw[if_neg (by simp)];show(if(nP S2.dS 0).2.1≠0 then _ else _)=_
 rw[show nP S2.dS 0=(nX 2 0,0,1)from hn,if_neg (by simp)];show((xh (iS B 1 4 jr) jr 1 4 3 (nX 2 0) jr).1,(xh (iS B 1 4 jr) jr 1 4 3 (nX 2 0) jr).2,(⟨S2,1,false⟩:uY))=_;rw[hs]
theorem NK(b:Nat)(S:gD)(h:S=(S3 je).next):rU b jr S 3=[⟨b,3,4,jr,jx 4,true⟩,⟨b,0,4,jr,jx 4,true⟩,⟨b,1,4,jr,tL je,true⟩,⟨b,2,4,jr,jx 4,true⟩]:=by
 subst h;have hw:lK 2 4 0 false 3=2:=by decide
 have e1:(S3 je).next.data=2:=rfl
 have e2:(S3 je).next.slots=4:=rfl
 have e3:(S3 je).next.mark=0:=rfl
 have e4:(S3 je).next.aJ=false:=rfl
 have e5:(S3 je).next.av=[0,1,2,3]:=rfl
 have m0:mb (S3 je).next.aj 0=⟨1,jx 4,gF⟩:=rfl
 have m1:mb (S3 je).next.aj 1=⟨1,tL je,gF⟩:=rfl
 have m2:mb (S3 je).next.aj 2=⟨1,jx 4,gF⟩:=rfl
 have m3:mb (S3 je).next.aj 3=⟨1,jx 4,gF⟩:=rfl
 have s0:pI 2 4 0 false 3 (0:Nat)=(3,0):=by decide
 have s1:pI 2 4 0 false 3 (1:Nat)=(0,0):=by decide
 have s2:pI 2 4 0 false 3 (2:Nat)=(1,0):=by decide
 have s3:pI 2 4 0 false 3 (3:Nat)=(2,0):=by decide
 unfold rU;rw[e1,e2,e3,e4,hw,if_neg (by decide)];show [sN b jr (S3 je).next 3 0,sN b jr (S3 je).next 3 1,sN b jr (S3 je).next 3 2,sN b jr (S3 je).next 3 3]=_
 unfold sN;rw[e1,e2,e3,e4,e5,s0,s1,s2,s3];have z0:za [0,1,2,3] (3:Int).toNat=3:=rfl;have z1:za [0,1,2,3] (0:Int).toNat=0:=rfl;have z2:za [0,1,2,3] (1:Int).toNat=1:=rfl;have z3:za [0,1,2,3] (2:Int).toNat=2:=rfl;simp only[z0,z1,z2,z3];rw[show(3:Int).toNat=3 from rfl,show(0:Int).toNat=0 from rfl,show(1:Int).toNat=1 from rfl,show(2:Int).toNat=2 from rfl,m0,m1,m2,m3];rfl
end Go.Proofs.YtmfcgihgdhfalaaGreatDoor
namespace Go.Proofs.YtmfcgihgdhfalaaGreatDoor
open Go.Sh Go.RowKit
section
variable {h:H}{a:Option Addr}{l:Nat}{xs:List O6}
theorem Ro.RX{z:Nat}{zi:Int}{K:Option Addr->Int->Int->ByteArray->ByteArray->Bool->Prop}(f:Ro eH h a l xs)(hz:zi=(z:Int))(hl:z<l)
  (k:K (some ⟨(ha xs z).b,0,none⟩) (ha xs z).d (ha xs z).n (ha xs z).key (ha xs z).top (ha xs z).use):
  M.idx a l zi λa34 j35=>M.load h ((Addr.add a34 (j35*6)).add 0) λv36=>M.ptr v36 λp37=>M.load h ((Addr.add a34 (j35*6)).add 1) λv38=>M.int .i64 v38 λn39=>
   M.load h ((Addr.add a34 (j35*6)).add 2) λv40=>M.int .i64 v40 λn41=>M.load h ((Addr.add a34 (j35*6)).add 3) λv42=>M.str v42 λs43=>
   M.load h ((Addr.add a34 (j35*6)).add 4) λv44=>M.str v44 λs45=>M.load h ((Addr.add a34 (j35*6)).add 5) λv46=>M.bool v46 λb47=>K p37 n39 n41 s43 s45 b47:=by
 subst hz;refine f.at (by omega) (by omega) λq hi hc=>?_;simp only[Int.toNat_natCast]at hi hc ⊢;rw[Qd hi]at k;have c0:=hc 0 (by decide);have c1:=hc 1 (by decide);have c2:=hc 2 (by decide);have c3:=hc 3 (by decide);have c4:=hc 4 (by decide);have c5:=hc 5 (by decide);exact⟨_,c0,_,rfl,_,c1,_,rfl,_,c2,_,rfl,_,c3,_,rfl,_,c4,_,rfl,_,c5,_,rfl,k⟩
end
end Go.Proofs.YtmfcgihgdhfalaaGreatDoor
namespace Go.Proofs.YtmfcgihgdhfalaaGreatDoor
open Go.Sh Go.RowKit Classical
theorem N2{h:H}{Q:Bool->H->Prop}(tb:Tabs h)(tl:yo h)(hne:dH 2 (gJ S2)≠dH 2 (gJ (S3 je)))(k:∀h',bq h h'->Q true h'):fF h Q:=by
 unfold fF fF.g;obtain⟨V1,B2,hf,ho,mk⟩:=fresh (key:=jr) (data:=2) (slots:=4) (N:=5) mQ (by unfold ij;decide) (by decide) (by decide);have vo0:=I8 5 140;have hV0:V0 5=⟨ak.new 5 140,0,empty⟩:=rfl;refine bNew λb h1 w1=>C3 λa h2 w2=>?_;have w:=w1.join w2;have w:Wd h h2 (uZ b a (V0 5)):=w;refine y8 (key:=jr) (data:=2) (slots:=4) w (vo0.mono (by omega)) tb tl λh3 w=>?_;have vo1:=(show rW (V0 5) _ (999500+500)from vo0.mono (by omega)).fmt jr 2 4;rw[hf]at w vo1 ⊢;simp only at w vo1 ⊢;rw[Me]at ho;refine yg (key:=jr) w (vo1.mono (by omega)) tb (λe=>by rw[ho]at e;exact absurd rfl e) λ_ p h4 w=>?_;have vo2:=(show rW V1 _ (998300+1200)from vo1.mono (by omega)).tw jr;rw[ho]at w vo2;simp only at w vo2;refine M.aO (λz h'=>z=false∧Wd h h' (uZ b a ⟨B2,2,dH 2 (gJ (dz 2 4 5).next)⟩++[jB p b a jr (nG S2)])) (λJ hJ=>?_) ?_
 ·refine cf rfl (cf rfl ?_);refine mL (w.on (i:=2) rfl).choose_spec.2.2.1 λa1 c1 a2 c2 h5 w5=>?_;exact hJ _ _ ⟨rfl,w.keeps w5.keep⟩
 clear w;rintro _ h5 ⟨rfl,w⟩;refine cf rfl ?_;have w:=w.mv (i:=1) rfl;have w:Wd h h5 [dO b B2,jB p b a jr (nG S2),.blk a (mV 2 (dH 2 (gJ (dz 2 4 5).next)))]:=w
 obtain⟨hx,kx0,kx1,wx,wr,back⟩:=w.split 2;refine FC (d:=1) (slot:=3) (pl:=jr) wx (tb.keep kx0) λh6 w6=>?_;have w:=back _ _ w6;rw[show nG S2=⟨S2,0,false⟩from rfl,Pt mk.up]at w ⊢;clear wx wr back w6;have w:Wd h h6 [dO b B2,jB p b a jr ⟨S2,1,false⟩,.blk a (mV 2 (dH 2 (gJ (dz 2 4 5).next)))]:=w
 refine mL (w.on (i:=1) rfl).choose_spec.2.2.1 λa1 c1 a2 c2 h7 w7=>?_;have w:=(w.mv (i:=1) rfl).join w7;refine M.aK w λb5 h8 w=>?_;have w:Wd h h8 (uZ b a ⟨B2,2,dH 2 (gJ (dz 2 4 5).next)⟩++[jB p b a jr ⟨S2,1,false⟩,.sl 3 1 a1 S2.av.length c1 (eI.row S2.av),.sl 51 3 a2 S2.aj.length c2 (kf.row S2.aj),.blk b5 (.cells #[.int .i64 1,.int .i64 3,.string je] 111)]):=w
 obtain⟨hy,ky0,ky1,wy,wr,back⟩:=w.split 3;obtain⟨B3,hcm,dn⟩:=NP (V:=⟨B2,2,dH 2 (gJ (dz 2 4 5).next)⟩) (key:=jr) (c:=je) (nx:=1) mk rfl mQ (by rw[BR];decide)
 refine Fg (key:=jr) (T:=⟨S2,1,false⟩) (P:=oR je) wy (wr.ro (E:=eI) (xs:=S2.av) 0 rfl (by decide)) (wr.ro (E:=kf) (xs:=S2.aj) 1 rfl (by decide)) Ro.nil (Ro.Ho (E:=eC) (xs:=[(1,3,je)]) (wr.blk 2 rfl) rfl rfl) ⟨by decide,by decide,by decide,by decide⟩ (by show 5=_;exact mk.up.n.symm) mQ (vo2.mono (by omega)) (tb.keep ky0) λh9 w9=>?_;have okT:(⟨S2,1,false⟩:uY).Ok:=(nj (w.on (i:=2) rfl).choose_spec.2.2.1).1;have vo3:=(show rW ⟨B2,2,dH 2 (gJ (dz 2 4 5).next)⟩ _ (900000+2600)from vo2.mono (by omega)).PB (key:=jr) (T:=⟨S2,1,false⟩) (P:=oR je) okT
 have w:=back _ _ w9;rw[hcm]at w vo3 ⊢;simp only at vo3;clear wy wr back w9;have w:=(((w.drop (i:=5) rfl).drop (i:=4) rfl).drop (i:=3) rfl).drop (i:=2) rfl;have w:Wd h h9 (uZ b a ⟨B3,3,dH 2 (gJ (S3 je))⟩):=w;obtain⟨V4,hop,u4,ho4⟩:=NT dn mQ (by rw[BR];decide) hne;refine yg (key:=jr) w (vo3.mono (by omega)) tb (λe=>by rw[hop]at e;exact absurd rfl e) λ_ p2 h10 w=>?_;rw[hop]at w;simp only at w;refine M.jn (cf rfl (cf rfl (cf rfl ?_)));have wst:=(w.on (i:=2) rfl).choose_spec.2.2.1;refine AV wst (tl.keep w.keep) λa3 c3 h11 w11=>?_;have hsh:=NK b (nG (S3 je).next).S rfl
 rw[hsh]at w11 ⊢;have w:=w.join w11;obtain⟨X,hX⟩:∃X:List O6,X=[⟨b,3,4,jr,jx 4,true⟩,⟨b,0,4,jr,jx 4,true⟩,⟨b,1,4,jr,tL je,true⟩,⟨b,2,4,jr,jx 4,true⟩]:=⟨_,rfl⟩;have x0:ha X 0=⟨b,3,4,jr,jx 4,true⟩:=by rw[hX];rfl
 have x1:ha X 1=⟨b,0,4,jr,jx 4,true⟩:=by rw[hX];rfl
 have x2:ha X 2=⟨b,1,4,jr,tL je,true⟩:=by rw[hX];rfl
 rw[←hX]at w ⊢;have hXl:X.length=4:=by rw[hX];rfl
 rw[hXl]at w ⊢;clear hX hsh w11;have w:Wd h h11 [dO b V4.B,.blk a (mV V4.cnt V4.gC),jB p2 b a jr (nG (S3 je).next),.sl 136 6 a3 4 c3 (eH.row X)]:=w
 refine M.times 3 (M.bM (eN (by decide) (Ro.RX (w.ro (E:=eH) 3 rfl (by decide)) (z:=0) rfl (by decide) (M.aK w λb6 h12 w=>⟨rfl,M.bz w 4 rfl (by simp[ag]) rfl λh13 w=>?_⟩))));rw[x0]at w;refine M.gv (w.blk 4 rfl) rfl (cf rfl (M.vis 1 (by decide) ?_));have w:=w.drop (i:=4) rfl;refine M.bM (eN (by decide) (Ro.RX (w.ro (E:=eH) 3 rfl (by decide)) (z:=1) rfl (by decide) (M.aK w λb6 h12 w=>⟨rfl,M.bz w 4 rfl (by simp[ag]) rfl λh13 w=>?_⟩)));rw[x1]at w;refine M.gv (w.blk 4 rfl) rfl (cf rfl (M.vis 2 (by decide) ?_));have w:=w.drop (i:=4) rfl;refine M.bM (eN (by decide) (Ro.RX (w.ro (E:=eH) 3 rfl (by decide)) (z:=2) rfl (by decide) (M.aK w λb6 h12 w=>⟨rfl,M.bz w 4 rfl (by simp[ag]) rfl λh13 w=>?_⟩)));rw[x2]at w;have hb:=w.blk 4 rfl;refine M.gv hb rfl (ct rfl (M.nF hb rfl (M.gv hb rfl (M.gv hb rfl (M.oL hb rfl (M.oL hb rfl ?_))))));have v4:Lv V4.B 1:=u4.lv 1 (by decide);have hg:getM V4.B jr 1 4 (tL je) 3=(jr,0):=by
  have:=Kn (s:=3) v4 mQ ho4 (by decide);have hc:sa (cs0.set 3 je) 3=je:=by
   rw[kM (by simp[cs0]),List.getElem_set_self]
  rw[hc]at this;exact this.trans (EO (key:=jr) (d:=1) (slot:=3) (nonce:=nX 2 0) (pl:=jr) (tT _ _))
 refine ML (w.on (i:=0) rfl).choose_spec.2.2.1 v4.ti.sm (tb.keep w.keep) λh14 Mv=>?_;have w:=w.keeps Mv;rw[hg];refine ct (by rw[kg];exact decide_eq_true rfl) (mL (w.on (i:=2) rfl).choose_spec.2.2.1 λa4 c4 a5 c5 h15 w15=>?_);have h3:((nG (S3 je).next).S.dS == 3)=true:=by decide
 rw[h3];exact k _ (w.keep.trans w15.keep)
end Go.Proofs.YtmfcgihgdhfalaaGreatDoor
namespace Go.Proofs.YtmfcgihgdhfalaaGreatDoor
open Go.Sh Go.RowKit
section
variable {hx h0 h:H}{b:Nat}{B:ak}{d n slot:Int}{key top:ByteArray}{xs:List (Int×ByteArray)}{a:Option Addr}{l c:Nat}
theorem E0(w:Wd h0 h [fV b B]):B.Ok:=by
 obtain⟨_,⟨ok,_⟩,_⟩:=w.tw 0 rfl;exact ok
theorem Ba{Q:Bool->H->Prop}(wx:Wd hx h [fV b B])(k:∀h',bq h h'->Q (decide (iS B d n key)) h'):fL (some ⟨b,0,none⟩) d n key h Q:=by
 unfold fL;have w:=Wd.start h;refine M.aK w λb2 h1 w=>?_;simp only[bs,lb (w.blk 0 rfl)];refine vj ?_;refine M.jn ?_;by_cases hd:dep n=0
 ·rw[decide_eq_false (show ¬iS B d n key from λg=>g.1 hd)]at k;refine gI (by omega) ?_;exact k _ w.keep
 ·refine eN (by omega) ?_;simp only[bs,lb (w.blk 0 rfl)];by_cases hk:key.size=32
  ·refine ct (by rw[hk];rfl) ?_;refine ct (rfl) ?_;by_cases h0:0≤d
   ·refine eN h0 ?_;have wb:=wx.keeps w.keep;obtain⟨⟨a2,c2,ps⟩,⟨ok,hl⟩,wb⟩:=wb.tw 0 rfl;simp only[lb (wb.blk 0 rfl),bs];have e:decide (iS B d n key)=decide (d<(B.ds.length:Int)):=by
     rw[Bool.eq_iff_iff,decide_eq_true_iff,decide_eq_true_iff];constructor
     ·exact λg=>(ak.jX.1 g.2.2).2
     ·exact λg=>⟨hd,hk,ak.jX.2 ⟨h0,g⟩⟩
    have:=k _ w.keep;rw[e]at this;exact this
   ·rw[decide_eq_false (show ¬iS B d n key from λg=>h0 (ak.jX.1 g.2.2).1)]at k;exact gI h0 (k _ w.keep)
  ·refine cf (by rw[beq_eq_false_iff_ne];omega) ?_;rw[decide_eq_false (show ¬iS B d n key from λg=>hk g.2.1)]at k;exact k _ w.keep
theorem zq{Q:Int->H->Prop}(w0:Wd h0 h [fV b B])(f:Ro eP h0 a l xs)(rm:Room B (xs.length+1))(k:∀h',Wd h0 h' [fV b (jN B key d n xs).2]->Q (jN B key d n xs).1 h'):ew (some ⟨b,0,none⟩) d n key a l c h Q:=by
 unfold ew;have w:=w0;have hlen:=f.len;have ok:=E0 w0;have hl9:l<1000000000:=by have:=rm.steps;have:=ok.Qx;omega
 refine M.aK w λb2 h1 w=>?_;simp only[bs,lb (w.blk 1 rfl)];obtain⟨hx,k0,k1,wx,wr,_⟩:=w.on (i:=0) rfl;refine Ba wx λh2 k2=>?_;have w:=w.keeps k2;unfold jN at k;by_cases g:iS B d n key
 ·rw[if_neg (by simp[g])]at k;refine cf (by simp[g]) (M.jn ?_)
  refine M.aP (I:=λ(i:Int) h'=>∃(m:Nat) (B':ak),m≤l∧i=(m:Int)∧Room B' (xs.length-m+1)∧dX B d xs=dX B' d (xs.drop m) ∧
   Wd h0 h' [fV b B',.blk b2 (.cells #[.pointer (some ⟨b,0,none⟩),.int .i64 d,.int .i64 n,.string key] 173)]) (μ:=λi=>(l-i).toNat) ⟨0,B,by omega,rfl,rm,rfl,w⟩ ?_
  clear w wx wr;rintro _ h3 J ⟨m,B',hm,rfl,rm',hw,w⟩ hJ;by_cases hlt:m<l
  ·refine eN (by omega) ?_;have v1:wrap .i64 ((m:Int)+1)=((m+1:Nat):Int):=by rw[IntKind.wrap_i64];omega
   simp only[bs,lb (w.blk 1 rfl)];refine Ro.Oe (f.keep w.keep) (by omega) (by omega) ?_;simp only[Int.toNat_natCast];refine Ro.Pu (f.keep w.keep) (by omega) (by omega) ?_;simp only[Int.toNat_natCast];obtain⟨hx,k0,k1,wx,wr,back⟩:=w.on (i:=0) rfl;have ok':=E0 wx;rw[Af (by omega),dX]at hw;refine IV wx (by have:=rm'.steps;omega) rm'.left (rm'.hU d) λh7 w1=>?_;have w:=back _ _ w1;simp only[bs]at w;by_cases e:(B'.write d (pa xs m).1 (pa xs m).2).1=0
   ·rw[if_neg (by simp[e])]at hw;refine cf (by rw[bne_eq_false_iff_eq];exact e) (M.vis _ v1 ?_);exact hJ _ _ ⟨m+1,_,by omega,rfl,(vH ok'.left rm' d _ _).mono (by omega),hw,w⟩ (by omega)
   ·rw[if_pos e]at hw;rw[hw]at k;exact ct (by rw[bne_iff_ne];exact e) (k _ (w.drop (i:=1) rfl))
  ·refine gI (by omega) ?_;simp only[bs,lb (w.blk 1 rfl)];obtain⟨hx,k0,k1,wx,wr,back⟩:=w.on (i:=0) rfl;rw[List.drop_of_length_le (by omega),dX]at hw;rw[hw]at k;refine Jt wx (by have:=rm'.steps;omega) rm'.left (rm'.hU d) λh7 w1=>?_;have w:=back _ _ w1;exact k _ (w.drop (i:=1) rfl)
 ·rw[if_pos g]at k;exact ct (by simp[g]) (k _ (w.drop (i:=1) rfl))
theorem Ge{Q:Option Addr->Nat->Nat->ByteArray->Int->H->Prop}(wx:Wd hx h [fV b B])(g:iS B d n key)(tb:qa h)(k:∀a c h',Wd h h' [.sl 267 2 a (jQ n).length c (eP.row (jQ n))]->Q a (jQ n).length c (jx n) 0 h'):ga (some ⟨b,0,none⟩) d n key h Q:=by
 unfold ga ga.g;have w:=Wd.start h;have hn:=iC g.1;refine M.aK w λb2 h1 w=>?_;simp only[bs,Nat.reduceMul,lb (w.blk 0 rfl)];refine Ba (wx.keeps w.keep) λh2 k2=>?_;have w:=w.keeps k2;refine cf (by simp[g]) ?_;have esz:ByteArray.empty.size=0:=rfl;refine pO (by omega) (by omega) (tb.keep w.keep) λh3 k_=>?_;have w:=w.keeps k_;clear k_;have hlf:dH (UInt8.ofNat (Int.toNat 0)) empty=zG empty:=rfl;rw[hlf];have hN:n=(n.toNat:Int):=by omega
 have hdN:dep (n.toNat:Int)≠0:=by rw[←hN];exact g.1
 refine M.jn ?_
 refine M.aP (I:=λ(p:(Option Addr×Nat×Nat)×Int) h'=>∃m:Nat,m≤n.toNat∧p.2=(m:Int)∧p.1.2.1=m ∧
   Wd h h' [.blk b2 (.cells #[.pointer (some ⟨b,0,none⟩),.int .i64 d,.int .i64 n,.string key] 173),.sl 9 1 p.1.1 p.1.2.1 p.1.2.2 (eS.row (List.replicate m (zG empty)))]) (μ:=λp=>(n-p.2).toNat) ⟨0,by omega,rfl,rfl,w.jt _ _⟩ ?_
 clear w;rintro⟨⟨a3,l3,c3⟩,_⟩ h3 J ⟨m,hm,hi,hl,w⟩ hJ;simp only at hi hl w ⊢;subst hi hl;simp only[bs,lb (w.blk 0 rfl)];by_cases hlt:(l3:Int)<n
 ·refine eN hlt ?_;have v1:wrap .i64 ((l3:Int)+1)=((l3+1:Nat):Int):=by rw[IntKind.wrap_i64];omega
  refine Wd.push w 1 rfl rfl rfl (by simp[ag]) (by omega) (by omega) λa6 c7 h4 w=>?_;simp only[v1];refine M.dN ?_;refine hJ _ _ ⟨l3+1,by omega,rfl,rfl,?_⟩ (by simp only;omega);rw[List.replicate_succ',eS.iX,eS.row_one];exact w
 refine gI hlt ?_;obtain rfl:l3=n.toNat:=by omega
 have eb:List.replicate n.toNat (zG empty)=j5 n:=rfl;rw[eb]at w;refine Cb (c:=c3) (w.ro 1 rfl (by decide)) hdN (oM n) (tb.keep w.keep) λa4 c4 h6 w'=>?_;have w:=w.join w';clear w';have hbl:(mS (j5 n)).length=n.toNat:=by simp[mS,ox]
 have w:=(w.drop (i:=1) rfl);have hat:∀i,0<i->i<n.toNat->sa (mS (j5 n)) i=fU (j5 n) i:=by
  intro i h0 h1;rw[mS,rE _ (by rw[ox];exact h1),if_neg (by omega)]
 have htop:iz (j5 n) 1=jx n:=rfl;rw[htop];generalize hW1:(λi:Nat=>((100+((i+1:Nat):Int),fU (j5 n) (i+1)):Int×ByteArray))=W1 at *;generalize hW2:(λi:Nat=>((120+((i:Nat):Int),empty):Int×ByteArray))=W2 at *;have hbw:jQ n=(List.range (n.toNat-1)).map W1++(List.range n.toNat).map W2:=by rw[jQ,←hW1,←hW2]
 rw[hbw]at k;generalize jx n=tp at *;generalize mS (j5 n)=bp at *;clear hJ J;generalize hNN:n.toNat=N at *;refine M.jn ?_
 refine M.aP (I:=λ(p:(Option Addr×Nat×Nat)×Int) h'=>∃m:Nat,m+1≤N∧p.2=((m+1:Nat):Int)∧p.1.2.1=m ∧
   Wd h h' [.blk b2 (.cells #[.pointer (some ⟨b,0,none⟩),.int .i64 d,.int .i64 n,.string key] 173),.sl 9 1 a4 N c4 (eS.row bp),.sl 267 2 p.1.1 p.1.2.1 p.1.2.2 (eP.row ((List.range m).map W1))]) (μ:=λp=>(N-p.2).toNat) ⟨0,by omega,rfl,rfl,w.jt _ _⟩ ?_
 clear w;rintro⟨⟨a5,l5,c5⟩,_⟩ h7 J ⟨m,hm,hi,hl,w⟩ hJ;simp only at hi hl w ⊢;subst hi hl;simp only[bs,lb (w.blk 0 rfl)];by_cases hlt:l5+1<N
 ·refine eN (by omega) ?_;have v1:wrap .i64 (((l5+1:Nat):Int)+1)=((l5+1+1:Nat):Int):=by rw[IntKind.wrap_i64];omega
  have v2:wrap .i64 (100+((l5+1:Nat):Int))=100+((l5+1:Nat):Int):=by rw[IntKind.wrap_i64];omega
  have ha:=hat (l5+1) (by omega) hlt;simp only[v1,v2];refine M.dN ?_;refine Ro.vu (w.ro 1 rfl (by decide)) (by omega) (by omega) ?_;refine Wd.push w 2 rfl rfl rfl (by simp[ag]) (by omega) (by omega) λa6 c7 h4 w=>?_;refine M.dN ?_;simp only[Int.toNat_natCast,ha]at w;refine hJ _ _ ⟨l5+1,by omega,rfl,rfl,?_⟩ (by simp only;omega);rw[List.range_succ,List.map_append,eP.iX];have:eP.row (List.map W1 [l5])=[.int .i64 (100+((l5+1:Nat):Int)),.string (fU (j5 n) (l5+1))]:=by rw[←hW1];rfl
  rw[this];exact w
 ·refine gI (by omega) ?_;have hl5:l5=N-1:=by omega
  rw[←hl5]at k;clear hJ J;refine M.jn ?_
  refine M.aP (I:=λ(p:(Option Addr×Nat×Nat)×Int) h'=>∃m:Nat,m≤N∧p.2=(m:Int)∧p.1.2.1=l5+m ∧
   Wd h h' [.blk b2 (.cells #[.pointer (some ⟨b,0,none⟩),.int .i64 d,.int .i64 n,.string key] 173),.sl 9 1 a4 N c4 (eS.row bp),.sl 267 2 p.1.1 p.1.2.1 p.1.2.2 (eP.row ((List.range l5).map W1++(List.range m).map W2))]) (μ:=λp=>(N-p.2).toNat) ⟨0,by omega,rfl,rfl,by simpa using w⟩ ?_
  clear w;rintro⟨⟨a6,l6,c6⟩,_⟩ h8 J ⟨m,hm2,hi,hl,w⟩ hJ;simp only at hi hl w ⊢;subst hi hl;simp only[bs,lb (w.blk 0 rfl)];by_cases hlt2:m<N
  ·refine eN (by omega) ?_;have v1:wrap .i64 ((m:Int)+1)=((m+1:Nat):Int):=by rw[IntKind.wrap_i64];omega
   have v2:wrap .i64 (120+(m:Int))=120+(m:Int):=by rw[IntKind.wrap_i64];omega
   simp only[v1,v2];refine M.dN ?_;refine Wd.push w 2 rfl rfl rfl (by simp[ag]) (by omega) (by omega) λa7 c8 h4 w=>?_;refine M.dN ?_;refine hJ _ _ ⟨m+1,by omega,rfl,by simp only;omega,?_⟩ (by simp only;omega);rw[List.range_succ,List.map_append,←List.append_assoc,eP.iX];have:eP.row (List.map W2 [m])=[.int .i64 (120+(m:Int)),.string empty]:=by rw[←hW2];rfl
   rw[this];exact w
  ·refine gI (by omega) ?_;obtain rfl:m=N:=by omega
   have:=k a6 c6 h8;simp only[List.length_append,List.length_map,List.length_range]at this;exact this ((w.drop (i:=0) rfl).drop (i:=0) rfl)
end
end Go.Proofs.YtmfcgihgdhfalaaGreatDoor
namespace Go.Proofs.YtmfcgihgdhfalaaGreatDoor
open Go.Sh Go.RowKit Classical
theorem MA{n:Int}:dep n=0↔n≠2∧n≠4∧n≠8∧n≠16:=by
 constructor
 ·intro h;refine⟨?_,?_,?_,?_⟩ <;>rintro rfl<;>revert h<;>decide
 ·intro h;refine Decidable.not_not.1 λg=>?_;rcases oE g with e|e|e|e<;>omega
section
variable {h0 h:H}{d n m:Int}{g:Bool}
theorem PN{Q:Bool->H->Prop}(k:∀h',bq h h'->Q (decide (ij d n m g)) h'):iR d n m g h Q:=by
 unfold iR;refine M.aK (Wd.start h) λb h1 w=>?_;have hb:=w.blk 0 rfl;have kT:=yZ k;have kF:=zI k;clear k;unfold ij at kT kF;have kk:=w.keep;refine M.aO (λz h'=>z=decide (dep n=0)∧h'=h1) (λJ hJ=>M.gv hb rfl ?_) ?_
 ·have tk:∀{z:Bool},(z=true↔n≠2∧n≠4∧n≠8∧n≠16)->J z h1:=λh=>hJ _ _ ⟨jT (h.trans MA.symm),rfl⟩;by_cases e1:n=2
  ·exact cf (by simp[e1]) (tk (by simp[e1]))
  refine ct (by simpa using e1) (M.gv hb rfl ?_);by_cases e2:n=4
  ·exact cf (by simp[e2]) (tk (by simp[e2]))
  refine ct (by simpa using e2) (M.gv hb rfl ?_);by_cases e3:n=8
  ·exact cf (by simp[e3]) (tk (by simp[e3]))
  exact ct (by simpa using e3) (M.gv hb rfl (tk (by rw[bne_iff_ne];simp[e1,e2,e3])))
 rintro _ h9 ⟨rfl,e9⟩;rw[e9];by_cases e0:dep n=0
 ·exact ct (decide_eq_true e0) (kF _ kk λg=>g.1 e0)
 refine cf (decide_eq_false e0) (M.aO (λz h'=>z=decide (d<2∨d>8∨g=true∧d=8)∧h'=h1) (λJ hJ=>M.gv hb rfl ?_) ?_)
 ·by_cases e1:d<2
  ·exact eN e1 (hJ _ _ ⟨(decide_eq_true (.inl e1)).symm,rfl⟩)
  refine gI e1 (M.gv hb rfl ?_);by_cases e2:d>8
  ·exact eN e2 (hJ _ _ ⟨(decide_eq_true (.inr (.inl e2))).symm,rfl⟩)
  refine gI e2 (M.Bi hb rfl ?_);cases g with
  | true=>exact ct rfl (M.gv hb rfl (hJ _ _ ⟨jT (by rw[beq_iff_eq];simp only[true_and];omega),rfl⟩))
  | false=>exact cf rfl (hJ _ _ ⟨(decide_eq_false (by simp;omega)).symm,rfl⟩)
 rintro _ h9 ⟨rfl,e9⟩;rw[e9];by_cases e1:d<2∨d>8∨g=true∧d=8
 ·refine ct (decide_eq_true e1) (kF _ kk λq=>?_);obtain⟨_,h2,h3,_⟩:=q;rcases e1 with e|e|⟨e,e'⟩
  ·omega
  ·split at h3<;>omega
  ·rw[if_pos e]at h3;omega
 have h23:2≤d∧d≤(if g=true then 7 else 8):=by
  cases g with
  | true=>simp at e1 ⊢;omega
  | false=>simp at e1 ⊢;omega
 refine cf (decide_eq_false e1) (M.jn (M.gv hb rfl ?_));by_cases e4:m≥0;rotate_left
 ·exact gI e4 (kF _ kk λg=>e4 g.2.2.2.1)
 refine eN e4 (M.gv hb rfl (M.gv hb rfl ?_));by_cases e5:m<n;rotate_left
 ·exact gI e5 (kF _ kk λg=>e5 g.2.2.2.2.1)
 refine eN e5 (M.Bi hb rfl ?_);cases g with
 | true=>exact ct rfl (kT _ kk ⟨e0,h23.1,h23.2,e4,e5,.inl rfl⟩)
 | false=>
  refine cf rfl (M.gv hb rfl ?_);by_cases e6:m=0
  ·have:(m == 0)=true:=by simp[e6]
   rw[this];exact kT _ kk ⟨e0,h23.1,h23.2,e4,e5,.inr e6⟩
  ·have:(m == 0)=false:=by simp[e6]
   rw[this];exact kF _ kk λg=>by rcases g.2.2.2.2.2 with h|h;simp at h;exact e6 h
theorem Pn{x:Mem}{Q:Bool->H->Prop}(k:∀h',bq h h'->Q (decide x.o5) h'):hO x.st x.top x.log h Q:=by
 unfold hO;refine M.aK (Wd.start h) λb h1 w=>M.jn (M.gv (w.blk 0 rfl) rfl ?_);have kT:=yZ k;have kF:=zI k;clear k;unfold Mem.o5 at kT kF;by_cases e:x.st=1
 ·exact ct (by simpa using e) (kT _ w.keep (.inl e))
 refine cf (by simpa using e) (M.gv (w.blk 0 rfl) rfl ?_);by_cases e3:x.st=3
 ·have:(x.st == 3)=true:=by simp[e3]
  rw[this];exact kT _ w.keep (.inr e3)
 ·have:(x.st == 3)=false:=by simp[e3]
  rw[this];exact kF _ w.keep λg=>g.elim e e3
def kU(n:Int)(d:ByteArray):Obj:=.cells #[.int .u64 n,.string d] 67
theorem Sq{a:Nat}{dg s:ByteArray}{Q:Int->H->Prop}(w:Wd h0 h [.blk a (kU n dg)])(hs:s.size=32)(k:∀h',Wd h0 h' [.blk a (kU (BW n dg m s).2.1 (BW n dg m s).2.2)]->Q (BW n dg m s).1 h'):jF (some ⟨a,0,none⟩) m s h Q:=by
 unfold jF;have hb:=w.blk 0 rfl;unfold BW at k;refine cf (by simp[hs]) (iw (M.gv hb rfl ?_));by_cases e:m≤n
 ·rw[if_pos e]at k;exact eN e (k _ w)
 ·rw[if_neg e]at k;exact gI e (iw (M.bg w 0 rfl rfl (by simp) λh1 w1=>iw (M.bg w1 0 rfl rfl (by simp) λh2 w2=>k _ w2)))
end
section
variable {h0 h:H}{s:gD}{sa ma:Option Addr}{sl sc ml mc:Nat}
theorem Nq{l:List Int}{y:Nat}{x:Int}(h:y<l.length):(l.take (y+1)).count x=(l.take y).count x+if za l y=x then 1 else 0:=by
 rw[List.take_succ_eq_append_getElem h,List.count_append,kP h,List.count_singleton];congr 1;by_cases e:l[y]=x<;>simp[e]
theorem EK{x:Int}{Q:Int->H->Prop}(f1:Ro eI h sa sl s.av)(hl1:sl≤1000000)(k:∀h',bq h h'->Q ((s.av.count x:Nat):Int) h'):gz s.count s.dS s.data s.slots s.mark s.built s.aJ sa sl sc ma ml mc x h Q:=by
 unfold gz;have hx1:=f1.len;refine M.aK (Wd.start h) λb h1 w=>?_;have hb:=w.blk 0 rfl;have kk:=w.keep;refine M.aP (I:=λ(p:Int×Int) h'=>∃y:Nat,y≤sl∧p=((((s.av.take y).count x:Nat):Int),(y:Int))∧h'=h1) (μ:=λp=>(sl-p.2).toNat) ⟨0,by omega,rfl,rfl⟩ ?_;rintro⟨c,i⟩ h5 J ⟨y,hy,hd,e5⟩ hJ;obtain⟨rfl,rfl⟩:=Prod.mk.inj hd;rw[e5];refine M.lW hb rfl ?_;by_cases gy:y<sl
 ·have hs:=Nq (l:=s.av) (y:=y) (x:=x) (by omega);have hc:(s.av.take y).count x≤y:=Nat.le_trans List.count_le_length (by simp;omega);have v1:wrap .i64 ((y:Int)+1)=((y+1:Nat):Int):=by rw[IntKind.wrap_i64];omega
  refine eN (by simp only[];omega) (M.jn (M.lW hb rfl ((f1.keep kk).Ii (by simp only[];omega) (by simp only[];omega) ?_)));simp only[Int.toNat_natCast];by_cases e:za s.av y=x
  ·rw[if_pos e]at hs;exact ct (by simpa using e) (M.vis (((s.av.take (y+1)).count x:Nat):Int) (by rw[IntKind.wrap_i64];omega) (M.vis _ v1 (hJ _ _ ⟨y+1,by omega,rfl,rfl⟩ (by simp only[];omega))))
  ·rw[if_neg e]at hs;exact cf (by simpa using e) (M.vis _ v1 (hJ _ _ ⟨y+1,by omega,by rw[hs];rfl,rfl⟩ (by simp only[];omega)))
 ·obtain rfl:y=sl:=by omega
  refine gI (by simp only[];omega) ?_;rw[List.take_of_length_le (by omega)];exact k _ kk
def JN(s:gD)(i:Nat):Prop:=(mb s.aj i).ok∧s.av.count (i:Int)≤1∧(s.av.count (i:Int)=1->(mb s.aj i).st≠0)∧(s.av.count (i:Int)=0->¬((mb s.aj i).st=1∨(mb s.aj i).st=3))
def zU(s:gD):Prop:=((2≤s.data∧s.data≤(if s.aJ=true then 7 else 8)∧(s.av.length:Int)=s.mT)∧dep s.slots≠0∧(0≤s.mark∧s.mark≤s.slots∧0≤s.built∧s.built≤s.slots∧¬(0<s.mark∧s.aJ=false))∧1≤s.aj.length∧s.aj.length≤12) ∧
 (∀i,i<s.aj.length->JN s i)∧(∀i∈s.av,0≤i∧i<s.aj.length)∧(yD s.aj=1∨yD s.aj=0∧s.built=0)
theorem MQ{l:List Mem}{P:Mem->Prop}:(∀m∈l,P m)↔∀i,i<l.length->P (mb l i):=by
 constructor
 ·intro h i hi;rw[mJ hi];exact h _ (List.getElem_mem _)
 ·intro h m hm;obtain⟨i,hi,rfl⟩:=List.getElem_of_mem hm;rw[←mJ hi];exact h i hi
theorem Fv(s:gD):zU s↔s.good:=by
 unfold zU gD.good gD.xe gD.Ar gD.xq;have e1:(2≤s.data∧s.data≤(if s.aJ=true then 7 else 8))↔(2≤s.data∧s.data≤8∧¬(s.aJ=true∧s.data=8)):=by
  cases s.aJ<;>simp<;>omega
 constructor
 ·rintro⟨⟨⟨a1,a2,a3⟩,b,⟨c1,c2,c3,c4,c5⟩,m1,m2⟩,hm,hr,hb⟩;refine⟨⟨e1.1 ⟨a1,a2⟩,b,⟨c1,c2,c5⟩,c3,c4,m1,m2⟩,⟨MQ.2 λi hi=>(hm i hi).1,hb⟩,a3,hr,List.nodup_iff_count.2 λx=>?_,λi hi h2=>?_⟩
  ·by_cases hx:x∈s.av
   ·obtain⟨r1,r2⟩:=hr x hx;have:=(hm x.toNat (by omega)).2.1
    rwa [Int.toNat_of_nonneg r1]at this
   ·rw[List.count_eq_zero_of_not_mem hx];omega
  ·obtain⟨⟨q1,q2,_⟩,k1,k2,k3⟩:=hm i hi;by_cases hc:s.av.count (i:Int)=0
   ·have:=k3 hc;have hn:¬(i:Int)∈s.av:=List.count_eq_zero.1 hc;simp only[hn,false_iff,ne_eq,Decidable.not_not];omega
   ·have hn:(i:Int)∈s.av:=List.count_pos_iff.1 (by omega);simp only[hn,true_iff];exact k2 (by omega)
 ·rintro⟨⟨a,b,⟨c1,c2,c5⟩,c3,c4,m1,m2⟩,⟨hm,hb⟩,a3,hr,hn,hs⟩;obtain⟨a1,a2⟩:=e1.2 a;refine⟨⟨⟨a1,a2,a3⟩,b,⟨c1,c2,c3,c4,c5⟩,m1,m2⟩,λi hi=>?_,hr,hb⟩;have hok:=MQ.1 hm i hi;have h1:=List.nodup_iff_count.1 hn (i:Int);have h2:=hs i hi;refine⟨hok,h1,λhc h0=>?_,λhc=>?_⟩
  ·have hin:(i:Int)∈s.av:=List.count_pos_iff.1 (by omega);exact(h2 (by omega)).1 hin h0
  ·have hin:¬(i:Int)∈s.av:=List.count_eq_zero.1 hc;rintro(e|e)
   ·exact hin ((h2 (by omega)).2 (by omega))
   ·exact hin ((h2 (by omega)).2 (by omega))
theorem PD{Q:Bool->H->Prop}(f1:Ro eI h sa sl s.av)(f:Ro kf h ma ml s.aj)(hl:ml≤1000000)(hl1:sl≤1000000)(k:∀h',bq h h'->Q (decide s.good) h'):gP s.count s.dS s.data s.slots s.mark s.built s.aJ sa sl sc ma ml mc h Q:=by
 unfold gP;have kT:=yZ k;have kF:=zI k;clear k;rw[←Fv]at kT kF;unfold zU at kT kF;have hx:=f.len;have hx1:=f1.len;refine M.aK (Wd.start h) λb h1 w=>?_;have hb:=w.blk 0 rfl;have kk:=w.keep;refine M.gv hb rfl (dN (M.aO (λz h'=>z=((if s.aJ=true then 7 else 8),wrap .i64 (s.data+(if s.aJ=true then 3 else 2)))∧h'=h1) (λJ hJ=>M.Bi hb rfl ?_) ?_))
 ·cases hg:s.aJ with
  | true=>exact ct rfl (M.gv hb rfl (dN (hJ _ _ ⟨by simp[hg],rfl⟩)))
  | false=>exact cf rfl (hJ _ _ ⟨by simp[hg],rfl⟩)
 rintro _ h9 ⟨rfl,e9⟩;rw[e9];clear e9;refine M.aO (λz h'=>z=decide (¬(2≤s.data∧s.data≤(if s.aJ=true then 7 else 8)∧(s.av.length:Int)=s.mT))∧h'=h1) (λJ hJ=>M.gv hb rfl ?_) ?_
 ·by_cases e1:s.data<2
  ·exact eN e1 (hJ _ _ ⟨dT (by omega),rfl⟩)
  refine gI e1 (M.gv hb rfl ?_);by_cases e2:s.data>(if s.aJ=true then 7 else 8)
  ·exact eN e2 (hJ _ _ ⟨dT (by omega),rfl⟩)
  refine gI e2 (M.lW hb rfl (hJ _ _ ⟨jT ?_,rfl⟩));have hw:wrap .i64 (s.data+(if s.aJ=true then 3 else 2))=s.mT:=by
   rw[gD.mT,IntKind.wrap_i64];split at e2<;>rename_i hg<;>simp only[hg] <;>simp<;>omega
  simp only[hw];rw[bne_iff_ne,←hx1];constructor
  ·exact λh g=>h g.2.2
  ·exact λh g=>h ⟨by omega,by omega,g⟩
 rintro _ h9 ⟨rfl,e9⟩;rw[e9];clear e9;by_cases g1:2≤s.data∧s.data≤(if s.aJ=true then 7 else 8)∧(s.av.length:Int)=s.mT
 rotate_left
 ·exact ct (decide_eq_true g1) (kF _ kk λg=>g1 g.1.1)
 refine cf (by simpa using g1) (M.aO (λz h'=>z=decide (dep s.slots=0)∧h'=h1) (λJ hJ=>M.gv hb rfl ?_) ?_)
 ·have tk:∀{z:Bool},(z=true↔s.slots≠2∧s.slots≠4∧s.slots≠8∧s.slots≠16)->J z h1:=λh=>hJ _ _ ⟨jT (h.trans MA.symm),rfl⟩;by_cases e1:s.slots=2
  ·exact cf (by simp[e1]) (tk (by simp[e1]))
  refine ct (by simpa using e1) (M.gv hb rfl ?_);by_cases e2:s.slots=4
  ·exact cf (by simp[e2]) (tk (by simp[e2]))
  refine ct (by simpa using e2) (M.gv hb rfl ?_);by_cases e3:s.slots=8
  ·exact cf (by simp[e3]) (tk (by simp[e3]))
  exact ct (by simpa using e3) (M.gv hb rfl (tk (by rw[bne_iff_ne];simp[e1,e2,e3])))
 rintro _ h9 ⟨rfl,e9⟩;rw[e9];clear e9;by_cases g2:dep s.slots=0
 ·exact ct (decide_eq_true g2) (kF _ kk λg=>g.1.2.1 g2)
 refine cf (decide_eq_false g2) (M.aO (λz h'=>z=decide (¬(0≤s.mark∧s.mark≤s.slots∧0≤s.built∧s.built≤s.slots∧¬(0<s.mark∧s.aJ=false)))∧h'=h1) (λJ hJ=>M.gv hb rfl ?_) ?_)
 ·by_cases e1:s.mark<0
  ·exact eN e1 (hJ _ _ ⟨dT (by omega),rfl⟩)
  refine gI e1 (M.gv hb rfl (M.gv hb rfl ?_));by_cases e2:s.mark>s.slots
  ·exact eN e2 (hJ _ _ ⟨dT (by omega),rfl⟩)
  refine gI e2 (M.gv hb rfl ?_);by_cases e3:s.built<0
  ·exact eN e3 (hJ _ _ ⟨dT (by omega),rfl⟩)
  refine gI e3 (M.gv hb rfl (M.gv hb rfl ?_));by_cases e4:s.built>s.slots
  ·exact eN e4 (hJ _ _ ⟨dT (by omega),rfl⟩)
  refine gI e4 (M.gv hb rfl ?_);by_cases e5:s.mark>0
  ·refine eN e5 (M.Bi hb rfl (hJ _ _ ⟨?_,rfl⟩));cases hg:s.aJ with
   | true=>exact dF (by simp;omega)
   | false=>exact dT (by simp;omega)
  ·exact gI e5 (hJ _ _ ⟨dF (by simp only[not_not];exact⟨by omega,by omega,by omega,by omega,λg=>by omega⟩),rfl⟩)
 rintro _ h9 ⟨rfl,e9⟩;rw[e9];clear e9;by_cases g3:0≤s.mark∧s.mark≤s.slots∧0≤s.built∧s.built≤s.slots∧¬(0<s.mark∧s.aJ=false);rotate_left
 ·exact ct (decide_eq_true g3) (kF _ kk λg=>g3 g.1.2.2.1)
 refine cf (by simpa using g3) (M.aO (λz h'=>z=decide (¬(1≤s.aj.length∧s.aj.length≤12))∧h'=h1) (λJ hJ=>M.lW hb rfl ?_) ?_)
 ·by_cases e1:(ml:Int)<1
  ·exact eN e1 (hJ _ _ ⟨dT (by omega),rfl⟩)
  ·exact gI e1 (M.lW hb rfl (hJ _ _ ⟨jT (by rw[decide_eq_true_iff];omega),rfl⟩))
 rintro _ h9 ⟨rfl,e9⟩;rw[e9];clear e9;by_cases g4:1≤s.aj.length∧s.aj.length≤12;rotate_left
 ·exact ct (decide_eq_true g4) (kF _ kk λg=>g4 g.1.2.2.2)
 have G:=And.intro g1 (And.intro g2 (And.intro g3 g4));refine cf (by simpa using g4) (M.aO (λz h'=>z=((yD s.aj:Nat):Int)∧bq h1 h'∧∀i,i<s.aj.length->JN s i) (λJ hJ=>?_) ?_)
 ·refine M.aP (I:=λ(p:Int×Int) h'=>∃y:Nat,y≤ml∧p=(((yD (s.aj.take y):Nat):Int),(y:Int))∧bq h1 h'∧∀i,i<y->JN s i) (μ:=λp=>(ml-p.2).toNat) ⟨0,by omega,rfl,bq.refl _,λi hi=>by omega⟩ ?_;rintro⟨d,i⟩ h5 J2 ⟨y,hy,hd,k5,hok⟩ hJ2;obtain⟨rfl,rfl⟩:=Prod.mk.inj hd;have hb5:=k5 _ _ hb;refine M.lW hb5 rfl ?_;by_cases gy:y<ml
  ·refine eN (by simp only[];omega) (M.jn (M.lW hb5 rfl (Ro.BY (f.keep (kk.trans k5)) (by simp only[];omega) (by simp only[];omega) (M.aK (Wd.start h5) λb3 h3 w3=>⟨rfl,M.bz w3 0 rfl (by simp[ag]) rfl λh4 w4=>?_⟩))));simp only[Int.toNat_natCast]at w4 ⊢;have kv:=k5.trans w4.keep;refine kq (s:=s) (hM (kv _ _ hb)) (EK (f1.keep (kk.trans kv)) hl1 λh6 k6=>?_);have w6:=w4.keeps k6;have hb6:=w6.blk 0 rfl;have k7:=kv.trans k6;have hbad:∀{P:Prop},(JN s y->P)->¬P->¬zU s:=λhp hn g=>hn (hp (g.2.1 y (by omega)));have hm:JN s y=((mb s.aj y).ok∧s.av.count (y:Int)≤1∧(s.av.count (y:Int)=1->(mb s.aj y).st≠0)∧(s.av.count (y:Int)=0->¬((mb s.aj y).st=1∨(mb s.aj y).st=3))):=rfl;have hs:=GC (l:=s.aj) (y:=y) (by omega);rw[hm]at hbad;generalize mb s.aj y=m at *;generalize s.av.count (y:Int)=c at *;refine M.aO (λd h'=>d=decide (¬(m.ok∧c≤1))∧h'=h6) (λJ hJ=>M.gv hb6 rfl ?_) ?_
   ·have tk:∀{d:Bool},(d=true↔¬((0≤m.st∧m.st<4∧m.top.size=32∧m.log.size=32)∧c≤1))->d=decide (¬(m.ok∧c≤1)):=λh=>jT h;by_cases e1:m.st<0
    ·exact eN e1 (hJ _ _ ⟨tk (by simp only[true_iff];omega),rfl⟩)
    refine gI e1 (M.gv hb6 rfl ?_);by_cases e2:m.st>3
    ·exact eN e2 (hJ _ _ ⟨tk (by simp only[true_iff];omega),rfl⟩)
    refine gI e2 (M.oL hb6 rfl ?_);by_cases e3:m.top.size=32;rotate_left
    ·exact ct (by simp;omega) (hJ _ _ ⟨tk (by simp only[true_iff];omega),rfl⟩)
    refine cf (by simp[e3]) (M.oL hb6 rfl ?_);by_cases e4:m.log.size=32
    ·exact cf (by simp[e4]) (hJ _ _ ⟨tk (by rw[decide_eq_true_iff];omega),rfl⟩)
    ·exact ct (by simp;omega) (hJ _ _ ⟨tk (by simp only[true_iff];omega),rfl⟩)
   rintro _ h9 ⟨rfl,e9⟩;rw[e9];clear e9;by_cases q1:m.ok∧c≤1;rotate_left
   ·exact ct (decide_eq_true q1) (kF _ (kk.trans k7) (hbad (λg=>⟨g.1,g.2.1⟩) q1))
   refine cf (by simpa using q1) (M.aO (λd h'=>d=decide (¬(c=1->m.st≠0))∧h'=h6) (λJ hJ=>?_) ?_)
   ·by_cases e1:c=1
    ·exact ct (by simp[e1]) (M.gv hb6 rfl (hJ _ _ ⟨jT (by rw[beq_iff_eq];simp[e1]),rfl⟩))
    ·exact cf (by simp;omega) (hJ _ _ ⟨dF (by simp[e1]),rfl⟩)
   rintro _ h9 ⟨rfl,e9⟩;rw[e9];clear e9;by_cases q2:c=1->m.st≠0;rotate_left
   ·exact ct (decide_eq_true q2) (kF _ (kk.trans k7) (hbad (λg=>g.2.2.1) q2))
   refine cf (decide_eq_false (not_not.2 q2)) (M.aO (λd h'=>d=decide (¬(c=0->¬(m.st=1∨m.st=3)))∧h'=h6) (λJ hJ=>?_) ?_)
   ·by_cases e1:c=0
    ·refine ct (by simp[e1]) (M.gv hb6 rfl ?_);by_cases e2:m.st=1
     ·exact ct (by simp[e2]) (hJ _ _ ⟨dT (by simp[e1,e2]),rfl⟩)
     ·exact cf (by simpa using e2) (M.gv hb6 rfl (hJ _ _ ⟨jT (by rw[beq_iff_eq];simp[e1,e2]),rfl⟩))
    ·exact cf (by simp;omega) (hJ _ _ ⟨dF (by simp[e1]),rfl⟩)
   rintro _ h9 ⟨rfl,e9⟩;rw[e9];clear e9;by_cases q3:c=0->¬(m.st=1∨m.st=3);rotate_left
   ·exact ct (decide_eq_true q3) (kF _ (kk.trans k7) (hbad (λg=>g.2.2.2) q3))
   refine cf (decide_eq_false (not_not.2 q3)) (M.gv hb6 rfl ?_);have hok':∀i,i<y+1->JN s i:=by
    intro i hi;by_cases ei:i=y
    ·subst ei;rw[hm];exact⟨q1.1,q1.2,q2,q3⟩
    ·exact hok i (by omega)
   have v1:wrap .i64 ((y:Int)+1)=((y+1:Nat):Int):=by rw[IntKind.wrap_i64];omega
   have hbl:yD (s.aj.take y)≤y:=Nat.le_trans List.countP_le_length (by simp;omega);by_cases e3:m.st=3
   ·rw[if_pos e3]at hs;exact ct (by simpa using e3) (M.vis ((yD (s.aj.take (y+1)):Nat):Int) (by rw[IntKind.wrap_i64];omega) (M.vis _ v1 (hJ2 _ _ ⟨y+1,by omega,rfl,k7,hok'⟩ (by simp only[];omega))))
   ·rw[if_neg e3]at hs;exact cf (by simpa using e3) (M.vis _ v1 (hJ2 _ _ ⟨y+1,by omega,by rw[hs];rfl,k7,hok'⟩ (by simp only[];omega)))
  ·obtain rfl:y=ml:=by omega
   rw[List.take_of_length_le (by omega)];exact gI (by simp only[];omega) (hJ _ _ ⟨rfl,k5,λi hi=>hok i (by omega)⟩)
 rintro _ h2 ⟨rfl,k2,hm⟩;have hb:=k2 _ _ hb;have kk:=kk.trans k2;refine M.aO (λ_ h'=>h'=h2∧∀i∈s.av,0≤i∧i<s.aj.length) (λJ hJ=>?_) ?_
 ·refine M.aP (I:=λ(p:Int) h'=>∃y:Nat,y≤sl∧p=(y:Int)∧h'=h2∧∀i∈s.av.take y,0≤i∧i<s.aj.length) (μ:=λp=>(sl-p).toNat) ⟨0,by omega,rfl,rfl,by simp⟩ ?_;rintro p h5 J2 ⟨y,hy,rfl,e5,hr⟩ hJ2;rw[e5];refine M.lW hb rfl ?_;by_cases gy:y<sl
  ·have hz:za s.av y=s.av[y]'(by omega):=kP (by omega);have hmz:za s.av y∈s.av:=by rw[hz];exact List.getElem_mem _
   have ht:s.av.take (y+1)=s.av.take y++[za s.av y]:=by rw[List.take_succ_eq_append_getElem (by omega),hz]
   generalize hzz:za s.av y=z at *;refine eN (by omega) (M.aO (λd h'=>d=decide (¬(0≤z∧z<s.aj.length))∧h'=h2) (λJ3 hJ3=>M.lW hb rfl ((f1.keep kk).Ii (by omega) (by omega) ?_)) ?_)
   ·rw[Int.toNat_natCast,hzz];by_cases e1:z<0
    ·exact eN e1 (hJ3 _ _ ⟨dT (by omega),rfl⟩)
    refine gI e1 (M.lW hb rfl ((f1.keep kk).Ii (by omega) (by omega) ?_));rw[Int.toNat_natCast,hzz];exact M.lW hb rfl (hJ3 _ _ ⟨jT (by rw[decide_eq_true_iff];omega),rfl⟩)
   rintro _ h9 ⟨rfl,e9⟩;rw[e9];clear e9;by_cases go:0≤z∧z<s.aj.length
   ·refine cf (by simpa using go) (M.vis ((y+1:Nat):Int) (by rw[IntKind.wrap_i64];omega) (hJ2 _ _ ⟨y+1,by omega,rfl,rfl,λi hi=>?_⟩ (by omega)));rw[ht,List.mem_append,List.mem_singleton]at hi;rcases hi with hi|rfl
    ·exact hr i hi
    ·exact go
   ·exact ct (decide_eq_true go) (kF _ kk λg=>go (g.2.2.1 z hmz))
  ·obtain rfl:y=sl:=by omega
   rw[List.take_of_length_le (by omega)]at hr;exact gI (by omega) (hJ () _ ⟨rfl,hr⟩)
 rintro _ h9 ⟨e9,hr⟩;rw[e9];clear e9;refine M.jn ?_;by_cases e1:yD s.aj=1
 ·exact ct (by simp[e1]) (kT _ kk ⟨G,hm,hr,.inl e1⟩)
 refine cf (by simp;omega) ?_;by_cases e0:yD s.aj=0
 ·refine ct (by simp[e0]) (M.gv hb rfl ?_);by_cases e2:s.built=0
  ·have:(s.built == 0)=true:=by simp[e2]
   rw[this];exact kT _ kk ⟨G,hm,hr,.inr ⟨e0,e2⟩⟩
  ·have:(s.built == 0)=false:=by simp[e2]
   rw[this];exact kF _ kk λg=>by have:=g.2.2.2;omega
 ·exact cf (by simp;omega) (kF _ kk λg=>by have:=g.2.2.2;omega)
end
def eW:wY Int:=⟨λn=>[.int .u64 n],1,λ_=>rfl,by simp[ag]⟩
theorem Ro.PC{h:H}{a:Option Addr}{l:Nat}{z:Int}{xs:List Int}{K:Int->Prop}(f:Ro eW h a l xs)(h0:0≤z)(h1:z<l)(k:K (za xs z.toNat)):M.idx a l z λb j=>M.load h (Addr.add b (j*1)) λv=>M.int .u64 v K:=by
 refine f.QW rfl h0 h1 λb hi hc=>?_;rw[Nat.mul_one,lc hc,int_eq,←kP hi];exact k
def gD.pre(s:gD):List Int:=[s.count,s.dS,s.data,s.slots,s.mark,s.built,pq s.aJ,(s.av.length:Int)]
def gD.words(s:gD):List Int:=(s.pre++s.av)++[(s.aj.length:Int)]
theorem Im(s:gD):lD s.words=(iZ s.count.toNat++iZ s.dS.toNat)++lD s.oO:=by
 have:s.words=[s.count,s.dS]++s.oO:=rfl;rw[this,rN];simp[lD]
theorem Ni{s:gD}(g:s.good)(hb:s.ji):∀n∈s.words,0≤n∧n<18446744073709551616:=by
 intro n hn;have:s.words=s.count::s.dS::s.oO:=rfl;rw[this]at hn;obtain⟨h1,h2⟩:=hb;rcases List.mem_cons.1 hn with rfl|hn
 ·exact h1
 rcases List.mem_cons.1 hn with rfl|hn
 ·exact h2
 ·have:=g.oO n hn;omega
section
variable {h0 h:H}{s:gD}{sa ma:Option Addr}{sl sc ml mc:Nat}
theorem O2{Q:ByteArray->Int->H->Prop}(f1:Ro eI h sa sl s.av)(f:Ro kf h ma ml s.aj)(hl:ml≤1000000)(hl1:sl≤1000000)(hbg:s.good->s.ji)
  (k:∀h',bq h h'->Q (if s.good then od s else empty) (if s.good then 0 else 4) h'):gG s.count s.dS s.data s.slots s.mark s.built s.aJ sa sl sc ma ml mc h Q:=by
 unfold gG;have hx:=f.len;have hx1:=f1.len;refine M.aK (Wd.start h) λb h1 w=>kq (s:=s) (hM (w.blk 0 rfl)) (PD (f1.keep w.keep) (f.keep w.keep) hl hl1 λh2 k2=>?_);have w:=w.keeps k2;by_cases g:s.good;rotate_left
 ·rw[if_neg g,if_neg g]at k;rw[decide_eq_false g];exact ct rfl (k _ w.keep)
 rw[if_pos g,if_pos g]at k;rw[decide_eq_true g];have hwb:=Ni g (hbg g);have hs0:∀n∈s.pre,0≤n∧n<18446744073709551616:=λn hn=>hwb n (by simp[gD.words,hn]);have hss:∀n∈s.av,0≤n∧n<18446744073709551616:=λn hn=>hwb n (by simp[gD.words,hn]);obtain⟨gl1,gl2,gl3⟩:=g.len;have gm:=g.2.1.1;have pd:=hs0 s.data (by simp[gD.pre]);have ps:=hs0 s.slots (by simp[gD.pre]);have pm:=hs0 s.mark (by simp[gD.pre]);have pb:=hs0 s.built (by simp[gD.pre]);have po:=hs0 (pq s.aJ) (by simp[gD.pre]);refine cf rfl (M.aO (λd h'=>d=pq s.aJ∧h'=h2) (λJ hJ=>M.Bi (w.blk 0 rfl) rfl ?_) ?_)
 ·cases hg:s.aJ with
  | true=>exact ct rfl (hJ _ _ ⟨by simp[hg,pq],rfl⟩)
  | false=>exact cf rfl (hJ _ _ ⟨by simp[hg,pq],rfl⟩)
 rintro _ h9 ⟨rfl,e9⟩;rw[e9];clear e9;have hb:=w.blk 0 rfl;refine M.gv hb rfl (M.gv hb rfl (M.gv hb rfl (M.vis s.data (nq pd.1 pd.2) (M.gv hb rfl (M.vis s.slots (nq ps.1 ps.2) (M.gv hb rfl (M.vis s.mark (nq pm.1 pm.2) (M.gv hb rfl (M.vis s.built (nq pb.1 pb.2) (M.vis (pq s.aJ) (nq po.1 po.2) (M.lW hb rfl (M.vis (sl:Int) (nq (by omega) (by omega)) (M.aK w λb2 h3 w=>?_)))))))))))));have w:=w.LR (E:=eW) (ys:=s.pre) (n:=8) (i:=1) rfl (by rw[←hx1];rfl) rfl;refine M.aO (λd h'=>d.2.1=8+sl∧Wd h h' [.blk b (.cells (gH s sa sl sc ma ml mc).toArray 80),.sl 36 1 d.1 d.2.1 d.2.2 (eW.row (s.pre++s.av))]) (λJ hJ=>?_) ?_
 ·refine M.aP (I:=λ(p:(Option Addr×Nat×Nat)×Int) h'=>∃y:Nat,y≤sl∧p.2=(y:Int)∧p.1.2.1=8+y∧Wd h h' [.blk b (.cells (gH s sa sl sc ma ml mc).toArray 80),.sl 36 1 p.1.1 p.1.2.1 p.1.2.2 (eW.row (s.pre++s.av.take y))]) (μ:=λp=>(sl-p.2).toNat) ⟨0,by omega,rfl,rfl,by rw[List.take_zero,List.append_nil];exact w⟩ ?_;rintro⟨⟨a3,l3,c3⟩,i⟩ h5 J2 ⟨y,hy,rfl,hl3,w⟩ hJ2;simp only at hl3 w ⊢;subst hl3;refine M.lW (w.blk 0 rfl) rfl ?_;by_cases gy:y<sl
  ·have hz:za s.av y=s.av[y]'(by omega):=kP (by omega);have hzb:=hss (za s.av y) (by rw[hz];exact List.getElem_mem _);refine eN (by omega) (M.lW (w.blk 0 rfl) rfl ((f1.keep w.keep).Ii (by omega) (by omega) ?_));rw[Int.toNat_natCast];refine M.vis (za s.av y) (nq hzb.1 hzb.2) (Wd.push w 1 rfl rfl rfl (eW.iq [za s.av y]) (by omega) (by omega) λa9 c9 h9 w=>M.vis ((y+1:Nat):Int) (by rw[IntKind.wrap_i64];omega) (hJ2 _ _ ⟨y+1,by omega,rfl,rfl,?_⟩ (by simp only[];omega)));rw[List.take_succ_eq_append_getElem (by omega),←List.append_assoc,eW.iX,←hz];exact w
  ·obtain rfl:y=sl:=by omega
   rw[List.take_of_length_le (by omega)]at w;exact gI (by omega) (hJ (a3,8+y,c3) _ ⟨rfl,w⟩)
 rintro⟨a3,l3,c3⟩ h3 ⟨hl3,w⟩;simp only at hl3 w ⊢;subst hl3;refine M.lW (w.blk 0 rfl) rfl (M.vis (ml:Int) (nq (by omega) (by omega)) (Wd.push w 1 rfl rfl rfl (eW.iq [(ml:Int)]) (by omega) (by omega) λa4 c4 h4 w=>?_));have en:eW.row (s.pre++s.av)++[Value.int .u64 (ml:Int)]=eW.row s.words:=by rw[gD.words,eW.iX (_ ++ _),hx];rfl
 rw[en]at w;have ln:s.words.length=8+sl+1:=by simp[gD.words,gD.pre,hx1];omega
 refine M.aO (λd h'=>d=lD s.words∧Wd h h' [.blk b (.cells (gH s sa sl sc ma ml mc).toArray 80)]) (λJ hJ=>?_) ?_
 ·refine M.aP (I:=λ(p:ByteArray×Int) h'=>∃y:Nat,y≤8+sl+1∧p=(lD (s.words.take y),(y:Int))∧Wd h h' [.blk b (.cells (gH s sa sl sc ma ml mc).toArray 80),.sl 36 1 a4 (8+sl+1) c4 (eW.row s.words)]) (μ:=λp=>((8+sl+1:Nat)-p.2).toNat) ⟨0,by omega,rfl,w⟩ ?_;rintro⟨t,i⟩ h10 J2 ⟨y,hy,hd,w⟩ hJ2;obtain⟨rfl,rfl⟩:=Prod.mk.inj hd;by_cases gy:y<8+sl+1
  ·refine eN (by simp only[];omega) (Ro.PC (w.ro (E:=eW) 1 rfl (by decide)) (by simp only[];omega) (by simp only[];omega) ?_);simp only[Int.toNat_natCast];have hz:=kP (xs:=s.words) (i:=y) (by omega);have hbd:=hwb (za s.words y) (by rw[hz];exact List.getElem_mem _);have ht:=Az (l:=s.words) (y:=y) (by omega);obtain⟨n,hn⟩:∃n:Nat,za s.words y=n:=⟨(za s.words y).toNat,by omega⟩;rw[hn]at hbd ht ⊢;refine K6 (by omega) λh11 u7=>mU (by simp only[qE,eF,List.length_take];omega) (M.vis ((y+1:Nat):Int) (by rw[IntKind.wrap_i64];omega) (hJ2 _ _ ⟨y+1,by omega,?_,w.keeps u7⟩ (by simp only[];omega)));rw[ht,Int.toNat_natCast]
  ·obtain rfl:y=8+sl+1:=by omega
   rw[List.take_of_length_le (by omega)];exact gI (by simp only[];omega) (hJ _ _ ⟨rfl,w.drop (i:=1) rfl⟩)
 rintro _ h5 ⟨rfl,w⟩;rw[od,←Im]at k;have hTs:=qE s.words;rw[ln]at hTs;generalize lD s.words=T at *;refine M.aO (λd h'=>d=T++mY s.aj∧bq h h') (λJ hJ=>?_) (by rintro _ h6 ⟨rfl,k6⟩;exact k _ k6);refine M.aP (I:=λ(p:ByteArray×Int) h'=>∃y:Nat,y≤ml∧p=(T++mY (s.aj.take y),(y:Int))∧Wd h h' [.blk b (.cells (gH s sa sl sc ma ml mc).toArray 80)]) (μ:=λp=>(ml-p.2).toNat) ⟨0,by omega,by have e:mY (s.aj.take 0)=empty:=rfl;rw[e,ByteArray.append_empty];rfl,w⟩ ?_;rintro⟨t,i⟩ h10 J2 ⟨y,hy,hd,w⟩ hJ2;obtain⟨rfl,rfl⟩:=Prod.mk.inj hd;refine M.lW (w.blk 0 rfl) rfl ?_;by_cases gy:y<ml
 ·refine eN (by simp only[];omega) (M.lW (w.blk 0 rfl) rfl (Ro.BY (f.keep w.keep) (by simp only[];omega) (by simp only[];omega) (M.aK w λb3 h3 w=>⟨rfl,M.bz w 1 rfl (by simp[ag]) rfl λh4 w=>?_⟩)));simp only[Int.toNat_natCast]at w ⊢;have hz:=mJ (xs:=s.aj) (i:=y) (by omega);have hok:(mb s.aj y).ok:=gm _ (by rw[hz];exact List.getElem_mem _);have ht:=Bd (l:=s.aj) (y:=y) (by omega);have hsz:=sJ (l:=s.aj.take y) λm hm=>gm m (List.mem_of_mem_take hm);rw[List.length_take]at hsz;have hms:=yx hok;generalize mb s.aj y=m at *;have hb:=w.blk 1 rfl;obtain⟨o1,o2,o3,o4⟩:=hok;refine M.gv hb rfl (M.vis ((m.st.toNat:Nat):Int) (by rw[nq (by omega) (by omega)];omega) (K6 (by omega) λh11 u7=>M.oL (u7 _ _ hb) rfl (nT (by omega) λh12 yb=>M.oL ((u7.trans yb) _ _ hb) rfl (nT (by omega) λh13 Cz=>?_))));have w:=(w.keeps (u7.trans (yb.trans Cz))).drop (i:=1) rfl;refine mU (by simp only[ByteArray.size_append,eF];omega) (mU (by simp only[ByteArray.size_append,eF,jL];omega) (mU (by simp only[ByteArray.size_append,eF,jL];omega) (M.vis ((y+1:Nat):Int) (by rw[IntKind.wrap_i64];omega) (hJ2 _ _ ⟨y+1,by omega,?_,w⟩ (by simp only[];omega)))));rw[ht,wH];simp only[ByteArray.append_assoc]
 ·obtain rfl:y=ml:=by omega
  rw[List.take_of_length_le (by omega)];exact gI (by simp only[];omega) (hJ _ _ ⟨rfl,w.keep⟩)
end
def vD(r:Rd):Int×Rd:=(if 100<r.num.1 then -1 else(r.num.1:Int),r.num.2)
def Nv(r:Rd):Mem×Rd:=(⟨(vD r).1,(vD r).2.text.1,(vD r).2.text.2.text.1⟩,(vD r).2.text.2.text.2)
theorem ya{n:Nat}(hn:n≤100)(u:ByteArray):vD ⟨iZ n++u,0⟩=((n:Int),⟨u,0⟩):=by
 rw[vD,Rd.oG (by omega),if_neg (by simp only;omega)]
theorem nA{x:Int}(u:ByteArray)(h:0≤x∧x≤100):vD ⟨iZ x.toNat++u,0⟩=(x,⟨u,0⟩):=by
 rw[ya (by omega),Int.toNat_of_nonneg h.1]
theorem JG(m:Mem)(u:ByteArray)(h:m.ok):Nv ⟨wH m++u,0⟩=(m,⟨u,0⟩):=by
 obtain⟨h1,h2,h3,h4⟩:=h;rw[Nv,wH,ByteArray.append_assoc,ByteArray.append_assoc,nA _ ⟨h1,by omega⟩];simp only;rw[Rd.qt (by omega)];simp only;rw[Rd.qt (by omega)]
def zO(t:ByteArray):gD×Rd:=
 let c:=Rd.num ⟨t,0⟩
 let e:=c.2.num
 let d:=vD e.2
 let l:=vD d.2
 let m:=vD l.2
 let b:=vD m.2
 let g:=vD b.2
 let n:=vD g.2
 let s:=ia vD n.2 n.1.toNat
 let k:=vD s.2
 let x:=ia Nv k.2 k.1.toNat
 (⟨c.1,e.1,d.1,l.1,m.1,b.1,g.1 == 1,s.1,x.1⟩,x.2)
theorem Il{s:gD}(g:s.good)(hb:s.ji):(zO (od s)).1=s:=by
 obtain⟨gl1,gl2,_⟩:=g.len;obtain⟨⟨⟨d1,d2,_⟩,g2,⟨m1,m2,_⟩,b1,b2,g6,g7⟩,⟨gm,_⟩,_,g9,_⟩:=g;have hsl:=iC g2;obtain⟨⟨c1,c2⟩,e1,e2⟩:=hb;have ho:pq s.aJ=0∨pq s.aJ=1:=by unfold pq;split<;>simp
 have hog:(pq s.aJ == 1)=s.aJ:=by
  unfold pq;cases s.aJ<;>rfl
 rw[sA,zO]
 try simp only
 rw[Rd.oG (by omega)]
 try simp only
 rw[Rd.oG (by omega)]
 try simp only
 rw[nA _ (by omega)]
 try simp only
 rw[nA _ (by omega)]
 try simp only
 rw[nA _ (by omega)]
 try simp only
 rw[nA _ (by omega)]
 try simp only
 rw[nA _ (by omega)]
 try simp only
 rw[ya (by omega)];simp only[Int.toNat_natCast];rw[yz,sn (P:=λx:Int=>0≤x∧x≤100) (λx u h=>nA u h) s.av (λx hx=>by have:=g9 x hx;omega)]
 try simp only
 rw[ya (by omega)];simp only[Int.toNat_natCast];rw[yc,sn (P:=Mem.ok) (λx u h=>JG x u h) s.aj gm];simp only[Int.toNat_of_nonneg c1,Int.toNat_of_nonneg e1,hog]
theorem Gw(t:ByteArray):(zO t).1.ji:=by
 unfold zO gD.ji;simp only;have h1:=Rd.yK ⟨t,0⟩;have h2:=Rd.yK (Rd.num ⟨t,0⟩).2;omega
theorem Ls(t:ByteArray):nC t=if(zO t).1.good∧od (zO t).1=t then some (zO t).1 else none:=by
 by_cases e:(zO t).1.good∧od (zO t).1=t
 ·rw[if_pos e];have:=xL e.1 (Gw t)
  rwa [e.2]at this
 ·rw[if_neg e];cases h:nC t with
  | none=>rfl
  | some s=>
   obtain⟨h1,h2,h3⟩:=sO h;refine absurd ?_ e;have:=Il h1 h2;rw[h3]at this;rw[this];exact⟨h1,h3⟩
section
variable {h0 h:H}{b n i N:Nat}{r:Rd}{L:List Chunk}
theorem I5{Q:Int->H->Prop}(w:Wd h0 h L)(i:Nat)(hi:L[i]? = some (BT b r))(k:∀h',Wd h0 h' (L.set i (BT b r.num.2))->Q (r.num.1:Int) h'):cv (some ⟨b,0,none⟩) h Q:=by
 obtain⟨h1,_,_,w1,_,back⟩:=w.on hi;exact tK w1 λh' w'=>k h' (back _ _ w')
theorem D8{Q:ByteArray->H->Prop}(w:Wd h0 h L)(i:Nat)(hi:L[i]? = some (BT b r))(k:∀h',Wd h0 h' (L.set i (BT b r.text.2))->Q r.text.1 h'):fc (some ⟨b,0,none⟩) h Q:=by
 obtain⟨h1,_,_,w1,_,back⟩:=w.on hi;exact zN w1 λh' w'=>k h' (back _ _ w')
theorem Pp{Q:Int->H->Prop}(w:Wd h0 h L)(i:Nat)(hi:L[i]? = some (BT b r))(k:Q r.done h):iW (some ⟨b,0,none⟩) h Q:=by
 obtain⟨h1,_,_,w1,_,back⟩:=w.on hi;exact BE w1 k
theorem sG{Q:Int->H->Prop}(w:Wd h0 h L)(i:Nat)(hi:L[i]? = some (BT b r))(k:∀h',Wd h0 h' (L.set i (BT b (vD r).2))->Q (vD r).1 h'):gK (some ⟨b,0,none⟩) h Q:=by
 unfold gK;refine I5 w i hi λh1 w1=>?_;unfold vD at k;by_cases e:100<r.num.1
 ·rw[if_pos e]at k;exact eN (by omega) (k _ w1)
 ·rw[if_neg e]at k;exact gI (by omega) (M.vis (r.num.1:Int) (qJ (by omega) (by omega)) (k _ w1))
end
def O3(s:gD)(sa:Option Addr)(sc:Nat)(ma:Option Addr)(mc:Nat):List Chunk:=[.sl 3 1 sa s.av.length sc (eI.row s.av),.sl 171 3 ma s.aj.length mc (kf.row s.aj)]
section
variable {h0 h:H}{t:ByteArray}
theorem P3{x y:ByteArray}:(!mX x y)=decide (x≠y):=by rw[kg,←decide_not]
theorem Mk(r:Rd):(vD r).1≤100:=by
 unfold vD;split<;>simp only<;>omega
set_option maxHeartbeats 2000000 in
theorem PR{Q:Int->Int->Int->Int->Int->Int->Bool->Option Addr->Nat->Nat->Option Addr->Nat->Nat->Int->H->Prop}(ht:t.size≤1000000)
  (k1:∀s a c a2 c2 h',nC t=some s->Wd h h' (O3 s a c a2 c2)->Q s.count s.dS s.data s.slots s.mark s.built s.aJ a s.av.length c a2 s.aj.length c2 0 h')
  (k0:nC t=none->∀h',bq h h'->Q 0 0 0 0 0 0 false none 0 0 none 0 0 4 h'):iJ t h Q:=by
 unfold iJ iJ.g;have hP:zO t=zO t:=rfl;rw[Ls]at k0 k1;have hbig:=Gw t;conv at hP=>rhs;unfold zO;dsimp only
 refine M.aK (Wd.start h) λb1 h1 w=>M.aK w λb2 h2 w=>?_;have w:=w.close (α:=ByteArray×Nat) (p:=λv=>v.2≤v.1.size∧v.1.size≤1000000∧(Rd.mk t 0).rest=v.1.extract v.2 v.1.size) (cs:=λv=>[.blk b2 (.cells #[.string v.1,.int .i64 v.2,.int .i64 (Rd.mk t 0).bad] 335)]) 1 (t,0) rfl ⟨by omega,ht,by simp⟩;have w:Wd h h2 [.blk b1 (.cells #[.int .u64 0,.int .u64 0,.int .i64 0,.int .i64 0,.int .i64 0,.int .i64 0,.bool false,.slice none 0 0,.slice none 0 0] 80),BT b2 ⟨t,0⟩]:=w;refine M.aK w λb3 h3 w=>?_;refine I5 w 1 rfl λh4 w=>M.bg w 2 rfl rfl (by simp) λh5 w=>I5 w 1 rfl λh6 w=>M.bg w 2 rfl rfl (by simp) λh7 w=>?_;generalize (Rd.num ⟨t,0⟩)=c at *;generalize c.2.num=e at *;refine sG w 1 rfl λh8 w=>M.bg w 2 rfl rfl (by simp) λh9 w=>?_;generalize vD e.2=d at *;refine sG w 1 rfl λh8 w=>M.bg w 2 rfl rfl (by simp) λh9 w=>?_;generalize vD d.2=l at *;refine sG w 1 rfl λh8 w=>M.bg w 2 rfl rfl (by simp) λh9 w=>?_;generalize vD l.2=m at *;refine sG w 1 rfl λh8 w=>M.bg w 2 rfl rfl (by simp) λh9 w=>?_;generalize vD m.2=bb at *;refine sG w 1 rfl λh11 w=>M.bg w 2 rfl rfl (by simp) λh12 w=>?_;generalize vD bb.2=g at *;have w:Wd h h12 [.blk b1 (.cells #[.int .u64 0,.int .u64 0,.int .i64 0,.int .i64 0,.int .i64 0,.int .i64 0,.bool false,.slice none 0 0,.slice none 0 0] 80),BT b2 g.2,.blk b3 (.cells (gH ⟨c.1,e.1,d.1,l.1,m.1,bb.1,g.1 == 1,[],[]⟩ none 0 0 none 0 0).toArray 80)]:=w;have nlt:=Mk g.2;refine sG w 1 rfl λh13 w=>?_;generalize vD g.2=n at *;refine M.aO (λ_ h'=>∃a c2,Wd h h' [.blk b1 (.cells #[.int .u64 0,.int .u64 0,.int .i64 0,.int .i64 0,.int .i64 0,.int .i64 0,.bool false,.slice none 0 0,.slice none 0 0] 80),BT b2 (ia vD n.2 n.1.toNat).2,.blk b3 (.cells (gH ⟨c.1,e.1,d.1,l.1,m.1,bb.1,g.1 == 1,[],[]⟩ a n.1.toNat c2 none 0 0).toArray 80),.sl 3 1 a n.1.toNat c2 (eI.row (ia vD n.2 n.1.toNat).1)]) (λJ hJ=>?_) ?_
 ·refine M.aP (I:=λ(p:Int) h'=>∃y:Nat,y≤n.1.toNat∧p=(y:Int)∧∃a c2,Wd h h' [.blk b1 (.cells #[.int .u64 0,.int .u64 0,.int .i64 0,.int .i64 0,.int .i64 0,.int .i64 0,.bool false,.slice none 0 0,.slice none 0 0] 80),BT b2 (ia vD n.2 y).2,.blk b3 (.cells (gH ⟨c.1,e.1,d.1,l.1,m.1,bb.1,g.1 == 1,[],[]⟩ a y c2 none 0 0).toArray 80),.sl 3 1 a y c2 (eI.row (ia vD n.2 y).1)]) (μ:=λp=>(n.1-p).toNat) ⟨0,by omega,rfl,none,0,w.jt _ _⟩ ?_;rintro p h14 J2 ⟨y,hy,rfl,a,c2,w⟩ hJ2;by_cases gy:(y:Int)<n.1
  ·refine eN gy (sG w 1 rfl λh15 w=>M.lW (w.blk 2 rfl) rfl (Wd.push w 3 rfl rfl rfl (eI.iq [_]) (by omega) (by omega) λa3 c3 h17 w=>M.bg w 2 rfl rfl (by simp[gH]) λh18 w=>M.vis ((y+1:Nat):Int) (by rw[IntKind.wrap_i64];omega) (hJ2 _ _ ⟨y+1,by omega,rfl,a3,c3,?_⟩ (by omega))));rw[ia,eI.iX];exact w
  ·obtain rfl:y=n.1.toNat:=by omega
   exact gI gy (hJ () _ ⟨_,_,w⟩)
 rintro _ h14 ⟨a,c2,w⟩;generalize ia vD n.2 n.1.toNat=ss at *;have nlt2:=Mk ss.2;refine sG w 1 rfl λh19 w=>?_;generalize vD ss.2=q at *;refine M.aO (λ_ h'=>∃a4 c4,Wd h h' [.blk b1 (.cells #[.int .u64 0,.int .u64 0,.int .i64 0,.int .i64 0,.int .i64 0,.int .i64 0,.bool false,.slice none 0 0,.slice none 0 0] 80),BT b2 (ia Nv q.2 q.1.toNat).2,.blk b3 (.cells (gH ⟨c.1,e.1,d.1,l.1,m.1,bb.1,g.1 == 1,[],[]⟩ a n.1.toNat c2 a4 q.1.toNat c4).toArray 80),.sl 3 1 a n.1.toNat c2 (eI.row ss.1),.sl 171 3 a4 q.1.toNat c4 (kf.row (ia Nv q.2 q.1.toNat).1)]) (λJ hJ=>?_) ?_
 ·refine M.aP (I:=λ(p:Int) h'=>∃y:Nat,y≤q.1.toNat∧p=(y:Int)∧∃a4 c4,Wd h h' [.blk b1 (.cells #[.int .u64 0,.int .u64 0,.int .i64 0,.int .i64 0,.int .i64 0,.int .i64 0,.bool false,.slice none 0 0,.slice none 0 0] 80),BT b2 (ia Nv q.2 y).2,.blk b3 (.cells (gH ⟨c.1,e.1,d.1,l.1,m.1,bb.1,g.1 == 1,[],[]⟩ a n.1.toNat c2 a4 y c4).toArray 80),.sl 3 1 a n.1.toNat c2 (eI.row ss.1),.sl 171 3 a4 y c4 (kf.row (ia Nv q.2 y).1)]) (μ:=λp=>(q.1-p).toNat) ⟨0,by omega,rfl,none,0,w.jt _ _⟩ ?_;rintro p h14 J2 ⟨y,hy,rfl,a4,c4,w⟩ hJ2;by_cases gy:(y:Int)<q.1
  ·refine eN gy (M.aK w λb5 h15 w=>sG w 1 rfl λh16 w=>M.bg w 5 rfl rfl (by simp) λh17 w=>D8 w 1 rfl λh18 w=>M.bg w 5 rfl rfl (by simp) λh19 w=>D8 w 1 rfl λh20 w=>M.bg w 5 rfl rfl (by simp) λh21 w=>?_);have hb:=w.blk 5 rfl;refine M.lW (w.blk 2 rfl) rfl (M.gv hb rfl (M.oL hb rfl (M.oL hb rfl (Wd.push w 4 rfl rfl rfl (kf.iq [(Nv (ia Nv q.2 y).2).1]) (by omega) (by omega) λa3 c3 h17 w=>M.bg w 2 rfl rfl (by simp[gH]) λh18 w=>M.vis ((y+1:Nat):Int) (by rw[IntKind.wrap_i64];omega) (hJ2 _ _ ⟨y+1,by omega,rfl,a3,c3,?_⟩ (by omega))))));have w:=w.drop (i:=5) rfl;rw[ia,kf.iX];exact w
  ·obtain rfl:y=q.1.toNat:=by omega
   exact gI gy (hJ () _ ⟨_,_,w⟩)
 rintro _ h15 ⟨a4,c4,w⟩;generalize ia Nv q.2 q.1.toNat=mm at *;rw[hP]at hbig;simp only[hP]at k0 k1;have e3:=(w.mI 3 rfl).1;have e4:=(w.mI 4 rfl).1;rw[eI.jR]at e3;rw[kf.jR]at e4;have e3:ss.1.length=n.1.toNat:=by simpa [eI] using e3
 have e4:mm.1.length=q.1.toNat:=by
  have:mm.1.length*3=q.1.toNat * 3:=e4;omega
 generalize hS:(⟨c.1,e.1,d.1,l.1,m.1,bb.1,g.1 == 1,ss.1,mm.1⟩:gD)=S at *;have hw:gH ⟨c.1,e.1,d.1,l.1,m.1,bb.1,g.1 == 1,[],[]⟩ a n.1.toNat c2 a4 q.1.toNat c4=gH S a S.av.length c2 a4 S.aj.length c4:=by rw[←hS,←e3,←e4];rfl
 rw[hw]at w;have w:Wd h h15 [.blk b1 (.cells #[.int .u64 0,.int .u64 0,.int .i64 0,.int .i64 0,.int .i64 0,.int .i64 0,.bool false,.slice none 0 0,.slice none 0 0] 80),BT b2 mm.2,.blk b3 (.cells (gH S a S.av.length c2 a4 S.aj.length c4).toArray 80),.sl 3 1 a S.av.length c2 (eI.row S.av),.sl 171 3 a4 S.aj.length c4 (kf.row S.aj)]:=by
  subst hS;simp only[e3,e4]at w ⊢;exact w
 have z3:S.av.length≤100:=by rw[←hS];simp only;omega
 have z4:S.aj.length≤100:=by rw[←hS];simp only;omega
 clear hS hw hP e3 e4;refine kq (s:=S) (hM (w.blk 2 rfl)) (O2 (w.ro (E:=eI) 3 rfl (by decide)) (w.ro (E:=kf) 4 rfl (by decide)) (by omega) (by omega) (λ_=>hbig) λh16 N0=>?_);have w:=w.keeps N0;refine M.aO (λz h'=>z=decide (¬(S.good∧od S=t))∧h'=h16) (λJ hJ=>?_) ?_
 ·by_cases gd:S.good
  ·rw[if_pos gd,if_pos gd];exact cf rfl (hJ _ _ ⟨by rw[P3];exact jT (by rw[decide_eq_true_iff];simp[gd]),rfl⟩)
  ·rw[if_neg gd];exact ct rfl (hJ _ _ ⟨dT λg=>gd g.1,rfl⟩)
 rintro _ h9 ⟨rfl,e9⟩;rw[e9];clear e9;by_cases g1:S.good∧od S=t
 ·rw[if_pos g1]at k0 k1;refine cf (decide_eq_false λg=>g g1) (kq (s:=S) (hM (w.blk 2 rfl)) (tJ S _ _ _ _ _ _ w (i:=0) rfl rfl λh17 w=>k1 S a c2 a4 c4 _ rfl ?_));exact((w.drop (i:=0) rfl).drop (i:=0) rfl).drop (i:=0) rfl
 ·rw[if_neg g1]at k0 k1;exact ct (decide_eq_true g1) (tJ ⟨0,0,0,0,0,0,false,[],[]⟩ _ _ _ _ _ _ w (i:=0) rfl rfl λh17 w=>k0 rfl _ w.keep)
theorem LS{Q:ByteArray->H->Prop}(ht:t.size≤800000)(tb:qa h)(k:∀h',bq h h'->Q (dH 2 t) h'):eo t h Q:=by
 unfold eo;exact pO (by decide) ht tb k
end
section
variable {h0 h:H}{a:Option Addr}{l c:Nat}
theorem Mn{xs:List ByteArray}{Q:ByteArray->H->Prop}(f:Ro eS h a l xs)(hl:l≤100)(hz:∀s∈xs,s.size≤2048)(tb:qa h)(k:∀h',bq h h'->Q (yq xs) h'):dM a l c h Q:=by
 unfold dM;have hx:=f.len;have hs:∀y,(pQ mw (xs.take y)).size≤2056*100:=λy=>by
  have:=Dt (e:=mw) (N:=2056) (l:=xs.take y) λs hs=>by
   have:=hz s (List.mem_of_mem_take hs);rw[jL];omega
  rw[List.length_take]at this;have h2:2056*min y xs.length≤2056*100:=Nat.mul_le_mul_left _ (by omega);omega
 refine M.aO (λd h'=>d=pQ mw xs∧bq h h') (λJ hJ=>?_) ?_
 ·refine M.aP (I:=λ(p:ByteArray×Int) h'=>∃y:Nat,y≤l∧p=(pQ mw (xs.take y),(y:Int))∧bq h h') (μ:=λp=>(l-p.2).toNat) ⟨0,by omega,rfl,bq.refl _⟩ ?_;rintro⟨t,i⟩ h5 J2 ⟨y,hy,hd,k5⟩ hJ2;obtain⟨rfl,rfl⟩:=Prod.mk.inj hd;by_cases g:y<l
  ·refine eN (by simp only[];omega) ((f.keep k5).vu (by simp only[];omega) (by simp only[];omega) ?_);simp only[Int.toNat_natCast];have hg:=kM (xs:=xs) (i:=y) (by omega);have hzy:=hz (sa xs y) (by rw[hg];exact List.getElem_mem _);have hsy:=hs y;refine nT (by omega) λh6 k6=>mU (by rw[jL];omega) (M.vis ((y+1:Nat):Int) (by rw[IntKind.wrap_i64];omega) (hJ2 _ _ ⟨y+1,by omega,?_,k5.trans k6⟩ (by simp only[];omega)));rw[yj (by omega),←hg]
  ·obtain rfl:y=l:=by omega
   rw[List.take_of_length_le (by omega)];exact gI (by simp only[];omega) (hJ _ _ ⟨rfl,k5⟩)
 rintro _ h3 ⟨rfl,k3⟩;have hsl:=hs l;rw[List.take_of_length_le (by omega)]at hsl;exact pO (by decide) (by omega) (tb.keep k3) λh5 k5=>k _ (k3.trans k5)
theorem Gd(p:Int×ByteArray):mM p=if p.1<100∨p.1>139 then 2 else if p.2.size>2032 then 5 else 0:=by
 unfold mM;by_cases e:p.1<100∨p.1≥140
 ·rw[if_pos e,if_pos (by omega)]
 ·rw[if_neg e];exact(if_neg (show ¬(p.1<100∨p.1>139) by omega)).symm
theorem PW{xs:List (Int×ByteArray)}{Q:Option Addr->Nat->Nat->ByteArray->Int->H->Prop}(f:Ro eP h a l xs)(tb:qa h)
  (k:∀a' c' h',Wd h h' [.sl 9 1 a' (oq xs).1.length c' (eS.row (oq xs).1)]->Q a' (oq xs).1.length c' (oq xs).2.1 (oq xs).2.2 h'):iK a l c h Q:=by
 unfold iK iK.g;have hx:=f.len;unfold oq at k;by_cases e:96≤l
 ·rw[if_pos (by omega)]at k;exact eN (by omega) (k _ _ _ ((Wd.start h).jt _ _))
 rw[if_neg (by omega)]at k;refine gI (by omega) (M.vis (l:Int) (nq (by omega) (by omega)) (K6 (by omega) λh1 k1=>Wd.push (((Wd.start h).keeps k1).jt 9 1) 0 rfl rfl rfl (eS.iq [iZ l]) (by omega) (by omega) λa2 c2 h2 w=>?_));have w:Wd h h2 [.sl 9 1 a2 1 c2 (eS.row [iZ l])]:=w;have kb:∀h',bq h h'->yl xs≠0->Q none 0 0 empty (yl xs) h':=λh' k' g=>by
  rw[if_pos g]at k;exact k _ _ _ (((Wd.start h).keeps k').jt _ _)
 refine M.aO (λd h'=>(∀p∈xs,mM p=0)∧d.2.1=l+1∧Wd h h' [.sl 9 1 d.1 d.2.1 d.2.2 (eS.row (lF xs))]) (λJ hJ=>?_) ?_
 ·refine M.aP (I:=λ(p:(Option Addr×Nat×Nat)×Int) h'=>∃y:Nat,y≤l∧p.2=(y:Int)∧(∀p∈xs.take y,mM p=0)∧p.1.2.1=y+1∧Wd h h' [.sl 9 1 p.1.1 p.1.2.1 p.1.2.2 (eS.row (iZ l::(xs.take y).map Nx))]) (μ:=λp=>(l-p.2).toNat) ⟨0,by omega,rfl,by simp,rfl,w⟩ ?_;rintro⟨⟨a3,l3,c3⟩,i⟩ h5 J2 ⟨y,hy,rfl,hok,hl3,w⟩ hJ2;simp only at hl3 w ⊢;subst hl3;by_cases g:y<l
  ·have hg:=wK (xs:=xs) (i:=y) (by omega);have f5:=f.keep w.keep;have hbw:mM (pa xs y)≠0->yl xs=mM (pa xs y):=λe1=>by
    have hbw:=wV (l:=xs) (y:=y) (by omega) hok (by rw[←hg];exact e1)
    rwa [←hg]at hbw
   have hd:=Gd (pa xs y);refine eN (by omega) (M.aO (λz h'=>z=decide ((pa xs y).1<100∨(pa xs y).1>139)∧h'=h5) (λJ3 hJ3=>f5.Oe (by omega) (by omega) ?_) ?_)
   ·rw[Int.toNat_natCast];by_cases e1:(pa xs y).1<100
    ·exact eN e1 (hJ3 _ _ ⟨dT (.inl e1),rfl⟩)
    ·refine gI e1 (f5.Oe (by omega) (by omega) ?_);rw[Int.toNat_natCast];exact hJ3 _ _ ⟨jT (by rw[decide_eq_true_iff];omega),rfl⟩
   rintro _ h9 ⟨rfl,e9⟩;rw[e9];clear e9;by_cases e1:(pa xs y).1<100∨(pa xs y).1>139
   ·rw[if_pos e1]at hd;have hb2:=hbw (by omega);refine ct (decide_eq_true e1) ?_;have:=kb _ w.keep (by omega)
    rwa [hb2,hd]at this
   rw[if_neg e1]at hd;refine cf (decide_eq_false e1) (f5.Pu (by omega) (by omega) ?_);rw[Int.toNat_natCast];by_cases e2:(pa xs y).2.size>2032
   ·rw[if_pos e2]at hd;have hb2:=hbw (by omega);refine eN (by omega) ?_;have:=kb _ w.keep (by omega)
    rwa [hb2,hd]at this
   rw[if_neg e2]at hd;have hsz:=uq hd;refine gI (by omega) (f5.Oe (by omega) (by omega) ?_);rw[Int.toNat_natCast];refine M.vis (((pa xs y).1.toNat:Nat):Int) (by rw[nq (by omega) (by omega)];omega) (K6 (by omega) λh7 k7=>(f5.keep k7).Pu (by omega) (by omega) ?_);rw[Int.toNat_natCast];refine nT (by omega) λh8 k8=>mU (by rw[eF,jL];omega) ?_;have w:=w.keeps (k7.trans k8);refine Wd.push w 0 rfl rfl rfl (eS.iq [Nx (pa xs y)]) (by omega) (by omega) λa9 c9 h9 w=>M.vis ((y+1:Nat):Int) (by rw[IntKind.wrap_i64];omega) (hJ2 _ _ ⟨y+1,by omega,rfl,?_,rfl,?_⟩ (by simp only[];omega))
   ·intro p hp;rw[List.take_succ_eq_append_getElem (by omega),List.mem_append,List.mem_singleton]at hp;rcases hp with hp|rfl
    ·exact hok p hp
    ·rw[←hg];exact hd
   ·rw[List.take_succ_eq_append_getElem (by omega),List.map_append,←List.cons_append,eS.iX,←hg];exact w
  ·obtain rfl:y=l:=by omega
   rw[List.take_of_length_le (by omega)]at w hok;exact gI (by omega) (hJ (a3,y+1,c3) _ ⟨hok,rfl,by rw[lF,hx];exact w⟩)
 rintro⟨a3,l3,c3⟩ h3 ⟨hok,hl3,w3⟩;simp only at hl3 w3 ⊢;subst hl3;have hb0:=uO hok;rw[if_neg (by simp[hb0])]at k;have hll:(lF xs).length=l+1:=by simp[lF,hx]
 refine Mn (w3.ro (E:=eS) 0 rfl (by decide)) (by omega) (λs hs=>?_) (tb.keep w3.keep) λh4 k4=>?_
 ·rcases List.mem_cons.1 hs with rfl|hs
  ·rw[eF];omega
  ·obtain⟨p,hp,rfl⟩:=List.mem_map.1 hs;exact uq (hok p hp)
 ·have:=k a3 c3 h4 (by rw[hll];exact w3.keeps k4);rw[hll]at this;exact this
theorem Nl{Q:ByteArray->H->Prop}(tb:qa h)(k:∀h',bq h h'->Q gF h'):eZ h Q:=by
 unfold eZ;exact PW (xs:=[]) Ro.nil tb λa c h' w=>k _ w.keep
theorem C4(s:ByteArray):jb s=if ∃y,y<96∧iZ y=s then((qT s:Int)+1,0)else(0,4):=by
 unfold jb;simp only;by_cases e:∃y,y<96∧iZ y=s
 ·rw[if_pos e];obtain⟨y,hy,rfl⟩:=e;have:=Rd.jP (n:=y) (b:=96) hy (by omega) empty;have h2:=yC (n:=y) (by omega) empty;rw[ByteArray.append_empty]at this h2;rw[this,if_neg (by simp[Rd.done]),h2]
 ·rw[if_neg e];by_cases g:((Rd.mk s 0).below 96).2.done=0
  ·refine absurd ⟨((Rd.mk s 0).below 96).1,(Rd.mk s 0).qC (by omega),?_⟩ e;have hlt:=(Rd.mk s 0).qC (b:=96) (by omega);unfold Rd.done at g;by_cases g1:((Rd.mk s 0).below 96).2.bad=0
   ·rw[if_neg (by simp[g1])]at g;have hr:((Rd.mk s 0).below 96).2.rest=empty:=by
     by_cases g2:((Rd.mk s 0).below 96).2.rest=empty
     ·exact g2
     ·rw[if_neg g2]at g;simp at g
    have:=(Rd.kA g1).2;rw[hr,ByteArray.append_empty]at this;exact this.symm
   ·rw[if_pos g1]at g;exact absurd g g1
  ·rw[if_pos g]
theorem Pm{s:ByteArray}{Q:Int->Int->H->Prop}(k:∀h',bq h h'->Q (jb s).1 (jb s).2 h'):fJ s h Q:=by
 unfold fJ;rw[C4]at k;refine M.aP (I:=λ(p:Int) h'=>∃y:Nat,y≤96∧p=(y:Int)∧bq h h'∧∀i,i<y->iZ i≠s) (μ:=λp=>(96-p).toNat) ⟨0,by omega,rfl,bq.refl _,λi hi=>by omega⟩ ?_;rintro p h5 J ⟨y,hy,rfl,k5,hn⟩ hJ;by_cases g:y<96
 ·have v1:wrap .i64 ((y:Int)+1)=((y+1:Nat):Int):=by rw[IntKind.wrap_i64];omega
  refine eN (by omega) (M.vis (y:Int) (nq (by omega) (by omega)) (K6 (by omega) λh6 k6=>?_));by_cases e:iZ y=s
  ·refine ct (by rw[kg];simp[e]) (M.vis _ v1 ?_);have h2:=yC (n:=y) (by omega) empty;rw[ByteArray.append_empty,e]at h2;rw[if_pos ⟨y,g,e⟩,h2]at k;exact k _ (k5.trans k6)
  ·refine cf (by rw[kg];simp[e]) (M.vis _ v1 (hJ _ _ ⟨y+1,by omega,rfl,k5.trans k6,λi hi=>?_⟩ (by omega)));by_cases ei:i=y
   ·rw[ei];exact e
   ·exact hn i (by omega)
 ·obtain rfl:y=96:=by omega
  rw[if_neg (λ⟨i,hi,e⟩=>hn i hi e)]at k;exact gI (by omega) (k _ k5)
theorem KN(s:ByteArray):nI s=if(Rd.mk s 0).num.2.text.2.done=0∧¬(((Rd.mk s 0).num.1:Int)<100)∧¬(((Rd.mk s 0).num.1:Int)>139)∧¬((Rd.mk s 0).num.2.text.1.size>2032)then some (((Rd.mk s 0).num.1:Int),(Rd.mk s 0).num.2.text.1)else none:=by
 unfold nI;simp only;by_cases e:(Rd.mk s 0).num.2.bad=0
 ·by_cases e1:140≤(Rd.mk s 0).num.1
  ·have hb:(Rd.mk s 0).below 140=(0,⟨(Rd.mk s 0).num.2.rest,4⟩):=by unfold Rd.below;rw[if_neg (by simp[e]),if_pos e1]
   rw[hb,if_neg (λg=>by have:=uR g.2;simp at this),if_neg (by omega)]
  ·have hb:(Rd.mk s 0).below 140=(Rd.mk s 0).num:=by unfold Rd.below;rw[if_neg (by simp[e]),if_neg e1]
   rw[hb];congr 1;rw[Gd,eq_iff_iff];simp only[];constructor
   ·rintro⟨h1,h2⟩;split at h2
    ·simp at h2
    ·split at h2
     ·simp at h2
     ·refine⟨h1,by omega,by omega,by omega⟩
   ·rintro⟨h1,h2,h3,h4⟩;rw[if_neg (by omega),if_neg h4];exact⟨h1,rfl⟩
 ·have hb:(Rd.mk s 0).below 140=(0,(Rd.mk s 0).num.2):=by unfold Rd.below;rw[if_pos e]
  have hd:∀r:Rd,r.bad≠0->r.text.2.bad≠0:=λr hr h=>hr (Rd.vU h).1;have hdd:(Rd.mk s 0).num.2.text.2.done≠0:=by
   unfold Rd.done;rw[if_pos (hd _ e)];exact hd _ e
  rw[hb,if_neg (λg=>hdd g.1),if_neg (λg=>hdd g.1)]
end
end Go.Proofs.YtmfcgihgdhfalaaGreatDoor

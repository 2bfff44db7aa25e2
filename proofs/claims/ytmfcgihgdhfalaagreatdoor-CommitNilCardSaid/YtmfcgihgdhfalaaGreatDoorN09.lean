/- The document's bank, walked. The bank's statements: one act on both banks. The program's slab: may there be one, what a chunk is bound to, sealing. The program's slab: the pairs over a slot, and a chunk that is had. Small laws: a cell of a block is loaded; sets of whole numbers as maps. The reader of numbers and texts: what it is; the program's. The document's poly: numbers byte by byte. The document's number of eight bytes. The reader: bounded numbers, texts, the end; Text; and the document's. A volume's record: what it is, in memory, and when it is good (the program's). When a record is good (the program's), and a record with lists of its own. Reasoning over the shallow form, 8: rows of a number and a text. A builder of texts; a record's bytes (the program's). A record read of its bytes (the program's). What is written is read, and what is read was written: numbers, texts, lists, a record. In plain words. A disk's log (the program's): what may be logged, its cells, its digest, and what is read of it. -/
import Derived.Test.YtmfcgihgdhfalaaGreatDoorN08
import Derived.Test.YtmfcgihgdhfalaaGreatDoorN07
open ByteArray(empty)
open Go.IntKind(wrap)
set_option linter.unusedSimpArgs false
set_option linter.unusedVariables false
namespace Go.Proofs.YtmfcgihgdhfalaaGreatDoor
open Go.Sh Go.RowKit
def ak.pE(B:ak):Int:=if B.oN=true then B.left else -1
def fV(b:Nat)(B:ak):Chunk:=Wd.obj (α:=Option Addr×Nat×List Nat) (λv=>B.Ok∧v.2.2.length=B.ds.length)
 λv=>[.blk b (.cells #[.slice v.1 B.ds.length v.2.1,.int .i64 B.steps,.int .i64 B.pE] 74 (0,0)),.sl 89 1 v.1 B.ds.length v.2.1 (zP v.2.2),.sep (List.zipWith xg v.2.2 B.ds)]
section
variable {h0 h:H}{b:Nat}{B:ak}{i at_:Int}{s:ByteArray}
theorem qM(o:B.Ok):B.pE=0↔B.jS:=by
 unfold ak.pE ak.jS;cases B.oN<;>simp
theorem Og{Q:Option Addr->Prop}(w:Wd h0 h [fV b B])(hb:¬B.bad i)
  (k:∀p h1,bq h0 h1->bq h1 h->Wd h1 h [xg p (B.hU i)]->(∀h' D',Wd h1 h' [xg p D']->Wd h0 h' [fV b (B.set i D')])->Q (some ⟨p,0,none⟩)):
  M.nn (some ⟨b,0,none⟩) λa6=>M.load h (Addr.add a6 0) λv7=>M.slc v7 λa8 l9 c10=>M.idx a8 l9 i λa11 j12=>M.load h (Addr.add a11 (j12*1)) λv13=>M.ptr v13 λp14=>Q p14:=by
 obtain⟨⟨a,c,ps⟩,⟨ok,hl⟩,w⟩:=w.tw 0 rfl;have hbb:=w.blk 0 rfl;obtain⟨_,_,hsn,hsr⟩:=w.mI 1 rfl;simp only at hl hsn hsr;obtain⟨hj,hd⟩:=ak.zY hb;have hi:=ak.jX.1 hb;simp only[aS,dK,Nat.zero_add,Nat.add_zero,Nat.mul_one,Nat.one_mul,Nat.zero_mul,Nat.reduceAdd,List.setIfInBounds_toArray,List.set_cons_zero,List.set_cons_succ,List.getElem?_toArray,List.getElem?_cons_zero,List.getElem?_cons_succ,cH,int_eq,dV,fq,fQ,fP,iy,M.val,cond_true,cond_false,Bool.not_true,Bool.not_false,dA hbb];cases a with
 | none=>have:=(hsn rfl).2;omega
 | some ab=>
  refine M.mq hi.1 hi.2 ?_;have hc:h.cell (ab.add i.toNat)=some (.pointer (some ⟨ps[i.toNat],0,none⟩)):=by
   rw[hsr ab rfl i.toNat (by rw[AX];omega),AU (by omega)]
  simp only[aS,dK,Nat.zero_add,Nat.add_zero,Nat.mul_one,Nat.one_mul,Nat.zero_mul,Nat.reduceAdd,List.setIfInBounds_toArray,List.set_cons_zero,List.set_cons_succ,List.getElem?_toArray,List.getElem?_cons_zero,List.getElem?_cons_succ,cH,int_eq,dV,fq,fQ,fP,iy,M.val,cond_true,cond_false,Bool.not_true,Bool.not_false,hc];obtain⟨h1,k0,k1,w1,wr,back⟩:=BQ (f:=xg) (k:=2) w rfl (j:=i.toNat) (by show i.toNat<ps.length;omega) hj;rw[hd]at w1;refine k ps[i.toNat] h1 k0 k1 w1 λh' D' w'=>?_;refine(back h' D' w').close 0 (some ab,c,ps) ?_ ⟨ak.BM ok i D',by simpa [ak.set] using hl⟩;simp[ak.set,ak.pE];rfl
theorem Mu{K:Bool->Prop}(w:Wd h0 h [fV b B])(k:K (decide (B.bad i))):
  (bif(decide (i<(0:Int)))then K true else M.nn (some ⟨b,0,none⟩) λa3=>M.load h (Addr.add a3 0) λv4=>M.slc v4 λa5 l6 c7=>K (decide (i≥((l6:Nat):Int)))):=by
 obtain⟨v,⟨ok,hl⟩,w⟩:=w.tw 0 rfl;have hb:=w.blk 0 rfl;by_cases h1:i<0
 ·simp only[h1,decide_true,cond_true];have:decide (B.bad i)=true:=decide_eq_true (.inl h1)
  rwa [this]at k
 ·simp only[aS,dK,Nat.zero_add,Nat.add_zero,Nat.mul_one,Nat.one_mul,Nat.zero_mul,Nat.reduceAdd,List.setIfInBounds_toArray,List.set_cons_zero,List.set_cons_succ,List.getElem?_toArray,List.getElem?_cons_zero,List.getElem?_cons_succ,cH,int_eq,dV,fq,fQ,fP,iy,M.val,cond_true,cond_false,Bool.not_true,Bool.not_false,h1,decide_false,dA hb];have:decide (B.bad i)=decide (i≥B.ds.length):=by simp[ak.bad,h1]
  rwa [this]at k
theorem DO{Q:Int->H->Prop}(w:Wd h0 h [fV b B])(hs:B.steps<1000000000)(hlx:B.left≤9223372036854775807)(k:∀h',Wd h0 h' [fV b B.iU.2]->Q B.iU.1 h'):dY (some ⟨b,0,none⟩) h Q:=by
 have w0:=w;obtain⟨⟨a,c,ps⟩,⟨ok,hl⟩,w⟩:=w.tw 0 rfl;have hb:=w.blk 0 rfl;have ok2:=ak.tW ok;have hst:=ok.Qx;have hlf:=ok.left;have hw1:wrap .i64 (B.steps+1)=B.steps+1:=by rw[IntKind.wrap_i64];omega
 unfold dY;unfold ak.iU at k ok2;by_cases hp:B.jS
 ·simp only[hp,if_true]at k;have hr:=(qM ok).2 hp;simp only[aS,dK,Nat.zero_add,Nat.add_zero,Nat.mul_one,Nat.one_mul,Nat.zero_mul,Nat.reduceAdd,List.setIfInBounds_toArray,List.set_cons_zero,List.set_cons_succ,List.getElem?_toArray,List.getElem?_cons_zero,List.getElem?_cons_succ,cH,int_eq,dV,fq,fQ,fP,iy,M.val,cond_true,cond_false,Bool.not_true,Bool.not_false,dA hb,hr,beq_self_eq_true];exact k _ w0
 ·simp only[hp,if_false]at k ok2;have hr:(B.pE == 0)=false:=by
   have:¬B.pE=0:=λe=>hp ((qM ok).1 e);simpa using this
  simp only[aS,dK,Nat.zero_add,Nat.add_zero,Nat.mul_one,Nat.one_mul,Nat.zero_mul,Nat.reduceAdd,List.setIfInBounds_toArray,List.set_cons_zero,List.set_cons_succ,List.getElem?_toArray,List.getElem?_cons_zero,List.getElem?_cons_succ,cH,int_eq,dV,fq,fQ,fP,iy,M.val,cond_true,cond_false,Bool.not_true,Bool.not_false,dA hb,hr];refine M.jn ?_;cases hf:B.oN
  ·simp only[hf,Bool.false_eq_true,if_false]at k ok2;have hrl:B.pE = -1:=by simp[ak.pE,hf]
   simp only[aS,dK,Nat.zero_add,Nat.add_zero,Nat.mul_one,Nat.one_mul,Nat.zero_mul,Nat.reduceAdd,List.setIfInBounds_toArray,List.set_cons_zero,List.set_cons_succ,List.getElem?_toArray,List.getElem?_cons_zero,List.getElem?_cons_succ,cH,int_eq,dV,fq,fQ,fP,iy,M.val,cond_true,cond_false,Bool.not_true,Bool.not_false,hrl,show decide ((-1:Int)>0)=false by decide,dA hb,hw1];refine M.bg w 0 rfl rfl (by simp) λh1 w=>?_;exact k _ (w.close 0 (a,c,ps) (by simp[hf,ak.pE]) ⟨ok2,hl⟩)
  ·simp only[hf,if_true]at k ok2;have hrl:B.pE=B.left:=by simp[ak.pE,hf]
   have hl0:B.left≠0:=λe=>hp ⟨hf,e⟩;have hw2:wrap .i64 (B.left-1)=B.left-1:=by rw[IntKind.wrap_i64];omega
   have hgt:decide (B.left>0)=true:=decide_eq_true (by omega);simp only[aS,dK,Nat.zero_add,Nat.add_zero,Nat.mul_one,Nat.one_mul,Nat.zero_mul,Nat.reduceAdd,List.setIfInBounds_toArray,List.set_cons_zero,List.set_cons_succ,List.getElem?_toArray,List.getElem?_cons_zero,List.getElem?_cons_succ,cH,int_eq,dV,fq,fQ,fP,iy,M.val,cond_true,cond_false,Bool.not_true,Bool.not_false,hrl,hgt,hw2];refine M.bg w 0 rfl rfl (by simp) λh1 w=>?_;have hb:=w.blk 0 rfl;simp only[aS,dK,Nat.zero_add,Nat.add_zero,Nat.mul_one,Nat.one_mul,Nat.zero_mul,Nat.reduceAdd,List.setIfInBounds_toArray,List.set_cons_zero,List.set_cons_succ,List.getElem?_toArray,List.getElem?_cons_zero,List.getElem?_cons_succ,cH,int_eq,dV,fq,fQ,fP,iy,M.val,cond_true,cond_false,Bool.not_true,Bool.not_false,dA hb,hw1];refine M.bg w 0 rfl rfl (by simp) λh2 w=>?_;exact k _ (w.close 0 (a,c,ps) (by simp[hf,ak.pE]) ⟨ok2,hl⟩)
theorem IV{Q:Int->H->Prop}(w:Wd h0 h [fV b B])(hs:B.steps<1000000000)(hlx:B.left≤9223372036854775807)(hW:(B.hU i).W.length<1000000000)(k:∀h',Wd h0 h' [fV b (B.write i at_ s).2]->Q (B.write i at_ s).1 h'):eG (some ⟨b,0,none⟩) i at_ s h Q:=by
 unfold eG;unfold ak.write at k;refine M.aO (λd h'=>d=decide (B.bad i)∧h=h') (λJ hJ=>Mu (K:=λd=>J d h) w (hJ _ _ ⟨rfl,rfl⟩)) ?_;rintro _ _ ⟨rfl,rfl⟩;by_cases hb:B.bad i
 ·simp only[hb,if_true]at k;simp only[hb,decide_true,cond_true];exact k _ w
 ·simp only[hb,if_false]at k;simp only[hb,decide_false,cond_false];refine DO w hs hlx λh1 w=>?_;by_cases hp:B.jS
  ·have e:B.iU=(21,B):=by simp[ak.iU,hp]
   rw[e]at w ⊢;simp only[hp,if_true]at k;exact k _ w
  ·have e:B.iU.1=0:=by simp[ak.iU,hp]
   simp only[hp,if_false]at k;simp only[e,bne_self_eq_false,cond_false];refine Og w (λx=>hb (uW.1 x)) λp h2 k0 k1 w2 back=>?_;rw[sk]at w2;exact RJ w2 hW λh' w3=>k h' (back _ _ w3)
theorem Jt{Q:Int->H->Prop}(w:Wd h0 h [fV b B])(hs:B.steps<1000000000)(hlx:B.left≤9223372036854775807)(hW:(B.hU i).W.length<1000000000)(k:∀h',Wd h0 h' [fV b (B.flush i).2]->Q (B.flush i).1 h'):eA (some ⟨b,0,none⟩) i h Q:=by
 unfold eA;unfold ak.flush at k;refine M.aO (λd h'=>d=decide (B.bad i)∧h=h') (λJ hJ=>Mu (K:=λd=>J d h) w (hJ _ _ ⟨rfl,rfl⟩)) ?_;rintro _ _ ⟨rfl,rfl⟩;by_cases hb:B.bad i
 ·simp only[hb,if_true]at k;simp only[hb,decide_true,cond_true];exact k _ w
 ·simp only[hb,if_false]at k;simp only[hb,decide_false,cond_false];refine DO w hs hlx λh1 w=>?_;by_cases hp:B.jS
  ·have e:B.iU=(21,B):=by simp[ak.iU,hp]
   rw[e]at w ⊢;simp only[hp,if_true]at k;exact k _ w
  ·have e:B.iU.1=0:=by simp[ak.iU,hp]
   simp only[hp,if_false]at k;simp only[e,bne_self_eq_false,cond_false];refine Og w (λx=>hb (uW.1 x)) λp h2 k0 k1 w2 back=>?_;rw[sk]at w2;exact Qh w2 hW λh' w3=>k h' (back _ _ w3)
theorem G4{Q:ByteArray->Int->H->Prop}(w:Wd h0 h [fV b B])(hW:(B.hU i).W.length<1000000000)(k:Q (B.read i at_).1 (B.read i at_).2 h):fI (some ⟨b,0,none⟩) i at_ h Q:=by
 unfold fI;unfold ak.read at k;refine M.aO (λd h'=>d=decide (B.bad i)∧h=h') (λJ hJ=>Mu (K:=λd=>J d h) w (hJ _ _ ⟨rfl,rfl⟩)) ?_;rintro _ _ ⟨rfl,rfl⟩;by_cases hb:B.bad i
 ·simp only[hb,if_true]at k;simp only[hb,decide_true,cond_true];exact k
 ·simp only[hb,if_false]at k;simp only[hb,decide_false,cond_false];have w':=w;obtain⟨v,⟨ok,hl⟩,w'⟩:=w'.tw 0 rfl;have hbb:=w'.blk 0 rfl;have e1:∀K:Int->Prop,K B.pE->(M.nn (some ⟨b,0,none⟩) λa11=>M.load h (Addr.add a11 2) λv12=>M.int .i64 v12 λn13=>K n13):=by
   intro K hK;simp only[aS,dK,Nat.zero_add,Nat.add_zero,Nat.mul_one,Nat.one_mul,Nat.zero_mul,Nat.reduceAdd,List.setIfInBounds_toArray,List.set_cons_zero,List.set_cons_succ,List.getElem?_toArray,List.getElem?_cons_zero,List.getElem?_cons_succ,cH,int_eq,dV,fq,fQ,fP,iy,M.val,cond_true,cond_false,Bool.not_true,Bool.not_false,dA hbb];exact hK
  refine e1 _ ?_;by_cases hp:B.jS
  ·have hr:=(qM ok).2 hp;simp only[hp,if_true]at k;simp only[hr,beq_self_eq_true,cond_true];exact k
  ·have hr:(B.pE == 0)=false:=by
    have:¬B.pE=0:=λe=>hp ((qM ok).1 e);simpa using this
   simp only[hp,if_false]at k;simp only[hr,cond_false];exact Og w hb λp h2 k0 k1 w2 back=>Rk w2 hW k
theorem Q2{n cells:Int}{Q:Option Addr->H->Prop}(k:∀b h',Wd h h' [fV b (ak.new n cells)]->Q (some ⟨b,0,none⟩) h'):iI n cells h Q:=by
 unfold iI;have hn:=ak.pL n;refine M.aO (λd h'=>d=mx 1 n∧h=h') (λJ hJ=>?_) ?_
 ·by_cases h1:n<1
  ·simp only[h1,decide_true,cond_true];exact hJ _ _ ⟨by unfold mx;split<;>omega,rfl⟩
  ·simp only[h1,decide_false,cond_false];exact hJ _ _ ⟨by unfold mx;split<;>omega,rfl⟩
 rintro _ _ ⟨rfl,rfl⟩;refine M.aO (λd h'=>d=mx 1 (mn n 12)∧h=h') (λJ hJ=>?_) ?_
 ·by_cases h1:mx 1 n>12
  ·simp only[h1,decide_true,cond_true];exact hJ _ _ ⟨by unfold mx mn at *;split<;>split<;>(try split at h1)<;>omega,rfl⟩
  ·simp only[h1,decide_false,cond_false];exact hJ _ _ ⟨by unfold mx mn at *;split<;>split<;>(try split at h1)<;>(try split)<;>omega,rfl⟩
 rintro _ _ ⟨rfl,rfl⟩;refine M.aK (Wd.start h) λb h1 w=>?_;have w:=w.jt 89 1;have w:Wd h h1 [.blk b (.cells #[.slice none 0 0,.int .i64 0,.int .i64 (-1)] 74 (0,0)),.sl 89 1 none 0 0 (zP []),.sep (List.zipWith xg [] [])]:=
  w.fold 2 (c:=.sep (List.zipWith xg [] [])) (Chunk.Le.refl _)
 refine M.aP (I:=λ(i:Int) h'=>0≤i∧i≤mx 1 (mn n 12)∧∃a c ps,ps.length=i.toNat∧Wd h h' [.blk b (.cells #[.slice a i.toNat c,.int .i64 0,.int .i64 (-1)] 74 (0,0)),.sl 89 1 a i.toNat c (zP ps),
   .sep (List.zipWith xg ps (List.replicate i.toNat (cP.new cells)))]) (μ:=λi=>(mx 1 (mn n 12)-i).toNat) ⟨by omega,by omega,none,0,[],rfl,w⟩ ?_
 rintro i h2 J ⟨hi0,hi1,a,c,ps,hps,w⟩ hJ;by_cases hlt:i<mx 1 (mn n 12)
 ·have hw1:wrap .i64 (i+1)=i+1:=by rw[IntKind.wrap_i64];omega
  simp only[hlt,decide_true,cond_true];refine RO λd h3 w3=>?_;have w:=w.join w3;have hb:=w.blk 0 rfl;simp only[aS,dK,Nat.zero_add,Nat.add_zero,Nat.mul_one,Nat.one_mul,Nat.zero_mul,Nat.reduceAdd,List.setIfInBounds_toArray,List.set_cons_zero,List.set_cons_succ,List.getElem?_toArray,List.getElem?_cons_zero,List.getElem?_cons_succ,cH,int_eq,dV,fq,fQ,fP,iy,M.val,cond_true,cond_false,Bool.not_true,Bool.not_false,dA hb,hw1];refine M.EF w λt h4 ht w=>?_;refine nD ht rfl ?_;refine M.ru w 1 rfl rfl rfl (by simp[ag]) (by omega) (by omega) λa' c' h5 w=>?_;refine M.bg w 0 rfl rfl (by simp) λh6 w=>?_;have hni:(i+1).toNat=i.toNat+1:=by omega
  have w:=w.fold 2 (c:=.sep (List.zipWith xg (ps++[d]) (List.replicate (i.toNat+1) (cP.new cells)))) (by
   rw[List.replicate_succ',List.zipWith_append (by simp[hps])]
   exact(Chunk.kE (Chunk.Le.refl _) (Chunk.Le.refl _)).trans (Chunk.nV _ _))
  refine hJ _ _ ⟨by omega,by omega,a',c',ps++[d],by simp[hps,hni],?_⟩ (by omega);rw[hni];simpa [zP] using w
 ·simp only[hlt,decide_false,cond_false];have hi:i=mx 1 (mn n 12):=by omega
  subst hi;refine k b _ (w.close 0 (a,c,ps) ?_ ⟨ak.wE n cells,by simpa [ak.new] using hps⟩);simp[ak.new,ak.pE]
end
section
variable {h0 h:H}{b:Nat}{B:ak}{i at_:Int}{s:ByteArray}
theorem rL(hb:¬B.bad i):B.hU i∈B.ds:=by
 obtain⟨hj,hd⟩:=ak.zY hb;rw[←hd];exact List.getElem_mem hj
end
theorem Gx{n s:Int}(hd:dep n≠0)(hs:0≤s∧s<n):vE n s=jC n s:=by
 have key:∀s:Fin 16,(s.val<2->vE 2 s.val=jC 2 s.val)∧(s.val<4->vE 4 s.val=jC 4 s.val)∧(s.val<8->vE 8 s.val=jC 8 s.val)∧vE 16 s.val=jC 16 s.val:=by decide
 have h16:n≤16:=by rcases oE hd with rfl|rfl|rfl|rfl<;>decide
 have k:=key ⟨s.toNat,by omega⟩;simp only[Int.toNat_of_nonneg hs.1]at k;rcases oE hd with rfl|rfl|rfl|rfl
 ·exact k.1 (by omega)
 ·exact k.2.1 (by omega)
 ·exact k.2.2.1 (by omega)
 ·exact k.2.2.2
section
variable {h:H}{n s:Int}
theorem qZ{Q:Option Addr->Nat->Nat->Int->H->Prop}(hd:dep n≠0)(hs:0≤s∧s<n)(tb:Tabs h)(k:∀a c h',Wd h h' [.sl 3 1 a (dep n) c (eI.row (jC n s))]->Q a (dep n) c 0 h'):fu n s h Q:=by
 have hn:n≤16:=by rcases oE hd with rfl|rfl|rfl|rfl<;>decide
 refine⟨(dep n:Int),sr tb ⟨rfl,bq.refl h⟩,λe=>?_,λ_=>⟨by omega,λa c h' w=>?_⟩⟩
 ·unfold uU at e;omega
 ·rw[Gx hd hs,←L8,rB]at w;rw[Gx hd hs,rB];exact k a c h' w
theorem D9{Q:Option Addr->Nat->Nat->Int->H->Prop}(hb:¬(dep n≠0∧0≤s∧s<n))(tb:Tabs h)(k:∀h',bq h h'->Q none 0 0 2 h'):fu n s h Q:=by
 refine⟨(dep n:Int),sr tb ⟨rfl,bq.refl h⟩,λ_=>k,λe=>absurd ?_ hb⟩;unfold uU at e;omega
def iZ(n:Nat):ByteArray:=lf true [BitVec.ofNat 32 (n/4294967296),BitVec.ofNat 32 n]
theorem eF(n:Nat):(iZ n).size=8:=by rw[iZ,kV];rfl
theorem m8{n:Nat}{Q:ByteArray->H->Prop}(hn:n<18446744073709551616)(k:∀h',bq h h'->Q (iZ n) h'):dI (n:Int) h Q:=by
 unfold dI;have w:=Wd.start h;have e:(n:Int)=kH n:=(A9 hn).symm;have e2:n%18446744073709551616=n:=Nat.mod_eq_of_lt hn;rw[e];refine⟨(by omega),?_⟩;simp only[uJ,oU,e2];refine M.dN ?_;simp only[oU];refine M.dN ?_;refine M.dN ?_;refine M.aK w λb2 h1 w=>?_;refine pR (rA (us:=[BitVec.ofNat 32 (n/4294967296),BitVec.ofNat 32 n]) (rest:=[]) (w.blk 0 rfl) (by simp)) λh2 k2=>?_;exact k _ (w.keep.trans k2)
end
def iS(B:ak)(d n:Int)(key:ByteArray):Prop:=dep n≠0∧key.size=32∧¬B.bad d
instance (B:ak) (d n:Int) (key:ByteArray):Decidable (iS B d n key):=by unfold iS;infer_instance
section
variable {hx h:H}{b:Nat}{B:ak}{d n slot:Int}{key nonce pl:ByteArray}
theorem rV{Q:Bool->H->Prop}(wx:Wd hx h [dO b B])(tb:Tabs h)(k:∀h',bq h h'->Q (decide (iS B d n key)) h'):aX (some ⟨b,0,none⟩) d n key h Q:=by
 unfold aX;have w:=Wd.start h;refine M.aK w λb2 h1 w=>?_;simp only[bs,lb (w.blk 0 rfl)];by_cases hd:dep n=0
 ·refine D9 (by omega) (tb.keep w.keep) λh2 k2=>?_;have w:=w.keeps k2;rw[decide_eq_false (show ¬iS B d n key from λg=>g.1 hd)]at k;exact M.jn (cf rfl (k _ w.keep))
 ·refine qZ hd ⟨by omega,by rcases oE hd with h|h|h|h<;>omega⟩ (tb.keep w.keep) λa2 c2 h2 w'=>?_
  have w:=w.join w';clear w';refine M.jn (ct rfl ?_);simp only[bs,lb (w.blk 0 rfl)];by_cases hk:key.size=32
  ·refine ct (by rw[hk];rfl) ?_;have wb:=wx.keeps w.keep;refine Nj wb (λhb=>?_) λhb p h3 _ k3 _ _=>?_
   ·rw[decide_eq_false (show ¬iS B d n key from λg=>g.2.2 hb)]at k;exact k _ w.keep
   ·rw[decide_eq_true (show iS B d n key from⟨hd,hk,hb⟩)]at k;exact k _ w.keep
  ·refine cf (by rw[beq_eq_false_iff_ne];omega) ?_;rw[decide_eq_false (show ¬iS B d n key from λg=>hk g.2.1)]at k;exact k _ w.keep
def wU(g:Prop)[Decidable g](n slot:Int):Int:=if ¬g then 4 else if slot<0∨slot≥n then 2 else 0
theorem A1{Q:Int->H->Prop}(wx:Wd hx h [dO b B])(tb:Tabs h)(k:∀h',bq h h'->Q (wU (iS B d n key) n slot) h'):cr (some ⟨b,0,none⟩) d n key slot h Q:=by
 unfold cr;have w:=Wd.start h;refine M.aK w λb2 h1 w=>?_;simp only[bs,lb (w.blk 0 rfl)];refine rV (wx.keeps w.keep) (tb.keep w.keep) λh2 k2=>?_;have w:=w.keeps k2;unfold wU at k;by_cases g:iS B d n key
 ·rw[if_neg (by simp[g])]at k;refine cf (by simp[g]) (M.jn ?_);refine cd (λe=>?_) λe=>?_
  ·rw[if_pos (.inl e)]at k;exact k _ w.keep
  ·simp only[bs,lb (w.blk 0 rfl)];refine cd (λe2=>?_) λe2=>?_
   ·rw[if_pos (.inr e2)]at k;exact k _ w.keep
   ·rw[if_neg (by omega)]at k;exact k _ w.keep
 ·rw[if_pos g]at k;exact ct (by simp[g]) (k _ w.keep)
def zD(d slot:Int):ByteArray:=iZ d.toNat++iZ slot.toNat
theorem AE(d slot:Int):(zD d slot).size=16:=by rw[zD,ByteArray.size_append,eF,eF]
theorem CP{p:Option Addr}{Q:ByteArray->H->Prop}(hd:0≤d∧d≤1000)(hs:0≤slot∧slot≤1000)(k:∀h',bq h h'->Q (zD d slot) h'):de p d n key slot h Q:=by
 unfold de;have w:=Wd.start h;have v1:wrap .u64 d=(d.toNat:Int):=by rw[IntKind.wrap_u64];omega
 have v2:wrap .u64 slot=(slot.toNat:Int):=by rw[IntKind.wrap_u64];omega
 have z1:=eF d.toNat;have z2:=eF slot.toNat;refine M.aK w λb2 h1 w=>?_;simp only[bs,v1,v2,lb (w.blk 0 rfl)];refine M.dN ?_;refine m8 (by omega) λh3 k_=>?_;have w:=w.keeps k_;clear k_;refine M.dN ?_;refine m8 (by omega) λh4 k_=>?_;have w:=w.keeps k_;clear k_;refine⟨(by simp;omega),?_⟩;simp only[];exact k _ w.keep
def cellOf(key:ByteArray)(d slot:Int)(nonce pl:ByteArray):ByteArray:=nonce++qK key nonce (zD d slot) pl
theorem zk(key:ByteArray)(d slot:Int)(nonce pl:ByteArray):(cellOf key d slot nonce pl).size=nonce.size+pl.size+16:=by rw[cellOf,ByteArray.size_append,vT];omega
def xh(g:Prop)[Decidable g](key:ByteArray)(d n slot:Int)(nonce pl:ByteArray):ByteArray×Int:=
 if wU g n slot≠0 then(empty,wU g n slot)else if nonce.size≠12∨pl.size≠32 then(empty,7)else(cellOf key d slot nonce pl,0)
theorem oz{g:Prop}[Decidable g]{n slot:Int}:wU g n slot=0↔g∧0≤slot∧slot<n:=by
 unfold wU;by_cases h:g
 ·rw[if_neg (by simp[h])];by_cases h2:slot<0∨slot≥n
  ·rw[if_pos h2];simp;omega
  ·rw[if_neg h2];simp[h];omega
 ·rw[if_pos h];simp[h]
theorem iC{n:Int}(h:dep n≠0):2≤n∧n≤16:=by rcases oE h with rfl|rfl|rfl|rfl<;>decide
theorem Hp{Q:ByteArray->Int->H->Prop}(wx:Wd hx h [dO b B])(tb:Tabs h)(k:∀h',bq h h'->Q (xh (iS B d n key) key d n slot nonce pl).1 (xh (iS B d n key) key d n slot nonce pl).2 h'):
  dQ (some ⟨b,0,none⟩) d n key slot nonce pl h Q:=by
 unfold dQ;have w:=Wd.start h;have ok:=xA wx;refine M.aK w λb2 h1 w=>?_;simp only[bs,lb (w.blk 0 rfl)];refine A1 (wx.keeps w.keep) (tb.keep w.keep) λh2 k2=>?_;have w:=w.keeps k2;unfold xh at k;by_cases hm:wU (iS B d n key) n slot=0
 ·obtain⟨⟨hd,hk,hb⟩,hs⟩:=oz.1 hm;have hn:=iC hd;have hb':=ak.jX.1 hb;have hsm:=ok.small;rw[if_neg (by simp[hm])]at k;rw[hm];refine cf rfl (M.jn ?_);have main:∀(K:Prop),nonce.size=12->pl.size=32->K->K:=λK _ _ k=>k;by_cases h1:nonce.size=12
  ·refine cf (by rw[h1];rfl) ?_;by_cases h2:pl.size=32
   ·rw[if_neg (by simp[h1,h2])]at k;refine cf (by rw[h2];rfl) ?_;have hs0:=w.blk 0 rfl;have z:=AE d slot;have z2:=vT key nonce (zD d slot) pl;simp only[bs,lb (w.blk 0 rfl)];refine CP (by omega) (by omega) λh3 k_=>?_;have w:=w.keeps k_;clear k_;refine M.still_at hs0 (w.blk 0 rfl) ?_;refine KA (by assumption) (by assumption) (by omega) (by omega) λh4 k_=>?_;have w:=w.keeps k_;clear k_;refine⟨(by simp;omega),?_⟩;simp only[];exact k _ w.keep
   ·rw[if_pos (.inr h2)]at k;exact ct (by rw[bne_iff_ne];omega) (k _ w.keep)
  ·rw[if_pos (.inl h1)]at k;exact ct (by rw[bne_iff_ne];omega) (k _ w.keep)
 ·rw[if_pos hm]at k;exact ct (by rw[bne_iff_ne];exact hm) (k _ w.keep)
end
def Qp(v:Value):Prop:=∃n,v = .int .i64 n
theorem rq:Keys Tryz.prog 3 Qp:=LY Tryz.underlying3
theorem GI:∀w,(zeroValue 9).run Tryz.prog w = .ok (.string empty) w:=λw=>by kernel_rfl
def D5(h:H)(x:Option Nat)(g:Int->Option ByteArray):Prop:=
 (x=none∧∀k,g k=none)∨∃b n f,x=some b∧sX Qp h b f n∧∀k,f (.int .i64 k)=(g k).map Value.string
theorem D5.keep{h h':H}{x:Option Nat}{g:Int->Option ByteArray}(m:D5 h x g)(k:bq h h'):D5 h' x g:=by
 rcases m with m|⟨b,n,f,h1,h2,h3⟩
 ·exact .inl m
 ·exact .inr ⟨b,n,f,h1,h2.keep k,h3⟩
theorem D5.nil(h:H):D5 h none λ_=>none:=.inl ⟨rfl,λ_=>rfl⟩
theorem Rc{h:H}{x:Option Nat}{g:Int->Option ByteArray}{k:Int}{K:Value->Bool->H->Prop}(m:D5 h x g)(kk:K (.string ((g k).getD empty)) (g k).isSome h):M.Nz Tryz.prog 307 (.map x) (.int .i64 k) h K:=by
 rcases m with ⟨rfl,hg⟩|⟨b,n,f,rfl,hm,hf⟩
 ·rw[hg k]at kk;refine⟨3,9,#[],_,Tryz.underlying307,.inl ⟨rfl,rfl⟩,rq.at ⟨k,rfl⟩ (by simp),?_⟩;exact⟨.string empty,GI,kk⟩
 ·refine Hs Tryz.underlying307 rq GI hm ⟨k,rfl⟩ ?_;rw[hf k];cases hg:g k with
  | none=>rw[hg]at kk;exact kk
  | some p=>rw[hg]at kk;exact kk
def rO(f:Int->ByteArray×Int)(acc:List ByteArray):List Int->List ByteArray×Int
 | []=>(acc,0)
 | x::r=>if(f x).2≠0 then([],(f x).2)else rO f (acc++[(f x).1]) r
theorem AH{f:Int->ByteArray×Int}:∀{l:List Int} {acc:List ByteArray},(rO f acc l).2=0->(rO f acc l).1.length=acc.length+l.length
 | [],acc,_=>rfl
 | x::r,acc,h=>by
  unfold rO at h ⊢;by_cases h1:(f x).2≠0
  ·rw[if_pos h1]at h;exact absurd h h1
  ·rw[if_neg h1]at h ⊢;rw[AH h];simp;omega
theorem FG{p:ByteArray->Prop}{f:Int->ByteArray×Int}(hf:∀x,(f x).2=0->p (f x).1):∀{l:List Int} {acc:List ByteArray},(∀q∈acc,p q)->∀q∈(rO f acc l).1,p q
 | [],acc,ha=>ha
 | x::r,acc,ha=>by
  unfold rO;by_cases h1:(f x).2≠0
  ·rw[if_pos h1];simp
  ·rw[if_neg h1];refine FG hf λq hq=>?_;rcases List.mem_append.1 hq with hq|hq
   ·exact ha q hq
   ·rw[List.mem_singleton.1 hq];exact hf x (Decidable.not_not.1 h1)
theorem IJ{xs:List Int}{m:Nat}(h:m<xs.length):xs.drop m=za xs m::xs.drop (m+1):=by rw[kP h,←List.drop_eq_getElem_cons h]
def jI(B:ak)(d:Int)(g:Int->Option ByteArray)(x:Int):ByteArray×Int:=match g x with
 | some p=>(p,0)
 | none=>B.read d (100+x)
def lP(B:ak)(d n:Int)(g:Int->Option ByteArray)(top:ByteArray)(slot:Int):List ByteArray×ByteArray×Int:=
 let r:=rO (jI B d g) [] (jC n slot)
 if r.2≠0 then([],empty,r.2)else(r.1,(follow top slot.toNat r.1).1,(follow top slot.toNat r.1).2)
def ak.Sm(B:ak):Prop:=∀d a,(B.read d a).1.size≤2048
section
variable {hx h:H}{b:Nat}{B:ak}{d n slot:Int}{key top:ByteArray}{x:Option Nat}{g:Int->Option ByteArray}
theorem Fz(sm:B.Sm)(hg:∀k p,g k=some p->p.size≤500000)(y:Int):(jI B d g y).1.size≤500000:=by
 unfold jI;cases hy:g y with
 | none=>have:=sm d (100+y);simp only;omega
 | some p=>exact hg y p hy
theorem DF{n s:Int}(hd:dep n≠0)(hs:0≤s∧s<n):∀x∈jC n s,0≤x∧x≤15:=by
 intro x hx;rw[jC,List.mem_map]at hx;obtain⟨i,hi,rfl⟩:=hx;have hi:=List.mem_range.1 hi;have hn:=iC hd;obtain⟨q,hq⟩:∃q,dep n-i=q+1:=⟨dep n-i-1,by omega⟩;have h1:(n+s).toNat/2^(dep n-i)≤(n+s).toNat/2:=by
  rw[hq,Nat.pow_succ,Nat.mul_comm,←Nat.div_div_eq_div_mul];exact Nat.div_le_self _ _
 refine⟨Int.natCast_nonneg _,?_⟩;generalize (n+s).toNat/2^(dep n-i)=y at *;omega
theorem Dd{Q:Option Addr->Nat->Nat->ByteArray->Int->H->Prop}(wx:Wd hx h [dO b B])(mr:D5 h x g)(hd:dep n≠0)(hs:0≤slot∧slot<n)(sm:B.Sm)(hg:∀k p,g k=some p->p.size≤500000)(tb:Tabs h)
  (k:∀a c h',Wd h h' [.sl 9 1 a (lP B d n g top slot).1.length c (eS.row (lP B d n g top slot).1)]->Q a (lP B d n g top slot).1.length c (lP B d n g top slot).2.1 (lP B d n g top slot).2.2 h'):
  cO (some ⟨b,0,none⟩) d n key top slot x h Q:=by
 unfold cO cO.g;have w:=Wd.start h;refine M.aK w λb2 h1 w=>?_;simp only[bs,Nat.reduceMul,lb (w.blk 0 rfl)];refine qZ hd hs (tb.keep w.keep) λa2 c2 h2 w'=>?_;have w:=w.join w';clear w';have hpl:=rB n slot;have hple:=DF hd hs;have hdl:=Nu n;have hpow:=pS hd;have hof:lP B d n g top slot=if(rO (jI B d g) [] (jC n slot)).2≠0 then([],empty,(rO (jI B d g) [] (jC n slot)).2)else((rO (jI B d g) [] (jC n slot)).1,(follow top slot.toNat (rO (jI B d g) [] (jC n slot)).1).1,(follow top slot.toNat (rO (jI B d g) [] (jC n slot)).1).2):=rfl
 rw[hof]at k;clear hof;have hall:=FG (p:=λq=>q.size≤500000) (f:=jI B d g) (λx _=>Fz sm hg x) (l:=jC n slot) (acc:=[]) (by simp);have hlen0:=@AH (jI B d g) (jC n slot) [];generalize hG:rO (jI B d g) [] (jC n slot)=G at *;refine M.jn ?_
 refine M.aP (I:=λ(p:(Option Addr×Nat×Nat)×Int) h'=>∃(m:Nat) (ps:List ByteArray),m≤dep n∧p.2=(m:Int)∧p.1.2.1=m∧ps.length=m∧G=rO (jI B d g) ps ((jC n slot).drop m) ∧
   Wd h h' [.blk b2 (.cells #[.pointer (some ⟨b,0,none⟩),.int .i64 d,.int .i64 n,.string key] 126),.sl 3 1 a2 (dep n) c2 (eI.row (jC n slot)),.sl 9 1 p.1.1 p.1.2.1 p.1.2.2 (eS.row ps)]) (μ:=λp=>(dep n-p.2).toNat) ⟨0,[],by omega,rfl,rfl,rfl,hG.symm,w.jt _ _⟩ ?_
 clear w;rintro⟨⟨a3,l3,c3⟩,_⟩ h3 J ⟨m,ps,hm,hi,hl,hps,hg2,w⟩ hJ;simp only at hi hl w ⊢;subst hi hl;by_cases hlt:l3<dep n
 ·refine eN (by omega) ?_;refine Ro.Ii (w.ro 1 rfl (by decide)) (by omega) (by omega) ?_;rw[Int.toNat_natCast];have hnd:0≤za (jC n slot) l3∧za (jC n slot) l3≤15:=by rw[kP (by omega)];exact hple _ (List.getElem_mem _)
  have hg3:G=if(jI B d g (za (jC n slot) l3)).2≠0 then([],(jI B d g (za (jC n slot) l3)).2)else rO (jI B d g) (ps++[(jI B d g (za (jC n slot) l3)).1]) ((jC n slot).drop (l3+1)):=by
   rw[hg2,IJ (by omega)];rfl
  generalize za (jC n slot) l3=nd at *;refine Rc (mr.keep w.keep) ?_;rw[fq];refine M.aO (λd' h'=>d'=(jI B d g nd).1∧(jI B d g nd).2=0∧Wd h h' [.blk b2 (.cells #[.pointer (some ⟨b,0,none⟩),.int .i64 d,.int .i64 n,.string key] 126),.sl 3 1 a2 (dep n) c2 (eI.row (jC n slot)),.sl 9 1 a3 l3 c3 (eS.row ps)]) (λJ2 hJ2=>?_) ?_
  ·cases hgn:g nd with
   | none=>
    have hpo:jI B d g nd=B.read d (100+nd):=by unfold jI;rw[hgn]
    rw[hpo]at hJ2 hg3;have v:wrap .i64 (100+nd)=100+nd:=by rw[IntKind.wrap_i64];omega
    refine ct rfl ?_;simp only[bs,v,lb (w.blk 0 rfl)];refine M.dN ?_;refine IT (wx.keeps w.keep) ?_;by_cases e:(B.read d (100+nd)).2=0
    ·exact cf (by rw[bne_eq_false_iff_eq];exact e) (hJ2 _ _ ⟨rfl,e,w⟩)
    ·refine ct (by rw[bne_iff_ne];exact e) ?_;rw[if_pos e]at hg3;have e2:G.2=(B.read d (100+nd)).2:=by rw[hg3]
     rw[e2,if_pos e]at k;exact k none 0 _ (((w.drop (i:=0) rfl).drop (i:=0) rfl).drop (i:=0) rfl |>.jt _ _)
   | some p=>
    have hpo:jI B d g nd=(p,0):=by unfold jI;rw[hgn]
    rw[hpo]at hJ2;exact cf rfl (hJ2 _ _ ⟨rfl,rfl,w⟩)
  clear w;rintro _ h4 ⟨rfl,e,w⟩;rw[if_neg (by rw[e];simp)]at hg3;have v1:wrap .i64 ((l3:Int)+1)=((l3+1:Nat):Int):=by rw[IntKind.wrap_i64];omega
  refine Wd.push w 2 rfl rfl rfl (by simp[ag]) (by omega) (by omega) λa7 c8 h5 w=>?_;simp only[v1];refine M.dN ?_;refine hJ _ _ ⟨l3+1,ps++[(jI B d g nd).1],by omega,rfl,rfl,by simp[hps],hg3,?_⟩ (by simp only;omega);rw[eS.iX,eS.row_one];exact w
 ·refine gI (by omega) ?_;have hl:l3=dep n:=by omega
  have hG2:G=(ps,0):=by rw[hg2,List.drop_of_length_le (by omega)];rfl
  rw[hG2]at k hall;simp only at k hall;rw[if_neg (by simp)]at k;have hsl:slot=(slot.toNat:Int):=by omega
  rw[hsl];refine Gk (w.ro 2 rfl (by decide)) (by omega) ?_ hall (tb.keep w.keep) λh4 k4=>?_
  ·rw[hl];omega
  have w:=w.keeps k4;have:=k a3 c3 h4;simp only[hps]at this;exact this ((w.drop (i:=0) rfl).drop (i:=0) rfl)
end
end Go.Proofs.YtmfcgihgdhfalaaGreatDoor
namespace Go.Proofs.YtmfcgihgdhfalaaGreatDoor
open Go.Sh Go.RowKit Classical
theorem Ro.tk{α:Type}{E:wY α}{h:H}{a:Option Addr}{l:Nat}{xs:List α}(f:Ro E h a l xs)(n:Nat)(hn:n≤l):Ro E h a n (xs.take n):=
 ⟨by rw[List.length_take,f.len];omega,λe=>by have:=f.none e;omega,λb e i hi=>by
  have h1:=f.row b e i (by rw[E.jR]at hi ⊢;rw[List.length_take]at hi;exact Nat.lt_of_lt_of_le hi (Nat.mul_le_mul_right _ (Nat.min_le_right _ _)));rw[h1,←E.row_take];rw[E.jR,List.length_take,f.len,Nat.min_eq_left hn]at hi
  rw[List.getElem?_take,if_pos hi]⟩
theorem M.gv{h:H}{b o:Nat}{c:Array Value}{e:TypeId}{f:Nat×Nat}{n:Int}{kd:IntKind}{K:Int->Prop}(hb:h b=some (.cells c e f))(hv:c[o]? = some (.int kd n))(k:K n):M.load h ⟨b,o,none⟩ λv=>M.int kd v K:=M.uM hb hv ⟨_,rfl,k⟩
theorem M.nF{h:H}{b o:Nat}{c:Array Value}{e:TypeId}{f:Nat×Nat}{p:Option Addr}{K:Option Addr->Prop}(hb:h b=some (.cells c e f))(hv:c[o]? = some (.pointer p))(k:K p):M.load h ⟨b,o,none⟩ λv=>M.ptr v K:=M.uM hb hv ⟨_,rfl,k⟩
theorem M.oL{h:H}{b o:Nat}{c:Array Value}{e:TypeId}{f:Nat×Nat}{s:ByteArray}{K:ByteArray->Prop}(hb:h b=some (.cells c e f))(hv:c[o]? = some (.string s))(k:K s):M.load h ⟨b,o,none⟩ λv=>M.str v K:=M.uM hb hv ⟨_,rfl,k⟩
theorem M.Bi{h:H}{b o:Nat}{c:Array Value}{e:TypeId}{f:Nat×Nat}{s:Bool}{K:Bool->Prop}(hb:h b=some (.cells c e f))(hv:c[o]? = some (.bool s))(k:K s):M.load h ⟨b,o,none⟩ λv=>M.bool v K:=M.uM hb hv ⟨_,rfl,k⟩
def Pd(b:Nat)(S:List Int):Chunk where
 holds F h:=(∀x,F x↔x=b)∧∃f n,sX Qp h b f n∧∀z,f (.int .i64 z)=if z∈S then some (.bool true)else none
 loc:=λ{F h h'} ⟨hF,f,n,⟨es,c,hb,r⟩,hf⟩ hs=>⟨hF,f,n,⟨es,c,(hs b ((hF b).2 rfl)).trans hb,r⟩,hf⟩
 dom:=λ{F h x} ⟨hF,f,n,⟨es,c,hb,r⟩,hf⟩ hx=>by rw[(hF x).1 hx,hb];simp
section
variable {h0 h:H}{L:List Chunk}{z:Int}
theorem Rr{b i:Nat}{S:List Int}{K:H->Prop}(w:Wd h0 h L)(hi:L[i]? = some (Pd b S))(k:∀h',Wd h0 h' (L.set i (Pd b (z::S)))->K h'):M.An Tryz.prog 254 (.map (some b)) (.int .i64 z) (.bool true) h K:=by
 obtain⟨h1,_,k1,w1,_,back⟩:=w.on hi;obtain⟨F,⟨hF,f,n,m,hf⟩,hn⟩:=w1.get (i:=0) rfl;refine Ow Tryz.underlying254 rq m ⟨z,rfl⟩ λh' u m'=>k h' (back _ _ (Wd.one (u.keep k1 (hn b ((hF b).2 rfl))) (F:=F) ⟨hF,_,_,m',λt=>?_⟩ hn));by_cases e:t=z
 ·simp[e]
 ·simp[e,hf]
theorem OZ{b i:Nat}{S:List Int}{K:Bool->H->Prop}(w:Wd h0 h L)(hi:L[i]? = some (Pd b S))(k:K (decide (z∈S)) h):M.lk Tryz.prog 254 (.map (some b)) (.int .i64 z) h λv h'=>M.bool v λx=>K x h':=by
 obtain⟨F,⟨hF,f,n,m,hf⟩,hn⟩:=w.get hi;have hz:∀w,(zeroValue 4).run Tryz.prog w = .ok (.bool false) w:=λw=>by kernel_rfl
 refine MS Tryz.underlying254 rq hz m ⟨z,rfl⟩ ?_;rw[hf];by_cases e:z∈S
 ·rw[if_pos e];rw[decide_eq_true e]at k;exact⟨_,rfl,k⟩
 ·rw[if_neg e];rw[decide_eq_false e]at k;exact⟨_,rfl,k⟩
theorem Rb{b i:Nat}(hi:L[i]? = some (.blk b (.map #[] 0)))(w:Wd h0 h L):Wd h0 h (L.set i (Pd b [])):=
 w.weaken hi λF h ⟨hF,hb⟩=>⟨hF,λ_=>none,0,sX.new hb,λs=>by simp⟩
end
end Go.Proofs.YtmfcgihgdhfalaaGreatDoor
namespace Go.Proofs.YtmfcgihgdhfalaaGreatDoor
open Go.Sh Go.RowKit
theorem iw{a:Addr}{K:Addr->Prop}(k:K a):M.nn (some a) K:=⟨_,rfl,k⟩
theorem G7{s:ByteArray}{lo' hi':Int}{K:ByteArray->Prop}(lo hi:Nat)(e1:lo'=lo)(e2:hi'=hi)(h1:lo≤hi)(h2:hi≤s.size)(k:K (s.extract lo hi)):M.qI s lo' hi' K:=by
 subst e1 e2;exact⟨by omega,by omega,by omega,by simpa using k⟩
structure Rd where
 rest:ByteArray
 bad:Int
def qT(s:ByteArray):Nat:=(me (aF s) 8).toNat
namespace Rd
def take(r:Rd)(n:Nat):ByteArray×Rd:=
 if r.bad≠0 then(empty,r)else if r.rest.size<n then(empty,⟨r.rest,3⟩)else(r.rest.extract 0 n,⟨r.rest.extract n r.rest.size,0⟩)
def num(r:Rd):Nat×Rd:=if r.bad≠0 then(0,r)else if r.rest.size<8 then(0,⟨r.rest,3⟩)else(qT r.rest,⟨r.rest.extract 8 r.rest.size,0⟩)
def below(r:Rd)(b:Nat):Nat×Rd:=if r.num.2.bad≠0 then(0,r.num.2)else if b≤r.num.1 then(0,⟨r.num.2.rest,4⟩)else r.num
def text(r:Rd):ByteArray×Rd:=r.num.2.take r.num.1
def done(r:Rd):Int:=if r.bad≠0 then r.bad else if r.rest=empty then 0 else 5
end Rd
def zL(r:Rd):Obj:=.cells #[.string r.rest,.int .i64 r.bad] 381
section
variable {h0 h:H}{b n:Nat}{r:Rd}
theorem wO{s:ByteArray}{Q:Option Addr->H->Prop}(k:∀b h',Wd h h' [.blk b (zL ⟨s,0⟩)]->Q (some ⟨b,0,none⟩) h'):gE s h Q:=by
 unfold gE;exact M.aK (Wd.start h) λb h' w=>k b h' w
theorem yV{Q:ByteArray->H->Prop}(w:Wd h0 h [.blk b (zL r)])(hs:r.rest.size≤1000000)(k:∀h',Wd h0 h' [.blk b (zL (r.take n).2)]->Q (r.take n).1 h'):cj (some ⟨b,0,none⟩) (n:Int) h Q:=by
 unfold cj;have hb:=w.blk 0 rfl;unfold Rd.take at k;by_cases e:r.bad=0
 ·rw[if_neg (by simp[e])]at k;refine cf rfl (M.jn (M.jn (iw (M.gv hb rfl (ct (by simp[e]) (iw (M.oL hb rfl (M.vis (r.rest.size:Int) (nq (by omega) (by omega)) ?_))))))));by_cases l:r.rest.size<n
  ·rw[if_pos l]at k;refine ct (by simp;omega) (iw (M.bg w 0 rfl rfl (by simp) λh1 w1=>iw (M.gv (w1.blk 0 rfl) rfl (ct rfl (k _ w1)))))
  ·rw[if_neg l]at k;refine cf (by simp;omega) (iw (M.gv hb rfl (cf (by simp[e]) (iw (M.oL hb rfl (G7 0 n rfl rfl (by omega) (by omega) (iw (M.oL hb rfl (G7 n r.rest.size rfl rfl (by omega) (by omega) (iw (M.bg w 0 rfl rfl (by simp) λh1 w1=>k _ ?_)))))))))));rw[←e];exact w1
 ·rw[if_pos e]at k;exact cf rfl (M.jn (M.jn (iw (M.gv hb rfl (cf (by simpa using e) (cf rfl (iw (M.gv hb rfl (ct (by simpa using e) (k _ w))))))))))
theorem rZ(f:Nat->Int)(hf:∀k,0≤f k∧f k<256):∀k,0≤me f k∧me f k<256^k
 | 0=>⟨by simp[me],by simp[me]⟩
 | k+1=>by
  have:=rZ f hf k;have h1:=hf k;have e:me f (k+1)=256*me f k+f k:=rfl;rw[e,Int.pow_succ];omega
theorem wo{f g:Nat->Int}:∀k,(∀i,i<k->f i=g i)->me f k=me g k
 | 0,_=>rfl
 | k+1,h=>by
  have e:∀f:Nat->Int,me f (k+1)=256*me f k+f k:=λ_=>rfl;rw[e,e,wo k λi hi=>h i (by omega),h k (by omega)]
theorem Mm(f:Nat->Int):me f 8=me f 4*4294967296+me (λk=>f (4+k)) 4:=by
 simp only[me,Nat.reduceAdd];omega
theorem LV(s:ByteArray):qT s<18446744073709551616:=by
 have:=rZ (aF s) (dZ s) 8;unfold qT;omega
theorem vI(s:ByteArray):((qT s:Nat):Int)=me (aF s) 8:=Int.toNat_of_nonneg (rZ _ (dZ s) 8).1
theorem HW(s:ByteArray)(i:Nat):ui (kr true s i)=me (λk=>aF s (4*i+k)) 4:=by
 have h:=rZ (λk=>aF s (4*i+k)) (λk=>dZ s _) 4;have e:=CI true s i;rw[←e];show(((BitVec.ofInt 32 (me (λk=>aF s (4*i+k)) 4)).toNat:Nat):Int)=_;rw[BitVec.toNat_ofInt];omega
theorem Qe{x y:Int}(hx:0≤x∧x<4294967296)(hy:0≤y∧y<4294967296):ye .u64 (shl .u64 x 32) y=x*4294967296+y:=by
 have e1:shl .u64 x 32=x*4294967296:=by
  unfold shl;rw[show(min (32:Int).toNat (IntKind.u64).bits)=32 from rfl,show(2:Int)^32=4294967296 from rfl];exact nq (by omega) (by omega)
 rw[e1];obtain⟨m,rfl⟩:=Int.eq_ofNat_of_zero_le hx.1;obtain⟨n,rfl⟩:=Int.eq_ofNat_of_zero_le hy.1;unfold ye;rw[show(IntKind.u64).bits=64 from rfl,show((m:Int)*4294967296)=((m*4294967296:Nat):Int)from by omega,BitVec.ofInt_natCast,BitVec.ofInt_natCast,BitVec.toNat_or,BitVec.toNat_ofNat,BitVec.toNat_ofNat,Nat.mod_eq_of_lt (by omega),Nat.mod_eq_of_lt (by omega),show m*4294967296=m <<< 32 from by rw[Nat.shiftLeft_eq],←Nat.shiftLeft_add_eq_or_of_lt (by omega),Nat.shiftLeft_eq];rw[nq (by omega) (by omega)];omega
theorem we{Q:Int->H->Prop}(w:Wd h0 h [.blk b (zL r)])(hs:r.rest.size≤1000000)(k:∀h',Wd h0 h' [.blk b (zL r.num.2)]->Q (r.num.1:Int) h'):bf (some ⟨b,0,none⟩) h Q:=by
 unfold bf;refine yV (n:=8) w hs λh1 w1=>?_;unfold Rd.take at w1 ⊢;unfold Rd.num at k;by_cases e:r.bad=0
 ·rw[if_neg (by simp[e])]at k w1 ⊢;by_cases l:r.rest.size<8
  ·rw[if_pos l]at k w1 ⊢;dsimp only at w1 ⊢;exact xK (by decide) (by decide) λa c h2 w2=>eN (by decide) (k _ (w1.keeps w2.keep))
  ·rw[if_neg l]at k w1 ⊢;dsimp only at w1 ⊢;have hz:(r.rest.extract 0 8).size=8:=by simp;omega
   have hb:∀i,i<8->aF (r.rest.extract 0 8) i=aF r.rest i:=λi hi=>by rw[kJ _ _ _ _ (by omega) (by omega),Nat.zero_add]
   have hv:qT r.rest=qT (r.rest.extract 0 8):=by rw[qT,qT,wo 8 λi hi=>(hb i hi).symm]
   rw[hv]at k;generalize r.rest.extract 0 8=s at *;refine xK (by omega) (by omega) λa c h2 w2=>?_;rw[show s.size/4=2 from by omega]at w2 ⊢;refine gI (by decide) ⟨by omega,?_⟩;have hl:(bP true s).length=2:=by rw[ju];omega
   obtain⟨x,rfl⟩:∃x,a=some x:=by
    cases a with
    | none=>have:=((w2.mI 0 rfl).2.2.1 rfl).2;omega
    | some x=>exact⟨x,rfl⟩
   have hr:=(w2.mI 0 rfl).2.2.2 _ rfl;have a0:jV (bP true s) 0=kr true s 0:=by simp[jV,bP,show s.size/4=2 from by omega,List.range_succ]
   have a1:jV (bP true s) 1=kr true s 1:=by simp[jV,bP,show s.size/4=2 from by omega,List.range_succ]
   refine iw (jW hr 0 (by omega) (jW hr 1 (by omega) (M.aK (w1.keeps w2.keep) λb3 h3 w3=>⟨rfl,M.bz w3 1 rfl (by simp[ag]) rfl λh4 w4=>⟨by decide,by decide,?_⟩⟩)));have hb4:=w4.blk 1 rfl;have u0:=HW s 0;have u1:=HW s 1;have b0:=rZ (λk=>aF s (4*0+k)) (λk=>dZ s _) 4;have b1:=rZ (λk=>aF s (4*1+k)) (λk=>dZ s _) 4;rw[←u0]at b0;rw[←u1]at b1;refine M.gv hb4 rfl (M.vis (ui (kr true s 0)) (by rw[a0];exact nq (by omega) (by omega)) ⟨by decide,dN ⟨by decide,by decide,M.gv hb4 rfl (M.vis (ui (kr true s 1)) (by rw[a1];exact nq (by omega) (by omega)) (M.vis (qT s:Int) ?_ (k _ (w4.drop (i:=1) rfl))))⟩⟩);rw[Qe (by omega) (by omega),vI,Mm,u0,u1];simp
 ·rw[if_pos e]at k w1 ⊢;dsimp only at w1 ⊢;exact xK (by decide) (by decide) λa c h2 w2=>eN (by decide) (k _ (w1.keeps w2.keep))
end
def pw(k:Nat):Int:=((256^k:Nat):Int)
theorem PI{l:List Int}{k j:Nat}{v:Int}(h:k<l.length)(hj:j≠k):za (l.set k v) j=za l j:=by
 unfold za;rw[List.getD_eq_getElem?_getD,List.getElem?_set_ne (λe=>hj e.symm),List.getD_eq_getElem?_getD]
theorem SK(n:Nat)(hn:n<18446744073709551616):Dw true [BitVec.ofNat 32 (n/4294967296),BitVec.ofNat 32 n]=(List.range 8).map λi=>((n/256^(7-i)%256:Nat):Int):=by
 have e1:(BitVec.ofNat 32 n).toNat=n%4294967296:=by simp
 have e2:(BitVec.ofNat 32 (n/4294967296)).toNat=n/4294967296:=by simp;omega
 simp only[Dw,List.flatMap_cons,List.flatMap_nil,wz,cond_true,vF,e1,e2,List.append_nil,List.cons_append,List.nil_append];refine List.ext_getElem rfl λi h1 h2=>?_;have hi:i<8:=h1
 match i,hi with
 | 0,_=>show((n/4294967296/16777216%256:Nat):Int)=((n/72057594037927936%256:Nat):Int);congr 1;omega
 | 1,_=>show((n/4294967296/65536%256:Nat):Int)=((n/281474976710656%256:Nat):Int);congr 1;omega
 | 2,_=>show((n/4294967296/256%256:Nat):Int)=((n/1099511627776%256:Nat):Int);congr 1;omega
 | 3,_=>show((n/4294967296/1%256:Nat):Int)=((n/4294967296%256:Nat):Int);congr 1;omega
 | 4,_=>show((n%4294967296/16777216%256:Nat):Int)=((n/16777216%256:Nat):Int);congr 1;omega
 | 5,_=>show((n%4294967296/65536%256:Nat):Int)=((n/65536%256:Nat):Int);congr 1;omega
 | 6,_=>show((n%4294967296/256%256:Nat):Int)=((n/256%256:Nat):Int);congr 1;omega
 | 7,_=>show((n%4294967296/1%256:Nat):Int)=((n/1%256:Nat):Int);congr 1;omega
theorem K6{h:H}{n:Nat}{Q:ByteArray->H->Prop}(hn:n<18446744073709551616)(k:∀h',bq h h'->Q (iZ n) h'):eY (n:Int) h Q:=by
 unfold eY;refine M.aK (Wd.start h) λb2 h3 w=>?_;have w:Wd h h3 [.blk b2 (.cells (oT (List.replicate 8 0)).toArray 340)]:=w;refine M.aO (λ_ h'=>Wd h h' [.blk b2 (.cells (oT ((List.range 8).map λi=>((n/256^(7-i)%256:Nat):Int))).toArray 340)]) (λJ hJ=>?_) ?_
 ·refine M.aP (I:=λ(p:Int×Int) h'=>∃(m:Nat) (lz:List Int),p.2=(m:Int)-1∧m≤8∧p.1=((n/256^(8-m):Nat):Int)∧lz.length=8∧(∀j,m≤j->j<8->za lz j=((n/256^(7-j)%256:Nat):Int))∧Wd h h' [.blk b2 (.cells (oT lz).toArray 340)]) (μ:=λp=>(p.2+1).toNat) ⟨8,_,rfl,by omega,by simp,rfl,λj h1 h2=>by omega,w⟩ ?_;clear w;rintro⟨z,_⟩ h4 J3 ⟨m,lz,hi,hm,hz,hl,hall,w⟩ hJ3;simp only at hi hz ⊢;subst hi hz;by_cases h1:1≤m
  ·obtain⟨q,rfl⟩:∃q,m=q+1:=⟨m-1,by omega⟩;obtain⟨u,hu⟩:∃u,n/256^(8-(q+1))=u:=⟨_,rfl⟩;have hun:u≤n:=by rw[←hu];exact Nat.div_le_self _ _
   have hu2:n/256^(8-q)=u/256:=by rw[show 8-q=(8-(q+1))+1 by omega,Nat.pow_succ,←Nat.div_div_eq_div_mul,hu]
   have hu3:n/256^(7-q)=u:=by rw[←hu,show 7-q=8-(q+1) by omega]
   rw[hu];have v1:Int.tmod (u:Int) 256=((u%256:Nat):Int):=by rw[Int.tmod_eq_emod_of_nonneg (by omega)];omega
   have v2:Int.tdiv (u:Int) 256=((u/256:Nat):Int):=by rw[Int.tdiv_eq_ediv_of_nonneg (by omega)];omega
   refine eN (by omega) ⟨by decide,M.vis _ v1 ?_⟩;refine M.vis ((u%256:Nat):Int) (by rw[IntKind.wrap_u8];omega) ⟨by omega,by omega,?_⟩;have eq:(((q+1:Nat):Int)-1).toNat=q:=by omega
   rw[eq];simp only[Nat.mul_one,aS,Nat.zero_add];refine M.bg w 0 rfl rfl (by rw[List.size_toArray,sB,hl];omega) λh5 w=>⟨by decide,?_⟩;rw[Jk]at w;refine M.vis ((u/256:Nat):Int) (by rw[v2,IntKind.wrap_u64];omega) ?_;refine M.vis ((q:Int)-1) (by rw[IntKind.wrap_i64];omega) ?_;refine hJ3 _ _ ⟨q,_,rfl,by omega,by rw[hu2],by rw[List.length_set];exact hl,λj g1 g2=>?_,w⟩ (by simp only;omega);by_cases e:j=q
   ·subst e;rw[kP (by rw[List.length_set];omega),List.getElem_set_self,hu3]
   ·rw[PI (by omega) e];exact hall j (by omega) g2
  ·refine gI (by omega) ?_;obtain rfl:m=0:=by omega
   refine hJ _ _ ?_;have e:lz=(List.range 8).map λi=>((n/256^(7-i)%256:Nat):Int):=by
    refine List.ext_getElem (by rw[hl];simp) λi g1 g2=>?_;have:=hall i (by omega) (by omega);rw[kP g1]at this;rw[this];simp only[List.getElem_map,List.getElem_range]
   rw[←e];exact w
 ·clear w;rintro _ h4 w;refine M.sx 0 8 rfl rfl (by decide) (by decide) (by decide) ?_;refine M.A3 (w.blk 0 rfl) (by simp) ?_;have e:ofBytes ((((List.range 8).map λi=>((n/256^(7-i)%256:Nat):Int)).drop (0+0*1)).take (8-0))=iZ n:=by
   rw[iZ,lf,SK n hn,List.drop_zero,List.take_of_length_le (by simp)]
  rw[e];exact k _ w.keep
namespace Rd
theorem uh(r:Rd):r.num.2.rest.size≤r.rest.size:=by
 unfold num;split
 ·exact Nat.le_refl _
 ·split
  ·exact Nat.le_refl _
  ·simp
theorem take_size(r:Rd)(n:Nat):(r.take n).2.rest.size≤r.rest.size:=by
 unfold take;split
 ·exact Nat.le_refl _
 ·split
  ·exact Nat.le_refl _
  ·simp
theorem Aw(r:Rd)(b:Nat):(r.below b).2.rest.size≤r.rest.size:=by
 have:=uh r;unfold below;split
 ·exact this
 ·split
  ·exact this
  ·exact this
theorem C9(r:Rd):r.text.2.rest.size≤r.rest.size:=Nat.le_trans (take_size _ _) (uh r)
theorem yK(r:Rd):r.num.1<18446744073709551616:=by
 unfold num;split
 ·simp
 ·split
  ·simp
  ·exact LV _
theorem qC(r:Rd){b:Nat}(hb:0<b):(r.below b).1<b:=by
 unfold below;split
 ·exact hb
 ·split
  ·exact hb
  ·show r.num.1<b;omega
end Rd
section
variable {h0 h:H}{b n:Nat}{r:Rd}
theorem xd{Q:Int->H->Prop}{x:Int}(w:Wd h0 h [.blk b (zL r)])(hs:r.rest.size≤1000000)(hx:x=(n:Int))(hn:0<n∧n<1000000)(k:∀h',Wd h0 h' [.blk b (zL (r.below n).2)]->Q ((r.below n).1:Int) h'):aB (some ⟨b,0,none⟩) x h Q:=by
 subst hx;unfold aB;refine we w hs λh1 w1=>M.jn (cf rfl (iw (M.gv (w1.blk 0 rfl) rfl ?_)));unfold Rd.below at k;have hlt:=r.yK;by_cases e:r.num.2.bad=0
 ·rw[if_neg (by simp[e])]at k;refine cf (by simp[e]) (M.jn (gI (by omega) (M.vis (n:Int) (nq (by omega) (by omega)) ?_)));by_cases l:n≤r.num.1
  ·rw[if_pos l]at k;exact eN (by omega) (iw (M.bg w1 0 rfl rfl (by simp) λh2 w2=>k _ w2))
  ·rw[if_neg l]at k;exact gI (by omega) (M.vis (r.num.1:Int) (qJ (by omega) (by omega)) (k _ w1))
 ·rw[if_pos e]at k;exact ct (by simpa using e) (k _ w1)
theorem ud{Q:ByteArray->H->Prop}(w:Wd h0 h [.blk b (zL r)])(hs:r.rest.size≤1000000)(k:∀h',Wd h0 h' [.blk b (zL r.text.2)]->Q r.text.1 h'):bQ (some ⟨b,0,none⟩) h Q:=by
 unfold bQ;exact we w hs λh1 w1=>yV w1 (Nat.le_trans r.uh hs) λh2 w2=>k _ w2
theorem Gn{Q:Int->H->Prop}(w:Wd h0 h [.blk b (zL r)])(k:Q r.done h):bu (some ⟨b,0,none⟩) h Q:=by
 unfold bu;have hb:=w.blk 0 rfl;unfold Rd.done at k;by_cases e:r.bad=0
 ·rw[if_neg (by simp[e])]at k;refine cf rfl (iw (M.gv hb rfl (cf (by simp[e]) (iw (M.oL hb rfl ?_)))));by_cases s:r.rest=empty
  ·rw[if_pos s]at k;exact cf (by rw[kg];simp[s]) k
  ·rw[if_neg s]at k;exact ct (by rw[kg];simp[s]) k
 ·rw[if_pos e]at k;exact cf rfl (iw (M.gv hb rfl (ct (by simpa using e) (iw (M.gv hb rfl k)))))
theorem mU{x y:ByteArray}{K:ByteArray->Prop}(h:x.size+y.size≤9000000000000000000)(k:K (x++y)):M.cat x y K:=⟨by rw[show IntKind.i64.max=9223372036854775807 from rfl];omega,k⟩
def mw(s:ByteArray):ByteArray:=iZ s.size++s
theorem jL(s:ByteArray):(mw s).size=s.size+8:=by rw[mw,ByteArray.size_append,eF];omega
theorem uS{s:ByteArray}{Q:ByteArray->H->Prop}(hs:s.size≤1000000)(k:∀h',bq h h'->Q (mw s) h'):eV s h Q:=by
 unfold eV;exact M.vis (s.size:Int) (nq (by omega) (by omega)) (m8 (by omega) λh1 k1=>mU (by rw[eF];omega) (k _ k1))
theorem nT{s:ByteArray}{Q:ByteArray->H->Prop}(hs:s.size≤1000000)(k:∀h',bq h h'->Q (mw s) h'):eX s h Q:=by
 unfold eX;exact M.vis (s.size:Int) (nq (by omega) (by omega)) (K6 (by omega) λh1 k1=>mU (by rw[eF];omega) (k _ k1))
def BT(b:Nat)(r:Rd):Chunk:=Wd.obj (α:=ByteArray×Nat) (λv=>v.2≤v.1.size∧v.1.size≤1000000∧r.rest=v.1.extract v.2 v.1.size) λv=>[.blk b (.cells #[.string v.1,.int .i64 v.2,.int .i64 r.bad] 335)]
theorem BP(w:Wd h0 h [BT b r]):∃S a,a≤S.size∧S.size≤1000000∧r.rest=S.extract a S.size∧Wd h0 h [.blk b (.cells #[.string S,.int .i64 (a:Nat),.int .i64 r.bad] 335)]:=by
 obtain⟨v,⟨h1,h2,h3⟩,w⟩:=w.tw 0 rfl;exact⟨v.1,v.2,h1,h2,h3,w⟩
theorem pY{S:ByteArray}{a:Nat}(h1:a≤S.size)(h2:S.size≤1000000)(h3:r.rest=S.extract a S.size)(w:Wd h0 h [.blk b (.cells #[.string S,.int .i64 (a:Nat),.int .i64 r.bad] 335)]):Wd h0 h [BT b r]:=w.close 0 (S,a) rfl ⟨h1,h2,h3⟩
theorem tK{Q:Int->H->Prop}(w:Wd h0 h [BT b r])(k:∀h',Wd h0 h' [BT b r.num.2]->Q (r.num.1:Int) h'):cv (some ⟨b,0,none⟩) h Q:=by
 unfold cv;obtain⟨S,a,h1,h2,h3,w⟩:=BP w;have hb:=w.blk 0 rfl;unfold Rd.num at k;have hsz:r.rest.size=S.size-a:=by rw[h3];simp
 by_cases e:r.bad=0
 ·rw[if_neg (by simp[e])]at k;refine iw (M.gv hb rfl (cf (by simp[e]) (iw (M.oL hb rfl (iw (M.gv hb rfl (M.vis ((S.size:Int)-a) (qJ (by omega) (by omega)) ?_)))))));by_cases l:r.rest.size<8
  ·rw[if_pos l]at k;exact eN (by omega) (iw (M.bg w 0 rfl rfl (by simp) λh4 w4=>k _ (pY h1 h2 h3 w4)))
  ·rw[if_neg l]at k;have hB:∀i,i<8->aF r.rest i=aF S (a+i):=λi hi=>by rw[h3,kJ _ _ _ _ (by omega) (by omega)]
   refine gI (by omega) (M.jn (M.aP (I:=λ(p:Int×Int) h'=>∃y:Nat,y≤8∧p=(me (aF r.rest) y,(y:Int))∧h'=h) (μ:=λp=>(8-p.2).toNat) ⟨0,by omega,rfl,rfl⟩ ?_));rintro⟨d,i⟩ h5 J ⟨y,hy,hd,e5⟩ hJ;obtain⟨rfl,rfl⟩:=Prod.mk.inj hd;rw[e5];have bd:=rZ (aF r.rest) (dZ _) y;have b1:=dZ r.rest y;by_cases g:y<8
   ·have hp:(256:Int)^y≤256^7:=by
     have:y=0∨y=1∨y=2∨y=3∨y=4∨y=5∨y=6∨y=7:=by omega
     rcases this with h|h|h|h|h|h|h|h<;>rw[h] <;>decide
    have hp7:(256:Int)^7=72057594037927936:=by decide
    have hv:aF S (a+y)=aF r.rest y:=(hB y g).symm;refine eN (by simp only[];omega) (M.vis (256*me (aF r.rest) y) (nq (by omega) (by omega)) (iw (M.oL hb rfl (iw (M.gv hb rfl (M.vis ((a+y:Nat):Int) (by simp only[];rw[IntKind.wrap_i64];omega) ⟨by omega,by omega,?_⟩))))));rw[Int.toNat_natCast,hv];exact M.vis (aF r.rest y) (nq (by omega) (by omega)) (M.vis (me (aF r.rest) (y+1)) (by rw[show me (aF r.rest) (y+1)=256*me (aF r.rest) y+aF r.rest y from rfl];exact nq (by omega) (by omega)) (M.vis ((y+1:Nat):Int) (by simp only[];rw[IntKind.wrap_i64];omega) (hJ _ _ ⟨y+1,by omega,rfl,rfl⟩ (by simp only[];omega))))
   ·obtain rfl:y=8:=by omega
    refine gI (by simp only[];omega) (iw (M.gv hb rfl (M.vis ((a+8:Nat):Int) (by rw[IntKind.wrap_i64];omega) (iw (M.bg w 0 rfl rfl (by simp) λh6 w6=>?_)))));rw[←vI];refine k _ (pY (a:=a+8) (by omega) h2 ?_ (by rw[e]at w6;exact w6));show r.rest.extract 8 r.rest.size=_;rw[hsz,h3,ByteArray.extract_extract];congr 1;omega
 ·rw[if_pos e]at k;exact iw (M.gv hb rfl (ct (by simpa using e) (k _ (pY h1 h2 h3 w))))
theorem zN{Q:ByteArray->H->Prop}(w:Wd h0 h [BT b r])(k:∀h',Wd h0 h' [BT b r.text.2]->Q r.text.1 h'):fc (some ⟨b,0,none⟩) h Q:=by
 unfold fc;refine tK w λh1 w1=>?_;have hlt:=r.yK;unfold Rd.text Rd.take at k;generalize r.num.2=q at *;generalize r.num.1=n at *;obtain⟨S,a,h1',h2,h3,w1⟩:=BP w1;have hb:=w1.blk 0 rfl;have hsz:q.rest.size=S.size-a:=by rw[h3];simp
 by_cases e:q.bad=0
 ·rw[if_neg (by simp[e])]at k;refine iw (M.gv hb rfl (cf (by simp[e]) (iw (M.oL hb rfl (iw (M.gv hb rfl (M.vis ((S.size:Int)-a) (qJ (by omega) (by omega)) (M.vis ((S.size:Int)-a) (nq (by omega) (by omega)) ?_))))))));by_cases l:q.rest.size<n
  ·rw[if_pos l]at k;exact eN (by omega) (iw (M.bg w1 0 rfl rfl (by simp) λh4 w4=>k _ (pY h1' h2 h3 w4)))
  ·rw[if_neg l]at k;have v:wrap .i64 ((a:Int)+n)=((a+n:Nat):Int):=by rw[IntKind.wrap_i64];omega
   have v1:wrap .i64 (n:Int)=n:=qJ (by omega) (by omega);refine gI (by omega) (iw (M.oL hb rfl (iw (M.gv hb rfl (iw (M.gv hb rfl (M.vis _ v1 (M.cY (bq.refl _) ⟨_,hb⟩ (M.cY (bq.refl _) ⟨_,hb⟩ (M.cY (bq.refl _) ⟨_,hb⟩ (M.vis _ v (G7 a (a+n) rfl rfl (by omega) (by omega) (iw (M.gv hb rfl (M.vis _ v1 (M.vis _ v (iw (M.bg w1 0 rfl rfl (by simp) λh5 w5=>?_))))))))))))))))));have e1:S.extract a (a+n)=q.rest.extract 0 n:=by
    rw[h3,ByteArray.extract_extract];congr 1;omega
   rw[e1];refine k _ (pY (a:=a+n) (by omega) h2 ?_ (by rw[e]at w5;exact w5));show q.rest.extract n q.rest.size=_;rw[hsz,h3,ByteArray.extract_extract];congr 1;omega
 ·rw[if_pos e]at k;exact iw (M.gv hb rfl (ct (by simpa using e) (k _ (pY h1' h2 h3 w1))))
theorem BE{Q:Int->H->Prop}(w:Wd h0 h [BT b r])(k:Q r.done h):iW (some ⟨b,0,none⟩) h Q:=by
 unfold iW;obtain⟨S,a,h1,h2,h3,w⟩:=BP w;have hb:=w.blk 0 rfl;have hsz:r.rest.size=S.size-a:=by rw[h3];simp
 unfold Rd.done at k;by_cases e:r.bad=0
 ·rw[if_neg (by simp[e])]at k;refine iw (M.gv hb rfl (cf (by simp[e]) (iw (M.gv hb rfl (iw (M.oL hb rfl ?_))))));by_cases s:r.rest=empty
  ·rw[if_pos s]at k;have:r.rest.size=0:=by rw[s];rfl
   exact gI (by omega) k
  ·rw[if_neg s]at k;have:r.rest.size≠0:=λz=>s (ByteArray.size_eq_zero_iff.1 z);exact eN (by omega) k
 ·rw[if_pos e]at k;exact iw (M.gv hb rfl (ct (by simpa using e) (iw (M.gv hb rfl k))))
end
end Go.Proofs.YtmfcgihgdhfalaaGreatDoor
namespace Go.Proofs.YtmfcgihgdhfalaaGreatDoor
open Go.Sh Go.RowKit Classical
structure Mem where
 st:Int
 top:ByteArray
 log:ByteArray
structure gD where
 count:Int
 dS:Int
 data:Int
 slots:Int
 mark:Int
 built:Int
 aJ:Bool
 av:List Int
 aj:List Mem
def kf:wY Mem:=⟨λm=>[.int .i64 m.st,.string m.top,.string m.log],3,λ_=>rfl,by simp[ag]⟩
def mb(xs:List Mem)(i:Nat):Mem:=xs.getD i ⟨0,empty,empty⟩
theorem mJ{xs:List Mem}{i:Nat}(h:i<xs.length):mb xs i=xs[i]:=by simp[mb,h]
theorem Ro.BY{h:H}{a:Option Addr}{l:Nat}{z:Int}{xs:List Mem}{K:Int->ByteArray->ByteArray->Prop}(f:Ro kf h a l xs)(h0:0≤z)(h1:z<l)(k:K (mb xs z.toNat).st (mb xs z.toNat).top (mb xs z.toNat).log):
  M.idx a l z λb j=>M.load h ((Addr.add b (j*3)).add 0) λv=>M.int .i64 v λn=>M.load h ((Addr.add b (j*3)).add 1) λv=>M.str v λs=>M.load h ((Addr.add b (j*3)).add 2) λv=>M.str v λt=>K n s t:=by
 refine f.at h0 h1 λb hi hc=>?_;have c0:h.cell ((b.add (z.toNat * 3)).add 0)=some (.int .i64 (xs[z.toNat]).st):=hc 0 (by decide);have c1:h.cell ((b.add (z.toNat * 3)).add 1)=some (.string (xs[z.toNat]).top):=hc 1 (by decide);have c2:h.cell ((b.add (z.toNat * 3)).add 2)=some (.string (xs[z.toNat]).log):=hc 2 (by decide);rw[←mJ hi]at c0 c1 c2;exact⟨_,c0,_,rfl,_,c1,_,rfl,_,c2,_,rfl,k⟩
def gH(s:gD)(sa:Option Addr)(sl sc:Nat)(ma:Option Addr)(ml mc:Nat):List Value:=[.int .u64 s.count,.int .u64 s.dS,.int .i64 s.data,.int .i64 s.slots,.int .i64 s.mark,.int .i64 s.built,.bool s.aJ,.slice sa sl sc,.slice ma ml mc]
theorem kq{h:H}{x:Addr}{s:gD}{sa ma:Option Addr}{sl sc ml mc:Nat}{K:Int->Int->Int->Int->Int->Int->Bool->Option Addr->Nat->Nat->Option Addr->Nat->Nat->Prop}(hr:Sh.rowAt h x (gH s sa sl sc ma ml mc))(k:K s.count s.dS s.data s.slots s.mark s.built s.aJ sa sl sc ma ml mc):M.kC h x K:=
 ⟨_,hr 0 (by simp[gH]),_,rfl,_,hr 1 (by simp[gH]),_,rfl,_,hr 2 (by simp[gH]),_,rfl,_,hr 3 (by simp[gH]),_,rfl,_,hr 4 (by simp[gH]),_,rfl,_,hr 5 (by simp[gH]),_,rfl,_,hr 6 (by simp[gH]),_,rfl,_,hr 7 (by simp[gH]),_,_,_,rfl,_,hr 8 (by simp[gH]),_,_,_,rfl,k⟩
theorem M.lW{h:H}{b o:Nat}{c:Array Value}{e:TypeId}{f:Nat×Nat}{a:Option Addr}{l m:Nat}{K:Option Addr->Nat->Nat->Prop}(hb:h b=some (.cells c e f))(hv:c[o]? = some (.slice a l m))(k:K a l m):M.load h ⟨b,o,none⟩ λv=>M.slc v K:=M.uM hb hv ⟨_,_,_,rfl,k⟩
def Mem.ok(m:Mem):Prop:=0≤m.st∧m.st<4∧m.top.size=32∧m.log.size=32
def yD(l:List Mem):Nat:=l.countP λm=>decide (m.st=3)
namespace gD
def xe(s:gD):Prop:=(2≤s.data∧s.data≤8∧¬(s.aJ=true∧s.data=8))∧dep s.slots≠0∧(0≤s.mark∧s.mark≤s.slots∧¬(0<s.mark∧s.aJ=false))∧0≤s.built∧s.built≤s.slots∧1≤s.aj.length∧s.aj.length≤12
def Ar(s:gD):Prop:=(∀m∈s.aj,m.ok)∧(yD s.aj=1∨yD s.aj=0∧s.built=0)
def mT(s:gD):Int:=s.data+2+if s.aJ=true then 1 else 0
def xq(s:gD):Prop:=(s.av.length:Int)=s.mT∧(∀i∈s.av,0≤i∧i<s.aj.length)∧s.av.Nodup∧∀i:Nat,i<s.aj.length->(mb s.aj i).st≠2->((i:Int)∈s.av↔(mb s.aj i).st≠0)
def good(s:gD):Prop:=s.xe∧s.Ar∧s.xq
end gD
theorem jT{p:Prop}[Decidable p]{d:Bool}(h:d=true↔p):d=decide p:=Bool.eq_iff_iff.2 (h.trans decide_eq_true_iff.symm)
theorem dT{p:Prop}[Decidable p](h:p):true=decide p:=(decide_eq_true h).symm
theorem dF{p:Prop}[Decidable p](h:¬p):false=decide p:=(decide_eq_false h).symm
theorem yZ{p:Prop}[Decidable p]{Q:Bool->H->Prop}{h0:H}(k:∀h',bq h0 h'->Q (decide p) h'):∀h',bq h0 h'->p->Q true h':=λh' k' g=>by
 have:=k h' k'
 rwa [decide_eq_true g]at this
theorem zI{p:Prop}[Decidable p]{Q:Bool->H->Prop}{h0:H}(k:∀h',bq h0 h'->Q (decide p) h'):∀h',bq h0 h'->¬p->Q false h':=λh' k' g=>by
 have:=k h' k'
 rwa [decide_eq_false g]at this
section
variable {h:H}{a:Option Addr}{l c:Nat}{xs:List Int}{x:Int}
theorem ri{Q:Bool->H->Prop}(f:Ro eI h a l xs)(hl:l≤1000000000)(k:Q (decide (x∈xs)) h):aC a l c x h Q:=by
 unfold aC;unfold cU;have hx:=f.len;refine M.aP (I:=λ(p:Int) h'=>∃y:Nat,y≤l∧p=(y:Int)∧h'=h∧x∉xs.take y) (μ:=λp=>(l-p).toNat) ⟨0,by omega,rfl,rfl,by simp⟩ ?_;rintro p h5 J ⟨y,hy,rfl,rfl,hn⟩ hJ;by_cases g:y<l
 ·refine eN (by omega) (f.Ii (by omega) (by omega) ?_);rw[Int.toNat_natCast];have hz:za xs y=xs[y]'(by omega):=kP (by omega);by_cases e:x=za xs y
  ·refine ct (by simpa using e) ?_;have:x∈xs:=by rw[e,hz];exact List.getElem_mem _
   rw[decide_eq_true this]at k;show Q (decide ((y:Int)≥0)) _;rw[decide_eq_true (by omega)];exact k
  ·refine cf (by simpa using e) (M.vis ((y+1:Nat):Int) (by rw[IntKind.wrap_i64];omega) (hJ _ _ ⟨y+1,by omega,rfl,rfl,?_⟩ (by omega)));rw[List.take_succ_eq_append_getElem (by omega)];simp only[List.mem_append,List.mem_singleton,not_or];exact⟨hn,by rw[←hz];exact e⟩
 ·refine gI (by omega) ?_;obtain rfl:y=l:=by omega
  rw[List.take_of_length_le (by omega)]at hn;rw[decide_eq_false hn]at k;exact k
end
section
variable {h0 h:H}{s:gD}{sa ma:Option Addr}{sl sc ml mc:Nat}{Q:Bool->H->Prop}
theorem Hj(hl:s.aj.length=ml)(k:∀h',bq h h'->Q (decide s.xe) h'):cE s.count s.dS s.data s.slots s.mark s.built s.aJ sa sl sc ma ml mc h Q:=by
 unfold cE;have kT:=yZ k;have kF:=zI k;clear k;unfold gD.xe at kT kF;refine M.aK (Wd.start h) λb h1 w=>?_;have hb:=w.blk 0 rfl;have kk:=w.keep;refine M.aO (λd h'=>d=decide (¬(2≤s.data∧s.data≤8∧¬(s.aJ=true∧s.data=8)))∧h'=h1) (λJ hJ=>M.gv hb rfl ?_) ?_
 ·by_cases e1:s.data<2
  ·exact eN e1 (hJ _ _ ⟨by rw[decide_eq_true];omega,rfl⟩)
  ·refine gI e1 (M.gv hb rfl ?_);by_cases e2:s.data>8
   ·exact eN e2 (hJ _ _ ⟨by rw[decide_eq_true];omega,rfl⟩)
   ·refine gI e2 (M.Bi hb rfl ?_);cases hg:s.aJ with
    | true=>
     exact ct rfl (M.gv hb rfl (hJ _ _ ⟨jT (by rw[beq_iff_eq];simp only[hg,true_and,not_and,not_not];omega),rfl⟩))
    | false=>exact cf rfl (hJ _ _ ⟨by rw[decide_eq_false];simp only[hg,Bool.false_eq_true,false_and,not_false_eq_true,and_true,not_not];omega,rfl⟩)
 ·rintro _ h9 ⟨rfl,e9⟩;rw[e9];by_cases g1:2≤s.data∧s.data≤8∧¬(s.aJ=true∧s.data=8)
  ·refine cf (by simpa using g1) (M.aK w λb2 h2 w2=>?_);have hb:=w2.blk 0 rfl;refine M.gv hb rfl (ri (Ro.Ho (E:=eI) (xs:=[2,4,8,16]) (w2.blk 1 rfl) rfl rfl) (by omega) ?_);have kk:=w2.keep;by_cases g2:dep s.slots≠0
   ·have:decide (s.slots ∈ [2,4,8,16])=true:=by rcases oE g2 with e|e|e|e<;>simp[e]
    rw[this];refine cf rfl (M.aO (λd h'=>d=decide (¬(0≤s.mark∧s.mark≤s.slots∧¬(0<s.mark∧s.aJ=false)))∧h'=h2) (λJ hJ=>M.gv hb rfl ?_) ?_)
    ·by_cases e1:s.mark<0
     ·exact eN e1 (hJ _ _ ⟨by rw[decide_eq_true];omega,rfl⟩)
     ·refine gI e1 (M.gv hb rfl (M.gv hb rfl ?_));by_cases e2:s.mark>s.slots
      ·exact eN e2 (hJ _ _ ⟨by rw[decide_eq_true];omega,rfl⟩)
      ·refine gI e2 (M.gv hb rfl ?_);by_cases e3:s.mark>0
       ·refine eN e3 (M.Bi hb rfl (hJ _ _ ⟨?_,rfl⟩));cases hg:s.aJ with
        | true=>rw[decide_eq_false];rfl;simp;omega
        | false=>rw[decide_eq_true];rfl;simp;omega
       ·exact gI e3 (hJ _ _ ⟨by rw[decide_eq_false];simp only[not_not];refine⟨by omega,by omega,λh=>?_⟩;omega,rfl⟩)
    ·rintro _ h9 ⟨rfl,e9⟩;rw[e9];by_cases g3:0≤s.mark∧s.mark≤s.slots∧¬(0<s.mark∧s.aJ=false)
     ·refine cf (by simpa using g3) (M.jn (M.gv hb rfl ?_));by_cases e1:s.built≥0
      ·refine eN e1 (M.gv hb rfl (M.gv hb rfl ?_));by_cases e2:s.built≤s.slots
       ·refine eN e2 (M.lW hb rfl ?_);by_cases e3:(ml:Int)≥1
        ·refine eN e3 (M.lW hb rfl ?_);by_cases e4:(ml:Int)≤12
         ·rw[decide_eq_true e4];exact kT _ kk ⟨g1,g2,g3,by omega,e2,by omega,by omega⟩
         ·rw[decide_eq_false e4];exact kF _ kk λg=>by omega
        ·exact gI e3 (kF _ kk λg=>by omega)
       ·exact gI e2 (kF _ kk λg=>by omega)
      ·exact gI e1 (kF _ kk λg=>by omega)
     ·exact ct (decide_eq_true g3) (kF _ kk λg=>g3 g.2.2.1)
   ·have:decide (s.slots ∈ [2,4,8,16])=false:=by
     rw[decide_eq_false];intro hm;apply g2;simp only[List.mem_cons,List.not_mem_nil,or_false]at hm;rcases hm with e|e|e|e<;>rw[e] <;>decide
    rw[this];exact ct rfl (kF _ kk λg=>g2 g.2.1)
  ·exact ct (decide_eq_true g1) (kF _ kk λg=>g1 g.1)
theorem GC{l:List Mem}{y:Nat}(h:y<l.length):yD (l.take (y+1))=yD (l.take y)+if(mb l y).st=3 then 1 else 0:=by
 rw[List.take_succ_eq_append_getElem h,yD,List.countP_append,mJ h];simp[yD,List.countP_cons]
theorem Ex(f:Ro kf h ma ml s.aj)(hl:ml≤1000000)(k:∀h',bq h h'->Q (decide s.Ar) h'):cJ s.count s.dS s.data s.slots s.mark s.built s.aJ sa sl sc ma ml mc h Q:=by
 unfold cJ;have kT:=yZ k;have kF:=zI k;clear k;unfold gD.Ar at kT kF;have hx:=f.len;refine M.aK (Wd.start h) λb h1 w=>?_;have hb:=w.blk 0 rfl;have kk:=w.keep;refine M.jn (M.lW hb rfl (M.aP (I:=λ(p:Int×Int) h'=>∃y:Nat,y≤ml∧p=(((yD (s.aj.take y):Nat):Int),(y:Int))∧bq h1 h'∧∀m∈s.aj.take y,m.ok) (μ:=λp=>(ml-p.2).toNat) ⟨0,by omega,rfl,bq.refl _,by simp⟩ ?_));rintro⟨d,i⟩ h5 J ⟨y,hy,hd,k5,hok⟩ hJ;obtain⟨rfl,rfl⟩:=Prod.mk.inj hd;by_cases g:y<ml
 ·refine eN (by simp only[];omega) (Ro.BY (f.keep (kk.trans k5)) (by simp only[];omega) (by simp only[];omega) (M.aK (Wd.start h5) λb3 h3 w3=>⟨rfl,M.bz w3 0 rfl (by simp[ag]) rfl λh4 w4=>?_⟩));simp only[Int.toNat_natCast]at w4 ⊢;have hm:mb s.aj y=s.aj[y]'(by omega):=mJ (by omega);have hmm:mb s.aj y∈s.aj:=by rw[hm];exact List.getElem_mem _
  have hb4:=w4.blk 0 rfl;have k4:=kk.trans (k5.trans w4.keep);generalize hme:mb s.aj y=m at *;refine M.aO (λd h'=>d=decide (¬m.ok)∧h'=h4) (λJ hJ=>M.gv hb4 rfl ?_) ?_
  ·have tk:∀{d:Bool},(d=true↔¬(0≤m.st∧m.st<4∧m.top.size=32∧m.log.size=32))->d=decide (¬m.ok):=λh=>jT h;by_cases e1:m.st<0
   ·exact eN e1 (hJ _ _ ⟨tk (by simp only[true_iff];omega),rfl⟩)
   ·refine gI e1 (M.gv hb4 rfl ?_);by_cases e2:m.st≥4
    ·exact eN e2 (hJ _ _ ⟨tk (by simp only[true_iff];omega),rfl⟩)
    ·refine gI e2 (M.oL hb4 rfl ?_);by_cases e3:m.top.size=32
     ·exact cf (by simp[e3]) (M.oL hb4 rfl (hJ _ _ ⟨tk (by rw[bne_iff_ne];omega),rfl⟩))
     ·exact ct (by simp;omega) (hJ _ _ ⟨tk (by simp only[true_iff];omega),rfl⟩)
  ·rintro _ h9 ⟨rfl,e9⟩;rw[e9];by_cases go:m.ok
   ·refine cf (by simpa using go) (M.gv hb4 rfl ?_);have hok':∀m∈s.aj.take (y+1),m.ok:=by
     intro q hq;rw[List.take_succ_eq_append_getElem (by omega),List.mem_append,List.mem_singleton]at hq;rcases hq with hq|hq
     ·exact hok q hq
     ·rw[hq,←hm];exact go
    have hs:=GC (l:=s.aj) (y:=y) (by omega);rw[hme]at hs;have v1:wrap .i64 ((y:Int)+1)=((y+1:Nat):Int):=by rw[IntKind.wrap_i64];omega
    have hbl:yD (s.aj.take y)≤y:=Nat.le_trans List.countP_le_length (by simp;omega);by_cases e3:m.st=3
    ·rw[if_pos e3]at hs;exact ct (by simpa using e3) (M.vis ((yD (s.aj.take (y+1)):Nat):Int) (by rw[IntKind.wrap_i64];omega) (M.vis _ v1 (hJ _ _ ⟨y+1,by omega,rfl,k5.trans w4.keep,hok'⟩ (by simp only[];omega))))
    ·rw[if_neg e3]at hs;exact cf (by simpa using e3) (M.vis _ v1 (hJ _ _ ⟨y+1,by omega,by rw[hs];rfl,k5.trans w4.keep,hok'⟩ (by simp only[];omega)))
   ·exact ct (by simpa using go) (kF _ k4 λg=>go (g.1 _ hmm))
 ·obtain rfl:y=ml:=by omega
  rw[List.take_of_length_le (by omega)]at hok ⊢;have hb:=k5 _ _ hb;refine gI (by simp only[];omega) (M.jn ?_);by_cases e1:yD s.aj=1
  ·exact ct (by simp[e1]) (kT _ (kk.trans k5) ⟨hok,.inl e1⟩)
  ·refine cf (by simp;omega) ?_;by_cases e0:yD s.aj=0
   ·refine ct (by simp[e0]) (M.gv hb rfl ?_);by_cases e2:s.built=0
    ·have:(s.built == 0)=true:=by simp[e2]
     rw[this];exact kT _ (kk.trans k5) ⟨hok,.inr ⟨e0,e2⟩⟩
    ·have:(s.built == 0)=false:=by simp[e2]
     rw[this];exact kF _ (kk.trans k5) λg=>by omega
   ·exact cf (by simp;omega) (kF _ (kk.trans k5) λg=>by omega)
end
section
variable {h0 h:H}{s:gD}{sa ma:Option Addr}{sl sc ml mc:Nat}{Q:Bool->H->Prop}
theorem HD(f1:Ro eI h sa sl s.av)(f:Ro kf h ma ml s.aj)(hd:2≤s.data∧s.data≤8)(hl:ml≤1000000)(hl1:sl≤1000000)(k:∀h',bq h h'->Q (decide s.xq) h'):dB s.count s.dS s.data s.slots s.mark s.built s.aJ sa sl sc ma ml mc h Q:=by
 unfold dB;have kT:=yZ k;have kF:=zI k;clear k;unfold gD.xq at kT kF;have hx:=f.len;have hx1:=f1.len;refine M.aK (Wd.start h) λb h1 w=>?_;have hb:=w.blk 0 rfl;have kk:=w.keep;refine M.gv hb rfl (M.vis (s.data+2) (by rw[IntKind.wrap_i64];omega) (M.aO (λd h'=>d=s.mT∧h'=h1) (λJ hJ=>M.Bi hb rfl ?_) ?_))
 ·cases hg:s.aJ with
  | true=>exact ct rfl (M.vis (s.data+2+1) (by rw[IntKind.wrap_i64];omega) (hJ _ _ ⟨by simp[gD.mT,hg],rfl⟩))
  | false=>exact cf rfl (hJ _ _ ⟨by simp[gD.mT,hg],rfl⟩)
 rintro _ h9 ⟨rfl,e9⟩;rw[e9];refine M.lW hb rfl ?_;by_cases g1:(sl:Int)=s.mT;rotate_left
 ·exact ct (by simpa using g1) (kF _ kk λg=>g1 (by rw[←hx1];exact g.1))
 refine cf (by simp[g1]) (M.aK w λb2 h2 w2=>?_);have w2:=Rb (i:=1) rfl w2;refine M.aO (λ_ h'=>Wd h h' [.blk b (.cells (gH s sa sl sc ma ml mc).toArray 40),Pd b2 s.av.reverse]∧(∀i∈s.av,0≤i∧i<s.aj.length)∧s.av.Nodup) (λJ hJ=>M.lW (w2.blk 0 rfl) rfl ?_) ?_
 ·refine M.aP (I:=λ(p:Int) h'=>∃y:Nat,y≤sl∧p=(y:Int)∧Wd h h' [.blk b (.cells (gH s sa sl sc ma ml mc).toArray 40),Pd b2 (s.av.take y).reverse]∧(∀i∈s.av.take y,0≤i∧i<s.aj.length)∧(s.av.take y).Nodup) (μ:=λp=>(sl-p).toNat) ⟨0,by omega,rfl,w2,by simp,by simp⟩ ?_;rintro p h5 J2 ⟨y,hy,rfl,w5,hr,hn⟩ hJ2;by_cases g:y<sl
  ·refine eN (by omega) ((f1.keep w5.keep).Ii (by omega) (by omega) ?_);rw[Int.toNat_natCast];have hz:za s.av y=s.av[y]'(by omega):=kP (by omega);have hm:za s.av y∈s.av:=by rw[hz];exact List.getElem_mem _
   have ht:s.av.take (y+1)=s.av.take y++[za s.av y]:=by rw[List.take_succ_eq_append_getElem (by omega),hz]
   generalize hzz:za s.av y=z at *;refine M.aO (λd h'=>d=decide (¬(0≤z∧z<ml∧z∉s.av.take y))∧h'=h5) (λJ3 hJ3=>?_) ?_
   ·by_cases e1:z<0
    ·exact eN e1 (hJ3 _ _ ⟨by rw[decide_eq_true];omega,rfl⟩)
    ·refine gI e1 (M.lW (w5.blk 0 rfl) rfl ?_);by_cases e2:z≥(ml:Int)
     ·exact eN e2 (hJ3 _ _ ⟨by rw[decide_eq_true];omega,rfl⟩)
     ·refine gI e2 (OZ w5 (i:=1) rfl (hJ3 _ _ ⟨?_,rfl⟩));exact jT (by rw[decide_eq_true_iff,List.mem_reverse];exact⟨λh g=>g.2.2 h,λh=>Classical.byContradiction λn=>h ⟨by omega,by omega,n⟩⟩)
   ·rintro _ h9 ⟨rfl,e9⟩;rw[e9];by_cases go:0≤z∧z<ml∧z∉s.av.take y
    ·refine cf (by simpa using go) (Rr w5 (i:=1) rfl λh6 w6=>M.vis ((y+1:Nat):Int) (by rw[IntKind.wrap_i64];omega) (hJ2 _ _ ⟨y+1,by omega,rfl,?_,?_,?_⟩ (by omega)))
     ·rw[ht,List.reverse_append];exact w6
     ·intro i hi;rw[ht,List.mem_append,List.mem_singleton]at hi;rcases hi with hi|rfl
      ·exact hr i hi
      ·exact⟨go.1,by omega⟩
     ·rw[ht,List.nodup_append];refine⟨hn,by simp,λa ha b hb=>?_⟩;rw[List.mem_singleton]at hb;rw[hb];exact λe=>go.2.2 (e ▸ ha)
    ·refine ct (decide_eq_true go) (kF _ w5.keep λgg=>go ⟨(gg.2.1 z hm).1,by have:=(gg.2.1 z hm).2;omega,λhin=>?_⟩);have hn2:=gg.2.2.1;have:(s.av.take (y+1)).Nodup:=hn2.sublist (List.take_sublist _ _);rw[ht,List.nodup_append]at this;exact this.2.2 z hin z (by simp) rfl
  ·obtain rfl:y=sl:=by omega
   rw[List.take_of_length_le (by omega)]at w5 hr hn;exact gI (by omega) (hJ () _ ⟨w5,hr,hn⟩)
 rintro _ h3 ⟨w3,hr,hn⟩;refine M.lW (w3.blk 0 rfl) rfl (M.aP (I:=λ(p:Int) h'=>∃y:Nat,y≤ml∧p=(y:Int)∧Wd h h' [.blk b (.cells (gH s sa sl sc ma ml mc).toArray 40),Pd b2 s.av.reverse]∧∀i:Nat,i<y->(mb s.aj i).st≠2->((i:Int)∈s.av↔(mb s.aj i).st≠0)) (μ:=λp=>(ml-p).toNat) ⟨0,by omega,rfl,w3,λi hi=>by omega⟩ ?_);rintro p h5 J2 ⟨y,hy,rfl,w5,hs⟩ hJ2;by_cases g:y<ml
 ·refine eN (by omega) (Ro.BY (f.keep w5.keep) (by omega) (by omega) (M.aK w5 λb6 h6 w6=>⟨rfl,M.bz w6 2 rfl (by simp[ag]) rfl λh7 w7=>?_⟩));simp only[Int.toNat_natCast]at w7 ⊢;have hb7:=w7.blk 2 rfl;have w8:Wd h h7 [.blk b (.cells (gH s sa sl sc ma ml mc).toArray 40),Pd b2 s.av.reverse]:=w7.drop (i:=2) rfl;generalize hme:mb s.aj y=m at *;refine M.aO (λd h'=>d=decide (m.st≠2∧¬((y:Int)∈s.av↔m.st≠0))∧h'=h7) (λJ3 hJ3=>M.gv hb7 rfl ?_) ?_
  ·by_cases e1:m.st=2
   ·exact cf (by simp[e1]) (hJ3 _ _ ⟨by rw[decide_eq_false];exact λg=>g.1 e1,rfl⟩)
   ·refine ct (by simpa using e1) (OZ w8 (i:=1) rfl (M.gv hb7 rfl (hJ3 _ _ ⟨?_,rfl⟩)));by_cases e2:(y:Int)∈s.av
    ·rw[decide_eq_true (by simpa using e2)];by_cases e3:m.st=0
     ·rw[decide_eq_true ⟨e1,λg=>g.1 e2 e3⟩];simp[e3]
     ·rw[decide_eq_false λg=>g.2 ⟨λ_=>e3,λ_=>e2⟩];simpa using e3
    ·rw[decide_eq_false (by simpa using e2)];by_cases e3:m.st=0
     ·rw[decide_eq_false λg=>g.2 ⟨λh=>absurd h e2,λh=>absurd e3 h⟩];simp[e3]
     ·rw[decide_eq_true ⟨e1,λg=>e2 (g.2 e3)⟩];simpa using e3
  ·rintro _ h9 ⟨rfl,e9⟩;rw[e9];by_cases go:m.st≠2∧¬((y:Int)∈s.av↔m.st≠0)
   ·exact ct (decide_eq_true go) (kF _ w8.keep λgg=>go.2 (by have:=gg.2.2.2 y (by omega);rw[hme]at this;exact this go.1))
   ·refine cf (decide_eq_false go) (M.vis ((y+1:Nat):Int) (by rw[IntKind.wrap_i64];omega) (hJ2 _ _ ⟨y+1,by omega,rfl,w8,λi hi hne=>?_⟩ (by omega)));by_cases ei:i=y
    ·subst ei;rw[hme]at hne ⊢;by_cases e:((i:Int)∈s.av↔m.st≠0)
     ·exact e
     ·exact absurd ⟨hne,e⟩ go
    ·exact hs i (by omega) hne
 ·obtain rfl:y=ml:=by omega
  exact gI (by omega) (kT _ w5.keep ⟨by rw[hx1];exact g1,hr,hn,λi hi=>hs i (by omega)⟩)
theorem pT(f1:Ro eI h sa sl s.av)(f:Ro kf h ma ml s.aj)(hl:ml≤1000000)(hl1:sl≤1000000)(k:∀h',bq h h'->Q (decide s.good) h'):aL s.count s.dS s.data s.slots s.mark s.built s.aJ sa sl sc ma ml mc h Q:=by
 unfold aL;have kT:=yZ k;have kF:=zI k;clear k;unfold gD.good at kT kF;refine M.aK (Wd.start h) λb h1 w=>M.jn (kq (s:=s) (hM (w.blk 0 rfl)) (Hj f.len λh2 k2=>?_));by_cases g1:s.xe;rotate_left
 ·exact cf (decide_eq_false g1) (kF _ (w.keep.trans k2) λg=>g1 g.1)
 have w:=w.keeps k2;refine ct (decide_eq_true g1) (kq (s:=s) (hM (w.blk 0 rfl)) (Ex (f.keep w.keep) hl λh3 k3=>?_));by_cases g2:s.Ar;rotate_left
 ·exact cf (decide_eq_false g2) (kF _ (w.keep.trans k3) λg=>g2 g.2.1)
 have w:=w.keeps k3;refine ct (decide_eq_true g2) (kq (s:=s) (hM (w.blk 0 rfl)) (HD (f1.keep w.keep) (f.keep w.keep) ⟨g1.1.1,g1.1.2.1⟩ hl hl1 λh4 k4=>?_));by_cases g3:s.xq
 ·rw[decide_eq_true g3];exact kT _ (w.keep.trans k4) ⟨g1,g2,g3⟩
 ·rw[decide_eq_false g3];exact kF _ (w.keep.trans k4) λg=>g3 g.2.2
end
section
variable {h0 h:H}{s:gD}{sa ma:Option Addr}{sl sc ml mc:Nat}
theorem FH{a:Option Addr}{l c:Nat}{Q:Option Addr->Nat->Nat->H->Prop}{xs:List Int}(f:Ro eI h a l xs)(hl:l≤1000000)(k:∀a' c' h',Wd h h' [.sl 3 1 a' l c' (eI.row xs)]->Q a' l c' h'):dy a l c h Q:=by
 unfold dy;cases ha:a with
 | none=>
  have:=f.none ha;subst this;have:xs=[]:=List.length_eq_zero_iff.1 f.len;subst this;exact ct rfl (k _ _ _ ((Wd.start h).jt _ _))
 | some x=>
  refine cf rfl ?_;refine M.aK (Wd.start h) λb h2 w=>?_;refine M.nL (xs:=eI.row xs) (by rw[eI.jR,f.len];rfl) (λe=>by simp at e) (λy e=>w.keep.row (f.row y (by rw[ha];exact e))) ?_;have w:=w.Pf (i:=0) (size:=1) rfl;refine M.ru w 0 rfl rfl (by rw[eI.jR,f.len];rfl) (eI.iq _) (by omega) (by omega) λa' c' h3 w=>?_;rw[Nat.zero_add]at w ⊢;exact k _ _ _ w
theorem E3{a:Option Addr}{l c:Nat}{Q:Option Addr->Nat->Nat->H->Prop}{xs:List Mem}(f:Ro kf h a l xs)(hl:l≤1000000)(k:∀a' c' h',Wd h h' [.sl 51 3 a' l c' (kf.row xs)]->Q a' l c' h'):aA a l c h Q:=by
 unfold aA;cases ha:a with
 | none=>
  have:=f.none ha;subst this;have:xs=[]:=List.length_eq_zero_iff.1 f.len;subst this;exact ct rfl (k _ _ _ ((Wd.start h).jt _ _))
 | some x=>
  refine cf rfl ?_;refine M.aK (Wd.start h) λb h2 w=>?_;refine M.nL (xs:=kf.row xs) (by rw[kf.jR,f.len];rfl) (λe=>by simp at e) (λy e=>w.keep.row (f.row y (by rw[ha];exact e))) ?_;have w:=w.Pf (i:=0) (size:=3) rfl;refine M.ru w 0 rfl rfl (by rw[kf.jR,f.len];rfl) (kf.iq _) (by omega) (by omega) λa' c' h3 w=>?_;rw[Nat.zero_add]at w ⊢;exact k _ _ _ w
def L1(s:gD)(sa:Option Addr)(sc:Nat)(ma:Option Addr)(mc:Nat):List Chunk:=[.sl 3 1 sa s.av.length sc (eI.row s.av),.sl 51 3 ma s.aj.length mc (kf.row s.aj)]
theorem CN{Q:Int->Int->Int->Int->Int->Int->Bool->Option Addr->Nat->Nat->Option Addr->Nat->Nat->H->Prop}(f1:Ro eI h sa sl s.av)(f:Ro kf h ma ml s.aj)(hl:ml≤1000000)(hl1:sl≤1000000)
  (k:∀a c a2 c2 h',Wd h h' (L1 s a c a2 c2)->Q s.count s.dS s.data s.slots s.mark s.built s.aJ a s.av.length c a2 s.aj.length c2 h'):cq s.count s.dS s.data s.slots s.mark s.built s.aJ sa sl sc ma ml mc h Q:=by
 unfold cq;have hx:=f.len;have hx1:=f1.len;refine M.aK (Wd.start h) λb h1 w=>M.aK w λb2 h2 w=>M.lW (w.blk 0 rfl) rfl (M.lW (w.blk 0 rfl) rfl ?_);refine FH (f1.keep w.keep) hl1 λa3 c3 h3 w3=>M.cY w3.keep ⟨_,w.blk 0 rfl⟩ ?_;have w:=w.join w3;refine E3 (f.keep w.keep) hl λa4 c4 h4 w4=>?_;have w:=w.join w4;refine M.bg w 0 rfl rfl (by simp) λh5 w=>M.bg w 0 rfl rfl (by simp) λh6 w=>?_;refine kq (s:=s) (sa:=a3) (sl:=sl) (sc:=c3) (ma:=a4) (ml:=ml) (mc:=c4) (hM (w.blk 0 rfl)) ⟨rfl,M.bz w 1 rfl (by simp[ag]) rfl λh7 w=>kq (s:=s) (sa:=a3) (sl:=sl) (sc:=c3) (ma:=a4) (ml:=ml) (mc:=c4) (hM (w.blk 1 rfl)) ?_⟩;have w:=(w.drop (i:=0) rfl).drop (i:=0) rfl;subst hx hx1;exact k _ _ _ _ _ w
theorem FA{b:Nat}{r:Rd}{Q:Int->ByteArray->ByteArray->H->Prop}(w:Wd h0 h [.blk b (zL r)])(hs:r.rest.size≤1000000)
  (k:∀h',Wd h0 h' [.blk b (zL (r.below 4).2.text.2.text.2)]->Q ((r.below 4).1:Int) (r.below 4).2.text.1 (r.below 4).2.text.2.text.1 h'):fO (some ⟨b,0,none⟩) h Q:=by
 unfold fO;refine M.aK w λb4 h5 w=>?_;obtain⟨h1,_,k1,w1,_,back⟩:=w.on (i:=0) rfl;have z1:=r.Aw 4;have z2:=(r.below 4).2.C9;refine xd (n:=4) w1 hs rfl (by omega) λh7 w1=>ud w1 (by omega) λh9 w1=>ud w1 (by omega) λh11 w1=>?_;have w:=back _ _ w1;refine⟨rfl,M.bz w 1 rfl (by simp[ag]) rfl λh12 w=>?_⟩;have hb:=w.blk 1 rfl;exact M.gv hb rfl (M.oL hb rfl (M.oL hb rfl (k _ (w.drop (i:=1) rfl))))
end
end Go.Proofs.YtmfcgihgdhfalaaGreatDoor
namespace Go.Sh
open Go.RowKit
def eP:wY (Int×ByteArray):=⟨λp=>[.int .i64 p.1,.string p.2],2,λ_=>rfl,by simp[ag]⟩
def pa(xs:List (Int×ByteArray))(i:Nat):Int×ByteArray:=xs.getD i (0,empty)
theorem wK{xs:List (Int×ByteArray)}{i:Nat}(h:i<xs.length):pa xs i=xs[i]:=by simp[pa,h]
section
variable {h0 h h':H}{L:List Chunk}{a:Option Addr}{l c:Nat}{z:Int}{e:TypeId}{xs:List (Int×ByteArray)}
theorem Ro.RD{K:Int->ByteArray->Prop}(f:Ro eP h a l xs)(h0:0≤z)(h1:z<l)(k:K (pa xs z.toNat).1 (pa xs z.toNat).2):
  M.idx a l z λb j=>M.load h (Addr.add (Addr.add b (j*2)) 0) λv=>M.int .i64 v λn=>M.load h (Addr.add (Addr.add b (j*2)) 1) λv2=>M.str v2 λs=>K n s:=by
 refine f.at h0 h1 λb hi hc=>?_;have c0:h.cell ((b.add (z.toNat * 2)).add 0)=some (.int .i64 (xs[z.toNat]).1):=hc 0 (by decide);have c1:h.cell ((b.add (z.toNat * 2)).add 1)=some (.string (xs[z.toNat]).2):=hc 1 (by decide);rw[lc c0,int_eq,lc c1,fq,←wK hi];exact k
theorem Ro.Oe{K:Int->Prop}(f:Ro eP h a l xs)(h0:0≤z)(h1:z<l)(k:K (pa xs z.toNat).1):
  M.idx a l z λb j=>M.load h (Addr.add (Addr.add b (j*2)) 0) λv=>M.int .i64 v K:=by
 refine f.at h0 h1 λb hi hc=>?_;have c0:h.cell ((b.add (z.toNat * 2)).add 0)=some (.int .i64 (xs[z.toNat]).1):=hc 0 (by decide);rw[lc c0,int_eq,←wK hi];exact k
theorem Ro.Pu{K:ByteArray->Prop}(f:Ro eP h a l xs)(h0:0≤z)(h1:z<l)(k:K (pa xs z.toNat).2):
  M.idx a l z λb j=>M.load h (Addr.add (Addr.add b (j*2)) 1) λv=>M.str v K:=by
 refine f.at h0 h1 λb hi hc=>?_;have c1:h.cell ((b.add (z.toNat * 2)).add 1)=some (.string (xs[z.toNat]).2):=hc 1 (by decide);rw[lc c1,fq,←wK hi];exact k
theorem Wd.LR{α:Type}{E:wY α}{b n:Nat}{cs:Array Value}{ys:List α}(w:Wd h0 h L)(i:Nat)(hi:L[i]? = some (.blk b (.cells cs e (0,0))))(hc:cs=(E.row ys).toArray)(hn:ys.length=n):Wd h0 h (L.set i (.sl e E.sz (some ⟨b,0,none⟩) n n (E.row ys))):=by
 subst hc hn;refine w.weaken hi λF h ⟨hF,hb⟩=>.inr ⟨b,[],rfl,hF,?_,E.jR ys,by rw[List.append_nil];exact E.jR ys⟩;rw[List.append_nil];exact .of hb
end
end Go.Sh
namespace Go.Proofs.YtmfcgihgdhfalaaGreatDoor
open Go.Sh Go.RowKit Classical
def MY(b:Nat)(t:ByteArray):Chunk:=Wd.obj (α:=Option Addr×Option Addr×Nat×Nat) (λv=>v.1=none∨v.1=some ⟨b,0,none⟩) λv=>[.blk b (.cells #[.pointer v.1,.slice v.2.1 v.2.2.1 v.2.2.2] 213),.sl 5 1 v.2.1 v.2.2.1 v.2.2.2 (bytesOf t)]
section
variable {h0 h:H}{b:Nat}{t u:ByteArray}{L:List Chunk}
theorem Js(w:Wd h0 h [MY b t]):∃p a l c,(p=none∨p=some ⟨b,0,none⟩)∧l=t.size∧Wd h0 h [.blk b (.cells #[.pointer p,.slice a l c] 213),.sl 5 1 a l c (bytesOf t)]:=by
 obtain⟨v,h1,w⟩:=w.tw 0 rfl;have w:Wd h0 h [.blk b (.cells #[.pointer v.1,.slice v.2.1 v.2.2.1 v.2.2.2] 213),.sl 5 1 v.2.1 v.2.2.1 v.2.2.2 (bytesOf t)]:=w;have:=(w.mI 1 rfl).1;rw[M.oX]at this;exact⟨v.1,v.2.1,v.2.2.1,v.2.2.2,h1,by omega,w⟩
theorem MI(w:Wd h0 h (L++[.blk b (.cells #[.pointer none,.slice none 0 0] 213)])):Wd h0 h (L++[MY b empty]):=by
 have w:=w.jt 5 1;rw[List.append_assoc]at w;have:=w.close (α:=Option Addr×Option Addr×Nat×Nat) (p:=λv=>v.1=none∨v.1=some ⟨b,0,none⟩) (cs:=λv=>[.blk b (.cells #[.pointer v.1,.slice v.2.1 v.2.2.1 v.2.2.2] 213),.sl 5 1 v.2.1 v.2.2.1 v.2.2.2 (bytesOf empty)]) L.length (none,none,0,0) (by rw[List.drop_left' rfl];rfl) (.inl rfl);rw[List.take_left' rfl]at this;exact this
theorem Cg(s:ByteArray):∀v∈bytesOf s,ag v=true:=by
 rw[zv];exact pV _
theorem FU(s t:ByteArray):bytesOf (s++t)=bytesOf s++bytesOf t:=by simp[bytesOf]
theorem mP{Q:Int->Value->H->Prop}(w:Wd h0 h [MY b t])(h1:t.size≤1000000)(h2:u.size≤1000000)(k:∀h',Wd h0 h' [MY b (t++u)]->Q (u.size:Int) .nilIface h'):ax (some ⟨b,0,none⟩) u h Q:=by
 unfold ax;obtain⟨p,a,l,c,hp,hl,w⟩:=Js w;refine⟨b,p,_,rfl,w.blk 0 rfl,hp,?_⟩;have w1:=w.nh (i:=0) rfl (.cells #[.pointer (some ⟨b,0,none⟩),.slice a l c] 213);refine iw (M.lW (w1.blk 0 rfl) rfl (M.ru w1 1 rfl rfl (by rw[M.oX];omega) (Cg u) (by omega) (by omega) λa2 c2 h3 w2=>iw (M.bg w2 0 rfl rfl (by simp) λh4 w3=>k _ ?_)));rw[←FU]at w3;exact w3.close 0 (some ⟨b,0,none⟩,a2,l+u.size,c2) rfl (.inr rfl)
theorem vi{Q:ByteArray->H->Prop}{L:List Chunk}(w:Wd h0 h (MY b t::L))(ht:t.size≠0)(ht2:t.size≤1000000)(k:∀h',Wd h0 h' L->Q t h'):aU (some ⟨b,0,none⟩) h Q:=by
 unfold aU;obtain⟨h1,k0,k1,w1,wr,back⟩:=w.on (i:=0) rfl;obtain⟨p,a,l,c,hp,hl,w1⟩:=Js w1;have hb:=w1.blk 0 rfl;obtain⟨F,hc,hF⟩:=w1.get (i:=1) rfl;rcases hc with ⟨_,rfl,_⟩|⟨g,rest,rfl,hg,⟨fr,hx,_⟩,h4,h5⟩
 ·exact absurd hl.symm ht
 ·have hz:=M.oX t;have hcc:c≠0:=by rw[List.length_append]at h5;omega
  have hlz:t.data.toList.length=t.size:=(Rx t).symm;refine iw (M.lW hb rfl (iw (M.lW hb rfl ⟨_,rfl,hcc,M.cY (bq.refl _) ⟨_,hb⟩ ⟨5,g,_,fr,t.data.toList,Tryz.underlying301,by kernel_rfl,rfl,hx,?_,?_,?_,?_,?_,λf'=>?_⟩⟩)))
  ·intro e;rw[e]at hlz;exact ht hlz.symm
  ·rw[hlz,hl]
  ·rw[hlz,List.size_toArray,List.length_append,hz];omega
  ·omega
  ·intro j x hj;have:j<(bytesOf t).length:=by
    rw[hz,←hlz];exact(List.getElem?_eq_some_iff.1 hj).1
   rw[List.getElem?_toArray,List.getElem?_append_left this,bytesOf,List.getElem?_map,hj];rfl
  ·have e:(⟨t.data.toList.toArray⟩:ByteArray)=t:=by simp
   rw[e];refine k _ ?_;have h1g:h1 g=none:=hF g ((hg g).2 rfl)
   exact⟨wr.keep.trans (k1.own h1g _),let ⟨F2,a,b⟩:=wr.sat;⟨F2,(Chunk.sep _).loc a λx hx=>by
    have:h1 x≠none:=(Chunk.sep _).dom a hx;rw[H.uw _ _ (λe=>this (by rw[e];exact h1g))];cases hh:h1 x with
    | none=>exact absurd hh this
    | some o=>exact k1 _ _ hh,b⟩⟩
end
def lD(l:List Int):ByteArray:=l.foldl (λt n=>t++iZ n.toNat) empty
def wH(m:Mem):ByteArray:=iZ m.st.toNat++mw m.top++mw m.log
def mY(l:List Mem):ByteArray:=l.foldl (λt m=>t++wH m) empty
def pq(b:Bool):Int:=if b=true then 1 else 0
def gD.oO(s:gD):List Int:=([s.data,s.slots,s.mark,s.built,pq s.aJ,(s.av.length:Int)]++s.av)++[(s.aj.length:Int)]
def od(s:gD):ByteArray:=((iZ s.count.toNat++iZ s.dS.toNat)++lD s.oO)++mY s.aj
theorem rN(l m:List Int):lD (l++m)=lD l++lD m:=by
 have e:∀(m:List Int) (t:ByteArray),m.foldl (λt n=>t++iZ n.toNat) t=t++lD m:=by
  intro m;induction m with
  | nil=>intro t;simp[lD]
  | cons x r ih=>intro t;rw[lD,List.foldl_cons,List.foldl_cons,ih,ih (empty++_)];simp[ByteArray.append_assoc]
 rw[lD,List.foldl_append,e];rfl
theorem Dj(l m:List Mem):mY (l++m)=mY l++mY m:=by
 have e:∀(m:List Mem) (t:ByteArray),m.foldl (λt n=>t++wH n) t=t++mY m:=by
  intro m;induction m with
  | nil=>intro t;simp[mY]
  | cons x r ih=>intro t;rw[mY,List.foldl_cons,List.foldl_cons,ih,ih (empty++_)];simp[ByteArray.append_assoc]
 rw[mY,List.foldl_append,e];rfl
theorem qE(l:List Int):(lD l).size=8*l.length:=by
 induction l with
 | nil=>rfl
 | cons x r ih=>
  have:x::r=[x]++r:=rfl;rw[this,rN,ByteArray.size_append,ih];simp[lD,eF];omega
theorem yx{m:Mem}(h:m.ok):(wH m).size=88:=by
 rw[wH,ByteArray.size_append,ByteArray.size_append,eF,jL,jL,h.2.2.1,h.2.2.2]
theorem sJ{l:List Mem}(h:∀m∈l,m.ok):(mY l).size=88*l.length:=by
 induction l with
 | nil=>rfl
 | cons x r ih=>
  have:x::r=[x]++r:=rfl;rw[this,Dj,ByteArray.size_append,ih λm hm=>h m (by simp[hm])];simp[mY,yx (h x (by simp))];omega
theorem Az{l:List Int}{y:Nat}(h:y<l.length):lD (l.take (y+1))=lD (l.take y)++iZ (za l y).toNat:=by
 rw[List.take_succ_eq_append_getElem h,rN,←kP h];simp[lD]
theorem Bd{l:List Mem}{y:Nat}(h:y<l.length):mY (l.take (y+1))=mY (l.take y)++wH (mb l y):=by
 rw[List.take_succ_eq_append_getElem h,Dj,←mJ h];simp[mY]
theorem gD.good.oO{s:gD}(g:s.good):∀n∈s.oO,0≤n∧n≤1000:=by
 obtain⟨⟨g1,g2,g3,g4,g5,g6,g7⟩,_,g8,g9,_⟩:=g;have:=iC g2;have hl:(s.av.length:Int)≤11:=by
  rw[g8,gD.mT];split<;>omega
 intro n hn;simp only[gD.oO,List.mem_append,List.mem_cons,List.not_mem_nil,or_false]at hn;rcases hn with ((e|e|e|e|e|e)|hn)|e
 ·omega
 ·omega
 ·omega
 ·omega
 ·rw[e,pq];split<;>omega
 ·omega
 ·have:=g9 n hn;omega
 ·omega
theorem gD.good.len{s:gD}(g:s.good):s.av.length≤11∧s.aj.length≤12∧s.oO.length=s.av.length+7:=by
 obtain⟨⟨g1,g2,g3,g4,g5,g6,g7⟩,_,g8,g9,_⟩:=g;refine⟨?_,g7,by simp[gD.oO]⟩;have:(s.av.length:Int)≤11:=by
  rw[g8,gD.mT];split<;>omega
 omega
section
variable {h0 h:H}{s:gD}{sa ma:Option Addr}{sl sc ml mc:Nat}
theorem Ij{Q:ByteArray->Int->H->Prop}(f1:Ro eI h sa sl s.av)(f:Ro kf h ma ml s.aj)(hl:ml≤1000000)(hl1:sl≤1000000)(hc:0≤s.count∧s.count<18446744073709551616)(he:0≤s.dS∧s.dS<18446744073709551616)
  (k:∀h',bq h h'->Q (if s.good then od s else empty) (if s.good then 0 else 4) h'):iD s.count s.dS s.data s.slots s.mark s.built s.aJ sa sl sc ma ml mc h Q:=by
 unfold iD;have hx:=f.len;have hx1:=f1.len;refine M.aK (Wd.start h) λb h1 w=>kq (s:=s) (hM (w.blk 0 rfl)) (pT (f1.keep w.keep) (f.keep w.keep) hl hl1 λh2 k2=>?_);have w:=w.keeps k2;by_cases g:s.good;rotate_left
 ·rw[if_neg g,if_neg g]at k;rw[decide_eq_false g];exact ct rfl (k _ w.keep)
 rw[if_pos g,if_pos g]at k;rw[decide_eq_true g];obtain⟨gl1,gl2,gl3⟩:=g.len;have gn:=g.oO;have gm:=g.2.1.1;refine cf rfl (M.aK w λb2 h3 w=>?_);have w:=MI (L:=[_]) w;have hb:=w.blk 0 rfl;refine M.gv hb rfl (M.gv hb rfl ?_);obtain⟨c,hc'⟩:∃c:Nat,s.count=c:=⟨s.count.toNat,by omega⟩;obtain⟨e,he'⟩:∃e:Nat,s.dS=e:=⟨s.dS.toNat,by omega⟩;rw[hc',he'];refine m8 (by omega) λh4 k4=>M.cY k4 ⟨_,hb⟩ (m8 (by omega) λh5 k5=>mU (by simp[eF]) ?_);have w:=w.keeps (k4.trans k5);obtain⟨hy,_,ky,wy,_,back⟩:=w.on (i:=1) rfl;refine mP wy (by decide) (by simp[ByteArray.size_append,eF]) λh6 w6=>?_;have w:=back _ _ w6;have hb:=w.blk 0 rfl;rw[ByteArray.empty_append]at w;refine M.gv hb rfl (M.gv hb rfl (M.gv hb rfl (M.gv hb rfl (M.Bi hb rfl (M.lW hb rfl (M.lW hb rfl ?_))))));have one:∀{K:Int->H->Prop},K (pq s.aJ) h6->jH s.aJ h6 K:=λ{K} kk=>by
  unfold jH;cases hg:s.aJ with
  | true=>rw[hg]at kk;exact ct rfl kk
  | false=>rw[hg]at kk;exact cf rfl kk
 refine one (M.cY (bq.refl _) ⟨_,hb⟩ (M.cY (bq.refl _) ⟨_,hb⟩ (M.cY (bq.refl _) ⟨_,hb⟩ (M.cY (bq.refl _) ⟨_,hb⟩ (M.cY (bq.refl _) ⟨_,hb⟩ (M.cY (bq.refl _) ⟨_,hb⟩ (M.qz w λb7 h7 k7 w=>M.cY k7 ⟨_,hb⟩ ?_)))))));have w:=w.LR (E:=eI) (ys:=[s.data,s.slots,s.mark,s.built,pq s.aJ,(sl:Int)]) (n:=6) (i:=2) rfl rfl rfl;refine M.nL (xs:=eI.row s.av) (by rw[eI.jR,hx1];rfl) (λe=>by have:=f1.none e;rw[this]at hx1;rw[List.length_eq_zero_iff.1 hx1];rfl) (λy e=>w.keep.row (f1.row y e)) ?_;refine M.ru w 2 rfl rfl (by rw[eI.jR,hx1];rfl) (eI.iq _) (by omega) (by omega) λa8 c8 h8 w=>?_;rw[←eI.iX]at w;refine M.aO (λ_ h'=>Wd h h' [.blk b (.cells (gH s sa sl sc ma ml mc).toArray 40),MY b2 ((iZ c++iZ e)++lD s.oO)]) (λJ hJ=>M.lW (w.blk 0 rfl) rfl (Wd.push w 2 rfl rfl rfl (eI.iq [(ml:Int)]) (by omega) (by omega) λa9 c9 h9 w=>?_)) ?_
 ·have en:eI.row ([s.data,s.slots,s.mark,s.built,pq s.aJ,(sl:Int)]++s.av)++[Value.int .i64 (ml:Int)]=eI.row s.oO:=by rw[gD.oO,eI.iX (_ ++ _),hx,hx1];rfl
  rw[en]at w;have ln:s.oO.length=6+sl+1:=by rw[gl3,hx1];omega
  refine M.aP (I:=λ(p:Int) h'=>∃y:Nat,y≤6+sl+1∧p=(y:Int)∧Wd h h' [.blk b (.cells (gH s sa sl sc ma ml mc).toArray 40),MY b2 ((iZ c++iZ e)++lD (s.oO.take y)),.sl 3 1 a9 (6+sl+1) c9 (eI.row s.oO)]) (μ:=λp=>((6+sl+1:Nat)-p).toNat) ⟨0,by omega,rfl,by have e:lD (s.oO.take 0)=empty:=rfl;rw[e,ByteArray.append_empty];exact w⟩ ?_;rintro p h10 J2 ⟨y,hy,rfl,w⟩ hJ2;by_cases gy:y<6+sl+1
  ·refine eN (by omega) (Ro.Ii (w.ro (E:=eI) 2 rfl (by decide)) (by omega) (by omega) ?_);rw[Int.toNat_natCast];have hz:=kP (xs:=s.oO) (i:=y) (by omega);have hbd:=gn (za s.oO y) (by rw[hz];exact List.getElem_mem _);have ht:=Az (l:=s.oO) (y:=y) (by omega);refine M.vis (((za s.oO y).toNat:Nat):Int) (by rw[nq (by omega) (by omega)];omega) (m8 (by omega) λh11 u7=>?_);have w:=w.keeps u7;obtain⟨hy,_,ky,wy,_,back⟩:=w.on (i:=1) rfl;refine mP wy (by simp only[ByteArray.size_append,eF,qE,List.length_take];omega) (by rw[eF];omega) λh12 w12=>M.vis ((y+1:Nat):Int) (by rw[IntKind.wrap_i64];omega) (hJ2 _ _ ⟨y+1,by omega,rfl,?_⟩ (by omega));rw[ht,←ByteArray.append_assoc];exact back _ _ w12
  ·obtain rfl:y=6+sl+1:=by omega
   rw[List.take_of_length_le (by omega)]at w;exact gI (by omega) (hJ () _ (w.drop (i:=2) rfl))
 rintro _ h9 w;generalize hT:(iZ c++iZ e)++lD s.oO=T at *;have hTs:T.size=16+8*(sl+7):=by rw[←hT];simp only[ByteArray.size_append,eF,qE,gl3,hx1]
 refine M.aO (λ_ h'=>Wd h h' [.blk b (.cells (gH s sa sl sc ma ml mc).toArray 40),MY b2 (T++mY s.aj)]) (λJ hJ=>M.lW (w.blk 0 rfl) rfl ?_) ?_
 ·refine M.aP (I:=λ(p:Int) h'=>∃y:Nat,y≤ml∧p=(y:Int)∧Wd h h' [.blk b (.cells (gH s sa sl sc ma ml mc).toArray 40),MY b2 (T++mY (s.aj.take y))]) (μ:=λp=>(ml-p).toNat) ⟨0,by omega,rfl,by have e:mY (s.aj.take 0)=empty:=rfl;rw[e,ByteArray.append_empty];exact w⟩ ?_;rintro p h10 J2 ⟨y,hy,rfl,w⟩ hJ2;by_cases gy:y<ml
  ·refine eN (by omega) (Ro.BY (f.keep w.keep) (by omega) (by omega) (M.aK w λb3 h3 w=>⟨rfl,M.bz w 2 rfl (by simp[ag]) rfl λh4 w=>?_⟩));simp only[Int.toNat_natCast]at w ⊢;have hz:=mJ (xs:=s.aj) (i:=y) (by omega);have hok:(mb s.aj y).ok:=gm _ (by rw[hz];exact List.getElem_mem _);have ht:=Bd (l:=s.aj) (y:=y) (by omega);have hsz:=sJ (l:=s.aj.take y) λm hm=>gm m (List.mem_of_mem_take hm);rw[List.length_take]at hsz;have hms:=yx hok;generalize mb s.aj y=m at *;have hb:=w.blk 2 rfl;obtain⟨o1,o2,o3,o4⟩:=hok;refine M.gv hb rfl (M.oL hb rfl (M.oL hb rfl (M.vis ((m.st.toNat:Nat):Int) (by rw[nq (by omega) (by omega)];omega) (M.cY (bq.refl _) ⟨_,hb⟩ (M.cY (bq.refl _) ⟨_,hb⟩ (m8 (by omega) λh11 u7=>M.cY u7 ⟨_,hb⟩ (M.cY u7 ⟨_,hb⟩ (uS (by omega) λh12 yb=>M.cY (u7.trans yb) ⟨_,hb⟩ (mU (by rw[eF,jL];omega) (uS (by omega) λh13 Cz=>mU (by simp only[ByteArray.size_append,eF,jL];omega) ?_))))))))));have w:=w.keeps (u7.trans (yb.trans Cz));obtain⟨hy,_,ky,wy,_,back⟩:=w.on (i:=1) rfl;refine mP wy (by simp only[ByteArray.size_append];omega) (by rw[wH]at hms;omega) λh12 w12=>M.vis ((y+1:Nat):Int) (by rw[IntKind.wrap_i64];omega) (hJ2 _ _ ⟨y+1,by omega,rfl,?_⟩ (by omega));rw[ht,←ByteArray.append_assoc];exact(back _ _ w12).drop (i:=2) rfl
  ·obtain rfl:y=ml:=by omega
   rw[List.take_of_length_le (by omega)]at w;exact gI (by omega) (hJ () _ w)
 rintro _ h10 w;have w:=w.mv (i:=0) rfl;refine vi w (by rw[ByteArray.size_append];omega) (by have:=sJ gm;rw[ByteArray.size_append];omega) λh' w=>?_;have:=k h' w.keep;rw[od,hc',he',Int.toNat_natCast,Int.toNat_natCast,hT]at this;exact this
end
section
variable {h0 h:H}{b n i N:Nat}{r:Rd}{L:List Chunk}
theorem MZ{Q:Int->H->Prop}(w:Wd h0 h L)(i:Nat)(hi:L[i]? = some (.blk b (zL r)))(hs:r.rest.size≤1000000)(k:∀h',Wd h0 h' (L.set i (.blk b (zL r.num.2)))->Q (r.num.1:Int) h'):bf (some ⟨b,0,none⟩) h Q:=by
 obtain⟨h1,_,_,w1,_,back⟩:=w.on hi;exact we w1 hs λh' w'=>k h' (back _ _ w')
theorem m7{Q:Int->H->Prop}{x:Int}(w:Wd h0 h L)(i:Nat)(hi:L[i]? = some (.blk b (zL r)))(hs:r.rest.size≤1000000)(hx:x=(n:Int))(hn:0<n∧n<1000000)(k:∀h',Wd h0 h' (L.set i (.blk b (zL (r.below n).2)))->Q ((r.below n).1:Int) h'):aB (some ⟨b,0,none⟩) x h Q:=by
 obtain⟨h1,_,_,w1,_,back⟩:=w.on hi;exact xd w1 hs hx hn λh' w'=>k h' (back _ _ w')
theorem OQ{Q:ByteArray->H->Prop}(w:Wd h0 h L)(i:Nat)(hi:L[i]? = some (.blk b (zL r)))(hs:r.rest.size≤1000000)(k:∀h',Wd h0 h' (L.set i (.blk b (zL r.text.2)))->Q r.text.1 h'):bQ (some ⟨b,0,none⟩) h Q:=by
 obtain⟨h1,_,_,w1,_,back⟩:=w.on hi;exact ud w1 hs λh' w'=>k h' (back _ _ w')
theorem DS{Q:Int->H->Prop}(w:Wd h0 h L)(i:Nat)(hi:L[i]? = some (.blk b (zL r)))(k:Q r.done h):bu (some ⟨b,0,none⟩) h Q:=by
 obtain⟨h1,_,_,w1,_,back⟩:=w.on hi;exact Gn w1 k
def Rd.mem(r:Rd):Mem×Rd:=(⟨((r.below 4).1:Nat),(r.below 4).2.text.1,(r.below 4).2.text.2.text.1⟩,(r.below 4).2.text.2.text.2)
theorem Om{Q:Int->ByteArray->ByteArray->H->Prop}(w:Wd h0 h L)(i:Nat)(hi:L[i]? = some (.blk b (zL r)))(hs:r.rest.size≤1000000)(k:∀h',Wd h0 h' (L.set i (.blk b (zL r.mem.2)))->Q r.mem.1.st r.mem.1.top r.mem.1.log h'):fO (some ⟨b,0,none⟩) h Q:=by
 obtain⟨h1,_,_,w1,_,back⟩:=w.on hi;exact FA w1 hs λh' w'=>k h' (back _ _ w')
theorem Nc(h:r.rest.size≤N):r.num.2.rest.size≤N:=Nat.le_trans r.uh h
theorem mW(n:Nat)(h:r.rest.size≤N):(r.below n).2.rest.size≤N:=Nat.le_trans (r.Aw n) h
theorem Jg(h:r.rest.size≤N):r.text.2.rest.size≤N:=Nat.le_trans r.C9 h
theorem PL(h:r.rest.size≤N):r.mem.2.rest.size≤N:=Jg (Jg (mW 4 h))
end
def ia{α:Type}(f:Rd->α×Rd)(r:Rd):Nat->List α×Rd
 | 0=>([],r)
 | n+1=>((ia f r n).1++[(f (ia f r n).2).1],(f (ia f r n).2).2)
theorem wQ{α:Type}{f:Rd->α×Rd}{r:Rd}:∀n,(ia f r n).1.length=n
 | 0=>rfl
 | n+1=>by simp[ia,wQ n]
theorem D2{α:Type}{f:Rd->α×Rd}{N:Nat}(hf:∀r:Rd,r.rest.size≤N->(f r).2.rest.size≤N){r:Rd}(h:r.rest.size≤N):∀n,(ia f r n).2.rest.size≤N
 | 0=>h
 | n+1=>hf _ (D2 hf h n)
def I0(n:Nat)(r:Rd):Int×Rd:=(((r.below n).1:Nat),(r.below n).2)
def tv(t:ByteArray):gD×Rd:=
 let c:=Rd.num ⟨t,0⟩
 let e:=c.2.num
 let d:=e.2.below 17
 let l:=d.2.below 17
 let m:=l.2.below 17
 let b:=m.2.below 17
 let g:=b.2.below 2
 let n:=g.2.below 13
 let s:=ia (I0 12) n.2 n.1
 let k:=s.2.below 13
 let x:=ia Rd.mem k.2 k.1
 (⟨c.1,e.1,d.1,l.1,m.1,b.1,decide (g.1=1),s.1,x.1⟩,x.2)
open Classical in
noncomputable def nC(t:ByteArray):Option gD:=if(tv t).2.done=0∧(tv t).1.good then some (tv t).1 else none
section
variable {h0 h:H}{t:ByteArray}
theorem Sa(n:Nat):((n:Int) == 1)=decide (n=1):=by
 by_cases h:n=1
 ·subst h;rfl
 ·rw[decide_eq_false h];simp;omega
theorem Hw{Q:Int->Int->Int->Int->Int->Int->Bool->Option Addr->Nat->Nat->Option Addr->Nat->Nat->Int->H->Prop}(ht:t.size≤1000000)
  (k1:∀s a c a2 c2 h',nC t=some s->Wd h h' (L1 s a c a2 c2)->Q s.count s.dS s.data s.slots s.mark s.built s.aJ a s.av.length c a2 s.aj.length c2 0 h')
  (k0:nC t=none->∀h',bq h h'->Q 0 0 0 0 0 0 false none 0 0 none 0 0 4 h'):iH t h Q:=by
 unfold iH;have s0:(⟨t,0⟩:Rd).rest.size≤1000000:=ht;have hP:tv t=tv t:=rfl;unfold nC at k0 k1;conv at hP=>rhs;unfold tv;dsimp only
 refine M.aK (Wd.start h) λb1 h1 w=>wO λb2 h2 w2=>M.aK (w.join w2) λb3 h3 w=>?_;refine MZ w 1 rfl s0 λh4 w=>M.bg w 2 rfl rfl (by simp[gH]) λh5 w=>?_;have s1:=Nc s0;refine MZ w 1 rfl s1 λh6 w=>M.bg w 2 rfl rfl (by simp[gH]) λh7 w=>?_;have s2:=Nc s1;generalize (Rd.num ⟨t,0⟩)=c at *;generalize c.2.num=e at *;have w:Wd h h7 [.blk b1 (.cells #[.int .u64 0,.int .u64 0,.int .i64 0,.int .i64 0,.int .i64 0,.int .i64 0,.bool false,.slice none 0 0,.slice none 0 0] 40),.blk b2 (zL e.2),.blk b3 (.cells (gH ⟨c.1,e.1,0,0,0,0,false,[],[]⟩ none 0 0 none 0 0).toArray 40)]:=w;refine M.jn (M.times 5 ?_);have s3:=mW 17 s2;have s4:=mW 17 s3;have s5:=mW 17 s4;have s6:=mW 17 s5;refine M.bM (eN (by decide) ⟨by decide,by decide,_,rfl,_,rfl,m7 (n:=17) w 1 rfl s2 rfl (by omega) λh8 w=>iw (M.bg w 2 rfl rfl (by simp[gH]) λh9 w=>M.vis 1 (by decide) ?_)⟩);refine M.bM (eN (by decide) ⟨by decide,by decide,_,rfl,_,rfl,m7 (n:=17) w 1 rfl s3 rfl (by omega) λh8 w=>iw (M.bg w 2 rfl rfl (by simp[gH]) λh9 w=>M.vis 2 (by decide) ?_)⟩);refine M.bM (eN (by decide) ⟨by decide,by decide,_,rfl,_,rfl,m7 (n:=17) w 1 rfl s4 rfl (by omega) λh8 w=>iw (M.bg w 2 rfl rfl (by simp[gH]) λh9 w=>M.vis 3 (by decide) ?_)⟩);refine M.bM (eN (by decide) ⟨by decide,by decide,_,rfl,_,rfl,m7 (n:=17) w 1 rfl s5 rfl (by omega) λh8 w=>iw (M.bg w 2 rfl rfl (by simp[gH]) λh9 w=>M.vis 4 (by decide) ?_)⟩);rename_i h10;refine M.bM (gI (by decide) ?_);generalize e.2.below 17=d at *;generalize d.2.below 17=l at *;generalize l.2.below 17=m at *;generalize m.2.below 17=bb at *
 refine m7 (n:=2) w 1 rfl s6 rfl (by omega) λh11 w=>M.bg w 2 rfl rfl (by simp[gH]) λh12 w=>?_;rw[Sa]at w;have s7:=mW 2 s6;generalize bb.2.below 2=g at *;have w:Wd h h12 [.blk b1 (.cells #[.int .u64 0,.int .u64 0,.int .i64 0,.int .i64 0,.int .i64 0,.int .i64 0,.bool false,.slice none 0 0,.slice none 0 0] 40),.blk b2 (zL g.2),.blk b3 (.cells (gH ⟨c.1,e.1,d.1,l.1,m.1,bb.1,decide (g.1=1),[],[]⟩ none 0 0 none 0 0).toArray 40)]:=w;have nlt:=g.2.qC (b:=13) (by omega);have s8:=mW 13 s7;refine M.jn (m7 (n:=13) w 1 rfl s7 rfl (by omega) λh13 w=>?_);generalize g.2.below 13=n at *;have s9:=λy=>D2 (f:=I0 12) (λr hr=>mW 12 hr) s8 y;refine M.aP (I:=λ(p:Int) h'=>∃y:Nat,y≤n.1∧p=(y:Int)∧∃a c2,Wd h h' [.blk b1 (.cells #[.int .u64 0,.int .u64 0,.int .i64 0,.int .i64 0,.int .i64 0,.int .i64 0,.bool false,.slice none 0 0,.slice none 0 0] 40),.blk b2 (zL (ia (I0 12) n.2 y).2),.blk b3 (.cells (gH ⟨c.1,e.1,d.1,l.1,m.1,bb.1,decide (g.1=1),[],[]⟩ a y c2 none 0 0).toArray 40),.sl 3 1 a y c2 (eI.row (ia (I0 12) n.2 y).1)]) (μ:=λp=>(n.1-p).toNat) ⟨0,by omega,rfl,none,0,w.jt _ _⟩ ?_;rintro p h14 J ⟨y,hy,rfl,a,c2,w⟩ hJ;by_cases gy:y<n.1
 ·refine eN (by omega) (M.lW (w.blk 2 rfl) rfl ?_);have hb:=w.blk 2 rfl;refine m7 (n:=12) w 1 rfl (s9 y) rfl (by omega) λh15 w=>M.still_at hb (w.blk 2 rfl) (M.aK w λb4 h16 w=>M.still_at hb (w.blk 2 rfl) (nD (w.blk 4 rfl) rfl (M.ru w 3 rfl rfl rfl (eI.iq [_]) (by omega) (by omega) λa3 c3 h17 w=>M.bg w 2 rfl rfl (by simp[gH]) λh18 w=>M.vis ((y+1:Nat):Int) (by rw[IntKind.wrap_i64];omega) (hJ _ _ ⟨y+1,by omega,rfl,a3,c3,?_⟩ (by omega)))));have w:=w.drop (i:=4) rfl;rw[ia,eI.iX];exact w
 obtain rfl:y=n.1:=by omega
 refine gI (by omega) ?_;have s10:=s9 n.1;generalize ia (I0 12) n.2 n.1=ss at *;have nlt2:=ss.2.qC (b:=13) (by omega);have s11:=mW 13 s10;refine M.jn (m7 (n:=13) w 1 rfl s10 rfl (by omega) λh19 w=>?_);generalize ss.2.below 13=q at *;have s12:=λy=>D2 (f:=Rd.mem) (λr hr=>PL hr) s11 y;refine M.aP (I:=λ(p:Int) h'=>∃y:Nat,y≤q.1∧p=(y:Int)∧∃a4 c4,Wd h h' [.blk b1 (.cells #[.int .u64 0,.int .u64 0,.int .i64 0,.int .i64 0,.int .i64 0,.int .i64 0,.bool false,.slice none 0 0,.slice none 0 0] 40),.blk b2 (zL (ia Rd.mem q.2 y).2),.blk b3 (.cells (gH ⟨c.1,e.1,d.1,l.1,m.1,bb.1,decide (g.1=1),[],[]⟩ a n.1 c2 a4 y c4).toArray 40),.sl 3 1 a n.1 c2 (eI.row ss.1),.sl 51 3 a4 y c4 (kf.row (ia Rd.mem q.2 y).1)]) (μ:=λp=>(q.1-p).toNat) ⟨0,by omega,rfl,none,0,w.jt _ _⟩ ?_;rintro p h14 J ⟨y,hy,rfl,a4,c4,w⟩ hJ;by_cases gy:y<q.1
 ·refine eN (by omega) (M.lW (w.blk 2 rfl) rfl ?_);have hb:=w.blk 2 rfl;refine Om w 1 rfl (s12 y) λh15 w=>M.still_at hb (w.blk 2 rfl) (M.aK w λb4 h16 w=>M.still_at hb (w.blk 2 rfl) (nD (w.blk 5 rfl) rfl (M.ru w 4 rfl rfl rfl (kf.iq [_]) (by omega) (by omega) λa3 c3 h17 w=>M.bg w 2 rfl rfl (by simp[gH]) λh18 w=>M.vis ((y+1:Nat):Int) (by rw[IntKind.wrap_i64];omega) (hJ _ _ ⟨y+1,by omega,rfl,a3,c3,?_⟩ (by omega)))));have w:=w.drop (i:=5) rfl;rw[ia,kf.iX];exact w
 obtain rfl:y=q.1:=by omega
 refine gI (by omega) ?_;generalize ia Rd.mem q.2 q.1=mm at *;simp only[hP]at k0 k1;refine M.aO (λdd h'=>dd=decide (¬(mm.2.done=0∧(⟨c.1,e.1,d.1,l.1,m.1,bb.1,decide (g.1=1),ss.1,mm.1⟩:gD).good))∧bq h14 h') (λJ hJ=>DS w 1 rfl ?_) ?_
 ·by_cases e1:mm.2.done=0
  ·refine cf (by simp[e1]) (kq (s:=⟨c.1,e.1,d.1,l.1,m.1,bb.1,decide (g.1=1),ss.1,mm.1⟩) (hM (w.blk 2 rfl)) (pT (w.ro (E:=eI) 3 rfl (by decide)) (w.ro (E:=kf) 4 rfl (by decide)) (by omega) (by omega) λh20 PT=>hJ _ _ ⟨?_,PT⟩));exact jT (by rw[Bool.not_eq_true',decide_eq_false_iff_not];exact⟨λh g=>h g.2,λh g=>h ⟨e1,g⟩⟩)
  ·exact ct (by simpa using e1) (hJ _ _ ⟨jT ⟨λ_ g=>e1 g.1,λ_=>rfl⟩,bq.refl _⟩)
 rintro _ h20 ⟨rfl,PT⟩;have w:=w.keeps PT;by_cases g1:mm.2.done=0∧(⟨c.1,e.1,d.1,l.1,m.1,bb.1,decide (g.1=1),ss.1,mm.1⟩:gD).good
 ·rw[if_pos g1]at k0 k1;refine cf (decide_eq_false λg=>g g1) (kq (s:=⟨c.1,e.1,d.1,l.1,m.1,bb.1,decide (g.1=1),ss.1,mm.1⟩) (hM (w.blk 2 rfl)) ⟨rfl,M.bz w 0 rfl (by simp[ag]) rfl λh21 w=>kq (s:=⟨c.1,e.1,d.1,l.1,m.1,bb.1,decide (g.1=1),ss.1,mm.1⟩) (hM (w.blk 0 rfl)) ?_⟩);have w:=((w.drop (i:=0) rfl).drop (i:=0) rfl).drop (i:=0) rfl;have e3:=(w.mI 0 rfl).1;have e4:=(w.mI 1 rfl).1;rw[eI.jR]at e3;rw[kf.jR]at e4;have e3:ss.1.length=n.1:=by simpa [eI] using e3
  have e4:mm.1.length=q.1:=by
   have:mm.1.length*3=q.1*3:=e4;omega
  have:=k1 _ a c2 a4 c4 h21 rfl (by rw[L1];simp only[e3,e4];exact w);simp only[e3,e4]at this;exact this
 ·rw[if_neg g1]at k0 k1;exact ct (decide_eq_true g1) ⟨rfl,M.bz w 0 rfl (by simp[ag]) rfl λh21 w=>kq (s:=⟨0,0,0,0,0,0,false,[],[]⟩) (hM (w.blk 0 rfl)) (k0 rfl _ w.keep)⟩
end
theorem MG(a b:ByteArray):(a++b).extract 0 a.size=a:=by
 rw[GJ (Nat.le_refl _)];exact ByteArray.extract_zero_size
theorem Dc(a b:ByteArray):(a++b).extract a.size (a++b).size=b:=by
 refine zZ (by simp[ByteArray.size_append]) λi hi=>?_;rw[ByteArray.size_extract,ByteArray.size_append]at hi;rw[kJ _ _ _ _ (by rw[ByteArray.size_append];omega) (by omega),kZ,if_neg (by omega)];congr 1;omega
def EU(n:Nat)(i:Nat):Int:=if i<4 then vF (BitVec.ofNat 32 (n/4294967296)) (3-i)else vF (BitVec.ofNat 32 n) (7-i)
theorem M0(x:U)(k:Nat):0≤vF x k∧vF x k<256:=by unfold vF;omega
theorem LQ(n:Nat):iZ n=yp 8 (EU n):=rfl
theorem zy{n i:Nat}(hi:i<8):aF (iZ n) i=EU n i:=by
 rw[LQ];refine sI 8 _ i hi ?_;unfold EU;split
 ·exact M0 _ _
 ·exact M0 _ _
theorem Qz(x:U):256*(256*(256*(256*0+vF x 3)+vF x 2)+vF x 1)+vF x 0=(x.toNat:Int):=by
 have:=x.isLt;simp only[vF,show(256:Nat)^3=16777216 from rfl,show(256:Nat)^2=65536 from rfl,show(256:Nat)^1=256 from rfl,show(256:Nat)^0=1 from rfl];omega
theorem KD{n:Nat}(hn:n<18446744073709551616):me (EU n) 8=n:=by
 rw[Mm];have e1:me (EU n) 4=((BitVec.ofNat 32 (n/4294967296)).toNat:Int):=Qz _;have e2:me (λk=>EU n (4+k)) 4=((BitVec.ofNat 32 n).toNat:Int):=Qz _;rw[e1,e2,BitVec.toNat_ofNat,BitVec.toNat_ofNat];omega
theorem yC{n:Nat}(hn:n<18446744073709551616)(u:ByteArray):qT (iZ n++u)=n:=by
 rw[qT,wo (g:=EU n) 8 λi hi=>by rw[kZ,if_pos (by rw[eF];exact hi),zy hi],KD hn];rfl
theorem HY{s:ByteArray}(h:8≤s.size):iZ (qT s)=s.extract 0 8:=by
 refine zZ (by rw[eF,ByteArray.size_extract];omega) λi hi=>?_;rw[eF]at hi;rw[zy hi,kJ _ _ _ _ (by omega) h,Nat.zero_add];have hv:=vI s;have e:me (aF s) 8=256*(256*(256*(256*(256*(256*(256*(256*0+aF s 0)+aF s 1)+aF s 2)+aF s 3)+aF s 4)+aF s 5)+aF s 6)+aF s 7:=rfl;rw[e]at hv;have b0:=dZ s 0;have b1:=dZ s 1;have b2:=dZ s 2;have b3:=dZ s 3;have b4:=dZ s 4;have b5:=dZ s 5;have b6:=dZ s 6;have b7:=dZ s 7;generalize qT s=N at *;simp only[EU,vF,BitVec.toNat_ofNat];have:i=0∨i=1∨i=2∨i=3∨i=4∨i=5∨i=6∨i=7:=by omega
 rcases this with rfl|rfl|rfl|rfl|rfl|rfl|rfl|rfl<;>simp only[Nat.reduceLT,if_true,if_false,Nat.reduceSub,Nat.reducePow] <;>omega
namespace Rd
theorem oG{n:Nat}(hn:n<18446744073709551616)(u:ByteArray):num ⟨iZ n++u,0⟩=(n,⟨u,0⟩):=by
 have hz:(iZ n++u).size=8+u.size:=by rw[ByteArray.size_append,eF]
 have:=Dc (iZ n) u;rw[eF]at this;rw[num,if_neg (by simp),if_neg (by simp only;omega),yC hn];simp only[this]
theorem uD{r:Rd}(h:r.num.2.bad=0):r.bad=0∧r.rest=iZ r.num.1++r.num.2.rest:=by
 unfold num at h ⊢;by_cases e:r.bad=0
 ·rw[if_neg (by simp[e])]at h ⊢;by_cases l:r.rest.size<8
  ·rw[if_pos l]at h;simp at h
  ·rw[if_neg l];exact⟨e,by simp only;rw[HY (by omega),yM _ (by omega)]⟩
 ·rw[if_pos e]at h;exact absurd h e
theorem jP{n b:Nat}(hn:n<b)(hb:b≤18446744073709551616)(u:ByteArray):below ⟨iZ n++u,0⟩ b=(n,⟨u,0⟩):=by
 rw[below,oG (by omega),if_neg (by simp),if_neg (by simp only;omega)]
theorem kA{r:Rd}{b:Nat}(h:(r.below b).2.bad=0):r.bad=0∧r.rest=iZ (r.below b).1++(r.below b).2.rest:=by
 unfold below at h ⊢;by_cases e:r.num.2.bad=0
 ·rw[if_neg (by simp[e])]at h ⊢;by_cases l:b≤r.num.1
  ·rw[if_pos l]at h;simp at h
  ·rw[if_neg l];exact uD e
 ·rw[if_pos e]at h;exact absurd h e
theorem qt{s:ByteArray}(hs:s.size<18446744073709551616)(u:ByteArray):text ⟨mw s++u,0⟩=(s,⟨u,0⟩):=by
 rw[text,mw,ByteArray.append_assoc,oG hs,take,if_neg (by simp),if_neg (by simp only[ByteArray.size_append];omega)];simp only[MG,Dc]
theorem vU{r:Rd}(h:r.text.2.bad=0):r.bad=0∧r.rest=mw r.text.1++r.text.2.rest:=by
 unfold text take at h ⊢;by_cases e:r.num.2.bad=0
 ·rw[if_neg (by simp[e])]at h ⊢;by_cases l:r.num.2.rest.size<r.num.1
  ·rw[if_pos l]at h;simp at h
  ·rw[if_neg l];obtain⟨h1,h2⟩:=uD e;refine⟨h1,?_⟩;simp only;rw[mw,ByteArray.size_extract,Nat.sub_zero,Nat.min_eq_left (by omega),ByteArray.append_assoc,yM _ (by omega)];exact h2
 ·rw[if_pos e]at h;exact absurd h e
end Rd
def pQ{α:Type}(e:α -> ByteArray)(l:List α):ByteArray:=l.foldl (λt x=>t++e x) empty
theorem uK{α:Type}(e:α -> ByteArray)(l:List α)(x:α):pQ e (l++[x])=pQ e l++e x:=by simp[pQ,List.foldl_append]
theorem sn{α:Type}{e:α -> ByteArray}{f:Rd->α×Rd}{P:α -> Prop}(hf:∀x u,P x->f ⟨e x++u,0⟩=(x,⟨u,0⟩)):∀(l:List α),(∀x∈l,P x)->∀u,ia f ⟨pQ e l++u,0⟩ l.length=(l,⟨u,0⟩):=by
 intro l;rw[←List.reverse_reverse l];generalize l.reverse=m;induction m with
 | nil=>intro _ u;simp[ia,pQ]
 | cons x r ih=>
  intro hp u;rw[List.reverse_cons]at hp ⊢;rw[uK,List.length_append,ByteArray.append_assoc];have:=ih (λy hy=>hp y (List.mem_append_left _ hy)) (e x++u);show ia f _ (r.reverse.length+1)=_;rw[ia,this,hf x u (hp x (by simp))]
theorem wu{α:Type}{e:α -> ByteArray}{f:Rd->α×Rd}(hf:∀r,(f r).2.bad=0->r.bad=0∧r.rest=e (f r).1++(f r).2.rest){r:Rd}:∀{n:Nat},(ia f r n).2.bad=0->r.bad=0∧r.rest=pQ e (ia f r n).1++(ia f r n).2.rest
 | 0,h=>⟨h,by simp[ia,pQ]⟩
 | n+1,h=>by
  obtain⟨h1,h2⟩:=hf _ h;obtain⟨h3,h4⟩:=wu hf h1;refine⟨h3,?_⟩;rw[ia,uK,ByteArray.append_assoc,←h2];exact h4
theorem JE{n:Nat}(hn:n≤1000)(x:Int)(u:ByteArray)(h:0≤x∧x<n):I0 n ⟨iZ x.toNat++u,0⟩=(x,⟨u,0⟩):=by
 rw[I0,Rd.jP (by omega) (by omega)];simp only[Int.toNat_of_nonneg h.1]
theorem JJ{n:Nat}(r:Rd)(h:(I0 n r).2.bad=0):r.bad=0∧r.rest=iZ (I0 n r).1.toNat++(I0 n r).2.rest:=by
 obtain⟨h1,h2⟩:=Rd.kA (r:=r) (b:=n) h;exact⟨h1,by rw[I0,Int.toNat_natCast];exact h2⟩
theorem KP(m:Mem)(u:ByteArray)(h:m.ok):Rd.mem ⟨wH m++u,0⟩=(m,⟨u,0⟩):=by
 obtain⟨h1,h2,h3,h4⟩:=h;rw[Rd.mem,wH,ByteArray.append_assoc,ByteArray.append_assoc,Rd.jP (b:=4) (by omega) (by omega)];simp only;rw[Rd.qt (by omega)];simp only;rw[Rd.qt (by omega),Int.toNat_of_nonneg h1]
theorem Kx(r:Rd)(h:r.mem.2.bad=0):r.bad=0∧r.rest=wH r.mem.1++r.mem.2.rest:=by
 obtain⟨h1,h2⟩:=Rd.vU (r:=(r.below 4).2.text.2) h;obtain⟨h3,h4⟩:=Rd.vU h1;obtain⟨h5,h6⟩:=Rd.kA h3;refine⟨h5,?_⟩;rw[wH,Rd.mem,Int.toNat_natCast,ByteArray.append_assoc,ByteArray.append_assoc,←h2,←h4];exact h6
theorem yz(l:List Int):lD l=pQ (λn:Int=>iZ n.toNat) l:=rfl
theorem yc(l:List Mem):mY l=pQ wH l:=rfl
theorem G2(s:gD):lD s.oO=iZ s.data.toNat++(iZ s.slots.toNat++(iZ s.mark.toNat++(iZ s.built.toNat++(iZ (pq s.aJ).toNat++(iZ s.av.length++(lD s.av++iZ s.aj.length)))))):=by
 rw[gD.oO,rN,rN];simp[lD,ByteArray.append_assoc]
theorem sA(s:gD):od s=iZ s.count.toNat++(iZ s.dS.toNat++(iZ s.data.toNat++(iZ s.slots.toNat++(iZ s.mark.toNat++(iZ s.built.toNat++(iZ (pq s.aJ).toNat++(iZ s.av.length++(lD s.av++(iZ s.aj.length++(mY s.aj++empty)))))))))):=by
 rw[od,G2];simp[ByteArray.append_assoc]
def gD.ji(s:gD):Prop:=(0≤s.count∧s.count<18446744073709551616)∧0≤s.dS∧s.dS<18446744073709551616
theorem KR{s:gD}(g:s.good)(hb:s.ji):tv (od s)=(s,⟨empty,0⟩):=by
 have gn:=g.oO;obtain⟨gl1,gl2,_⟩:=g.len;obtain⟨⟨⟨d1,d2,_⟩,g2,⟨m1,m2,_⟩,b1,b2,g6,g7⟩,⟨gm,_⟩,_,g9,_⟩:=g;have hsl:=iC g2;obtain⟨⟨c1,c2⟩,e1,e2⟩:=hb;have ho:pq s.aJ=0∨pq s.aJ=1:=by unfold pq;split<;>simp
 have hog:decide ((pq s.aJ).toNat=1)=s.aJ:=by
  unfold pq;cases s.aJ<;>rfl
 rw[sA,tv]
 try simp only
 rw[Rd.oG (by omega)]
 try simp only
 rw[Rd.oG (by omega)]
 try simp only
 rw[Rd.jP (b:=17) (by omega) (by omega)]
 try simp only
 rw[Rd.jP (b:=17) (by omega) (by omega)]
 try simp only
 rw[Rd.jP (b:=17) (by omega) (by omega)]
 try simp only
 rw[Rd.jP (b:=17) (by omega) (by omega)]
 try simp only
 rw[Rd.jP (b:=2) (by omega) (by omega)]
 try simp only
 rw[Rd.jP (b:=13) (by omega) (by omega)]
 try simp only
 rw[yz,sn (P:=λx:Int=>0≤x∧x<((12:Nat):Int)) (λx u h=>JE (by omega) x u h) s.av (λx hx=>by have:=g9 x hx;omega)]
 try simp only
 rw[Rd.jP (b:=13) (by omega) (by omega)]
 try simp only
 rw[yc,sn (P:=Mem.ok) (λx u h=>KP x u h) s.aj gm];simp only[Int.toNat_of_nonneg c1,Int.toNat_of_nonneg e1,Int.toNat_of_nonneg (show 0≤s.data by omega),Int.toNat_of_nonneg (show 0≤s.slots by omega),Int.toNat_of_nonneg m1,Int.toNat_of_nonneg b1,hog]
theorem KU{t:ByteArray}(h:(tv t).2.bad=0):t=(od (tv t).1)++(tv t).2.rest:=by
 have hP:tv t=tv t:=rfl;conv at hP=>rhs;unfold tv
 rw[hP]at h ⊢;simp only at h ⊢;generalize hc:Rd.num ⟨t,0⟩=c at *;have pc:=@Rd.uD ⟨t,0⟩;rw[hc]at pc;have pe:=@Rd.uD c.2;generalize c.2.num=e at *;have pd:=@Rd.kA e.2 17;generalize e.2.below 17=d at *;have pl:=@Rd.kA d.2 17;generalize d.2.below 17=l at *;have pm:=@Rd.kA l.2 17;generalize l.2.below 17=m at *;have pb:=@Rd.kA m.2 17;generalize m.2.below 17=b at *;have pg:=@Rd.kA b.2 2;have lg:=b.2.qC (b:=2) (by omega);generalize b.2.below 2=g at *;have pn:=@Rd.kA g.2 13;generalize g.2.below 13=n at *;have ps:=@wu Int (λn=>iZ n.toNat) (I0 12) JJ n.2 n.1;have ls:=wQ (f:=I0 12) (r:=n.2) n.1;generalize ia (I0 12) n.2 n.1=s at *;have pk:=@Rd.kA s.2 13;generalize s.2.below 13=k at *;have px:=@wu Mem wH Rd.mem Kx k.2 k.1;have lx:=wQ (f:=Rd.mem) (r:=k.2) k.1;generalize ia Rd.mem k.2 k.1=x at *;obtain⟨qx,rx⟩:=px h;obtain⟨qk,rk⟩:=pk qx;obtain⟨qs,rs⟩:=ps qk;obtain⟨qn,rn⟩:=pn qs;obtain⟨qg,rg⟩:=pg qn;obtain⟨qb,rb⟩:=pb qg;obtain⟨qm,rm⟩:=pm qb;obtain⟨ql,rl⟩:=pl qm;obtain⟨qd,rd⟩:=pd ql;obtain⟨qe,re⟩:=pe qd;obtain⟨_,rc⟩:=pc qe;have hog:(pq (decide (g.1=1))).toNat=g.1:=by
  unfold pq;by_cases e:g.1=1
  ·simp[e]
  ·simp only[e,decide_false,Bool.false_eq_true,if_false];omega
 rw[sA];simp only[Int.toNat_natCast,hog,ls,lx,ByteArray.append_assoc,ByteArray.append_empty,ByteArray.empty_append];rw[yc,←rx,←rk,yz,←rs,←rn,←rg,←rb,←rm,←rl,←rd,←re];exact rc
theorem M5(t:ByteArray):(tv t).1.ji:=by
 unfold tv gD.ji;simp only;have h1:=Rd.yK ⟨t,0⟩;have h2:=Rd.yK (Rd.num ⟨t,0⟩).2;omega
theorem xL{s:gD}(g:s.good)(hb:s.ji):nC (od s)=some s:=by
 unfold nC;rw[KR g hb,if_pos ⟨rfl,g⟩]
theorem sO{t:ByteArray}{s:gD}(h:nC t=some s):s.good∧s.ji∧od s=t:=by
 unfold nC at h;split at h
 ·rename_i hh;obtain⟨h1,h2⟩:=hh;simp only[Option.some.injEq]at h;subst h;refine⟨h2,M5 t,?_⟩;unfold Rd.done at h1;by_cases e:(tv t).2.bad=0
  ·rw[if_neg (by simp[e])]at h1;by_cases e2:(tv t).2.rest=empty
   ·have:=KU e;rw[e2,ByteArray.append_empty]at this;exact this.symm
   ·rw[if_neg e2]at h1;simp at h1
  ·rw[if_pos e]at h1;exact absurd h1 e
 ·simp at h
def mM(p:Int×ByteArray):Int:=if p.1<100∨p.1≥140 then 2 else if p.2.size>2032 then 5 else 0
def yl:List (Int×ByteArray)->Int
 | []=>0
 | p::r=>if mM p≠0 then mM p else yl r
def yq(l:List ByteArray):ByteArray:=dH 2 (pQ mw l)
def Nx(p:Int×ByteArray):ByteArray:=iZ p.1.toNat++mw p.2
def lF(l:List (Int×ByteArray)):List ByteArray:=iZ l.length::l.map Nx
def oq(l:List (Int×ByteArray)):List ByteArray×ByteArray×Int:=
 if 96≤l.length then([],empty,10)else if yl l≠0 then([],empty,yl l)else(lF l,yq (lF l),0)
def gF:ByteArray:=yq [iZ 0]
theorem uR{p:Int×ByteArray}(h:mM p=0):100≤p.1∧p.1<140∧p.2.size≤2032:=by
 unfold mM at h;split at h
 ·simp at h
 ·split at h
  ·simp at h
  ·omega
theorem wV:∀{l:List (Int×ByteArray)} {y:Nat} (hy:y<l.length),(∀p∈l.take y,mM p=0)->mM l[y]≠0->yl l=mM l[y]
 | q::r,0,_,_,h=>by
  unfold yl;rw[List.getElem_cons_zero]at h ⊢;rw[if_pos h]
 | q::r,y+1,hy,hp,h=>by
  have e:mM q=0:=hp q (by simp);unfold yl;rw[if_neg (by simp[e])];exact wV (by simpa using hy) (λp hp'=>hp p (by simp[hp'])) h
theorem uO:∀{l:List (Int×ByteArray)},(∀p∈l,mM p=0)->yl l=0
 | [],_=>rfl
 | q::r,h=>by
  unfold yl;rw[if_neg (by simp[h q (by simp)])];exact uO λp hp=>h p (by simp[hp])
theorem Dt{α:Type}{e:α -> ByteArray}{N:Nat}:∀{l:List α},(∀x∈l,(e x).size≤N)->(pQ e l).size≤N*l.length:=by
 intro l;rw[←List.reverse_reverse l];generalize l.reverse=m;induction m with
 | nil=>intro _;simp[pQ]
 | cons x r ih=>
  intro h;rw[List.reverse_cons]at h ⊢;have h1:=ih λy hy=>h y (List.mem_append_left _ hy);have h2:=h x (by simp);rw[uK,ByteArray.size_append,List.length_append];simp only[List.length_cons,List.length_nil,Nat.mul_add];omega
theorem yj{α:Type}{e:α -> ByteArray}{l:List α}{y:Nat}(h:y<l.length):pQ e (l.take (y+1))=pQ e (l.take y)++e l[y]:=by
 rw[List.take_succ_eq_append_getElem h,uK]
theorem uq{p:Int×ByteArray}(h:mM p=0):(Nx p).size≤2048:=by
 have:=uR h;rw[Nx,ByteArray.size_append,eF,jL];omega
section
variable {h0 h:H}{a:Option Addr}{l c:Nat}
theorem Gp{t:ByteArray}{Q:ByteArray->H->Prop}(hx:t.size≤800000)(tb:Tabs h)(k:∀h',bq h h'->Q (dH 2 t) h'):jz t h Q:=by
 unfold jz;have hs:(⟨#[2]⟩:ByteArray).size=1:=rfl;exact mU (by omega) (Ai (by rw[ByteArray.size_append];omega) tb λh' k'=>k h' k')
theorem Cv{p:Int×ByteArray}{Q:Int->H->Prop}(k:∀h',bq h h'->Q (mM p) h'):cy p.1 p.2 h Q:=by
 unfold cy;unfold mM at k;refine M.aK (Wd.start h) λb h1 w=>?_;have hb:=w.blk 0 rfl;refine M.aO (λd h'=>d=decide (p.1<100∨p.1≥140)∧h'=h1) (λJ hJ=>M.gv hb rfl ?_) ?_
 ·by_cases e1:p.1<100
  ·exact eN e1 (hJ _ _ ⟨by rw[decide_eq_true];omega,rfl⟩)
  ·refine gI e1 (M.gv hb rfl (hJ _ _ ⟨?_,rfl⟩));by_cases e2:p.1≥140
   ·rw[decide_eq_true e2,decide_eq_true (.inr e2)]
   ·rw[decide_eq_false e2,decide_eq_false (by omega)]
 rintro _ h9 ⟨rfl,e9⟩;rw[e9];by_cases e1:p.1<100∨p.1≥140
 ·rw[if_pos e1]at k;exact eN e1 (k _ w.keep)
 ·rw[if_neg e1]at k;refine gI e1 (M.oL hb rfl ?_);by_cases e2:p.2.size>2032
  ·rw[if_pos e2]at k;exact eN (by omega) (k _ w.keep)
  ·rw[if_neg e2]at k;exact gI (by omega) (k _ w.keep)
theorem CU{xs:List ByteArray}{Q:ByteArray->H->Prop}(f:Ro eS h a l xs)(hl:1≤l∧l≤100)(hz:∀s∈xs,s.size≤2048)(tb:Tabs h)(k:∀h',bq h h'->Q (yq xs) h'):dm a l c h Q:=by
 unfold dm;have hx:=f.len;refine M.aK (Wd.start h) λb h1 w=>?_;have w:=MI (L:=[]) w;have hs:∀y,(pQ mw (xs.take y)).size≤2056*100:=λy=>by
  have:=Dt (e:=mw) (N:=2056) (l:=xs.take y) λs hs=>by
   have:=hz s (List.mem_of_mem_take hs);rw[jL];omega
  rw[List.length_take]at this;have h2:2056*min y xs.length≤2056*100:=Nat.mul_le_mul_left _ (by omega);omega
 refine M.aO (λ_ h'=>Wd h h' [MY b (pQ mw xs)]) (λJ hJ=>?_) ?_
 ·refine M.aP (I:=λ(p:Int) h'=>∃y:Nat,y≤l∧p=(y:Int)∧Wd h h' [MY b (pQ mw (xs.take y))]) (μ:=λp=>(l-p).toNat) ⟨0,by omega,rfl,by simpa [pQ] using w⟩ ?_;rintro p h5 J2 ⟨y,hy,rfl,w⟩ hJ2;by_cases g:y<l
  ·refine eN (by omega) ((f.keep w.keep).vu (by omega) (by omega) ?_);rw[Int.toNat_natCast];have hg:=kM (xs:=xs) (i:=y) (by omega);have hzy:=hz (sa xs y) (by rw[hg];exact List.getElem_mem _);have hsy:=hs y;refine uS (by omega) λh6 k6=>mP (w.keeps k6) (by omega) (by rw[jL];omega) λh7 w7=>M.vis ((y+1:Nat):Int) (by rw[IntKind.wrap_i64];omega) (hJ2 _ _ ⟨y+1,by omega,rfl,?_⟩ (by omega));rw[yj (by omega),←hg];exact w7
  ·obtain rfl:y=l:=by omega
   rw[List.take_of_length_le (by omega)]at w;exact gI (by omega) (hJ () _ w)
 rintro _ h3 w3;have hsl:=hs l;rw[List.take_of_length_le (by omega)]at hsl;have hne:(pQ mw xs).size≠0:=by
  have:xs=xs.take (xs.length-1+1):=by rw[List.take_of_length_le (by omega)]
  rw[this,yj (by omega),ByteArray.size_append,jL];omega
 exact vi w3 hne (by omega) λh4 w4=>Gp (by omega) (tb.keep w4.keep) λh5 k5=>k _ (w4.keep.trans k5)
theorem Cp{xs:List (Int×ByteArray)}{Q:Option Addr->Nat->Nat->ByteArray->Int->H->Prop}(f:Ro eP h a l xs)(tb:Tabs h)
  (k:∀a' c' h',Wd h h' [.sl 9 1 a' (oq xs).1.length c' (eS.row (oq xs).1)]->Q a' (oq xs).1.length c' (oq xs).2.1 (oq xs).2.2 h'):fK a l c h Q:=by
 unfold fK fK.g;have hx:=f.len;unfold oq at k;by_cases e:96≤l
 ·rw[if_pos (by omega)]at k;exact eN (by omega) (k _ _ _ ((Wd.start h).jt _ _))
 rw[if_neg (by omega)]at k;refine gI (by omega) (M.vis (l:Int) (nq (by omega) (by omega)) (m8 (by omega) λh1 k1=>M.aK ((Wd.start h).keeps k1) λb h2 w=>?_));have w:=w.LR (E:=eS) (ys:=[iZ l]) (n:=1) (i:=0) rfl rfl rfl;have kb:∀h',bq h h'->yl xs≠0->Q none 0 0 empty (yl xs) h':=λh' k' g=>by
  rw[if_pos g]at k;exact k _ _ _ (((Wd.start h).keeps k').jt _ _)
 refine M.aO (λd h'=>(∀p∈xs,mM p=0)∧d.2.1=l+1∧Wd h h' [.sl 9 1 d.1 d.2.1 d.2.2 (eS.row (lF xs))]) (λJ hJ=>?_) ?_
 ·refine M.aP (I:=λ(p:(Option Addr×Nat×Nat)×Int) h'=>∃y:Nat,y≤l∧p.2=(y:Int)∧(∀p∈xs.take y,mM p=0)∧p.1.2.1=y+1∧Wd h h' [.sl 9 1 p.1.1 p.1.2.1 p.1.2.2 (eS.row (iZ l::(xs.take y).map Nx))]) (μ:=λp=>(l-p.2).toNat) ⟨0,by omega,rfl,by simp,rfl,w⟩ ?_;rintro⟨⟨a3,l3,c3⟩,i⟩ h5 J2 ⟨y,hy,rfl,hok,hl3,w⟩ hJ2;simp only at hl3 w ⊢;subst hl3;by_cases g:y<l
  ·refine eN (by omega) (Ro.RD (f.keep w.keep) (by omega) (by omega) (M.aK w λb3 h3 w=>⟨rfl,M.bz w 1 rfl (by simp[ag]) rfl λh4 w=>?_⟩));simp only[Int.toNat_natCast]at w ⊢;have hg:=wK (xs:=xs) (i:=y) (by omega);have hb:=w.blk 1 rfl;refine M.gv hb rfl (M.oL hb rfl (Cv (p:=pa xs y) λh6 k6=>?_));have w:=w.keeps k6;have hb:=w.blk 1 rfl;by_cases e1:mM (pa xs y)=0
   ·have hm:=uR e1;have hsz:=uq e1;refine cf (by simp[e1]) (M.gv hb rfl (M.oL hb rfl (M.vis (((pa xs y).1.toNat:Nat):Int) (by rw[nq (by omega) (by omega)];omega) (M.cY (bq.refl _) ⟨_,hb⟩ (m8 (by omega) λh7 k7=>M.cY k7 ⟨_,hb⟩ (uS (by omega) λh8 k8=>mU (by rw[eF,jL];omega) ?_))))));have w:=(w.keeps (k7.trans k8)).drop (i:=1) rfl;refine Wd.push w 0 rfl rfl rfl (eS.iq [Nx (pa xs y)]) (by omega) (by omega) λa9 c9 h9 w=>M.vis ((y+1:Nat):Int) (by rw[IntKind.wrap_i64];omega) (hJ2 _ _ ⟨y+1,by omega,rfl,?_,rfl,?_⟩ (by simp only[];omega))
    ·intro p hp;rw[List.take_succ_eq_append_getElem (by omega),List.mem_append,List.mem_singleton]at hp;rcases hp with hp|rfl
     ·exact hok p hp
     ·rw[←hg];exact e1
    ·rw[List.take_succ_eq_append_getElem (by omega),List.map_append,←List.cons_append,eS.iX,←hg];exact w
   ·have hbw:=wV (l:=xs) (y:=y) (by omega) hok (by rw[←hg];exact e1);rw[←hg]at hbw;refine ct (by simpa using e1) ?_;rw[←hbw];exact kb _ w.keep (by rw[hbw];exact e1)
  ·obtain rfl:y=l:=by omega
   rw[List.take_of_length_le (by omega)]at w hok;exact gI (by omega) (hJ (a3,y+1,c3) _ ⟨hok,rfl,by rw[lF,hx];exact w⟩)
 rintro⟨a3,l3,c3⟩ h3 ⟨hok,hl3,w3⟩;simp only at hl3 w3 ⊢;subst hl3;have hb0:=uO hok;rw[if_neg (by simp[hb0])]at k;have hll:(lF xs).length=l+1:=by simp[lF,hx]
 refine CU (w3.ro (E:=eS) 0 rfl (by decide)) (by omega) (λs hs=>?_) (tb.keep w3.keep) λh4 k4=>?_
 ·rcases List.mem_cons.1 hs with rfl|hs
  ·rw[eF];omega
  ·obtain⟨p,hp,rfl⟩:=List.mem_map.1 hs;exact uq (hok p hp)
 ·have:=k a3 c3 h4 (by rw[hll];exact w3.keeps k4);rw[hll]at this;exact this
theorem vN{Q:ByteArray->H->Prop}(tb:Tabs h)(k:∀h',bq h h'->Q gF h'):dh h Q:=by
 unfold dh;exact Cp (xs:=[]) Ro.nil tb λa c h' w=>k _ w.keep
def jb(s:ByteArray):Int×Int:=
 let r:=(Rd.mk s 0).below 96
 if r.2.done≠0 then(0,4)else((r.1:Int)+1,0)
theorem AB{s:ByteArray}{Q:Int->Int->H->Prop}(hs:s.size≤1000000)(k:∀h',bq h h'->Q (jb s).1 (jb s).2 h'):fm s h Q:=by
 unfold fm;refine wO λb h1 w=>m7 (n:=96) w 0 rfl hs rfl (by omega) λh2 w=>DS w 0 rfl ?_;unfold jb at k;simp only at k;have hlt:=(Rd.mk s 0).qC (b:=96) (by omega);by_cases e:((Rd.mk s 0).below 96).2.done=0
 ·rw[if_neg (by simp[e])]at k;exact cf (by simp[e]) (M.vis ((((Rd.mk s 0).below 96).1:Int)+1) (by rw[IntKind.wrap_i64];omega) (k _ w.keep))
 ·rw[if_pos e]at k;exact ct (by simpa using e) (k _ w.keep)
end
end Go.Proofs.YtmfcgihgdhfalaaGreatDoor

/- Layer 17's laws: one act of both slabs. Layer 17's laws: whatever is done with a slab. Layer 17's rows: two numbers, and acts with their texts. -/
import Derived.Test.YthegnmanjdlmjaaGreatDoorP13
set_option linter.unusedSimpArgs false
set_option linter.unusedVariables false
namespace Go.Proofs.YthegnmanjdlmjaaGreatDoor
open Go.Sh Go.RowKit
theorem cat_in {s t:ByteArray} {K:ByteArray→Prop} (h:s.size+t.size≤1000) (k:K (s++t)):M.cat s t K:=by
 refine ⟨?_,k⟩
 have:IntKind.i64.max=9223372036854775807:=rfl
 omega
theorem ofB_size' (l:List Int):(ofBytes l).size=l.length:=by simp [ofBytes,ByteArray.size]
theorem text31 {h0 h:H} {L:List Chunk} {e:TypeId} {a:Option Addr} {l c:Nat} {K:ByteArray→Prop} (w:Wd h0 h L) (i:Nat) (hi:L[i]? = some (.sl e 1 a l c (zerosOf [Value.int .u8 0] 31))) (k:K (ofBytes (List.replicate 31 0))):M.b2s h a l K:=
 w.textB i (by rw [hi]; rfl) k
theorem badM_len {B:BankM} {d n:Int} {key tp:ByteArray}:(badM B key d n tp).length≤16:=by
 unfold badM
 by_cases g:goodS B d n key
 ·have:=dep_small g.1
  rw [if_neg (by simp [g]),List.length_map]
  exact Nat.le_trans (List.length_filter_le _ _) (by rw [List.length_range]; omega)
 ·rw [if_pos g]; simp
theorem still_eq {h h':H} {x:Addr} {v:Value} {K:Prop} (h1:h.cell x=some v) (h2:h'.cell x=some v) (q:K):M.still h x 1 h' K:=
 ⟨fun i hi=>by
  obtain rfl:i=0:=by omega
  rw [Addr.add_zero',h1,h2],q⟩
section
variable {h0 h:H} {B:BankM} {d n:Int} {key tp:ByteArray} {p r x k0:Nat} {m:Act17} {cs:List ByteArray}
set_option maxRecDepth 100000 in
set_option maxHeartbeats 40000000 in
theorem act_spec {Q:Bool→H→Prop} (w:Wd h0 h [bankC p B,rbankC r B,.blk x (.cells #[.pointer (some ⟨p,0,none⟩),.int .i64 d,.int .i64 n,.string key,.pointer (some ⟨r,0,none⟩),.int .i64 d,.int .i64 n,.string key,.string tp] 42)]) (hm:Ro eS h0 m.ca m.cl cs) (hlc:m.cl≤m.cc) (hat:m.at_ ≤ 9223372036854775807) (tb:Tabs h0) (pl:Pl B (k0+40))
  (k:∀ h' B' tp,Wd h0 h' [bankC p B',rbankC r B',.blk x (.cells #[.pointer (some ⟨p,0,none⟩),.int .i64 d,.int .i64 n,.string key,.pointer (some ⟨r,0,none⟩),.int .i64 d,.int .i64 n,.string key,.string tp] 42)]→Pl B' k0→Q true h'):law17_both_act (some ⟨x,0,none⟩) m.do_ m.slot m.at_ m.data m.ca m.cl m.cc m.top h Q:=by
 unfold law17_both_act law17_both_act.g
 have sm:=pl.ti.sm
 have hW:=pl.rm.disk d
 have hn11:ByteArray.size ⟨#[49,50,51,52,53,54,55,56,57,48,49]⟩=11:=rfl
 generalize (⟨#[49,50,51,52,53,54,55,56,57,48,49]⟩:ByteArray)=sfx at *
 refine M.new_w w fun b2 h3 w=>?_
 simp only [bs,Nat.reduceAdd,Nat.reduceMul,lb (w.blk 2 rfl),lb (w.blk 3 rfl)]
 try simp only [bs] at w
 refine M.join_of (fun _ h'=>h'=h3) (fun J7 hJ7=>?_) ?_
 ·refine ⟨(by omega),?_⟩
  refine M.vin ?_
  refine M.join_of (fun _ h'=>h'=h3) (fun J11 hJ11=>?_) ?_
  ·refine M.join_of (fun _ h'=>h'=h3) (fun J12 hJ12=>?_) ?_
   ·refine M.join_of (fun _ h'=>h'=h3) (fun J13 hJ13=>?_) ?_
    ·refine M.join_of (fun _ h'=>h'=h3) (fun J14 hJ14=>?_) ?_
     ·refine M.join_of (fun _ h'=>h'=h3) (fun J15 hJ15=>?_) ?_
      ·refine M.join_of (fun _ h'=>h'=h3) (fun J16 hJ16=>?_) ?_
       ·repeat' refine cbe (fun e=>?_) fun e=>?_
        all_goals (try first | exact hJ7 _ _ rfl | exact hJ11 _ _ rfl | exact hJ12 _ _ rfl | exact hJ13 _ _ rfl | exact hJ14 _ _ rfl | exact hJ15 _ _ rfl | exact hJ16 _ _ rfl)
        all_goals
         refine M.join_of (fun (q:(Option Addr × Nat × Nat) × (Option Addr × Nat × Nat)) h'=>∃ xs:KV,q.1.2.1=xs.length∧q.2.2.1=xs.length∧xs.length≤6∧Wd h0 h' [bankC p B,rbankC r B,.blk x (.cells #[.pointer (some ⟨p,0,none⟩),.int .i64 d,.int .i64 n,.string key,.pointer (some ⟨r,0,none⟩),.int .i64 d,.int .i64 n,.string key,.string tp] 42),.blk b2 (.cells #[.int .i64 m.do_,.int .i64 m.slot,.int .i64 m.at_,.int .u8 m.data,.slice m.ca m.cl m.cc,.string m.top] 32),.sl 45 2 q.1.1 q.1.2.1 q.1.2.2 (eP.row xs),.sl 138 2 q.2.1 q.2.2.1 q.2.2.2 (eP.row xs)]) (fun J17 hJ17=>?_) ?_
         ·obtain ⟨hm1,hm2,hm3⟩:=mn_take (l:=m.cl) (n:=6) (by omega)
          refine M.sub0 hm2 (by omega) ?_
          rw [show (mn ((m.cl:Nat):Int) (6:Int)).toNat=min m.cl 6 from hm1]
          have f:=Ro.take hm (min m.cl 6) (Nat.min_le_left _ _)
          have hl6:min m.cl 6≤6:=by omega
          generalize cs.take (min m.cl 6)=cs' at f
          generalize min m.cl 6=l6 at f hl6 ⊢
          refine M.loop_of (I:=fun (q:(Option Addr × Nat × Nat) × (Option Addr × Nat × Nat) × Int) h'=>∃ xs:KV,xs.length≤l6∧q.2.2=(xs.length:Int)∧q.1.2.1=xs.length∧q.2.1.2.1=xs.length∧Wd h0 h' [bankC p B,rbankC r B,.blk x (.cells #[.pointer (some ⟨p,0,none⟩),.int .i64 d,.int .i64 n,.string key,.pointer (some ⟨r,0,none⟩),.int .i64 d,.int .i64 n,.string key,.string tp] 42),.blk b2 (.cells #[.int .i64 m.do_,.int .i64 m.slot,.int .i64 m.at_,.int .u8 m.data,.slice m.ca m.cl m.cc,.string m.top] 32),.sl 45 2 q.1.1 q.1.2.1 q.1.2.2 (eP.row xs),.sl 138 2 q.2.1.1 q.2.1.2.1 q.2.1.2.2 (eP.row xs)]) (μ:=fun q=>(l6-q.2.2).toNat) ⟨[],by simp,rfl,rfl,rfl,(w.nilsl _ _).nilsl _ _⟩ ?_
          clear w
          rintro ⟨⟨a5,l5,c5⟩,⟨a7,l7,c7⟩,i5⟩ h5 J ⟨xs,hj,hi,hl5,hl7,w⟩ hJ
          simp only at hi hl5 hl7 w ⊢
          subst hi hl5 hl7
          by_cases hlt:xs.length<l6
          ·refine cdt (by omega) ?_
           refine Ro.ldS (f.keep w.keep) (by omega) (by omega) ?_
           have hs3:=w.blk 3 rfl
           simp only [bs,lb hs3]
           refine M.vin ?_
           refine Wd.push w 4 rfl rfl rfl (by simp [isPlainCell]) (by omega) (by omega) fun a8 c8 h8 w=>?_
           refine Wd.push w 5 rfl rfl rfl (by simp [isPlainCell]) (by omega) (by omega) fun a9 c9 h9 w=>?_
           refine M.vis ((xs.length+1:Nat):Int) (by rw [IntKind.wrap_i64]; omega) ?_
           refine hJ _ _ ⟨xs++[(bXor .i64 m.slot (xs.length:Int),sa cs' ((xs.length:Int)).toNat)],by simp; omega,by simp,by simp,by simp,?_⟩ (by simp only; omega)
           rw [eP.row_app,eP.row_one]
           exact w
          ·exact cdf (by omega) (hJ17 _ _ ⟨xs,rfl,rfl,by omega,w⟩)
         ·clear w
          rintro ⟨⟨a5,l5,c5⟩,a7,l7,c7⟩ h5 ⟨xs,hl5,hl7,hl6,w⟩
          simp only at hl5 hl7 w ⊢
          subst hl5 hl7
          refine change_spec (Wd.firstn w 3) (w.ro 4 rfl (by decide)) (w.ro 5 rfl (by decide)) (by omega) tb pl fun h6 B' tp' w6 p6=>?_
          exact k _ _ _ w6 p6
       ·rintro _ _ rfl
        have hs2:=w.blk 2 rfl
        simp only [bs,lb (w.blk 2 rfl)]
        obtain ⟨hx,g0,g1,wx,wr,bk⟩:=w.on (i:=0) rfl
        refine Bad_spec wx sm (tb.keep w.keep) fun a5 c5 h5 w'=>?_
        have w:=w.join w'
        clear bk wr wx g1 g0 hx w'
        try simp only [bs] at w
        refine M.still_at hs2 (w.blk 2 rfl) ?_
        obtain ⟨hx,g0,g1,wx,wr,bk⟩:=w.on (i:=1) rfl
        refine rBad wx sm hW (tb.keep w.keep) fun a6 c6 h6 w'=>?_
        have w:=w.join w'
        clear bk wr wx g1 g0 hx w'
        try simp only [bs] at w
        have hbl:(badM B key d n tp).length≤16:=badM_len
        generalize badM B key d n tp=bl at *
        refine cf (by simp) ?_
        refine M.loop_of (I:=fun (i:Int) h'=>∃ j:Nat,j≤bl.length∧i=(j:Int)∧Wd h0 h' [bankC p B,rbankC r B,.blk x (.cells #[.pointer (some ⟨p,0,none⟩),.int .i64 d,.int .i64 n,.string key,.pointer (some ⟨r,0,none⟩),.int .i64 d,.int .i64 n,.string key,.string tp] 42),.blk b2 (.cells #[.int .i64 m.do_,.int .i64 m.slot,.int .i64 m.at_,.int .u8 m.data,.slice m.ca m.cl m.cc,.string m.top] 32),.sl 3 1 a5 bl.length c5 (eI.row bl),.sl 3 1 a6 bl.length c6 (eI.row bl)]) (μ:=fun i=>(bl.length-i).toNat) ⟨0,by omega,rfl,w⟩ ?_
        clear w
        rintro _ h7 J ⟨j,hj,rfl,w⟩ hJ
        by_cases hlt:j<bl.length
        ·refine cdt (by omega) ?_
         refine Ro.ldI (w.ro 4 rfl (by decide)) (by omega) (by omega) ?_
         refine Ro.ldI (w.ro 5 rfl (by decide)) (by omega) (by omega) ?_
         refine cf (by simp) (M.vis ((j+1:Nat):Int) (by rw [IntKind.wrap_i64]; omega) (hJ _ _ ⟨j+1,by omega,rfl,w⟩ (by omega)))
        ·exact cdf (by omega) (k _ _ _ (Wd.firstn w 3) (pl.mono (by omega)))
      ·rintro _ _ rfl
       obtain ⟨t1,t2,t3⟩:=mn_take (l:=m.top.size) (n:=100) (by omega)
       simp only [bs,lb (w.blk 2 rfl),lb (w.blk 3 rfl)]
       refine ⟨(by omega),(by assumption),(by assumption),?_⟩
       generalize m.top.extract (Int.toNat 0) (mn (↑m.top.size) 100).toNat=st
       obtain ⟨hx,g0,g1,wx,wr,bk⟩:=w.on (i:=0) rfl
       refine bDisk wx (fun hb=>?_) fun hb pd h5 q0 q1 w5 back=>?_
       ·exact cf rfl (k _ _ _ (Wd.firstn w 3) (pl.mono (by omega)))
       obtain ⟨hy,y0,y1,wy,wry,_⟩:=wr.on (i:=0) rfl
       obtain ⟨ra,rc,rp,ry,hrb,hrc,_,_,_,_⟩:=rb_ptr wy hb
       have hrb5:=g1 _ _ hrb
       have hrc5:=g1.cell hrc
       refine ct rfl ?_
       simp only [bs,Int.reduceToNat,lb (w.blk 2 rfl),lb (w.blk 3 rfl)]
       simp only [bs,lb hrb5]
       refine M.idx_of (BankM.not_bad.1 hb).1 (BankM.not_bad.1 hb).2 ?_
       simp only [Nat.mul_one,lc hrc5,bs]
       have hs2:=w.blk 2 rfl
       have hs3:=w.blk 3 rfl
       try simp only [lb hs3,bs]
       refine Tamper_spec w5 hW fun h7 w7=>?_
       have wt:=back _ _ w7
       have hrb7:=wt.keep _ _ hrb
       have hrc7:=wt.keep.cell hrc
       have w:=bk _ _ wt
       try simp only [bs] at w
       refine M.still_at hs3 (w.blk 3 rfl) (still_eq hrc5 hrc7 (M.still_at hs2 (w.blk 2 rfl) (M.still_at hrb5 hrb7 (M.still_at hs2 (w.blk 2 rfl) ?_))))
       obtain ⟨hx2,e0,e1,wx2,wr2,bk2⟩:=w.on (i:=1) rfl
       obtain ⟨ra',rc',rp',ry',hrb',hrc',_,_,w8,back'⟩:=rb_ptr wx2 hb
       obtain ⟨rfl,rfl⟩:ra=ra'∧rc=rc':=by have e:=hrb7.symm.trans hrb'; simpa using e
       obtain rfl:rp=rp':=by have e:=hrc7.symm.trans hrc'; simpa using e
       refine rTamper w8 hW fun h8 w9=>?_
       have w:=bk2 _ _ (back' _ _ w9)
       try simp only [bs] at w
       simp only [beq_self_eq_true]
       exact k _ _ _ (Wd.firstn w 3) ((pl.tamper hb _ _).mono (by omega))
     ·rintro _ _ rfl
      simp only [bs,lb (w.blk 2 rfl),lb (w.blk 3 rfl)]
      obtain ⟨hx,g0,g1,wx,wr,bk⟩:=w.on (i:=0) rfl
      refine bCut wx fun h5 w1=>?_
      have w:=bk _ _ w1
      clear bk wr wx g1 g0 hx w1
      try simp only [bs] at w
      simp only [bs,lb (w.blk 2 rfl),lb (w.blk 3 rfl)]
      obtain ⟨hx,g0,g1,wx,wr,bk⟩:=w.on (i:=1) rfl
      refine rbCut wx fun h6 w1=>?_
      have w:=bk _ _ w1
      clear bk wr wx g1 g0 hx w1
      try simp only [bs] at w
      exact k _ _ _ (Wd.firstn w 3) ((pl.cut hat).mono (by omega))
    ·rintro _ _ rfl
     simp only [bs,lb (w.blk 2 rfl)]
     obtain ⟨hx,g0,g1,wx,wr,bk⟩:=w.on (i:=0) rfl
     refine bCrash (ks:=[]) wx (fun D hD=>by have:=pl.rm.waits D hD; omega) lists_nil fun h5 w1=>?_
     have w:=bk _ _ w1
     clear bk wr wx g1 g0 hx w1
     try simp only [bs] at w
     simp only [bs,lb (w.blk 2 rfl)]
     obtain ⟨hx,g0,g1,wx,wr,bk⟩:=w.on (i:=1) rfl
     refine rbCrash (ks:=[]) wx (fun D hD=>by have:=pl.rm.waits D hD; omega) lists_nil fun h6 w1=>?_
     have w:=bk _ _ w1
     clear bk wr wx g1 g0 hx w1
     try simp only [bs] at w
     exact k _ _ _ (Wd.firstn w 3) (pl.crash.mono (by omega))
   ·rintro _ _ rfl
    simp only [bs,lb (w.blk 3 rfl)]
    exact hJ11 _ _ rfl
  ·rintro tq _ rfl
   simp only [bs,lb (w.blk 2 rfl),lb (w.blk 3 rfl)]
   obtain ⟨hx,g0,g1,wx,wr,bk⟩:=w.on (i:=0) rfl
   refine Get_spec wx sm (tb.keep w.keep) fun h5 kk=>?_
   have w:=w.keeps kk
   clear bk wr wx g1 g0 hx
   simp only [bs,lb (w.blk 2 rfl),lb (w.blk 3 rfl)]
   obtain ⟨hx,g0,g1,wx,wr,bk⟩:=w.on (i:=1) rfl
   refine rGet wx sm hW (tb.keep w.keep) fun h6 kk=>?_
   have w:=w.keeps kk
   clear bk wr wx g1 g0 hx
   refine M.jn (ct (strEq_iff.2 rfl) ?_)
   simp only [beq_self_eq_true]
   exact k _ _ _ (Wd.firstn w 3) (pl.mono (by omega))
 ·rintro _ h4 e4
  subst e4
  have hs3:=w.blk 3 rfl
  refine M.join_of (fun (q:ByteArray × ByteArray) h'=>q=(ofBytes [m.data]++sfx,ofBytes [m.data]++ofBytes (List.replicate 31 0))∧Keep h4 h') (fun J240 hJ=>?_) ?_
  ·simp only [bs,lb hs3]
   have w:=Wd.start h4
   repeat' first
    | (with_reducible show M.still _ _ _ _ _); refine M.still_at hs3 (w.keep _ _ hs3) ?_
    | (with_reducible show M.new _ _ _); refine M.new_w w fun _ _ w=>?_
    | (with_reducible show M.mk _ _ _ _ _ _ _); refine M.mk_sl w (by decide) (by decide) (by decide) (by decide) rfl fun _ _ w=>?_
    | (with_reducible show M.b2s _ (some ⟨_,0,none⟩) _ _); first | refine M.b2s_at (zs:=[_]) (w.blk 0 rfl) (by simp) ?_ | refine M.b2s_at (zs:=[_]) (w.blk 1 rfl) (by simp) ?_ | refine M.b2s_at (zs:=[_]) (w.blk 2 rfl) (by simp) ?_
    | (with_reducible show M.b2s _ _ _ _); first | refine text31 w 0 rfl ?_ | refine text31 w 1 rfl ?_ | refine text31 w 2 rfl ?_
    | (with_reducible show M.cat _ _ _); refine cat_in (by simp [ofB_size',hn11]) ?_
    | (with_reducible show And _ _); refine ⟨?_,?_⟩
    | exact hJ _ _ ⟨rfl,w.keep⟩
  rintro ⟨_,_⟩ h5 ⟨e,kk⟩
  cases e
  have w:=w.keeps kk
  simp only
  generalize ofBytes [m.data]++ofBytes (List.replicate 31 0)=pp
  refine M.join_of (fun (q:ByteArray) h'=>Wd h0 h' [bankC p B,rbankC r B,.blk x (.cells #[.pointer (some ⟨p,0,none⟩),.int .i64 d,.int .i64 n,.string key,.pointer (some ⟨r,0,none⟩),.int .i64 d,.int .i64 n,.string key,.string tp] 42),.blk b2 (.cells #[.int .i64 m.do_,.int .i64 m.slot,.int .i64 m.at_,.int .u8 m.data,.slice m.ca m.cl m.cc,.string m.top] 32)]) (fun J3 hJ3=>?_) ?_
  ·simp only [bs,lb (w.blk 3 rfl)]
   refine cbe (fun e=>?_) fun e=>?_
   ·
    exact hJ3 _ _ w
   ·exact hJ3 _ _ w
  clear w
  rintro nn h6 w
  simp only [bs,lb (w.blk 2 rfl),lb (w.blk 3 rfl)]
  obtain ⟨hx,g0,g1,wx,wr,bk⟩:=w.on (i:=0) rfl
  refine Seal2_spec wx (tb.keep w.keep) fun h7 kk=>?_
  have w:=w.keeps kk
  clear bk wr wx g1 g0 hx
  simp only [bs,lb (w.blk 2 rfl),lb (w.blk 3 rfl)]
  obtain ⟨hx,g0,g1,wx,wr,bk⟩:=w.on (i:=1) rfl
  refine rSeal17 wx fun h8 kk=>?_
  have w:=w.keeps kk
  clear bk wr wx g1 g0 hx
  generalize sealM (goodS B d n key) key d n m.slot nn pp=so at *
  refine M.join_of (fun (q:Bool) h'=>q=(so.2 != 0)∧Wd h0 h' [bankC p B,rbankC r B,.blk x (.cells #[.pointer (some ⟨p,0,none⟩),.int .i64 d,.int .i64 n,.string key,.pointer (some ⟨r,0,none⟩),.int .i64 d,.int .i64 n,.string key,.string tp] 42),.blk b2 (.cells #[.int .i64 m.do_,.int .i64 m.slot,.int .i64 m.at_,.int .u8 m.data,.slice m.ca m.cl m.cc,.string m.top] 32)]) (fun J4 hJ4=>?_) ?_
  ·refine cf (by rw [strEq_iff.2 rfl]; rfl) (cf (by simp) ?_)
   exact hJ4 _ _ ⟨rfl,w⟩
  clear w
  rintro _ h9 ⟨rfl,w⟩
  refine Go.Sh.cc (fun e=>?_) fun e=>?_
  ·refine M.jn (ct (strEq_iff.2 rfl) ?_)
   simp only [beq_self_eq_true]
   exact k _ _ _ (Wd.firstn w 3) (pl.mono (by omega))
  ·simp only [bs,lb (w.blk 3 rfl)]
   refine M.new_w w fun b3 h1 w=>?_
   simp only [bs,lb (w.blk 3 rfl)]
   refine M.new_w w fun b11 h10 w=>?_
   refine change_spec (xs:=[(m.slot,so.1)]) (Wd.firstn w 3) (Ro.of_blk (w.blk 4 rfl) rfl rfl) (Ro.of_blk (w.blk 5 rfl) rfl rfl) (by decide) tb pl fun h10 B' tp' w6 p6=>?_
   exact k _ _ _ w6 p6
end
end Go.Proofs.YthegnmanjdlmjaaGreatDoor
namespace Go.Proofs.YthegnmanjdlmjaaGreatDoor
open Go.Sh Go.RowKit
theorem sized_spec {h:H} {n:Int} {Q:Int→H→Prop} (k:∀ s,Q s h):law17_sized n h Q:=by
 unfold law17_sized
 refine M.join_of (fun (q:Bool) h'=>(q=true→0≤n)∧h'=h) (fun J hJ=>?_) ?_
 ·refine cd (fun e=>hJ _ _ ⟨fun _=>by omega,rfl⟩) fun e=>hJ _ _ ⟨(fun e=>by cases e),rfl⟩
 rintro q _ ⟨hq,rfl⟩
 refine Go.Sh.cc (fun e=>?_) fun e=>k _
 have h0:=hq e
 refine ⟨by decide,M.vin ⟨?_,M.vin (k _)⟩⟩
 rw [Int.tmod_eq_emod_of_nonneg h0]
 exact Int.emod_nonneg _ (by decide)
theorem slabPlays {h:H} {x0 d:Int} {kz:List Int} {a:Option Addr} {l c:Nat} {ms:List Act17} {Q:Bool→H→Prop} (tb:Tabs h) (hz:kz.length=32) (f:Ro eA h a l ms) (hlc:l≤c)
  (hn:∀ m ∈ ms,m.cl≤m.cc∧m.at_ ≤ 9223372036854775807∧∃ cs,Ro eS h m.ca m.cl cs) (k:∀ h',Keep h h'→Q true h'):law17_SlabPlays x0 d (bvs kz).toArray a l c h Q:=by
 unfold law17_SlabPlays law17_SlabPlays.g
 have w:=Wd.start h
 refine M.new_w w fun b2 h3 w=>?_
 refine M.new_w w fun b4 h5 w=>?_
 try simp only [bs] at w
 refine ⟨(by omega),(by omega),?_⟩
 simp only [bs,Int.reduceToNat,lb (w.blk 0 rfl)]
 refine ⟨(by omega),(by omega),?_⟩
 simp only [bs,Nat.reduceMul,Int.reduceToNat]
 refine M.row_all (w.blk 1 rfl) (by simp [hz,bvs_len]) ?_
 refine sized_spec fun s=>⟨fun _ _=>rfl,⟨fun _ _=>rfl,?_⟩⟩
 refine begin_spec (tb.keep w.keep) hz fun x p r h4 w'=>?_
 have w:=w.join w'
 clear w'
 generalize ofBytes kz=key at *
 have hbl:(bW (goodS (BankM.new 2 140) d s key) s).length≤32:=bW_len _ fun g=>g.1
 have pl0:Pl (BankM.new 2 140) 1000000:=⟨tiny_new 2 140,room_new⟩
 have pl:=(pl0.mono (m:=900000+40) (by omega)).apply (BankM.new_ok 2 140) (key:=key) (d:=d) (n:=s) hbl
 generalize bT (goodS (BankM.new 2 140) d s key) s=tp at *
 generalize (applyM (BankM.new 2 140) key d s (bW (goodS (BankM.new 2 140) d s key) s)).2=B at *
 clear hbl pl0
 have w:=(w.drop (i:=0) rfl).drop (i:=0) rfl
 try simp only [bs] at w
 refine M.join_of (fun (q:Bool) h'=>q=false∧Wd h h' [bankC p B,rbankC r B,.blk x (.cells #[.pointer (some ⟨p,0,none⟩),.int .i64 d,.int .i64 s,.string key,.pointer (some ⟨r,0,none⟩),.int .i64 d,.int .i64 s,.string key,.string tp] 42)]) (fun J hJ=>?_) ?_
 ·refine wakes17 (tb.keep w.keep) fun h5 kk=>?_
  refine cf rfl ?_
  exact hJ _ _ ⟨rfl,w.keeps kk⟩
 clear w
 rintro _ h4 ⟨rfl,w⟩
 refine cf rfl ?_
 obtain ⟨hm1,hm2,hm3⟩:=mn_take (l:=l) (n:=40) (by omega)
 refine M.sub0 hm2 (by omega) ?_
 rw [show (mn ((l:Nat):Int) (40:Int)).toNat=min l 40 from hm1]
 have f:=Ro.take f (min l 40) (Nat.min_le_left _ _)
 have hn:∀ m ∈ ms.take (min l 40),m.cl≤m.cc∧m.at_ ≤ 9223372036854775807∧∃ cs,Ro eS h m.ca m.cl cs:=fun m hm=>hn m (List.mem_of_mem_take hm)
 have hl40:min l 40≤40:=by omega
 clear hm1 hm2 hm3 hlc
 generalize ms.take (min l 40)=ms at f hn
 generalize min l 40=l at f hl40 ⊢
 refine M.loop_of (I:=fun (i:Int) h'=>∃ (m:Nat) (B:BankM) (tp:ByteArray),m≤l∧i=(m:Int)∧Pl B (900000-40*m)∧Wd h h' [bankC p B,rbankC r B,.blk x (.cells #[.pointer (some ⟨p,0,none⟩),.int .i64 d,.int .i64 s,.string key,.pointer (some ⟨r,0,none⟩),.int .i64 d,.int .i64 s,.string key,.string tp] 42)]) (μ:=fun i=>(l-i).toNat) ⟨0,B,tp,by omega,rfl,pl,w⟩ ?_
 clear w pl
 rintro _ h6 J ⟨m,B,tp,hm,rfl,pl,w⟩ hJ
 by_cases hlt:m<l
 ·refine cdt (by omega) ?_
  have v1:IntKind.wrap .i64 ((m:Int)+1)=((m+1:Nat):Int):=by rw [IntKind.wrap_i64]; omega
  refine Ro.atA (f.keep w.keep) (by omega) (by omega) fun b q hq c0 c1 c2 c3 c4 c5=>?_
  simp only [Int.toNat_natCast] at c0 c1 c2 c3 c4 c5 ⊢
  obtain ⟨n1,n2,cs,n3⟩:=hn q (List.mem_of_getElem? hq)
  simp only [bs,lc c0,lc c1,lc c2,lc c3,lc c4,lc c5]
  refine M.new_w w fun b3 h1 w=>?_
  refine ⟨(rfl),?_⟩
  refine M.puts_w0 w 3 rfl (by simp [isPlainCell]) (by simp) fun h7 w=>?_
  simp only [bs] at w
  simp only [bs,lb (w.blk 3 rfl)]
  refine act_spec (k0:=900000-40*(m+1)) (Wd.firstn w 3) n3 n1 n2 tb (pl.mono (by omega)) fun h7 B' tp' w7 p7=>?_
  exact cf rfl (M.vis _ v1 (hJ _ _ ⟨m+1,B',tp',by omega,rfl,p7,w7⟩ (by omega)))
 ·exact cdf (by omega) (k _ w.keep)
end Go.Proofs.YthegnmanjdlmjaaGreatDoor
namespace Go.Proofs.YthegnmanjdlmjaaGreatDoor
open Go.Sh Go.RowKit Go.ChangeShapes Go.WideShapes Go.ChangeAt
section
variable {h:H} {f:Nat} {cs:List Value}
set_option maxRecDepth 100000 in
theorem two_of (hi:In Tryz.prog h f 66 cs):∃ a b,cs=[.int .i64 a,.int .i64 b]:=by
 obtain ⟨f',hl,hi⟩:=In_array Tryz.underlying66 hi
 rw [show Tryz.prog.cellsOf 66=2 by decide +kernel] at hl
 obtain ⟨a,ea,_⟩:=In_int Tryz.underlying3 (hi 0 (by decide))
 obtain ⟨b,eb,_⟩:=In_int Tryz.underlying3 (hi 1 (by decide))
 rw [show Tryz.prog.cellsOf 3=1 by decide +kernel] at ea eb
 refine ⟨a,b,?_⟩
 match cs,hl with
 | [u,v],_=>
  have e1:u = .int .i64 a:=by simpa using ea
  have e2:v = .int .i64 b:=by simpa using eb
  rw [e1,e2]
theorem texts_of (hi:In Tryz.prog h f 28 cs):∃ a l c,∃ ts:List ByteArray,cs=[Value.slice a l c]∧l≤c∧Ro eS h a l ts:=by
 obtain ⟨f',a,l,c,rfl,h1,h2,h3,h4⟩:=In_slice Tryz.underlying28 hi
 cases a with
 | none=>
  have:=(h3 rfl).1
  subst this
  exact ⟨none,0,c,[],rfl,h1,Ro.nil⟩
 | some b=>
  have:∀ i,i<l→∃ s:ByteArray,h.cell (b.add i)=some (.string s):=fun i hil=>by
   obtain ⟨r,hr1,hr,hin⟩:=h4 b rfl i hil
   obtain ⟨s,rfl,_⟩:=In_str Tryz.underlying9 hin
   have:=hr 0 (by simp)
   rw [show Tryz.prog.cellsOf 9=1 by decide +kernel,Nat.mul_one,Addr.add_zero'] at this
   exact ⟨s,this⟩
  obtain ⟨ts,ht,hts⟩:=list_of this
  refine ⟨some b,l,c,ts,rfl,h1,ht,fun e=>by simp at e,fun b' e i hi=>?_⟩
  simp only [Option.some.injEq] at e
  subst e
  rw [eS_row,List.length_map] at hi
  rw [eS_row,List.getElem?_map,List.getElem?_eq_getElem hi]
  exact hts i _ (List.getElem?_eq_getElem hi)
theorem act17p_of (hi:In Tryz.prog h f 32 cs):∃ m:Act17,cs=eA.enc m∧m.cl≤m.cc∧m.at_ ≤ 9223372036854775807∧∃ ts,Ro eS h m.ca m.cl ts:=by
 obtain ⟨f',hl,hi⟩:=In_struct Tryz.underlying32 hi
 rw [show Tryz.prog.cellsOf 32=6 by decide +kernel] at hl
 simp only [List.mem_cons,List.not_mem_nil,or_false,forall_eq_or_imp,forall_eq] at hi
 obtain ⟨h0,h1,h2,h3,h4,h5⟩:=hi
 obtain ⟨n0,e0,_⟩:=In_int Tryz.underlying3 h0
 obtain ⟨n1,e1,_⟩:=In_int Tryz.underlying3 h1
 obtain ⟨n2,e2,hw2⟩:=In_int Tryz.underlying3 h2
 obtain ⟨n3,e3,_⟩:=In_int Tryz.underlying5 h3
 obtain ⟨a,l,c,ts,e4,hlc,hro⟩:=texts_of h4
 obtain ⟨s5,e5,_⟩:=In_str Tryz.underlying9 h5
 rw [show Tryz.prog.cellsOf 3=1 by decide +kernel] at e0 e1 e2
 rw [show Tryz.prog.cellsOf 5=1 by decide +kernel] at e3
 rw [show Tryz.prog.cellsOf 28=1 by decide +kernel] at e4
 rw [show Tryz.prog.cellsOf 9=1 by decide +kernel] at e5
 have hr:n2≤9223372036854775807:=by
  simp [Lit.wf,IntKind.min,IntKind.max,IntKind.signed,IntKind.bits] at hw2
  omega
 refine ⟨⟨n0,n1,n2,n3,a,l,c,s5⟩,?_,hlc,hr,ts,hro⟩
 have e:cs=(cs.drop 0).take 1++((cs.drop 1).take 1++((cs.drop 2).take 1++((cs.drop 3).take 1++((cs.drop 4).take 1++((cs.drop 5).take 1++cs.drop 6))))):=by
  rw [←drop_take cs 5 1 6 rfl,←drop_take cs 4 1 5 rfl,←drop_take cs 3 1 4 rfl,←drop_take cs 2 1 3 rfl,←drop_take cs 1 1 2 rfl,←drop_take cs 0 1 1 rfl,List.drop_zero]
 rw [e,e0,e1,e2,e3,e4,e5,List.drop_eq_nil_of_le (by omega)]
 rfl
theorem acts17p_of (hi:In Tryz.prog h f 23 cs):∃ a l c,∃ ms:List Act17,cs=[Value.slice a l c]∧l≤c∧Ro eA h a l ms∧∀ m ∈ ms,m.cl≤m.cc∧m.at_ ≤ 9223372036854775807∧∃ ts,Ro eS h m.ca m.cl ts:=by
 obtain ⟨f',a,l,c,rfl,h1,h2,h3,h4⟩:=In_slice Tryz.underlying23 hi
 cases a with
 | none=>
  have:=(h3 rfl).1
  subst this
  exact ⟨none,0,c,[],rfl,h1,Ro.nil,by simp⟩
 | some b=>
  have:∀ i,i<l→∃ m:Act17,Sh.rowAt h (b.add (i*6)) (eA.enc m)∧m.cl≤m.cc∧m.at_ ≤ 9223372036854775807∧∃ ts,Ro eS h m.ca m.cl ts:=fun i hil=>by
   obtain ⟨r,hr1,hr,hin⟩:=h4 b rfl i hil
   obtain ⟨m,rfl,hm⟩:=act17p_of hin
   rw [show Tryz.prog.cellsOf 32=6 by decide +kernel] at hr
   exact ⟨m,hr,hm⟩
  obtain ⟨ms,hm,hms⟩:=list_of this
  refine ⟨some b,l,c,ms,rfl,h1,⟨hm,fun e=>by simp at e,fun b' e i hi=>?_⟩,fun m hmm=>?_⟩
  ·simp only [Option.some.injEq] at e
   subst e
   have h6:eA.sz=6:=rfl
   rw [eA.row_len,h6] at hi
   have hj:i % 6<6:=Nat.mod_lt _ (by decide)
   have hi6:i / 6<ms.length:=by omega
   have e1:i=i / 6*6+i % 6:=by omega
   have:=(hms (i / 6) _ (List.getElem?_eq_getElem hi6)).1 (i % 6) (by rw [eA.len]; exact hj)
   rw [add2] at this
   have e2:=eA.row_get ms (i / 6) (i % 6) hi6 hj
   rw [h6,←e1] at e2
   rw [←e1] at this
   rw [this,e2]
  ·obtain ⟨i,hi⟩:=List.mem_iff_getElem?.1 hmm
   exact (hms i m hi).2
end
end Go.Proofs.YthegnmanjdlmjaaGreatDoor

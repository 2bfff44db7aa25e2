/- Layer 19's rows: what the row's list gives, and what the arguments read as. StripeEach, walked. StripeTwo, walked. The document's product of bytes, in plain words: it is the program's. The document's product of bytes, walked. The document's parity and stripe, walked. -/
import Derived.Test.YthegnmanjdlmjaaGreatDoorS07
import Derived.Test.YthegnmanjdlmjaaGreatDoorS14
import Derived.Test.YthegnmanjdlmjaaGreatDoorS11
set_option linter.unusedSimpArgs false
set_option linter.unusedVariables false
namespace Go.Proofs.YthegnmanjdlmjaaGreatDoor
open Go.Sh Go.RowKit Go.ChangeShapes Go.WideShapes Go.ChangeAt
theorem laid_tabs19 {W:World} (h:laidMetH Tryz.prog [("math/bits.deBruijn32tab",Rows.laid_math_bits_deBruijn32tab),("math/bits.deBruijn64tab",Rows.laid_math_bits_deBruijn64tab),("cofferdam/sha.first",Rows.laid_cofferdam_sha_first),("cofferdam/sha.round",Rows.laid_cofferdam_sha_round)] W):Tabs (hp W):=by
 have h:laidMet Tryz.prog [("math/bits.deBruijn32tab",Rows.laid_math_bits_deBruijn32tab),("math/bits.deBruijn64tab",Rows.laid_math_bits_deBruijn64tab),("cofferdam/sha.first",Rows.laid_cofferdam_sha_first),("cofferdam/sha.round",Rows.laid_cofferdam_sha_round)] W:=h
 rw [l_f0,l_k1,l_tz] at h
 have h:=laidMet.tail h
 have t5:=Lib.tabIs_of_head g_tz (by kernel_rfl) Tryz.underlying310 Tryz.underlying5 (by kernel_rfl) (by kernel_rfl) h
 have h:=laidMet.tail h
 have t0:=Lib.tabIs_of_head g_f0 (by kernel_rfl) Tryz.underlying204 Tryz.underlying178 (by kernel_rfl) (by kernel_rfl) h
 have h:=laidMet.tail h
 have t1:=Lib.tabIs_of_head g_k1 (by kernel_rfl) Tryz.underlying251 Tryz.underlying178 (by kernel_rfl) (by kernel_rfl) h
 have r0:=row_of_tab t0 g_f0
 have r1:=row_of_tab t1 g_k1
 rw [u32_row] at r0 r1
 exact ⟨r0,r1,row_of_tab t5 g_tz⟩
noncomputable def laidWorld19 (os:Os):World:=
 let put (hp:Array Obj) (g:Nat) (vs:Array Value):Array Obj:=hp.modify g fun
   | .cells _ t frozen=>.cells vs t frozen
   | o=>o
 let w:=World.holding Tryz.prog os ⟨#[],#[],[]⟩
 { w with heap:=put (put (put (put w.heap 0 (uvs S8.first.l).toArray) 1 (uvs shaK).toArray) 4 (bvs tz32).toArray) 5 (bvs tzT).toArray }
section
variable {h:H} {f:Nat} {cs:List Value}
set_option maxRecDepth 100000 in
theorem four_of (hi:In Tryz.prog h f 78 cs):∃ a b c d,cs=[.int .i64 a,.int .i64 b,.int .i64 c,.int .i64 d]:=by
 obtain ⟨f',hl,hi⟩:=In_array Tryz.underlying78 hi
 rw [show Tryz.prog.cellsOf 78=4 by decide +kernel] at hl
 obtain ⟨a,ea,_⟩:=In_int Tryz.underlying3 (hi 0 (by decide))
 obtain ⟨b,eb,_⟩:=In_int Tryz.underlying3 (hi 1 (by decide))
 obtain ⟨c,ec,_⟩:=In_int Tryz.underlying3 (hi 2 (by decide))
 obtain ⟨d,ed,_⟩:=In_int Tryz.underlying3 (hi 3 (by decide))
 rw [show Tryz.prog.cellsOf 3=1 by decide +kernel] at ea eb ec ed
 refine ⟨a,b,c,d,?_⟩
 match cs,hl with
 | [u,v,x,y],_=>
  have e1:u = .int .i64 a:=by simpa using ea
  have e2:v = .int .i64 b:=by simpa using eb
  have e3:x = .int .i64 c:=by simpa using ec
  have e4:y = .int .i64 d:=by simpa using ed
  rw [e1,e2,e3,e4]
theorem texts19 (hi:In Tryz.prog h f 28 cs):∃ a l c,∃ ts:List ByteArray,cs=[Value.slice a l c]∧l≤c∧l≤9223372036854775807∧Ro eS h a l ts:=by
 obtain ⟨f',a,l,c,rfl,h1,h2,h3,h4⟩:=In_slice Tryz.underlying28 hi
 have h2:l≤9223372036854775807:=Nat.le_trans h1 (by simpa [maxLen] using h2)
 cases a with
 | none=>
  have:=(h3 rfl).1
  subst this
  exact ⟨none,0,c,[],rfl,h1,h2,Ro.nil⟩
 | some b=>
  have:∀ i,i<l→∃ s:ByteArray,h.cell (b.add i)=some (.string s):=fun i hil=>by
   obtain ⟨r,hr1,hr,hin⟩:=h4 b rfl i hil
   obtain ⟨s,rfl,_⟩:=In_str Tryz.underlying9 hin
   have:=hr 0 (by simp)
   rw [show Tryz.prog.cellsOf 9=1 by decide +kernel,Nat.mul_one,Addr.add_zero'] at this
   exact ⟨s,this⟩
  obtain ⟨ts,ht,hts⟩:=list_of this
  refine ⟨some b,l,c,ts,rfl,h1,h2,ht,fun e=>by simp at e,fun b' e i hi=>?_⟩
  simp only [Option.some.injEq] at e
  subst e
  rw [eS_row,List.length_map] at hi
  rw [eS_row,List.getElem?_map,List.getElem?_eq_getElem hi]
  exact hts i _ (List.getElem?_eq_getElem hi)
theorem bytes19 (hi:In Tryz.prog h f 29 cs):∃ a l c,∃ zs:List Int,cs=[Value.slice a l c]∧l≤c∧l≤9223372036854775807∧Ro eB h a l zs:=by
 obtain ⟨f',a,l,c,rfl,h1,h2,h3,h4⟩:=In_slice Tryz.underlying29 hi
 have h2:l≤9223372036854775807:=Nat.le_trans h1 (by simpa [maxLen] using h2)
 cases a with
 | none=>
  have:=(h3 rfl).1
  subst this
  exact ⟨none,0,c,[],rfl,h1,h2,Ro.nil⟩
 | some b=>
  have:∀ i,i<l→∃ s:Int,h.cell (b.add i)=some (.int .u8 s):=fun i hil=>by
   obtain ⟨r,hr1,hr,hin⟩:=h4 b rfl i hil
   obtain ⟨s,rfl,_⟩:=In_int Tryz.underlying5 hin
   have:=hr 0 (by simp)
   rw [show Tryz.prog.cellsOf 5=1 by decide +kernel,Nat.mul_one,Addr.add_zero'] at this
   exact ⟨s,this⟩
  obtain ⟨ts,ht,hts⟩:=list_of this
  refine ⟨some b,l,c,ts,rfl,h1,h2,ht,fun e=>by simp at e,fun b' e i hi=>?_⟩
  simp only [Option.some.injEq] at e
  subst e
  rw [←bvs_row,bvs_len] at hi
  rw [←bvs_row,bvs,List.getElem?_map,List.getElem?_eq_getElem hi]
  exact hts i _ (List.getElem?_eq_getElem hi)
set_option maxRecDepth 100000 in
theorem harm_of (hi:In Tryz.prog h f 93 cs):∃ m:HmM,cs=eM.enc m:=by
 obtain ⟨f',hl,hi⟩:=In_struct Tryz.underlying93 hi
 rw [show Tryz.prog.cellsOf 93=4 by decide +kernel] at hl
 simp only [List.mem_cons,List.not_mem_nil,or_false,forall_eq_or_imp,forall_eq] at hi
 obtain ⟨h0,h1,h2,h3⟩:=hi
 obtain ⟨n0,e0,_⟩:=In_int Tryz.underlying3 h0
 obtain ⟨n1,e1,_⟩:=In_int Tryz.underlying3 h1
 obtain ⟨n2,e2,_⟩:=In_int Tryz.underlying3 h2
 obtain ⟨s3,e3,_⟩:=In_str Tryz.underlying9 h3
 rw [show Tryz.prog.cellsOf 3=1 by decide +kernel] at e0 e1 e2
 rw [show Tryz.prog.cellsOf 9=1 by decide +kernel] at e3
 refine ⟨⟨n0,n1,n2,s3⟩,?_⟩
 match cs,hl with
 | [u,v,x,y],_=>
  have g1:u = .int .i64 n0:=by simpa using e0
  have g2:v = .int .i64 n1:=by simpa using e1
  have g3:x = .int .i64 n2:=by simpa using e2
  have g4:y = .string s3:=by simpa using e3
  rw [g1,g2,g3,g4]; rfl
theorem harms19 (hi:In Tryz.prog h f 91 cs):∃ a l c,∃ ms:List HmM,cs=[Value.slice a l c]∧l≤c∧Ro eM h a l ms:=by
 obtain ⟨f',a,l,c,rfl,h1,h2,h3,h4⟩:=In_slice Tryz.underlying91 hi
 cases a with
 | none=>
  have:=(h3 rfl).1
  subst this
  exact ⟨none,0,c,[],rfl,h1,Ro.nil⟩
 | some b=>
  have:∀ i,i<l→∃ m:HmM,Sh.rowAt h (b.add (i*4)) (eM.enc m):=fun i hil=>by
   obtain ⟨r,hr1,hr,hin⟩:=h4 b rfl i hil
   obtain ⟨m,rfl⟩:=harm_of hin
   rw [show Tryz.prog.cellsOf 93=4 by decide +kernel] at hr
   exact ⟨m,hr⟩
  obtain ⟨ms,hm,hms⟩:=list_of this
  refine ⟨some b,l,c,ms,rfl,h1,hm,fun e=>by simp at e,fun b' e i hi=>?_⟩
  simp only [Option.some.injEq] at e
  subst e
  have h6:eM.sz=4:=rfl
  rw [eM.row_len,h6] at hi
  have hj:i % 4<4:=Nat.mod_lt _ (by decide)
  have hi6:i / 4<ms.length:=by omega
  have e1:i=i / 4*4+i % 4:=by omega
  have:=hms (i / 4) _ (List.getElem?_eq_getElem hi6) (i % 4) (by rw [eM.len]; exact hj)
  rw [add2] at this
  have e2:=eM.row_get ms (i / 4) (i % 4) hi6 hj
  rw [h6,←e1] at e2
  rw [←e1] at this
  rw [this,e2]
end
end Go.Proofs.YthegnmanjdlmjaaGreatDoor
namespace Go.Proofs.YthegnmanjdlmjaaGreatDoor
open Go.Sh Go.RowKit Classical
theorem slots19 (n:Int):∃ s:Int,dep s≠0∧0<s∧0≤Int.tmod (mx 0 n) 4∧shl .i64 2 (Int.tmod (mx 0 n) 4)=s:=by
 have h0:0≤mx 0 n:=by unfold mx; split <;> omega
 have h1:Int.tmod (mx 0 n) 4=(mx 0 n) % 4:=Int.tmod_eq_emod_of_nonneg h0
 have h2:0≤(mx 0 n) % 4:=Int.emod_nonneg _ (by decide)
 have h3:(mx 0 n) % 4<4:=Int.emod_lt_of_pos _ (by decide)
 rw [h1]
 generalize (mx 0 n) % 4=z at *
 have:z=0∨z=1∨z=2∨z=3:=by omega
 rcases this with rfl | rfl | rfl | rfl
 ·exact ⟨2,by decide,by decide,by decide,by decide⟩
 ·exact ⟨4,by decide,by decide,by decide,by decide⟩
 ·exact ⟨8,by decide,by decide,by decide,by decide⟩
 ·exact ⟨16,by decide,by decide,by decide,by decide⟩
theorem slot19 {n s:Int} (hs:0<s):∃ t:Nat,(t:Int)<s∧Int.tmod (mx 0 n) s=(t:Int):=by
 have h0:0≤mx 0 n:=by unfold mx; split <;> omega
 rw [Int.tmod_eq_emod_of_nonneg h0]
 have:=Int.emod_lt_of_pos (mx 0 n) hs
 have:=Int.emod_nonneg (mx 0 n) (show s≠0 by omega)
 exact ⟨((mx 0 n) % s).toNat,by omega,by omega⟩
theorem lost_mem {m i:Nat} {F:Nat→ByteArray × Int} (hi:i<m):(i:Int) ∈ lostN m F↔(F i).2≠0:=by
 rw [lostN,List.mem_map]
 constructor
 ·rintro ⟨j,hj,e⟩
  rw [List.mem_filter] at hj
  obtain rfl:j=i:=by omega
  simpa using hj.2
 ·intro h
  exact ⟨i,by rw [List.mem_filter]; exact ⟨List.mem_range.2 hi,by simpa using h⟩,rfl⟩
theorem loadM_lost {m:Nat} {F:Nat→ByteArray × Int} (h:(loadM m F).2.2=0):(loadM m F).2.1=lostN m F:=by
 unfold loadM at h ⊢
 by_cases h1:∃ i,i<m∧(F i).2=21
 ·rw [if_pos h1] at h; simp at h
 rw [if_neg h1] at h ⊢
 by_cases h2:(decM (cN m F) (tN m F)).2≠0
 ·rw [if_pos h2] at h; exact absurd h h2
 rw [if_neg h2]
theorem loadM_err {m:Nat} {F:Nat→ByteArray × Int} (h:(loadM m F).2.2≠0):(loadM m F).2.1=[]:=by
 unfold loadM at h ⊢
 by_cases h1:∃ i,i<m∧(F i).2=21
 ·rw [if_pos h1]
 rw [if_neg h1] at h ⊢
 by_cases h2:(decM (cN m F) (tN m F)).2≠0
 ·rw [if_pos h2]
 ·rw [if_neg h2] at h; exact absurd rfl h
section
variable {h:H} {a:Option Addr} {l c:Nat} {ms:List HmM}
set_option maxRecDepth 100000 in
theorem stripeEach {x0 x1 x2 x3:Int} {Q:Bool→H→Prop} (f:Ro eM h a l ms) (hlc:l≤c) (tb:Tabs h) (k:∀ h',Keep h h'→Q true h'):law19_StripeEach x0 x1 x2 x3 a l c h Q:=by
 unfold law19_StripeEach law19_StripeEach.g
 refine M.new_w (Wd.start h) fun b2 hA w=>ld_ax (i:=1) (w.blk 0 rfl) rfl (by decide) rfl ?_
 have hx2:=w.blk 0 rfl
 obtain ⟨s,hd,hs0,ez0,ez1⟩:=slots19 x1
 obtain ⟨t,ht,et⟩:=slot19 (n:=x2) hs0
 refine ⟨by decide,M.vin ⟨ez0,M.vis s ez1 (ld_ax (i:=2) hx2 rfl (by decide) rfl ⟨by omega,M.vis _ et (ld_ax (i:=0) hx2 rfl (by decide) rfl (ld_ax (i:=3) hx2 rfl (by decide) rfl (M.vin ?_)))⟩)⟩⟩
 refine M.new_w w fun b3 hA2 w=>?_
 have hr:Ro eB hA2 (some ⟨b3,0,none⟩) 1 [IntKind.wrap .u8 x3]:=Ro.of_blk (w.blk 1 rfl) rfl rfl
 have hAk:=w.keep
 refine blocksOf_spec hr (by decide) fun a3 c3 hB w'=>?_
 have kB:=hAk.trans w'.keep
 have tbB:=tb.keep kB
 obtain ⟨m1,m2⟩:=cntM_le x0
 have fx:Ro eS hB a3 (cntM x0) (blksM (cntM x0) [IntKind.wrap .u8 x3]):=w'.ro 0 rfl (by decide)
 have hdz:∀ i,i<cntM x0→(sa (blksM (cntM x0) [IntKind.wrap .u8 x3]) i).size=32:=fun i hi=>blksM_size hi
 have hdl:(blksM (cntM x0) [IntKind.wrap .u8 x3]).length=cntM x0:=blksM_len _ _
 clear w w' hAk hr
 generalize blksM (cntM x0) [IntKind.wrap .u8 x3]=data at *
 generalize cntM x0=m0 at *
 refine lay_spec (n:=s) (s:=t) fx m1 m2 hdz hd ht tbB fun p r a1 c1 a2 c2 a4 c4 B0 R0 tops hC ly rk0 w=>?_
 generalize hm:m0+2=m at *
 have htl:=ly.tl
 have hb0:=ly.hb
 have x0l:(shsM p s tops).length=m:=by rw [shsM_len,htl]
 have y0l:(shsM r s tops).length=m:=by rw [shsM_len,htl]
 have x0b:=shs_b p s tops
 have y0b:=shs_b r s tops
 generalize shsM p s tops=xs0 at *
 generalize shsM r s tops=ys0 at *
 have w:=w.mv (i:=0) rfl
 refine M.join_of (fun (d:Bool) h'=>d=false∧Wd hB h' [bankC p B0,rbankC r R0,.sl 85 6 a1 m c1 (eH.row xs0),.sl 162 6 a2 m c2 (eH.row ys0)]) (fun J hJ=>wakes19 (tbB.keep w.keep) fun h' kk=>cf rfl (hJ _ _ ⟨rfl,(w.keeps kk).fst 4⟩)) ?_
 clear w ly
 rintro _ hD ⟨rfl,w⟩
 refine cf rfl ?_
 refine M.join_of (fun (_:Unit) h'=>∃ B R xs ys,Hb B m∧Rk R m∧xs.length=m∧ys.length=m∧(∀ x ∈ xs,x.b=p)∧(∀ y ∈ ys,y.b=r)∧Wd hB h' [bankC p B,rbankC r R,.sl 85 6 a1 m c1 (eH.row xs),.sl 162 6 a2 m c2 (eH.row ys)]) (fun J hJ=>?_) ?_
 ·obtain ⟨q1,q2,q3⟩:=mn_take (l:=l) (n:=10) (by omega)
  refine M.sub0 q2 (by omega) ?_
  rw [show (mn ((l:Nat):Int) (10:Int)).toNat=min l 10 from q1]
  have f:=(f.keep kB).tk (min l 10) (Nat.min_le_left _ _)
  have hl10:min l 10≤10:=by omega
  generalize min l 10=l2 at f hl10 ⊢
  refine M.loop_of (I:=fun (i:Int) h'=>∃ y:Nat,y≤l2∧i=(y:Int)∧∃ B R xs ys,Hb B m∧Rk R m∧xs.length=m∧ys.length=m∧(∀ x ∈ xs,x.b=p)∧(∀ y ∈ ys,y.b=r)∧Wd hB h' [bankC p B,rbankC r R,.sl 85 6 a1 m c1 (eH.row xs),.sl 162 6 a2 m c2 (eH.row ys)]) (μ:=fun i=>(l2-i).toNat)
   ⟨0,by omega,rfl,B0,R0,xs0,ys0,hb0,rk0,x0l,y0l,x0b,y0b,w⟩ ?_
  clear w
  rintro _ h5 J2 ⟨y,hy,rfl,B,R,xs,ys,hb,rk,xl,yl,xb,yb,w⟩ hJ2
  by_cases hlt:y<l2
  ·have v2:IntKind.wrap .i64 ((y:Int)+1)=((y+1:Nat):Int):=by rw [IntKind.wrap_i64]; omega
   refine cdt (by omega) (Ro.ldM (f.keep w.keep) rfl hlt fun x=>?_)
   refine M.new_w w fun b4 h6 w=>⟨rfl,M.puts_w0 w 4 rfl (by simp [isPlainCell]) rfl fun h7 w=>?_⟩
   have hb4:=w.blk 4 rfl
   simp only [addr_add,Nat.zero_add]
   refine M.ldi hb4 rfl (M.ldi hb4 rfl (M.ldi hb4 rfl (M.lds hb4 rfl ?_)))
   refine harm_spec (w.fst 4) hb rk xl yl xb yb (by omega) fun B' R' xs' ys' h8 hb' rk' xl' yl' xb' yb' _ _ w=>?_
   exact M.vis _ v2 (hJ2 _ _ ⟨y+1,by omega,rfl,B',R',xs',ys',hb',rk',xl',yl',xb',yb',w⟩ (by omega))
  ·obtain rfl:y=l2:=by omega
   exact cdf (by omega) (hJ _ _ ⟨B,R,xs,ys,hb,rk,xl,yl,xb,yb,w⟩)
 clear w
 rintro _ h5 ⟨B,R,xs,ys,hb,rk,xl,yl,xb,yb,w⟩
 have F21:∀ i,(hadM B (ha xs i) t).2≠21:=fun i=>had_21 hb.pw _
 have tb5:=tbB.keep w.keep
 obtain ⟨hx,k0,k1,wx,wr,bk⟩:=w.on (i:=0) rfl
 refine Load_spec (w.ro 2 rfl (by decide)) xb (by omega) (by omega) wx hb.ti.sm tb5 fun a6 c6 a7 c7 h6 w'=>?_
 have hll:=@loadM_len m (fun i=>hadM B (ha xs i) t)
 have hlo:=@loadM_lost m (fun i=>hadM B (ha xs i) t)
 have hle:=@loadM_err m (fun i=>hadM B (ha xs i) t)
 have hOn:∀ i,i<m→oneM m (fun i=>hadM B (ha xs i) t) i=if (hadM B (ha xs i) t).2=0 then hadM B (ha xs i) t else if (loadM m fun i=>hadM B (ha xs i) t).2.2≠0 then (ByteArray.empty,(loadM m fun i=>hadM B (ha xs i) t).2.2) else (sa (loadM m fun i=>hadM B (ha xs i) t).1 i,0):=fun i hi=>by
  unfold oneM
  by_cases e:(hadM B (ha xs i) t).2=0
  ·rw [if_pos (.inl e),if_pos e]
  ·rw [if_neg (fun g=>g.elim e (F21 i)),if_neg e]
 generalize hL:loadM m (fun i=>hadM B (ha xs i) t)=L at *
 have w:=w.join w'
 have wx:=wx.keeps w'.keep
 clear w'
 refine M.loop_of (I:=fun (i:Int) h'=>∃ y:Nat,y≤m∧i=(y:Int)∧Keep h6 h') (μ:=fun i=>(m-i).toNat) ⟨0,by omega,rfl,Keep.refl _⟩ ?_
 rintro _ h7 J2 ⟨y,hy,rfl,k7⟩ hJ2
 by_cases hlt:y<m
 ·have v2:IntKind.wrap .i64 ((y:Int)+1)=((y+1:Nat):Int):=by rw [IntKind.wrap_i64]; omega
  have w7:=w.keeps k7
  refine cdt (by omega) (One_spec (w7.ro 2 rfl (by decide)) xb (by omega) (by omega) hlt rfl (wx.keeps k7) hb.ti.sm (tbB.keep w7.keep) fun h8 k8=>?_)
  have w8:=w7.keeps k8
  rw [hOn y hlt]
  generalize hF:hadM B (ha xs y) t=Fy at *
  have F21y:=F21 y
  rw [hF] at F21y
  have f7:Ro eI h8 a7 L.2.1.length L.2.1:=w8.ro 5 rfl (by decide)
  have hl2:L.2.1.length≤1000:=by
   by_cases e:L.2.2=0
   ·rw [hlo e]; exact Nat.le_trans (lostN_len _ _) (by omega)
   ·rw [hle e]; simp
  refine M.join_of (fun (d:Bool) h'=>h'=h8∧(d=true→(y:Int) ∈ L.2.1)) (fun J3 hJ3=>?_) ?_
  ·refine M.loop_of (I:=fun (q:Bool × Int) h'=>∃ z:Nat,z≤L.2.1.length∧q.2=(z:Int)∧h'=h8∧(q.1=true→(y:Int) ∈ L.2.1)) (μ:=fun q=>(L.2.1.length-q.2).toNat) ⟨0,by omega,rfl,rfl,fun e=>by simp at e⟩ ?_
   rintro ⟨g,i⟩ _ J4 ⟨z,hz,rfl,e9,hg⟩ hJ4
   rw [e9]
   by_cases hzl:z<L.2.1.length
   ·have v4:IntKind.wrap .i64 ((z:Int)+1)=((z+1:Nat):Int):=by rw [IntKind.wrap_i64]; omega
    refine cdt (by first | omega | (simp only []; omega)) (f7.ldI (by omega) (by omega) ?_)
    rw [Int.toNat_natCast]
    refine M.join_of (fun (d:Bool) h'=>h'=h8∧(d=true→(y:Int) ∈ L.2.1)) (fun J5 hJ5=>?_) ?_
    ·refine cc (fun e=>hJ5 _ _ ⟨rfl,fun _=>hg e⟩) fun _=>hJ5 _ _ ⟨rfl,fun e=>?_⟩
     rw [←beq_iff_eq.1 e,za_get hzl]
     exact List.getElem_mem _
    rintro d _ ⟨e10,hd2⟩
    rw [e10]
    exact M.vis _ v4 (hJ4 _ _ ⟨z+1,by omega,rfl,rfl,hd2⟩ (by first | omega | (simp only []; omega)))
   ·exact cdf (by first | omega | (simp only []; omega)) (hJ3 _ _ ⟨rfl,hg⟩)
  rintro g _ ⟨e9,hg⟩
  rw [e9]
  have hlost:g=true→L.2.2=0→Fy.2≠0:=fun e e2=>by
   have:=hg e
   rw [hlo e2,lost_mem hlt] at this
   rw [←hF]; exact this
  refine M.join_of (fun (d:Bool) h'=>d=false∧h'=h8) (fun J3 hJ3=>?_) ?_
  ·by_cases eL:L.2.2=0
   ·have e0:(if Fy.2=0 then Fy else if L.2.2≠0 then (ByteArray.empty,L.2.2) else (sa L.1 y,0)).2=0:=by
     by_cases e:Fy.2=0
     ·rw [if_pos e]; exact e
     ·rw [if_neg e,if_neg (by simp [eL])]
    refine ct (by simp [eL]) (cf (by rw [e0]; rfl) ?_)
    have h24:(L.2.2 == 24)=false:=by rw [eL]; rfl
    have hfin:J3 false h8:=hJ3 _ _ ⟨rfl,rfl⟩
    refine cc (fun hgt=>?_) fun _=>cf h24 hfin
    have hF0:=hlost hgt eL
    have fa:Ro eS h8 a6 L.1.length L.1:=w8.ro 4 rfl (by decide)
    have:=hll eL (by omega)
    refine fa.ldSs rfl (by omega) fun _ _=>?_
    rw [if_neg hF0,if_neg (by simp [eL])]
    exact cf (by rw [strEq_iff.2 rfl]; rfl) (cf h24 hfin)
   ·refine cf (by simpa using eL) ?_
    have hfin:J3 false h8:=hJ3 _ _ ⟨rfl,rfl⟩
    refine cc (fun e24=>?_) fun _=>hfin
    have e24:=beq_iff_eq.1 e24
    by_cases e:Fy.2=0
    ·rw [if_pos e]
     exact cf (by simp [e]) hfin
    ·rw [if_neg e,if_pos eL]
     refine ct (by simpa using eL) ?_
     simp only [e24]
     exact hfin
  rintro _ _ ⟨rfl,e10⟩
  rw [e10]
  have f8:Ro eH h8 a1 m xs:=w8.ro 2 rfl (by decide)
  have hxy:(ha xs y).b=p:=by rw [ha_get (by omega)]; exact xb _ (List.getElem_mem _)
  refine cf rfl (Ro.ldHs f8 rfl hlt (Ro.ldH4 f8 rfl hlt ?_))
  rw [hxy]
  refine Get_spec (wx.keeps (k7.trans k8)) hb.ti.sm (tbB.keep w8.keep) fun h9 k9=>?_
  refine M.join_of (fun (d:Bool) h'=>d=false∧h'=h9) (fun J3 hJ3=>?_) ?_
  ·refine Ro.ldH5 (f8.keep k9) rfl hlt ?_
   have hfin:J3 false h9:=hJ3 _ _ ⟨rfl,rfl⟩
   refine cc (fun hu=>cc (fun e0=>?_) fun _=>hfin) fun _=>hfin
   have e0:=beq_iff_eq.1 e0
   have hFg:Fy=getM B (ha xs y).key (ha xs y).d (ha xs y).n (ha xs y).top t:=by rw [←hF,hadM,if_pos hu]
   rw [←hFg] at e0 ⊢
   rw [if_pos e0]
   refine cf (by simp [e0]) ?_
   rw [strEq_iff.2 rfl]
   exact hfin
  rintro _ _ ⟨rfl,e11⟩
  rw [e11]
  exact cf rfl (M.vis _ v2 (hJ2 _ _ ⟨y+1,by omega,rfl,k7.trans (k8.trans k9)⟩ (by omega)))
 ·exact cdf (by omega) (k _ (kB.trans (w.keep.trans k7)))
end
end Go.Proofs.YthegnmanjdlmjaaGreatDoor
namespace Go.Proofs.YthegnmanjdlmjaaGreatDoor
open Go.Sh Go.RowKit Classical
theorem ld_axj {h:H} {b i n:Nat} {ii x:Int} {c:Array Value} {e:TypeId} {f:Nat × Nat} {K:Nat→Int→Prop} (hb:h b=some (.cells c e f)) (hi:ii=(i:Int)) (hn:i<n) (hv:c[i]? = some (.int .i64 x)) (k:K i x):
  M.aidx n ii fun j=>M.load h (Addr.add ⟨b,0,none⟩ (j*1)) fun v=>M.int .i64 v (K j):=by
 subst hi
 refine ⟨by omega,by omega,?_⟩
 rw [Int.toNat_natCast]
 show M.load h (Addr.add ⟨b,0,none⟩ (i*1)) _
 rw [Nat.mul_one,addr_add,Nat.zero_add]
 exact M.ldi hb hv k
theorem still_b {h h':H} {b o n:Nat} {K:Prop} {ob:Obj} (hb:h b=some ob) (hb':h' b=some ob) (k:K):M.still h (Addr.add ⟨b,0,none⟩ o) n h' K:=by
 rw [addr_add]
 exact M.still_at hb hb' k
theorem hix_of {q m:Nat} (h:q<m):hix (q:Int) m=q:=by
 unfold hix
 have:mx 0 (q:Int)=(q:Int):=by unfold mx; split <;> omega
 rw [this,Int.tmod_eq_emod_of_nonneg (by omega),Int.emod_eq_of_lt (by omega) (by omega)]
 omega
theorem lost_le {F:Nat→ByteArray × Int} {i0 i1:Nat}:∀ m:Nat,(∀ i,i<m→(F i).2≠0→i=i0∨i=i1)→(lostN m F).length≤(if i0<m then 1 else 0)+(if i1<m∧i1≠i0 then 1 else 0)
 | 0,_=>by simp [lostN]
 | m+1,h=>by
  have ih:=lost_le m fun i hi=>h i (by omega)
  rw [lostN_succ,List.length_append]
  by_cases e:(F m).2=0
  ·rw [if_pos e]
   simp only [List.length_nil,Nat.add_zero]
   refine Nat.le_trans ih (Nat.add_le_add ?_ ?_)
   ·split
    ·rw [if_pos (by omega)]; exact Nat.le_refl _
    ·exact Nat.zero_le _
   ·split
    ·rw [if_pos (by omega)]; exact Nat.le_refl _
    ·exact Nat.zero_le _
  ·rw [if_neg e]
   simp only [List.length_cons,List.length_nil]
   rcases h m (by omega) e with rfl | rfl
   ·rw [if_neg (by omega)] at ih
    rw [if_pos (by omega)]
    have:(if i1<m∧i1≠m then 1 else 0)≤(if i1<m+1∧i1≠m then 1 else 0):=by
     split
     ·rw [if_pos (by omega)]; exact Nat.le_refl _
     ·exact Nat.zero_le _
    omega
   ·by_cases g:m=i0
    ·subst g
     rw [if_neg (by omega),if_neg (by omega)] at ih
     rw [if_pos (by omega)]
     omega
    ·rw [if_neg (show ¬ (m<m∧m≠i0) by omega)] at ih
     rw [if_pos (show m<m+1∧m≠i0 by omega)]
     have:(if i0<m then 1 else 0)≤(if i0<m+1 then 1 else 0):=by
      split
      ·rw [if_pos (by omega)]; exact Nat.le_refl _
      ·exact Nat.zero_le _
     omega
section
variable {h:H} {a ab:Option Addr} {l c lb cb:Nat} {ms:List HmM} {zs:List Int}
set_option maxRecDepth 100000 in
set_option maxHeartbeats 4000000 in
theorem stripeTwo {x0 x1 x2 x3:Int} {Q:Bool→H→Prop} (fb:Ro eB h ab lb zs) (hlb:lb≤9223372036854775807) (f:Ro eM h a l ms) (hlc:l≤c) (tb:Tabs h) (k:∀ h',Keep h h'→Q true h'):law19_StripeTwo x0 x1 x2 x3 ab lb cb a l c h Q:=by
 unfold law19_StripeTwo law19_StripeTwo.g
 refine M.new_w (Wd.start h) fun b2 hA w=>ld_ax (i:=1) (w.blk 0 rfl) rfl (by decide) rfl ?_
 have hx2:=w.blk 0 rfl
 obtain ⟨s,hd,hs0,ez0,ez1⟩:=slots19 x1
 obtain ⟨t,ht,et⟩:=slot19 (n:=x2) hs0
 refine ⟨by decide,M.vin ⟨ez0,M.vis s ez1 (ld_ax (i:=2) hx2 rfl (by decide) rfl ⟨by omega,M.vis _ et (ld_ax (i:=0) hx2 rfl (by decide) rfl ?_)⟩)⟩⟩
 have hAk:=w.keep
 refine blocksOf_spec (fb.keep w.keep) hlb fun a3 c3 hB w'=>?_
 have kB:=hAk.trans w'.keep
 have tbB:=tb.keep kB
 have hx2:=w'.keep _ _ hx2
 obtain ⟨m1,m2⟩:=cntM_le x0
 have fx:Ro eS hB a3 (cntM x0) (blksM (cntM x0) zs):=w'.ro 0 rfl (by decide)
 have hdz:∀ i,i<cntM x0→(sa (blksM (cntM x0) zs) i).size=32:=fun i hi=>blksM_size hi
 have hdl:(blksM (cntM x0) zs).length=cntM x0:=blksM_len _ _
 clear w w' hAk
 generalize blksM (cntM x0) zs=data at *
 generalize cntM x0=m0 at *
 refine lay_spec (n:=s) (s:=t) fx m1 m2 hdz hd ht tbB fun p r a1 c1 a2 c2 a4 c4 B0 R0 tops hC ly rk0 w=>?_
 have hall:(allT data 32).length=m0+2:=by simp [allT,hdl]
 generalize hm:m0+2=m at *
 have htl:=ly.tl
 have hb0:=ly.hb
 have hgot:∀ i,i<m→hadM B0 (ha (shsM p s tops) i) t=(sa (allT data 32) i,0):=fun i hi=>ly.had hi
 have x0l:(shsM p s tops).length=m:=by rw [shsM_len,htl]
 have y0l:(shsM r s tops).length=m:=by rw [shsM_len,htl]
 have x0b:=shs_b p s tops
 have y0b:=shs_b r s tops
 have x0d:∀ i,i<m→(ha (shsM p s tops) i).d=(i:Int):=fun i hi=>by rw [ha_shs (by omega)]
 generalize shsM p s tops=xs0 at *
 generalize shsM r s tops=ys0 at *
 have w:=w.mv (i:=0) rfl
 refine M.join_of (fun (d:Bool) h'=>d=false∧Wd hB h' [bankC p B0,rbankC r R0,.sl 85 6 a1 m c1 (eH.row xs0),.sl 162 6 a2 m c2 (eH.row ys0),.sl 9 1 a4 m c4 (eS.row (allT data 32))]) (fun J hJ=>wakes19 (tbB.keep w.keep) fun h' kk=>cf rfl (hJ _ _ ⟨rfl,w.keeps kk⟩)) ?_
 clear w ly
 rintro _ hD ⟨rfl,w⟩
 have hx2D:=w.keep _ _ hx2
 have hq0:=hix_lt x3 (m:=m) (by omega)
 have hq1:=hix_lt x0 (m:=m) (by omega)
 refine cf rfl (ld_axj (i:=3) hx2D rfl (by decide) rfl ⟨by omega,M.vis _ (hix_eq x3 (m:=m) (by omega)) (ld_axj (i:=0) hx2D rfl (by decide) rfl ⟨by omega,M.vis _ (hix_eq x0 (m:=m) (by omega)) ?_⟩)⟩)
 generalize hix x3 m=i0 at *
 generalize hix x0 m=i1 at *
 refine M.new_w w fun b5 hE w=>still_b hx2D (w.keep _ _ hx2) (still_b hx2D (w.keep _ _ hx2) ⟨rfl,M.puts_w0 w 5 rfl (by simp [isPlainCell]) rfl fun hF w=>?_⟩)
 refine M.join_of (fun (_:Unit) h'=>∃ B R xs ys,Hb B m∧Rk R m∧xs.length=m∧ys.length=m∧(∀ x ∈ xs,x.b=p)∧(∀ y ∈ ys,y.b=r)∧(∀ i:Nat,i<m→i≠i0→i≠i1→ha xs i=ha xs0 i∧Alike B0 B (i:Int)) ∧
  Wd hB h' [bankC p B,rbankC r R,.sl 85 6 a1 m c1 (eH.row xs),.sl 162 6 a2 m c2 (eH.row ys),.sl 9 1 a4 m c4 (eS.row (allT data 32)),.blk b5 (.cells #[.int .i64 (i0:Int),.int .i64 (i1:Int)] 66)]) (fun J hJ=>?_) ?_
 ·obtain ⟨q1,q2,q3⟩:=mn_take (l:=l) (n:=20) (by omega)
  refine M.sub0 q2 (by omega) ?_
  rw [show (mn ((l:Nat):Int) (20:Int)).toNat=min l 20 from q1]
  have f:=(f.keep kB).tk (min l 20) (Nat.min_le_left _ _)
  have hl10:min l 20≤20:=by omega
  generalize min l 20=l2 at f hl10 ⊢
  refine M.loop_of (I:=fun (i:Int) h'=>∃ y:Nat,y≤l2∧i=(y:Int)∧∃ B R xs ys,Hb B m∧Rk R m∧xs.length=m∧ys.length=m∧(∀ x ∈ xs,x.b=p)∧(∀ y ∈ ys,y.b=r)∧(∀ i:Nat,i<m→i≠i0→i≠i1→ha xs i=ha xs0 i∧Alike B0 B (i:Int)) ∧
   Wd hB h' [bankC p B,rbankC r R,.sl 85 6 a1 m c1 (eH.row xs),.sl 162 6 a2 m c2 (eH.row ys),.sl 9 1 a4 m c4 (eS.row (allT data 32)),.blk b5 (.cells #[.int .i64 (i0:Int),.int .i64 (i1:Int)] 66)]) (μ:=fun i=>(l2-i).toNat)
   ⟨0,by omega,rfl,B0,R0,xs0,ys0,hb0,rk0,x0l,y0l,x0b,y0b,fun i _ _ _=>⟨rfl,.refl hb0.pw⟩,w⟩ ?_
  clear w
  rintro _ h5 J2 ⟨y,hy,rfl,B,R,xs,ys,hb,rk,xl,yl,xb,yb,hal,w⟩ hJ2
  by_cases hlt:y<l2
  ·have v2:IntKind.wrap .i64 ((y:Int)+1)=((y+1:Nat):Int):=by rw [IntKind.wrap_i64]; omega
   refine cdt (by omega) (Ro.ldM (f.keep w.keep) rfl hlt fun x=>?_)
   refine M.new_w w fun b4 h6 w=>⟨rfl,M.puts_w0 w 6 rfl (by simp [isPlainCell]) rfl fun h7 w=>⟨by decide,M.vis ((y % 2:Nat):Int) (by rw [Int.tmod_eq_emod_of_nonneg (by omega)]; omega) ?_⟩⟩
   have key:∀ q:Nat,(q=i0∨q=i1)→M.put h7 (Addr.add ⟨b4,0,none⟩ 1) (.int .i64 (q:Int)) fun h71=>M.load h71 (Addr.add ⟨b4,0,none⟩ 0) fun v72=>M.int .i64 v72 fun n73=>M.load h71 (Addr.add ⟨b4,0,none⟩ 1) fun v74=>M.int .i64 v74 fun n75=>M.load h71 (Addr.add ⟨b4,0,none⟩ 2) fun v76=>M.int .i64 v76 fun n77=>
     M.load h71 (Addr.add ⟨b4,0,none⟩ 3) fun v78=>M.str v78 fun s79=>law19_harm a1 m c1 a2 m c2 n73 n75 n77 s79 h71 fun h80=>M.val (IntKind.wrap .i64 ((y:Int)+1)) fun z81=>J2 z81 h80:=fun q hq=>by
    simp only [addr_add,Nat.zero_add]
    refine M.put_w w 6 rfl rfl (by simp) fun h8 w=>?_
    have hb4:h8 b4=some (.cells #[.int .i64 x.dn,.int .i64 (q:Int),.int .i64 x.at_,.string x.cell] 93 (0,0)):=w.blk 6 rfl
    refine M.ldi hb4 rfl (M.ldi hb4 rfl (M.ldi hb4 rfl (M.lds hb4 rfl ?_)))
    obtain ⟨hy1,ky0,ky1,w1,_,back⟩:=w.split 4
    have hqm:q<m:=by rcases hq with rfl | rfl <;> assumption
    refine harm_spec w1 hb rk xl yl xb yb (by omega) fun B' R' xs' ys' h9 hb' rk' xl' yl' xb' yb' _ hal' w2=>?_
    rw [hix_of hqm] at hal'
    have w:=(back _ _ w2).fst 6
    refine M.vis _ v2 (hJ2 _ _ ⟨y+1,by omega,rfl,B',R',xs',ys',hb',rk',xl',yl',xb',yb',fun i hi n0 n1=>?_,w⟩ (by omega))
    obtain ⟨e1,e2⟩:=hal i hi n0 n1
    obtain ⟨e3,e4⟩:=hal' i hi (by rcases hq with rfl | rfl <;> assumption)
    exact ⟨e3.trans e1,e2.trans e4⟩
   have hb5:=w.blk 5 rfl
   have:y % 2=0∨y % 2=1:=by omega
   rcases this with e | e
   ·rw [e]; exact ld_ax (i:=0) hb5 rfl (by decide) rfl (key i0 (.inl rfl))
   ·rw [e]; exact ld_ax (i:=1) hb5 rfl (by decide) rfl (key i1 (.inr rfl))
  ·obtain rfl:y=l2:=by omega
   exact cdf (by omega) (hJ _ _ ⟨B,R,xs,ys,hb,rk,xl,yl,xb,yb,hal,w⟩)
 clear w
 rintro _ h5 ⟨B,R,xs,ys,hb,rk,xl,yl,xb,yb,hal,w⟩
 have F21:∀ i,(hadM B (ha xs i) t).2≠21:=fun i=>had_21 hb.pw _
 have tb5:=tbB.keep w.keep
 obtain ⟨hx,k0,k1,wx,wr,bk⟩:=w.on (i:=0) rfl
 have hb5:=w.blk 5 rfl
 have hoff:∀ i:Nat,i<m→i≠i0→i≠i1→hadM B (ha xs i) t=(sa (allT data 32) i,0):=fun i hi n0 n1=>by
  obtain ⟨e1,e2⟩:=hal i hi n0 n1
  rw [e1,had_alike (B:=B0) (by rw [x0d i hi]; exact e2)]
  exact hgot i hi
 refine M.join_of (fun (_:Unit) h'=>(((hadM B (ha xs i0) t).2=0→(hadM B (ha xs i0) t).1=sa (allT data 32) i0)∧((hadM B (ha xs i1) t).2=0→(hadM B (ha xs i1) t).1=sa (allT data 32) i1))∧Keep h5 h') (fun J hJ=>?_) ?_
 ·simp only [addr_add,Nat.zero_add]
  refine M.ldi hb5 rfl (M.ldi hb5 rfl ?_)
  refine M.loop_of (I:=fun (i:Int) h'=>∃ y:Nat,y≤2∧i=(y:Int)∧(0<y→(hadM B (ha xs i0) t).2=0→(hadM B (ha xs i0) t).1=sa (allT data 32) i0)∧(1<y→(hadM B (ha xs i1) t).2=0→(hadM B (ha xs i1) t).1=sa (allT data 32) i1)∧Keep h5 h') (μ:=fun i=>(2-i).toNat) ⟨0,by omega,rfl,fun e=>by omega,fun e=>by omega,Keep.refl _⟩ ?_
  rintro _ h6 J2 ⟨y,hy,rfl,g0,g1,k6⟩ hJ2
  by_cases hlt:y<2
  ·have v2:IntKind.wrap .i64 ((y:Int)+1)=((y+1:Nat):Int):=by rw [IntKind.wrap_i64]; omega
   have w6:=w.keeps k6
   have f6:Ro eH h6 a1 m xs:=w6.ro 2 rfl (by decide)
   have key:∀ q:Nat,q<m→(∀ h',Keep h6 h'→((hadM B (ha xs q) t).2=0→(hadM B (ha xs q) t).1=sa (allT data 32) q)→J2 ((y+1:Nat):Int) h') →
     M.idx a1 m (q:Int) fun a95 j96=>M.load h6 ((Addr.add (Addr.add a95 (j96*6)) 0).add 0) fun v97=>M.ptr v97 fun p98=>M.load h6 ((Addr.add (Addr.add a95 (j96*6)) 0).add 1) fun v99=>M.int .i64 v99 fun n100=>M.load h6 ((Addr.add (Addr.add a95 (j96*6)) 0).add 2) fun v101=>M.int .i64 v101 fun n102=>
      M.load h6 ((Addr.add (Addr.add a95 (j96*6)) 0).add 3) fun v103=>M.str v103 fun s104=>M.idx a1 m (q:Int) fun a105 j106=>M.load h6 (Addr.add (Addr.add a105 (j106*6)) 4) fun v107=>M.str v107 fun s108=>slab_Slab_Get p98 n100 n102 s104 s108 (t:Int) h6 fun s109 n110 h111=>
      M.join (α:=Bool) (fun d121 h122=>(bif d121 then Q true h122 else M.val (IntKind.wrap .i64 ((y:Int)+1)) fun z123=>J2 z123 h122)) fun J112=>M.idx a1 m (q:Int) fun a113 j114=>M.load h111 (Addr.add (Addr.add a113 (j114*6)) 5) fun v115=>M.bool v115 fun b116=>
       (bif b116 then (bif (n110 == 0) then M.idx a4 m (q:Int) fun a117 j118=>M.load h111 (Addr.add a117 (j118*1)) fun v119=>M.str v119 fun s120=>J112 (!strEq s109 s120) h111 else J112 false h111) else J112 false h111):=fun q hq kq=>by
    have hxq:(ha xs q).b=p:=by rw [ha_get (by omega)]; exact xb _ (List.getElem_mem _)
    refine Ro.ldHs f6 rfl hq (Ro.ldH4 f6 rfl hq ?_)
    rw [hxq]
    refine Get_spec (wx.keeps k6) hb.ti.sm (tbB.keep w6.keep) fun h7 k7=>?_
    refine M.join_of (fun (d:Bool) h'=>h'=h7∧(d=false→(hadM B (ha xs q) t).2=0→(hadM B (ha xs q) t).1=sa (allT data 32) q)) (fun J3 hJ3=>?_) ?_
    ·refine Ro.ldH5 (f6.keep k7) rfl hq (cc (fun hu=>?_) fun hu=>hJ3 _ _ ⟨rfl,fun _ e=>?_⟩)
     ·have hFg:hadM B (ha xs q) t=getM B (ha xs q).key (ha xs q).d (ha xs q).n (ha xs q).top t:=by rw [hadM,if_pos hu]
      rw [←hFg]
      refine cc (fun e=>((w6.keeps k7).ro (E:=eS) 4 rfl (by decide)).ldSs rfl hq fun _ _=>hJ3 _ _ ⟨rfl,fun e2 _=>strEq_iff.1 (by simpa using e2)⟩) fun e=>hJ3 _ _ ⟨rfl,fun _ e2=>absurd e2 (by simpa using e)⟩
     ·rw [had_off hu] at e; exact absurd e (by decide)
    rintro d _ ⟨e7,hg⟩
    rw [e7]
    refine cc (fun _=>k _ (kB.trans (w6.keep.trans k7))) fun ed=>M.vis _ v2 (kq _ k7 (hg ed))
   have:y=0∨y=1:=by omega
   rcases this with rfl | rfl
   ·refine cdt (by decide) ⟨by decide,by decide,_,rfl,_,rfl,key i0 hq0 fun h' k' hg=>hJ2 _ _ ⟨1,by decide,rfl,fun _=>hg,fun e=>by omega,k6.trans k'⟩ (by decide)⟩
   ·refine cdt (by decide) ⟨by decide,by decide,_,rfl,_,rfl,key i1 hq1 fun h' k' hg=>hJ2 _ _ ⟨2,by decide,rfl,fun _=>g0 (by decide),fun _=>hg,k6.trans k'⟩ (by decide)⟩
  ·obtain rfl:y=2:=by omega
   exact cdf (by decide) (hJ _ _ ⟨⟨g0 (by decide),g1 (by decide)⟩,k6⟩)
 rintro _ h6 ⟨⟨hg0,hg1⟩,k6⟩
 have hG:∀ i,i<m→(hadM B (ha xs i) t).2=0→(hadM B (ha xs i) t).1=sa (allT data 32) i:=fun i hi e=>by
  by_cases n0:i=i0
  ·subst n0; exact hg0 e
  by_cases n1:i=i1
  ·subst n1; exact hg1 e
  rw [hoff i hi n0 n1]
 have hlost:=lost_le (F:=fun i=>hadM B (ha xs i) t) (i0:=i0) (i1:=i1) m fun i hi e=>by
  by_cases n0:i=i0
  ·exact .inl n0
  by_cases n1:i=i1
  ·exact .inr n1
  exact absurd (by rw [hoff i hi n0 n1]) e
 have hl2:(lostN m (fun i=>hadM B (ha xs i) t)).length≤2:=by
  refine Nat.le_trans hlost ?_
  split <;> split <;> omega
 have hL:=load_good (F:=fun i=>hadM B (ha xs i) t) (m:=m) (data:=data) (by omega) (by omega) (by omega) (fun i hi=>hdz i (by omega)) F21 hG hl2
 have hO:∀ i,i<m→oneM m (fun i=>hadM B (ha xs i) t) i=(sa (allT data 32) i,0):=fun i hi=>by
  unfold oneM
  by_cases e:(hadM B (ha xs i) t).2=0
  ·rw [if_pos (.inl e)]
   exact Prod.ext (hG i hi e) e
  ·rw [if_neg (fun g=>g.elim e (F21 i)),hL,if_neg (by simp)]
 have w6:=w.keeps k6
 refine Load_spec (w6.ro 2 rfl (by decide)) xb (by omega) (by omega) (wx.keeps k6) hb.ti.sm (tb5.keep k6) fun a6 c6 a7 c7 h7 w'=>?_
 rw [hL] at w' ⊢
 have w7:=w6.join w'
 have k7:=w'.keep
 simp only [hall] at w7 ⊢
 clear w'
 refine M.join_of (fun (d:Bool) h'=>d=false∧h'=h7) (fun J hJ=>?_) ?_
 ·refine cf rfl (cdf (by omega) (equal_spec (w7.ro 6 rfl (by decide)) (w7.ro 4 rfl (by decide)) (by omega) ?_))
  rw [decide_eq_true rfl]
  exact hJ _ _ ⟨rfl,rfl⟩
 rintro _ _ ⟨rfl,e9⟩
 rw [e9]
 refine cf rfl (M.jn ?_)
 refine M.loop_of (I:=fun (i:Int) h'=>∃ y:Nat,y≤m∧i=(y:Int)∧Keep h7 h') (μ:=fun i=>(m-i).toNat) ⟨0,by omega,rfl,Keep.refl _⟩ ?_
 rintro _ h8 J2 ⟨y,hy,rfl,k8⟩ hJ2
 have w8:=w7.keeps k8
 have wx8:=wx.keeps (k6.trans (k7.trans k8))
 have tb8:=tb5.keep (k6.trans (k7.trans k8))
 by_cases hlt:y<m
 ·have v2:IntKind.wrap .i64 ((y:Int)+1)=((y+1:Nat):Int):=by rw [IntKind.wrap_i64]; omega
  refine cdt (by omega) (One_spec (w8.ro 2 rfl (by decide)) xb (by omega) (by omega) hlt rfl wx8 hb.ti.sm tb8 fun h9 k9=>?_)
  rw [hO y hlt]
  refine M.join_of (fun (d:Bool) h'=>d=false∧h'=h9) (fun J3 hJ3=>?_) ?_
  ·refine cf rfl (((w8.keeps k9).ro (E:=eS) 4 rfl (by decide)).ldSs rfl hlt fun _ _=>?_)
   rw [strEq_iff.2 rfl]
   exact hJ3 _ _ ⟨rfl,rfl⟩
  rintro _ _ ⟨rfl,e10⟩
  rw [e10]
  exact cf rfl (M.vis _ v2 (hJ2 _ _ ⟨y+1,by omega,rfl,k8.trans k9⟩ (by omega)))
 ·refine cdf (by omega) ?_
  have kE:Keep h h8:=kB.trans w8.keep
  cases hls:lostN m (fun i=>hadM B (ha xs i) t) with
  | nil=>
   have hz:∀ i,i<m→hadM B (ha xs i) t=(sa (allT data 32) i,0):=fun i hi=>by
    have:(hadM B (ha xs i) t).2=0:=by
     by_cases e:(hadM B (ha xs i) t).2=0
     ·exact e
     ·have:=(lost_mem (F:=fun i=>hadM B (ha xs i) t) hi).2 e
      rw [hls] at this; simp at this
    exact Prod.ext (hG i hi this) this
   exact Whole_good (w8.ro 2 rfl (by decide)) xb (by omega) (by omega) (by omega) (fun i hi=>hdz i (by omega)) (by decide) hz wx8 hb.ti.sm tb8 fun h9 k9=>k _ (kE.trans k9)
  | cons z rest=>
   have hz:z ∈ lostN m (fun i=>hadM B (ha xs i) t):=by rw [hls]; simp
   have hz2:=hz
   rw [lostN,List.mem_map] at hz2
   obtain ⟨j,hj,rfl⟩:=hz2
   rw [List.mem_filter] at hj
   have hjm:=List.mem_range.1 hj.1
   have e0:=(lost_mem hjm).1 hz
   refine Whole_bad (w8.ro 2 rfl (by decide)) xb (by omega) (by omega) hjm e0 wx8 hb.ti.sm tb8 fun h9 k9=>?_
   have:(false == ((((j:Int)::rest).length:Int) == 0))=true:=by
    have:((((j:Int)::rest).length:Int) == 0)=false:=by rw [beq_eq_false_iff_ne]; simp only [List.length_cons]; omega
    rw [this]; rfl
   rw [this]
   exact k _ (kE.trans k9)
end
end Go.Proofs.YthegnmanjdlmjaaGreatDoor
namespace Go.Sh
def innR (i xb b:Nat):Nat→Nat→Nat
 | 0,C=>C
 | k+1,C=>innR i xb b k C ^^^ (xb*(b / 2 ^ k % 2))*2 ^ (i+k)
def outR (a b:Nat):Nat→Nat→Nat
 | 0,C=>C
 | i+1,C=>innR i (a / 2 ^ i % 2) b 8 (outR a b i C)
def redI (i:Nat):Nat→Nat→Nat
 | 0,C=>C
 | k+1,C=>redI i k C ^^^ (285 / 2 ^ k % 2)*2 ^ (i-8+k)
def redS (i C:Nat):Nat:=if C / 2 ^ i % 2=1 then redI i 9 C else C
def redN:Nat→Nat→Nat
 | 0,C=>C
 | k+1,C=>redS (15-k) (redN k C)
def refN (a b:Nat):Nat:=redN 8 (outR a b 8 0) % 256
theorem bit_cases (n:Nat):n % 2=0∨n % 2=1:=by omega
theorem div_xor (a b i:Nat):(a ^^^ b) / 2 ^ i=(a / 2 ^ i) ^^^ (b / 2 ^ i):=by
 have:=Nat.shiftRight_xor_distrib (a:=a) (b:=b) (i:=i)
 simpa [Nat.shiftRight_eq_div_pow] using this
theorem bit_xor (a b i:Nat):(a ^^^ b) / 2 ^ i % 2=if a / 2 ^ i % 2=b / 2 ^ i % 2 then 0 else 1:=by
 rw [div_xor]
 have h:=mod2_xor (a / 2 ^ i) (b / 2 ^ i)
 generalize a / 2 ^ i=x at *
 generalize b / 2 ^ i=y at *
 have hx:=bit_cases (x ^^^ y)
 rcases bit_cases x with h1 | h1 <;> rcases bit_cases y with h2 | h2 <;> rcases hx with h3 | h3 <;> simp [h1,h2,h3] at h ⊢
theorem innR_xor {i xb b b':Nat} (hx:xb<2):∀ (k C C':Nat),innR i xb (b ^^^ b') k (C ^^^ C')=innR i xb b k C ^^^ innR i xb b' k C'
 | 0,_,_=>rfl
 | k+1,C,C'=>by
  simp only [innR]
  rw [innR_xor hx k,xor4]
  congr 1
  rw [bit_xor]
  have h0:xb=0∨xb=1:=by omega
  rcases h0 with rfl | rfl <;> rcases bit_cases (b / 2 ^ k) with h1 | h1 <;> rcases bit_cases (b' / 2 ^ k) with h2 | h2 <;> simp [h1,h2]
theorem outR_xor (a b b':Nat):∀ (i C C':Nat),outR a (b ^^^ b') i (C ^^^ C')=outR a b i C ^^^ outR a b' i C'
 | 0,_,_=>rfl
 | i+1,C,C'=>by
  simp only [outR]
  rw [outR_xor a b b' i,innR_xor (by omega)]
theorem redI_aff (i:Nat):∀ (k C:Nat),redI i k C=C ^^^ redI i k 0
 | 0,C=>by simp [redI]
 | k+1,C=>by
  simp only [redI]
  rw [redI_aff i k C,Nat.xor_assoc]
theorem redS_xor (i C C':Nat):redS i (C ^^^ C')=redS i C ^^^ redS i C':=by
 unfold redS
 rw [bit_xor,redI_aff i 9 C,redI_aff i 9 C',redI_aff i 9 (C ^^^ C')]
 generalize redI i 9 0=M
 rcases bit_cases (C / 2 ^ i) with h1 | h1 <;> rcases bit_cases (C' / 2 ^ i) with h2 | h2 <;> simp only [h1,h2]
 ·simp
 ·simp [Nat.xor_assoc]
 ·simp only [if_true,if_neg (show ¬ (1:Nat)=0 by decide),if_neg (show ¬ (0:Nat)=1 by decide)]
  rw [Nat.xor_assoc,Nat.xor_assoc,Nat.xor_comm C' M]
 ·simp only [if_true,if_neg (show ¬ (0:Nat)=1 by decide)]
  rw [xor4,Nat.xor_self,Nat.xor_zero]
theorem redN_xor:∀ (k C C':Nat),redN k (C ^^^ C')=redN k C ^^^ redN k C'
 | 0,_,_=>rfl
 | k+1,C,C'=>by
  simp only [redN]
  rw [redN_xor k,redS_xor]
theorem refN_xor (a b b':Nat):refN a (b ^^^ b')=refN a b ^^^ refN a b':=by
 unfold refN
 have h:=outR_xor a b b' 8 0 0
 rw [Nat.xor_self] at h
 rw [h,redN_xor,show (256:Nat)=2 ^ 8 from rfl,Nat.xor_mod_two_pow]
theorem refN_basis:∀ a,a<256→refN a 0=gN a 0∧∀ k,k<8→refN a (2 ^ k)=gN a (2 ^ k):=by decide +kernel
theorem refN_eq {a:Nat} (ha:a<256):∀ (k:Nat),k≤8→∀ b,b<2 ^ k→refN a b=gN a b
 | 0,_,b,hb=>by
  obtain rfl:b=0:=by simpa using hb
  exact (refN_basis a ha).1
 | k+1,hk,b,hb=>by
  by_cases h:b<2 ^ k
  ·exact refN_eq ha k (by omega) b h
  ·have e:b=2 ^ k ^^^ (b-2 ^ k):=by
    have h2:b-2 ^ k<2 ^ k:=by rw [Nat.pow_succ] at hb; omega
    have:=Nat.two_pow_add_eq_or_of_lt h2 1
    rw [Nat.mul_one] at this
    have h3:2 ^ k ^^^ (b-2 ^ k)=2 ^ k+(b-2 ^ k):=by
     apply Nat.eq_of_testBit_eq
     intro i
     rw [this,Nat.testBit_xor,Nat.testBit_or,Nat.testBit_two_pow]
     by_cases hi:k=i
     ·subst hi
      rw [Nat.testBit_lt_two_pow h2]; simp
     ·simp [hi]
    rw [h3]; omega
   rw [e,refN_xor,gN_xorR,(refN_basis a ha).2 k (by omega),refN_eq ha k (by omega) _ (by rw [Nat.pow_succ] at hb; omega)]
end Go.Sh
namespace Go.Proofs.YthegnmanjdlmjaaGreatDoor
open Go.Sh Go.RowKit
theorem pt_ax {h0 h:H} {L:List Chunk} {b i n:Nat} {ii:Int} {c:Array Value} {e:TypeId} {v:Value} {K:H→Prop} (w:Wd h0 h L) (z:Nat) (hz:L[z]? = some (.blk b (.cells c e (0,0)))) (hi:ii=(i:Int)) (hn:i<n) (hp:isPlainCell v=true) (hc:i<c.size)
  (k:∀ h',Wd h0 h' (L.set z (.blk b (.cells (c.setIfInBounds i v) e (0,0))))→K h'):M.aidx n ii fun j=>M.put h (Addr.add ⟨b,0,none⟩ (j*1)) v K:=by
 subst hi
 refine ⟨by omega,by omega,?_⟩
 rw [Int.toNat_natCast]
 show M.put h (Addr.add ⟨b,0,none⟩ (i*1)) v K
 rw [Nat.mul_one,addr_add,Nat.zero_add]
 exact M.put_w w z hz hp hc k
def cC (n C:Nat):List Value:=(List.range n).map fun j=>Value.int .i64 ((C / 2 ^ j % 2:Nat):Int)
theorem cC_len (n C:Nat):(cC n C).length=n:=by simp [cC]
theorem cC_at {n C j:Nat} (h:j<n):(cC n C).toArray[j]? = some (.int .i64 ((C / 2 ^ j % 2:Nat):Int)):=by
 rw [List.getElem?_toArray,cC,List.getElem?_map,List.getElem?_range h]; rfl
theorem pow_bit {v j t:Nat} (hv:v<2):(v*2 ^ j) / 2 ^ t % 2=if t=j then v else 0:=by
 have h0:v=0∨v=1:=by omega
 rcases h0 with rfl | rfl
 ·simp
 ·rw [Nat.one_mul]
  have h:=Nat.testBit_two_pow (n:=j) (m:=t)
  rw [Nat.testBit_eq_decide_div_mod_eq] at h
  have h:=decide_eq_decide.1 h
  by_cases e:t=j
  ·rw [if_pos e]; exact h.2 e.symm
  ·rw [if_neg e]
   have:=bit_cases (2 ^ j / 2 ^ t)
   rcases this with g | g
   ·exact g
   ·exact absurd (h.1 g).symm e
theorem cC_set {n C j v:Nat} (hj:j<n) (hv:v<2):(cC n C).toArray.setIfInBounds j (.int .i64 (((C / 2 ^ j % 2+v) % 2:Nat):Int))=(cC n (C ^^^ v*2 ^ j)).toArray:=by
 rw [List.setIfInBounds_toArray,cC,set_map_range,cC]
 congr 1
 refine List.map_congr_left fun t ht=>?_
 rw [bit_xor,pow_bit hv]
 by_cases e:t=j
 ·subst e
  rw [if_pos rfl,if_pos rfl]
  congr 2
  rcases bit_cases (C / 2 ^ t) with h1 | h1 <;> rw [h1] <;> split <;> omega
 ·rw [if_neg e,if_neg e]
  congr 2
  rcases bit_cases (C / 2 ^ t) with h1 | h1 <;> rw [h1] <;> split <;> omega
theorem i64n {z:Int} {n:Nat} (h:z=(n:Int)) (hn:n<9000000000):IntKind.wrap .i64 z=(n:Int):=by rw [IntKind.wrap_i64]; omega
theorem tm2 (n:Nat):Int.tmod (n:Int) 2=((n % 2:Nat):Int):=by rw [Int.tmod_eq_emod_of_nonneg (Int.natCast_nonneg _)]; omega
theorem td2 (n:Nat):Int.tdiv (n:Int) 2=((n / 2:Nat):Int):=by rw [Int.tdiv_eq_ediv_of_nonneg (Int.natCast_nonneg _)]; omega
section
variable {h:H} {a b:Nat}
theorem refMul_spec {Q:Int→H→Prop} (ha:a<256) (hb:b<256) (k:∀ h',Keep h h'→Q ((gN a b:Nat):Int) h'):ref02_Mul (a:Int) (b:Int) h Q:=by
 unfold ref02_Mul
 rw [←refN_eq ha 8 (Nat.le_refl _) b hb] at k
 unfold refN at k
 have e0:(#[.int .i64 0,.int .i64 0,.int .i64 0,.int .i64 0,.int .i64 0,.int .i64 0,.int .i64 0,.int .i64 0,.int .i64 0,.int .i64 0,.int .i64 0,.int .i64 0,.int .i64 0,.int .i64 0,.int .i64 0,.int .i64 0]:Array Value)=(cC 16 0).toArray:=rfl
 have e1:([.int .i64 1,.int .i64 0,.int .i64 1,.int .i64 1,.int .i64 1,.int .i64 0,.int .i64 0,.int .i64 0,.int .i64 1]:List Value)=cC 9 285:=rfl
 rw [e0,e1]
 clear e0 e1
 refine M.new_w (Wd.start h) fun b2 hA w=>M.vis (a:Int) (i64n rfl (by omega)) ?_
 refine M.join_of (fun (_:Unit) h'=>Wd h h' [.blk b2 (.cells (cC 16 (outR a b 8 0)).toArray 294)]) (fun J hJ=>?_) ?_
 ·refine M.loop_of (I:=fun (q:Int × Int) h'=>∃ y:Nat,y≤8∧q=(((a / 2 ^ y:Nat):Int),(y:Int))∧Wd h h' [.blk b2 (.cells (cC 16 (outR a b y 0)).toArray 294)]) (μ:=fun q=>(8-q.2).toNat) ⟨0,by omega,by simp,w⟩ ?_
  clear w
  rintro _ h5 J2 ⟨y,hy,rfl,w⟩ hJ2
  by_cases hlt:y<8
  ·refine cdt (by simp only []; omega) (M.join_of (fun (x:Int) h'=>x=((a / 2 ^ (y+1):Nat):Int)∧Wd h h' [.blk b2 (.cells (cC 16 (outR a b (y+1) 0)).toArray 294)]) (fun J3 hJ3=>?_) ?_)
   ·refine M.vis (b:Int) (i64n rfl (by omega)) (M.join_of (fun (_:Unit) h'=>Wd h h' [.blk b2 (.cells (cC 16 (innR y (a / 2 ^ y % 2) b 8 (outR a b y 0))).toArray 294)]) (fun J4 hJ4=>?_) ?_)
    ·generalize outR a b y 0=C at *
     refine M.loop_of (I:=fun (q:Int × Int) h'=>∃ t:Nat,t≤8∧q=(((b / 2 ^ t:Nat):Int),(t:Int))∧Wd h h' [.blk b2 (.cells (cC 16 (innR y (a / 2 ^ y % 2) b t C)).toArray 294)]) (μ:=fun q=>(8-q.2).toNat) ⟨0,by omega,by simp,w⟩ ?_
     clear w
     rintro _ h6 J5 ⟨t,ht,rfl,w⟩ hJ5
     by_cases hlt2:t<8
     ·refine cdt (by simp only []; omega) ?_
      have v1:IntKind.wrap .i64 ((y:Int)+(t:Int))=((y+t:Nat):Int):=i64n (by omega) (by omega)
      have v2:Int.tmod ((a / 2 ^ y:Nat):Int) 2=((a / 2 ^ y % 2:Nat):Int):=tm2 _
      have v3:Int.tmod ((b / 2 ^ t:Nat):Int) 2=((b / 2 ^ t % 2:Nat):Int):=tm2 _
      have hxb:a / 2 ^ y % 2<2:=by omega
      have hyb:b / 2 ^ t % 2<2:=by omega
      have hxy:a / 2 ^ y % 2*(b / 2 ^ t % 2)<2:=by
       have h0:a / 2 ^ y % 2=0∨a / 2 ^ y % 2=1:=by omega
       rcases h0 with e | e <;> rw [e] <;> omega
      have e2:((a / 2 ^ y % 2:Nat):Int)*((b / 2 ^ t % 2:Nat):Int)=((a / 2 ^ y % 2*(b / 2 ^ t % 2):Nat):Int):=by rw [Int.natCast_mul]
      have hn:b / 2 ^ t / 2=b / 2 ^ (t+1):=by rw [Nat.pow_succ,Nat.div_div_eq_div_mul]
      have hsm:b / 2 ^ t≤b:=Nat.div_le_self _ _
      refine M.vis _ v1 (M.vis _ v1 (ld_ax (w.blk 0 rfl) rfl (by omega) (cC_at (by omega)) ⟨by decide,M.vis _ v2 ⟨by decide,M.vis _ v3 (M.vis _ (i64n e2 (by omega)) (M.vis _ (i64n (n:=innR y (a / 2 ^ y % 2) b t C / 2 ^ (y+t) % 2+a / 2 ^ y % 2*(b / 2 ^ t % 2)) (by omega) (by omega)) ⟨by decide,M.vis (((innR y (a / 2 ^ y % 2) b t C / 2 ^ (y+t) % 2+a / 2 ^ y % 2*(b / 2 ^ t % 2)) % 2:Nat):Int) (tm2 _) ?_⟩))⟩⟩))
      refine pt_ax w 0 rfl rfl (by omega) rfl (by rw [List.size_toArray,cC_len]; omega) fun h7 w=>⟨by decide,M.vis ((b / 2 ^ (t+1):Nat):Int) ?_ (M.vis ((t+1:Nat):Int) (i64n (by omega) (by omega)) (hJ5 _ _ ⟨t+1,by omega,rfl,?_⟩ (by simp only []; omega)))⟩
      ·rw [td2,hn]
       exact i64n rfl (by rw [←hn]; omega)
      ·rw [cC_set (by omega) hxy] at w
       exact w
     ·obtain rfl:t=8:=by omega
      exact cdf (by simp only []; omega) (hJ4 _ _ w)
    clear w
    rintro _ h6 w
    have hn:a / 2 ^ y / 2=a / 2 ^ (y+1):=by rw [Nat.pow_succ,Nat.div_div_eq_div_mul]
    have hsm:a / 2 ^ y≤a:=Nat.div_le_self _ _
    refine ⟨by decide,M.vis ((a / 2 ^ (y+1):Nat):Int) ?_ (hJ3 _ _ ⟨rfl,w⟩)⟩
    simp only []
    rw [td2,hn]
    exact i64n rfl (by rw [←hn]; omega)
   clear w
   rintro _ h6 ⟨rfl,w⟩
   exact M.vis ((y+1:Nat):Int) (i64n (by simp only []; omega) (by omega)) (hJ2 _ _ ⟨y+1,by omega,rfl,w⟩ (by simp only []; omega))
  ·obtain rfl:y=8:=by omega
   exact cdf (by simp only []; omega) (hJ _ _ w)
 clear w
 rintro _ hB w
 generalize outR a b 8 0=C at *
 refine M.new_w w fun b3 hC w=>⟨rfl,M.puts_w0 w 1 rfl (fun v hv=>?_) rfl fun hD w=>?_⟩
 ·obtain ⟨j,_,rfl⟩:=List.mem_map.1 hv; rfl
 refine M.join_of (fun (_:Unit) h'=>Wd h h' [.blk b2 (.cells (cC 16 (redN 8 C)).toArray 294),.blk b3 (.cells (cC 9 285).toArray 295)]) (fun J hJ=>?_) ?_
 ·refine M.loop_of (I:=fun (q:Int) h'=>∃ y:Nat,y≤8∧q=((15-y:Nat):Int)∧Wd h h' [.blk b2 (.cells (cC 16 (redN y C)).toArray 294),.blk b3 (.cells (cC 9 285).toArray 295)]) (μ:=fun q=>(q-7).toNat) ⟨0,by omega,rfl,w⟩ ?_
  clear w
  rintro _ h5 J2 ⟨y,hy,rfl,w⟩ hJ2
  by_cases hlt:y<8
  ·refine cdt (by omega) (M.join_of (fun (_:Unit) h'=>Wd h h' [.blk b2 (.cells (cC 16 (redN (y+1) C)).toArray 294),.blk b3 (.cells (cC 9 285).toArray 295)]) (fun J3 hJ3=>?_) ?_)
   ·simp only [redN] at hJ3
    generalize redN y C=D at *
    refine ld_ax (w.blk 0 rfl) rfl (by omega) (cC_at (by omega)) ?_
    unfold redS at hJ3
    by_cases e:D / 2 ^ (15-y) % 2=1
    ·rw [if_pos e] at hJ3
     rw [e]
     refine ct rfl ?_
     refine M.loop_of (I:=fun (q:Int) h'=>∃ t:Nat,t≤9∧q=(t:Int)∧Wd h h' [.blk b2 (.cells (cC 16 (redI (15-y) t D)).toArray 294),.blk b3 (.cells (cC 9 285).toArray 295)]) (μ:=fun q=>(9-q).toNat) ⟨0,by omega,rfl,w⟩ ?_
     clear w
     rintro _ h6 J5 ⟨t,ht,rfl,w⟩ hJ5
     by_cases hlt2:t<9
     ·refine cdt (by omega) ?_
      have v1:IntKind.wrap .i64 (((15-y:Nat):Int)-8)=((15-y-8:Nat):Int):=i64n (by omega) (by omega)
      have v2:IntKind.wrap .i64 (((15-y-8:Nat):Int)+(t:Int))=((15-y-8+t:Nat):Int):=i64n (by omega) (by omega)
      refine M.vis _ v1 (M.vis _ v2 (M.vis _ v1 (M.vis _ v2 (ld_ax (w.blk 0 rfl) rfl (by omega) (cC_at (by omega)) (ld_ax (w.blk 1 rfl) rfl (by omega) (cC_at (by omega)) (M.vis _ (i64n (n:=redI (15-y) t D / 2 ^ (15-y-8+t) % 2+285 / 2 ^ t % 2) (by omega) (by omega)) ⟨by decide,M.vis (((redI (15-y) t D / 2 ^ (15-y-8+t) % 2+285 / 2 ^ t % 2) % 2:Nat):Int) (tm2 _) ?_⟩))))))
      refine pt_ax w 0 rfl rfl (by omega) rfl (by rw [List.size_toArray,cC_len]; omega) fun h7 w=>M.vis ((t+1:Nat):Int) (i64n (by omega) (by omega)) (hJ5 _ _ ⟨t+1,by omega,rfl,?_⟩ (by omega))
      rw [cC_set (by omega) (by omega)] at w
      exact w
     ·obtain rfl:t=9:=by omega
      exact cdf (by omega) (hJ3 _ _ w)
    ·rw [if_neg e] at hJ3
     refine cf ?_ (hJ3 _ _ w)
     rw [beq_eq_false_iff_ne]
     omega
   clear w
   rintro _ h6 w
   exact M.vis ((15-(y+1):Nat):Int) (i64n (by omega) (by omega)) (hJ2 _ _ ⟨y+1,by omega,rfl,w⟩ (by omega))
  ·obtain rfl:y=8:=by omega
   exact cdf (by omega) (hJ _ _ w)
 clear w
 rintro _ hE w
 generalize redN 8 C=D at *
 refine M.jn ?_
 refine M.loop_of (I:=fun (q:Int × Int) h'=>∃ y:Nat,y≤8∧q=(((D / 2 ^ (8-y) % 2 ^ y:Nat):Int),7-(y:Int))∧h'=hE) (μ:=fun q=>(q.2+1).toNat) ⟨0,by omega,by simp [Nat.mod_one],rfl⟩ ?_
 rintro _ _ J2 ⟨y,hy,rfl,e9⟩ hJ2
 rw [e9]
 by_cases hlt:y<8
 ·refine cdt (by simp only []; omega) ?_
  have hpw:2 ^ y≤128:=Nat.pow_le_pow_right (by decide) (show y≤7 by omega)
  have hlt2:D / 2 ^ (8-y) % 2 ^ y<2 ^ y:=Nat.mod_lt _ (Nat.pow_pos (by decide))
  have e0:2 ^ (8-y)=2 ^ (7-y)*2:=by rw [←Nat.pow_succ]; congr 1; omega
  have e1:D / 2 ^ (7-y) / 2=D / 2 ^ (8-y):=by rw [Nat.div_div_eq_div_mul,e0]
  have e2:D / 2 ^ (7-y) % 2 ^ (y+1)=2*(D / 2 ^ (8-y) % 2 ^ y)+D / 2 ^ (7-y) % 2:=by
   rw [Nat.pow_succ,Nat.mul_comm (2 ^ y) 2,Nat.mod_mul,e1]; omega
  refine M.vis ((2*(D / 2 ^ (8-y) % 2 ^ y):Nat):Int) (i64n (by simp only []; omega) (by omega)) (ld_ax (i:=7-y) (w.blk 0 rfl) (by simp only []; omega) (by omega) (cC_at (by omega)) ?_)
  refine M.vis ((D / 2 ^ (7-y) % 2 ^ (y+1):Nat):Int) (i64n (by rw [e2]; omega) (by rw [e2]; omega)) (M.vis (7-((y+1:Nat):Int)) (by simp only []; rw [IntKind.wrap_i64]; omega) (hJ2 _ _ ⟨y+1,by omega,?_,rfl⟩ (by simp only []; omega)))
  rw [show 8-(y+1)=7-y by omega]
 ·obtain rfl:y=8:=by omega
  refine cdf (by simp only []; omega) (M.vis ((D % 256:Nat):Int) ?_ (k _ w.keep))
  simp only [Nat.sub_self,Nat.pow_zero,Nat.div_one]
  rw [IntKind.wrap_u8]; omega
end
end Go.Proofs.YthegnmanjdlmjaaGreatDoor
namespace Go.Proofs.YthegnmanjdlmjaaGreatDoor
open Go.Sh Go.RowKit
def ipN:Nat→Nat
 | 0=>1
 | n+1=>gN (ipN n) 2
theorem ipN_eq:∀ n,n<9→ipN n=pN 2 n∧ipN n<256:=by decide +kernel
theorem one_nT {x:Nat}:ofBytes [(x:Int)]=nT 1 fun _=>x:=rfl
section
variable {h:H} {a:Option Addr} {l c:Nat} {xs:List ByteArray}
theorem refPow_spec {Q:Int→H→Prop} {n:Nat} (hn:n<8) (k:∀ h',Keep h h'→Q ((pN 2 n:Nat):Int) h'):ref02_Pow 2 (n:Int) h Q:=by
 unfold ref02_Pow ref02_Pow.g
 rw [←(ipN_eq n (by omega)).1] at k
 by_cases h0:n=0
 ·subst h0
  exact ct rfl (k _ (Keep.refl _))
 ·refine cf (by rw [beq_eq_false_iff_ne]; omega) (cf rfl ⟨by decide,M.vis (n:Int) (by rw [Int.tmod_eq_emod_of_nonneg (by omega)]; omega) (M.jn (cdf (by omega) ?_))⟩)
  refine M.loop_of (I:=fun (q:Int × Int) h'=>∃ y:Nat,y≤n∧q=(((ipN y:Nat):Int),(y:Int))∧Keep h h') (μ:=fun q=>(n-q.2).toNat) ⟨0,by omega,rfl,Keep.refl _⟩ ?_
  rintro _ h5 J2 ⟨y,hy,rfl,kk⟩ hJ2
  by_cases hlt:y<n
  ·refine cdt (by simp only []; omega) ?_
   refine refMul_spec (b:=2) (ipN_eq y (by omega)).2 (by decide) fun h6 k6=>?_
   exact M.vis ((y+1:Nat):Int) (i64n (by simp only []; omega) (by omega)) (hJ2 _ _ ⟨y+1,by omega,rfl,kk.trans k6⟩ (by simp only []; omega))
  ·obtain rfl:y=n:=by omega
   exact cdf (by simp only []; omega) (k _ kk)
theorem refAdd_spec {Q:Int→H→Prop} {x y:Nat} (hx:x<256) (hy:y<256) (k:∀ h',Keep h h'→Q ((x ^^^ y:Nat):Int) h'):ref02_Add (x:Int) (y:Int) h Q:=by
 unfold ref02_Add ref02_Add.g
 refine M.new_w (Wd.start h) fun b2 hA w=>M.b2s_at (zs:=[(x:Int)]) (w.blk 0 rfl) (by simp) (M.new_w w fun b3 hB w=>M.b2s_at (zs:=[(y:Int)]) (w.blk 1 rfl) (by simp) ?_)
 have e1:ofBytes (([(x:Int)].drop 0).take 1)=nT 1 fun _=>x:=one_nT
 have e2:ofBytes (([(y:Int)].drop 0).take 1)=nT 1 fun _=>y:=one_nT
 rw [e1,e2]
 refine refXor_spec (by rw [nT_size]; decide) fun hC kC=>?_
 rw [xor_nT (fun _ _=>hx) fun _ _=>hy]
 refine ⟨Int.le_refl 0,by rw [nT_size]; decide,?_⟩
 rw [Int.toNat_zero,bN_eq,bN_nT (f:=fun _=>x ^^^ y) (by decide) (xlt hx hy)]
 exact k _ (w.keep.trans kC)
theorem byte_at {s:ByteArray} {t:Nat} {K:Int→Prop} (ht:t<s.size) (k:K ((bN s t:Nat):Int)):M.byte s (t:Int) K:=⟨by omega,by omega,by rw [Int.toNat_natCast,bN_eq]; exact k⟩
theorem pW_lt (l:Nat):∀ x ∈ pW l,x<256:=fun x hx=>by obtain ⟨i,_,rfl⟩:=List.mem_map.1 hx; exact pN_lt2 _
theorem qW_lt (l:Nat):∀ x ∈ qW l,x<256:=fun x hx=>by obtain ⟨i,_,rfl⟩:=List.mem_map.1 hx; exact pN_lt2 _
theorem parity_spec {Q:Int→Int→H→Prop} {t:Nat} (f:Ro eS h a l xs) (hl:l≤8) (ht:∀ i,i<l→t<(sa xs i).size) (k:∀ h',Keep h h'→Q ((dotN (pW l) (colT xs t):Nat):Int) ((dotN (qW l) (colT xs t):Nat):Int) h'):ref04_parity a l c (t:Int) h Q:=by
 unfold ref04_parity ref04_parity.g
 have hxl:=f.len
 refine M.jn ?_
 refine M.loop_of (I:=fun (q:Int × Int × Int) h'=>∃ y:Nat,y≤l∧q=(((dotN ((pW l).take y) ((colT xs t).take y):Nat):Int),((dotN ((qW l).take y) ((colT xs t).take y):Nat):Int),(y:Int))∧Keep h h') (μ:=fun q=>(l-q.2.2).toNat) ⟨0,by omega,by simp [dot_nil],Keep.refl _⟩ ?_
 rintro _ h5 J2 ⟨y,hy,rfl,kk⟩ hJ2
 by_cases hlt:y<l
 ·refine cdt (by simp only []; omega) (refPow_spec (by omega) fun h6 k6=>?_)
  have hb:=bN_lt (sa xs y) t
  have cy:na (colT xs t) y=bN (sa xs y) t:=by
   rw [na_get (by simp [colT]; omega),sa_get (by omega)]; simp [colT]
  refine (f.keep (kk.trans k6)).ldSs rfl hlt fun _ _=>byte_at (ht y hlt) (refMul_spec (pN_lt2 y) hb fun h7 k7=>?_)
  refine (f.keep (kk.trans (k6.trans k7))).ldSs rfl hlt fun _ _=>byte_at (ht y hlt) (refAdd_spec (dotN_lt' (pW_lt l) y) hb fun h8 k8=>refAdd_spec (dotN_lt' (qW_lt l) y) (gN_lt (pN_lt2 y)) fun h9 k9=>?_)
  refine M.vis ((y+1:Nat):Int) (i64n (by simp only []; omega) (by omega)) (hJ2 _ _ ⟨y+1,by omega,?_,kk.trans (k6.trans (k7.trans (k8.trans k9)))⟩ (by simp only []; omega))
  rw [dot_take (by simp [pW]; omega) (by simp [colT]; omega),dot_take (by simp [qW]; omega) (by simp [colT]; omega),cy,pW,na_map hlt,qW,na_map hlt,Nat.zero_mul,Nat.one_mul,show pN 2 0=1 from rfl,one_gN hb]
 ·obtain rfl:y=l:=by omega
  refine cdf (by simp only []; omega) ?_
  have e3:∀ r:List Nat,r.length=y→dotN (r.take y) ((colT xs t).take y)=dotN r (colT xs t):=fun r hr=>by
   rw [List.take_of_length_le (by omega),List.take_of_length_le (by simp [colT]; omega)]
  simp only [e3 (pW y) (by simp [pW]),e3 (qW y) (by simp [qW])]
  exact k _ kk
theorem refShape_spec {Q:Int→H→Prop} {N:Nat} (f:Ro eS h a l xs) (h1:1≤l) (h2:l≤100) (hN:∀ i,i<l→(sa xs i).size=N) (hN2:N≤65536) (k:Q 0 h):ref04_shape a l c h Q:=by
 unfold ref04_shape
 refine M.jn ?_
 refine M.loop_of (I:=fun (i:Int) h'=>∃ x:Nat,x≤l∧i=(x:Int)∧h'=h) (μ:=fun i=>(l-i).toNat) ⟨0,by omega,rfl,rfl⟩ ?_
 rintro _ _ J2 ⟨x,hx2,rfl,e9⟩ hJ2
 rw [e9]
 by_cases hlt:x<l
 ·refine cdt (by omega) (f.ldSs rfl hlt fun _ _=>f.ldSs (z:=0) rfl (by omega) fun _ _=>?_)
  rw [hN x hlt,hN 0 (by omega)]
  exact cf (by simp) (M.vis _ (i64n (n:=x+1) (by omega) (by omega)) (hJ2 _ _ ⟨x+1,by omega,rfl,rfl⟩ (by omega)))
 ·refine cdf (by omega) (M.jn (cdt (by omega) (f.ldSs (z:=0) rfl (by omega) fun _ _=>?_)))
  rw [hN 0 (by omega)]
  exact cdf (by omega) k
theorem eN_text {h0:H} {L:List Chunk} {e:TypeId} {N cc:Nat} {F:Nat→Nat} {K:ByteArray→Prop} (w:Wd h0 h L) (i:Nat) (hi:L[i]? = some (.sl e 1 a N cc (eN.row ((List.range N).map F)))) (k:K (nT N F)):M.b2s h a N K:=by
 refine w.textB (zs:=((List.range N).map F).map fun n:Nat=>(n:Int)) i (by rw [hi,eN_row]) ?_
 rw [List.map_map]
 exact k
theorem refEncode_spec {Q:ByteArray→ByteArray→Int→H→Prop} {N:Nat} (f:Ro eS h a l xs) (h1:1≤l) (h2:l≤8) (hN:∀ i,i<l→(sa xs i).size=N) (hN2:N≤65536) (k:∀ h',Keep h h'→Q (prT (pW l) xs N) (prT (qW l) xs N) 0 h'):ref04_Encode a l c h Q:=by
 unfold ref04_Encode ref04_Encode.g
 refine M.join_of (fun d h'=>d=false∧h'=h) (fun J hJ=>?_) ?_
 ·refine cdf (by omega) ?_
  have:decide ((l:Int) > 8)=false:=by simp; omega
  rw [this]
  exact hJ _ _ ⟨rfl,rfl⟩
 rintro _ h9 ⟨rfl,e9⟩
 rw [e9]
 refine cf rfl (refShape_spec f h1 (by omega) hN hN2 (cf rfl ?_))
 refine M.join_of (fun (p:(Option Addr × Nat × Nat) × (Option Addr × Nat × Nat)) h'=>p.1.2.1=N∧p.2.2.1=N∧Wd h h' [.sl 5 1 p.1.1 N p.1.2.2 (eN.row ((List.range N).map fun t=>dotN (pW l) (colT xs t))),.sl 5 1 p.2.1 N p.2.2.2 (eN.row ((List.range N).map fun t=>dotN (qW l) (colT xs t)))]) (fun J hJ=>?_) ?_
 ·refine M.loop_of (I:=fun (p:(Option Addr × Nat × Nat) × (Option Addr × Nat × Nat) × Int) h'=>∃ y:Nat,y≤N∧p.2.2=(y:Int)∧p.1.2.1=y∧p.2.1.2.1=y∧Wd h h' [.sl 5 1 p.1.1 y p.1.2.2 (eN.row ((List.range y).map fun t=>dotN (pW l) (colT xs t))),.sl 5 1 p.2.1.1 y p.2.1.2.2 (eN.row ((List.range y).map fun t=>dotN (qW l) (colT xs t)))]) (μ:=fun p=>(N-p.2.2).toNat)
   ⟨0,by omega,rfl,rfl,rfl,((Wd.start h).nilsl _ _).nilsl _ _⟩ ?_
  rintro ⟨⟨a7,l7,c7⟩,⟨a8,l8,c8⟩,i⟩ h5 J2 ⟨y,hy,rfl,hl7,hl8,w⟩ hJ2
  simp only at hl7 hl8 w ⊢
  replace hl8:=hl8
  subst hl7
  replace hl8:=hl8.symm
  subst hl8
  refine (f.keep w.keep).ldSs (z:=0) rfl (by omega) fun _ _=>?_
  rw [hN 0 (by omega)]
  by_cases hlt:l7<N
  ·have v2:IntKind.wrap .i64 ((l7:Int)+1)=((l7+1:Nat):Int):=i64n (by omega) (by omega)
   refine cdt (by first | omega | (simp only []; omega)) (parity_spec (f.keep w.keep) h2 (fun i hi=>by rw [hN i hi]; exact hlt) fun h6 k6=>?_)
   refine Wd.push (w.keeps k6) 0 rfl rfl rfl (eN.row_plain [dotN (pW l) (colT xs l7)]) (by omega) (by omega) fun a9 c9 h7 w=>?_
   refine Wd.push w 1 rfl rfl rfl (eN.row_plain [dotN (qW l) (colT xs l7)]) (by omega) (by omega) fun a10 c10 h8 w=>M.vis _ v2 (hJ2 _ _ ⟨l7+1,by omega,rfl,rfl,rfl,?_⟩ (by first | omega | (simp only []; omega)))
   rw [List.range_succ,List.map_append,List.map_append,eN.row_app,eN.row_app]
   exact w
  ·obtain rfl:l7=N:=by omega
   exact cdf (by first | omega | (simp only []; omega)) (hJ _ _ ⟨rfl,rfl,w⟩)
 rintro ⟨⟨a7,l7,c7⟩,a8,l8,c8⟩ h5 ⟨hl7,hl8,w⟩
 simp only at hl7 hl8 w ⊢
 replace hl7:=hl7.symm
 replace hl8:=hl8.symm
 subst hl7
 subst hl8
 exact M.jn ⟨eN_text w 0 rfl (eN_text w 1 rfl (k _ w.keep)),eN_text w 1 rfl (eN_text w 0 rfl (k _ w.keep))⟩
theorem refMake_spec {Q:Option Addr→Nat→Nat→Int→H→Prop} (f:Ro eS h a l xs) (hl:l≤100) (k:∀ a' c' h',Wd h h' [.sl 9 1 a' (makeM xs).1.length c' (eS.row (makeM xs).1)]→Q a' (makeM xs).1.length c' (makeM xs).2 h'):ref19_Make a l c h Q:=by
 unfold ref19_Make ref19_Make.g
 have hxl:=f.len
 unfold makeM at k
 by_cases g:2≤xs.length∧xs.length≤8
 ·rw [if_neg (by simp [g])] at k
  refine M.join_of (fun d h'=>d=false∧h'=h) (fun J hJ=>?_) ?_
  ·refine cdf (by omega) ?_
   have:decide ((l:Int) > 8)=false:=by simp; omega
   rw [this]
   exact hJ _ _ ⟨rfl,rfl⟩
  rintro _ h9 ⟨rfl,e9⟩
  rw [e9]
  refine cf rfl ?_
  refine M.join_of (fun (p:Option Addr × Nat × Nat) h'=>p.2.1=l∧(∀ i,i<l→(sa xs i).size=32)∧Wd h h' [.sl 9 1 p.1 l p.2.2 (eS.row xs)]) (fun J hJ=>?_) ?_
  ·refine M.loop_of (I:=fun (p:(Option Addr × Nat × Nat) × Int) h'=>∃ y:Nat,y≤l∧p.2=(y:Int)∧p.1.2.1=y∧(∀ i,i<y→(sa xs i).size=32)∧Wd h h' [.sl 9 1 p.1.1 y p.1.2.2 (eS.row (xs.take y))]) (μ:=fun p=>(l-p.2).toNat) ⟨0,by omega,rfl,rfl,fun i hi=>by omega,(Wd.start h).nilsl _ _⟩ ?_
   rintro ⟨⟨a3,l3,c3⟩,i⟩ h5 J2 ⟨y,hy,rfl,hl3,hs,w⟩ hJ2
   simp only at hl3 w ⊢
   subst hl3
   by_cases hlt:l3<l
   ·have v2:IntKind.wrap .i64 ((l3:Int)+1)=((l3+1:Nat):Int):=i64n (by omega) (by omega)
    refine cdt (by first | omega | (simp only []; omega)) ((f.keep w.keep).ldSs rfl hlt fun _ _=>?_)
    by_cases e:(sa xs l3).size=32
    ·refine cf (by simp [e]) ((f.keep w.keep).ldSs rfl hlt fun _ _=>?_)
     refine Wd.push w 0 rfl rfl rfl (eS.row_plain [sa xs l3]) (by omega) (by omega) fun a8 c8 h8 w=>M.vis _ v2 (hJ2 _ _ ⟨l3+1,by omega,rfl,rfl,fun i hi=>?_,?_⟩ (by first | omega | (simp only []; omega)))
     ·by_cases g2:i=l3
      ·rw [g2]; exact e
      ·exact hs i (by omega)
     ·rw [List.take_succ_eq_append_getElem (by omega),eS.row_app,←sa_get]
      exact w
    ·rw [if_pos ⟨l3,by omega,e⟩] at k
     exact ct (by rw [bne_iff_ne]; omega) (k _ _ _ (((Wd.start h).keeps w.keep).nilsl _ _))
   ·obtain rfl:l3=l:=by omega
    rw [List.take_of_length_le (by omega)] at w
    exact cdf (by first | omega | (simp only []; omega)) (hJ _ _ ⟨rfl,hs,w⟩)
  rintro ⟨a3,l3,c3⟩ h5 ⟨hl3,hs,w⟩
  simp only at hl3 w ⊢
  replace hl3:=hl3.symm
  subst hl3
  rw [if_neg (fun ⟨i,hi,e⟩=>e (hs i (by omega)))] at k
  have hal:(allT xs 32).length=l+2:=by simp [allT,hxl]
  rw [hal] at k
  refine refEncode_spec (f.keep w.keep) (by omega) (by omega) hs (by decide) fun h6 k6=>?_
  refine Wd.push (w.keeps k6) 0 rfl rfl rfl (eS.row_plain [prT (pW l) xs 32]) (by omega) (by omega) fun a8 c8 h8 w=>?_
  refine Wd.push w 0 rfl rfl rfl (eS.row_plain [prT (qW l) xs 32]) (by omega) (by omega) fun a9 c9 h9 w=>k _ _ _ ?_
  rw [allT,eS.row_app,hxl]
  have e:eS.row xs++eS.row [prT (pW l) xs 32,prT (qW l) xs 32]=eS.row xs++eS.row [prT (pW l) xs 32]++eS.row [prT (qW l) xs 32]:=by rw [List.append_assoc]; rfl
  rw [e]
  exact w
 ·rw [if_pos g] at k
  refine M.join_of (fun d h'=>d=true∧h'=h) (fun J hJ=>?_) ?_
  ·by_cases e:l<2
   ·exact cdt (by omega) (hJ _ _ ⟨rfl,rfl⟩)
   ·refine cdf (by omega) ?_
    have:decide ((l:Int) > 8)=true:=by simp; omega
    rw [this]
    exact hJ _ _ ⟨rfl,rfl⟩
  rintro _ h9 ⟨rfl,e9⟩
  rw [e9]
  exact ct rfl (k _ _ _ ((Wd.start h).nilsl _ _))
theorem stripeMakes {n:Int} {ab ar:Option Addr} {lb cb lr cr:Nat} {zs:List Int} {rs:List ByteArray} {Q:Bool→H→Prop} (fb:Ro eB h ab lb zs) (hlb:lb≤9223372036854775807) (fr:Ro eS h ar lr rs) (hlr:lr≤cr) (tb:Tabs h) (k:∀ h',Keep h h'→Q true h'):law19_StripeMakes n ab lb cb ar lr cr h Q:=by
 unfold law19_StripeMakes law19_StripeMakes.g
 obtain ⟨q1,q2,q3⟩:=mn_take (l:=lr) (n:=12) (by omega)
 refine M.sub0 q2 (by omega) ?_
 rw [show (mn ((lr:Nat):Int) (12:Int)).toNat=min lr 12 from q1]
 have fr:=fr.tk (min lr 12) (Nat.min_le_left _ _)
 have hl12:min lr 12≤12:=by omega
 generalize min lr 12=l2 at fr hl12 ⊢
 generalize rs.take l2=rs2 at fr
 refine blocksOf_spec fb hlb fun a3 c3 hB w=>?_
 obtain ⟨m1,m2⟩:=cntM_le n
 generalize blksM (cntM n) zs=data at *
 generalize cntM n=m0 at *
 refine M.new_w w fun b9 hC w=>?_
 have fr:=fr.keep w.keep
 have fd:Ro eS hC a3 m0 data:=w.ro 0 rfl (by decide)
 have hb9:=w.blk 1 rfl
 have tbC:=tb.keep w.keep
 have kC:=w.keep
 clear w
 refine M.loop_of (I:=fun (i:Int) h'=>∃ y:Nat,y≤2∧i=(y:Int)∧Keep hC h') (μ:=fun i=>(2-i).toNat) ⟨0,by omega,rfl,Keep.refl _⟩ ?_
 rintro _ h5 J2 ⟨y,hy,rfl,k5⟩ hJ2
 by_cases hlt:y<2
 ·have v2:IntKind.wrap .i64 ((y:Int)+1)=((y+1:Nat):Int):=i64n (by omega) (by omega)
  have key:∀ a17 l18 c19 (xs:List ByteArray),Ro eS h5 a17 l18 xs→l18≤100→stripe_Make a17 l18 c19 h5 fun a20 l21 c22 n23 h24=>ref19_Make a17 l18 c19 h24 fun a25 l26 c27 n28 h29=>M.join (α:=Bool) (fun d33 h34=>(bif d33 then Q false h34 else M.val (IntKind.wrap .i64 ((y:Int)+1)) fun z35=>J2 z35 h34)) fun J30=>
    law19_equal a20 l21 c22 a25 l26 c27 h29 fun b31 h32=>(bif (!b31) then J30 true h32 else J30 (n23 != n28) h32):=fun a17 l18 c19 xs fx hlx=>by
   refine Make_spec fx hlx fun a6 c6 h6 w=>?_
   refine refMake_spec (fx.keep w.keep) hlx fun a7 c7 h7 w'=>?_
   have w:=w.join w'
   have hml:(makeM xs).1.length≤1000:=by
    have hx:=fx.len
    unfold makeM
    split
    ·simp
    ·split
     ·simp
     ·simp [allT]; omega
   refine M.join_of (fun (d:Bool) h'=>d=false∧h'=h7) (fun J3 hJ3=>?_) ?_
   ·refine equal_spec (w.ro 0 rfl (by decide)) (w.ro 1 rfl (by decide)) hml ?_
    rw [decide_eq_true rfl]
    refine cf rfl ?_
    rw [bne_self_eq_false]
    exact hJ3 _ _ ⟨rfl,rfl⟩
   rintro _ _ ⟨rfl,e10⟩
   rw [e10]
   exact cf rfl (M.vis _ v2 (hJ2 _ _ ⟨y+1,by omega,rfl,k5.trans w.keep⟩ (by omega)))
  have hb5:=k5 _ _ hb9
  have:y=0∨y=1:=by omega
  rcases this with rfl | rfl
  ·refine cdt (by decide) ⟨_,rfl,by decide,by decide,?_⟩
   exact M.load_in (o:=0) hb5 rfl ⟨_,_,_,rfl,key _ _ _ _ (fd.keep k5) (by omega)⟩
  ·refine cdt (by decide) ⟨_,rfl,by decide,by decide,?_⟩
   exact M.load_in (o:=1) hb5 rfl ⟨_,_,_,rfl,key _ _ _ _ (fr.keep k5) (by omega)⟩
 ·refine cdf (by omega) (wakes19 (tbC.keep k5) fun h6 k6=>k _ (kC.trans (k5.trans k6)))
end
end Go.Proofs.YthegnmanjdlmjaaGreatDoor

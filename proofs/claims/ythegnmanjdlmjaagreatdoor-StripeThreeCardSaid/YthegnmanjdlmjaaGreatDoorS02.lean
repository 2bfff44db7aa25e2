/- A map's keys in order: the form is what the code does. A range over a function that writes its own captured variable: one law. tree.over's iterator. tree.Path, walked. The shallow forms of the functions of this seat, printed by a program of mine, each checked by the kernel against the given code. tree.Path: the form is what the code does. -/
import Derived.Test.YthegnmanjdlmjaaGreatDoorS01
import Derived.RangeFuncBox
import Derived.RangeFuncBound
import Derived.OwnWalkIn
import Derived.LoopNIn
import Derived.LoopIn
import Derived.Maps.AppendAt
import Derived.Test.YthegnmanjdlmjaaGreatDoorProg
set_option linter.unusedSimpArgs false
set_option linter.unusedVariables false
namespace Go.Proofs.YthegnmanjdlmjaaGreatDoor
open Go.Sh Go.RowKit Go.Maps
open Go.WideElems (Fit rd rg)
open Go.MapKept (stamped_iff)
open Go.WideShapes (sorted_perm)
theorem wd_of_row {w w':World} {e:TypeId} {v:Value} {n:Nat} {xs:List Value} (hr:w'.ownsRow w.heap.size e 1 v n xs) (hb:Below w.heap.size w w'):∃ a c,v = .slice a n c∧Wd (hp w) (hp w') [.sl e 1 a n c xs]:=by
 obtain ⟨hl,⟨rfl,rfl⟩ | ⟨g,cap,cur,rfl,hg,hc,h1,h2,h3,h4⟩⟩:=hr
 ·refine ⟨none,0,rfl,?_⟩
  have:xs=[]:=List.eq_nil_of_length_eq_zero (by omega)
  rw [this]
  exact ((Wd.start (hp w)).keeps (keep_of_below hb)).nilsl e 1
 ·refine ⟨_,cap,rfl,Wd.one (F:=fun x=>x=g) (keep_of_below hb) (.inr ⟨g,cur.toList.drop n,rfl,fun x=>Iff.rfl,?_,hl,?_⟩) fun x hx=>?_⟩
  ·have:(xs++cur.toList.drop n).toArray=cur:=by
    rw [←h4,Nat.mul_one,List.take_append_drop]
   rw [this]
   exact .of hc
  ·rw [List.length_append,hl,List.length_drop,Array.length_toList,h3]
   omega
  ·subst hx
   show w.heap[x]? = none
   exact Array.getElem?_eq_none hg
theorem map_back (f:MapEntry→Int):∀ (l:List MapEntry) (ks:List Int),l.map (·.key)=ks.map (Value.int .i64)→(∀ x ∈ l,Value.int .i64 (f x)=x.key)→l.map f=ks
 | [],[],_,_=>rfl
 | [],_ :: _,h,_=>by simp at h
 | _ :: _,[],h,_=>by simp at h
 | x::l,k::ks,h,hf=>by
  rw [List.map_cons,List.map_cons,List.cons.injEq] at h
  rw [List.map_cons,map_back f l ks h.2 fun y hy=>hf y (by simp [hy])]
  have:=hf x (by simp)
  rw [h.1] at this
  simp only [Value.int.injEq,true_and] at this
  rw [this]
theorem slab_rising.good:FnGood Tryz.prog 52 slab_rising.W:=by
 refine FnGood.known Tryz.call52 (fun args Q Q' m hq hh=>?_) fun args Q w hh=>?_
 ·revert hh
  show slab_rising.L slab_rising args.toList Q m→slab_rising.L slab_rising args.toList Q' m
  generalize args.toList=l
  unfold slab_rising.L
  split
  ·exact fun ⟨b,es,c,e1,e2,e3,ks,e4,e5,e6,e7,e8⟩=>⟨b,es,c,e1,e2,e3,ks,e4,e5,e6,e7,fun a c' h' w=>hq _ _ (e8 a c' h' w)⟩
  ·exact id
 ·have key:∀ l,slab_rising.L slab_rising l Q (hp w)→∃ m,l=[.map m]∧slab_rising m (hp w) fun a l c h2=>Q (.slice a l c) h2:=by
   intro l
   unfold slab_rising.L
   split
   ·exact fun h=>⟨_,rfl,h⟩
   ·exact fun h=>h.elim
  obtain ⟨m,hl,b,es,c,rfl,hb,⟨ha1,ha2⟩,ks,hk,hr,hn,hs,kk⟩:=key args.toList hh
  have ha:args = #[.map (some b)]:=by rw [←Array.toList_inj]; exact hl
  have hu:=Tryz.underlying3
  have hmx:maxLen=9223372036854775807:=by decide
  have hkl:es.size=ks.length:=by rw [←Array.length_toList,←List.length_map (f:=(·.key)),hk,List.length_map]
  have hwf:∀ x ∈ ks,(Lit.int .i64 x).wf=true:=fun x hx=>by
   have:=hr x hx
   have h1:IntKind.i64.min = -9223372036854775808:=by decide
   have h2:IntKind.i64.max=9223372036854775807:=by decide
   simp [Lit.wf,IntKind.wrap_i64]
   omega
  let R:Value→Option (DataW Unit × List MemPlace):=fun _=>some (.lit (.bool true),[])
  have hrd:∀ x ∈ es.toList,∃ z,z ∈ ks∧x.key = .int .i64 z∧rd Tryz.prog 3 R x=some (.int .i64 z,.lit (.bool true)):=fun x hx=>by
   have:x.key ∈ es.toList.map (·.key):=List.mem_map.2 ⟨x,hx,rfl⟩
   rw [hk] at this
   obtain ⟨z,hz,e⟩:=List.mem_map.1 this
   refine ⟨z,hz,e.symm,?_⟩
   unfold rd
   rw [←e,keyOf_int_mk hu (hwf z hz)]
   rfl
  have hown:w.ownsMap Tryz.prog 3 R b es.size (.map ((es.toList.map (rg Tryz.prog 3 R)).foldr DataW.insert [])):=by
   refine ⟨es,c,hb,⟨by rw [hmx]; omega,(stamped_iff _ _).2 ⟨ha1,ha2,?_⟩,fun x hx=>?_⟩,Nat.le_refl _,rfl⟩
   ·have h2:(ks.map (Value.int .i64)).Nodup:=by
     refine List.Pairwise.map _ (fun a b h e=>h ?_) hn
     simpa using e
    rw [←hk] at h2
    exact List.pairwise_map.1 h2
   ·obtain ⟨z,_,_,h⟩:=hrd x hx
    exact ⟨_,h⟩
  have hsz:Maps.size (H:=Unit) (.map ((es.toList.map (rg Tryz.prog 3 R)).foldr DataW.insert []))=es.size:=by
   rw [size_eq,length_sorted,List.length_map,Array.length_toList]
  have hint:(intKeys (H:=Unit) (.map ((es.toList.map (rg Tryz.prog 3 R)).foldr DataW.insert []))).Perm ks:=by
   show (((es.toList.map (rg Tryz.prog 3 R)).foldr DataW.insert []).map fun p=>Go.intOf p.1).Perm ks
   refine ((sorted_perm _).map _).trans ?_
   rw [List.map_map]
   have:=map_back (fun x=>Go.intOf (rg Tryz.prog 3 R x).1) es.toList ks hk fun x hx=>by
    obtain ⟨z,_,e1,e2⟩:=hrd x hx
    rw [rg,e2,e1]
    rfl
   simp only [Function.comp_def]
   rw [this]
  rw [ha]
  have cc:=Go.Proofs.Tryz.risingA b es.size _ R w hown (by rw [hsz,hmx]; omega) (by rw [hsz]; omega)
  refine cc.mono fun e w' hh=>?_
  obtain ⟨v,ss,rfl,hp,hrow,_,hbw⟩:=hh
  have hp2:ss.Perm ks:=hp.trans hint
  have hl2:ss.length=es.size:=by rw [hp2.length_eq,hkl]
  have he:(ss.mergeSort fun x y=>decide (x≤y))=sortZ ks:=mergeSort_of_perm_i hp2
  rw [he,hl2] at hrow
  obtain ⟨a,c',rfl,wd⟩:=wd_of_row hrow hbw
  exact ⟨_,rfl,kk a c' _ wd,stays_of_below hbw⟩
end Go.Proofs.YthegnmanjdlmjaaGreatDoor
namespace Go.Proofs.YthegnmanjdlmjaaGreatDoor
open Go Go.RowKit Go.Shelf
variable {F:Fence} {n:Nat} {P:Program}
def SeqBox {α:Type} (F:Fence) (n:Nat) (P:Program) (g:Nat) (lb:Array Value) (Bx:Nat) (encs:α → Array Value) (xs:List α) (w:World):Prop:=
 ∀ (l:Nat) (J:List α → World→Prop) (W:World),Below w.heap.size w W→(∀ s A v,J s A→J s (A.setCell ⟨Bx,0,none⟩ v)) →
  (∀ pre x W1,J pre W1→pre.length<xs.length→YieldAt F (n-1) P l (encs x) W1 fun e W'=>e = .returned (.bool true)∧J (pre++[x]) W'∧W'.heap[Bx]? = W1.heap[Bx]?) →
  J [] W →
  CallsIn F n P g (#[.func (.yield l) #[] #[]]++lb) W fun e W'=>(∃ v,e = .returned v)∧J xs W'
def boxPost {α:Type} (Bx:Nat) (I:List α → World→Prop) (xs:List α) (W:World):Exit→Act→World→Prop
 | .normal,_,W'=>KeepsOthers W W'∧W'.heap[Bx]? = W.heap[Bx]? ∧ I xs W'
 | _,_,_=>False
theorem wpIn_rangeFunc_box {α:Type} {g:Operand} {ps:Array Tmp} {assign body:Code} {Q:Exit→Act→World→Prop} {a:Act} {w:World}
  (hro:F.round=none) (h1:1≤n) {gf:Nat} {lb:Array Value} (hg:a.eval g = .func (.func gf) #[] lb) (hFg:F.fn gf) (eg:∀ args w,(callFunc gf args).run P w = .ok (.enter gf args) w)
  {Bx:Nat} (hBx:Bx<w.heap.size) {encs:α → Array Value} {xs:List α} (hseq:SeqBox F (n-1) P gf lb Bx encs xs w) (hps:∀ x,(encs x).size=ps.size)
  (I:List α → World→Prop) (hI:OwnFrom w.heap.size I) (hIb:∀ s A v,I s A→I s (A.setCell ⟨Bx,0,none⟩ v)) (h0:I [] w) (a₁:α → Act)
  (hassign:∀ (l:Nat) (x:α) (W:World) (K:Act→World→Prop),K (a₁ x) W →
   assign.wpIn (F.inRound l) (n-1-1) P (Exit.then K (fun _ _ _=>False)) { tmps:=(ps.zip (encs x)).foldl (fun t (p,v)=>t.setIfInBounds p v) a.tmps,defers:=[] } W)
  (hbody:∀ (l:Nat) (pre:List α) (x:α) (W:World),I pre W→pre.length<xs.length→w.heap.size<W.heap.size→body.wpIn (F.inRound l) (n-1-1) P (boxPost Bx I (pre++[x]) W) (a₁ x) W)
  (hdone:∀ (D:Nat) (W:World),D=w.heap.size→I xs W→W.heap[D]? = some (.deferred (some []))→Q .normal { a with defers:={ target:=.collected D,args:=#[] } :: a.defers } W):
  (Code.rangeFunc g ps assign body).wpIn F n P Q a w:=by
 refine wpIn_rangeFunc ?_
 intro fn hfn
 rw [hro]
 obtain ⟨rec,hrec⟩:∃ rec:LoopState→Option Code→Loop,rec=fun st pe=>{ state:=st,pending:=pe,fn,tmps:=a.tmps,params:=ps,assign,body,defers:=w.heap.size }:=⟨_,rfl⟩
 obtain ⟨W1,hW1⟩:∃ W1,(w.alloc (.deferred (some []))).alloc (.loop (rec .ready none))=W1:=⟨_,rfl⟩
 have hL1:W1.heap[w.heap.size+1]? = some (.loop (rec .ready none)):=by
  rw [←hW1]; have:=World.alloc_heap_new (w.alloc (.deferred (some []))) (.loop (rec .ready none)); rwa [World.size_alloc] at this
 have hK1:W1.heap[w.heap.size]? = some (.deferred (some [])):=by
  rw [←hW1]; exact (Below.heap_alloc _ _ _ (by simp)).trans (World.alloc_heap_new w _)
 have hI1:I [] W1:=by rw [←hW1]; exact hI.alloc _ (hI.alloc _ h0)
 have hb1:Below w.heap.size w W1:=by
  rw [←hW1]; exact ((Below.refl _ w).alloc (Nat.le_refl _) _).alloc (by simp) _
 refine ⟨w.heap.size+1,[{ target:=.collected w.heap.size,args:=#[] }],W1,{ target:=.fn (.func gf) lb,args:=#[.func (.yield (w.heap.size+1)) #[] #[]] },W1,gf,
  #[.func (.yield (w.heap.size+1)) #[] #[]]++lb,W1,?_,?_,?_,?_,fun _=>h1,?_⟩
 ·rw [←hW1,hrec]; exact run_enterLoop_outer _ _ _ _ _
 ·simp only [resolve,hg]
  simp [go_sem]
 ·intro f' hf'; simp [Target.leads] at hf'; subst hf'; exact hFg
 ·simp [invoke,go_sem,eg]
 ·refine (hseq (w.heap.size+1)
   (fun pre W=>I pre W∧W.heap[w.heap.size+1]? = some (.loop (rec .ready none))∧W.heap[w.heap.size]? = some (.deferred (some [])))
   W1 hb1
   (fun s A v hs=>⟨hIb s A v hs.1,(KeepsOthers.setCell A ⟨Bx,0,none⟩ v).same _ _ hs.2.1 rfl,(KeepsOthers.setCell A ⟨Bx,0,none⟩ v).same _ _ hs.2.2 rfl⟩)
   ?_ ⟨hI1,hL1,hK1⟩).mono ?_
  ·rintro pre x W ⟨hi,hl,hk⟩ hlen
   have hlt:w.heap.size+1<W.heap.size:=(Array.getElem?_eq_some_iff.1 hl).1
   have hy:=run_yield (P:=P) (args:=encs x) hl (by rw [hrec]; exact hps x)
   rw [hrec] at hy
   refine ⟨fn,_,assign,body,hy,roundIn_of_wpIn hfn (hassign _ x W _ ⟨_,run_beginRound hl (by rw [hrec]),?_⟩)⟩
   have hl2:(W.putObj (w.heap.size+1) (.loop { rec .ready none with state:=.busy })).heap[w.heap.size+1]? = some (.loop { rec .ready none with state:=.busy }):=World.putObj_heap_same hlt
   have hk2:(W.putObj (w.heap.size+1) (.loop { rec .ready none with state:=.busy })).heap[w.heap.size]? = some (.deferred (some [])):=(World.putObj_heap_other (by omega)).trans hk
   have hx2:(W.putObj (w.heap.size+1) (.loop { rec .ready none with state:=.busy })).heap[Bx]? = W.heap[Bx]?:=World.putObj_heap_other (by omega)
   have hz2:w.heap.size<(W.putObj (w.heap.size+1) (.loop { rec .ready none with state:=.busy })).heap.size:=by
    have:=(Array.getElem?_eq_some_iff.1 hl2).1
    omega
   refine wpIn_mono (hbody _ pre x _ (hI.putObj _ hi (by omega) hl rfl) hlen hz2) ?_
   rintro e a3 W3 hp
   cases e with
   | normal=>
    obtain ⟨hk3,hx3,hi3⟩:=hp
    have hl3:=hk3.same _ _ hl2 rfl
    have hr:=run_endRound (P:=P) none hl3
    have hl3':=hl3
    rw [hrec] at hr hl3
    refine ⟨_,_,hr,rfl,⟨hI.putObj _ hi3 (by omega) hl3' rfl,?_,(World.putObj_heap_other (by omega)).trans (hk3.same _ _ hk2 rfl)⟩,?_⟩
    ·rw [hrec]
     exact World.putObj_heap_same (Array.getElem?_eq_some_iff.1 hl3).1
    ·exact (World.putObj_heap_other (by omega)).trans (hx3.trans hx2)
   | ret=>exact hp.elim
   | exit id=>exact hp.elim
   | goto t=>exact hp.elim
   | panic ch=>exact hp.elim
   | outgrown=>exact hp.elim
  ·rintro e W2 ⟨⟨v,rfl⟩,hi,hl,hk⟩
   exact ⟨none,_,by have:=run_endLoop (P:=P) hl (by rw [hrec]; simp); rw [hrec] at this; exact this,hdone _ _ rfl (hI.putObj _ hi (by omega) hl rfl) ((World.putObj_heap_other (by omega)).trans hk)⟩
end Go.Proofs.YthegnmanjdlmjaaGreatDoor
namespace Go.Proofs.YthegnmanjdlmjaaGreatDoor
open Go Go.RowKit Go.Shelf
attribute [local go_sem] Oper.semAt_some
def overZ:Nat→Nat→List Int
 | 0,_=>[]
 | f+1,n=>if n / 2=0 then [] else (n / 2:Nat)::overZ f (n / 2)
def restZ (f m:Nat):List Int:=if m=0 then [] else (m:Int)::overZ f m
theorem restZ_pos {f m:Nat} (h:m≠0):restZ (f+1) m=(m:Int)::restZ f (m / 2):=by
 rw [restZ,if_neg h]
 rfl
def boxN (B:Nat) (W:World):Nat:=match W.cell? ⟨B,0,none⟩ with | some (.int _ k)=>k.toNat | _=>0
theorem boxN_of {B:Nat} {W:World} {t:TypeId} {k:Int} (h:Boxed W B t (.int .i64 k)):boxN B W=k.toNat:=by rw [boxN,h.cell]
set_option maxRecDepth 100000 in
set_option maxHeartbeats 1000000 in
theorem over1_seq (F:Fence) (n:Nat) (hf:F.fn 155) (hro:F.round=none) (hn:1≤n) (Bx k:Nat) (hk:k≤1000) (w:World) (hb:Boxed w Bx 3 (.int .i64 (k:Int))):
  SeqBox F n Tryz.prog 155 #[.pointer (some ⟨Bx,0,none⟩)] Bx (fun x:Int=>#[Value.int .i64 x]) (overZ 10 k) w:=by
 intro l J W hW hJ hY h0
 have hb1:Boxed W Bx 3 (.int .i64 (k:Int)):=(hW.block Bx hb.lt).trans hb
 have hc1:=hb1.cell
 have hf1:=hb1.frozen
 refine callsIn_of_wp Tryz.func155 rfl hf ?_ hro
 simp only [Tryz.ntmps155,List.size_toArray,List.length_cons,List.length_nil,Nat.reduceAdd,Nat.reduceSub,Array.replicate_succ,Array.replicate_zero,List.push_toArray,List.append_toArray,List.nil_append,List.cons_append]
 gi_wp2
 gi_loopw [] (fun wr=>∃ (pre:List Int) (m f:Nat),Boxed wr Bx 3 (.int .i64 (m:Int))∧overZ 10 k=pre++restZ f m∧m<2 ^ f∧m≤1000∧J pre wr)
  (fun wr=>boxN Bx wr)
 case atStart=>
  refine ⟨[],k / 2,9,?_,rfl,by omega,by omega,hJ _ _ _ h0⟩
  have e:((k / 2:Nat):Int)=(k:Int) / 2:=by omega
  rw [e]
  exact hb1.set _
 case round=>
  obtain ⟨pre,m,f,hbx,hov,hm,hm2,hJs⟩:=hrel
  have hc:=hbx.cell
  have hfz:=hbx.frozen
  by_cases h0:m=0
  ·subst h0
   gi_wp2
   go_end0
   refine ⟨⟨_,rfl⟩,?_⟩
   have e:overZ 10 k=pre:=by rw [hov]; simp [restZ]
   rw [e]
   exact hJs
  ·have hpos:(0:Int)<(m:Int):=by omega
   obtain ⟨f,rfl⟩:∃ q,f=q+1:=⟨f-1,by cases f with | zero=>simp at hm; omega | succ f=>rfl⟩
   rw [restZ_pos h0] at hov
   obtain ⟨fn,tmps,assign,body,hy,hR⟩:=hY pre (m:Int) wr hJs (by rw [hov]; simp)
   gi_wp2
   refine hR.mono ?_
   rintro e W3 ⟨rfl,hJ3,hk3⟩
   have hbx3:Boxed W3 Bx 3 (.int .i64 (m:Int)):=hk3.trans hbx
   have hc3:=hbx3.cell
   have hf3:=hbx3.frozen
   have e2:((m / 2:Nat):Int)=(m:Int) / 2:=by omega
   have hb4:=hbx3.set (.int .i64 ((m:Int) / 2))
   gi_wp2
   go_roundw
   case rel=>exact ⟨pre++[(m:Int)],m / 2,f,by rw [e2]; exact hb4,by rw [hov]; simp,by rw [Nat.pow_succ] at hm; omega,by omega,hJ _ _ _ hJ3⟩
   case measure=>rw [boxN_of hb4,boxN_of hbx]; omega
end Go.Proofs.YthegnmanjdlmjaaGreatDoor
namespace Go.Proofs.YthegnmanjdlmjaaGreatDoor
open Go Go.RowKit Go.Shelf Go.Maps Go.Sort
attribute [local go_sem] Oper.semAt_some
set_option maxHeartbeats 1000000 in
theorem over_in (F:Fence) (n:Nat) (hf:F.fn 104) (hro:F.round=none) (x:Int) (w:World):
  CallsIn F n Tryz.prog 104 #[.int .i64 x] w fun e w'=>e = .returned (.func (.func 155) #[] #[.pointer (some ⟨w.heap.size,0,none⟩)])∧w'=w.alloc (.cells #[.int .i64 x] 3):=by
 refine callsIn_of_wp Tryz.func104 rfl hf ?_ hro
 simp only [Tryz.ntmps104,List.size_toArray,List.length_cons,List.length_nil,Nat.reduceAdd,Nat.reduceSub,Array.replicate_succ,Array.replicate_zero,List.push_toArray,List.append_toArray,List.nil_append,List.cons_append]
 gi_wp2
 go_ret
 exact ⟨rfl,rfl⟩
theorem Tryz.info3:(Tryz.prog.info? 3).map (fun i=>(i.zero,i.size,i.bytes))=some (some (.int .i64 0),1,8):=by kernel_rfl
set_option maxRecDepth 100000 in
set_option maxHeartbeats 2000000 in
theorem path_bad (n s d:Int) (w:World) (hbad:d=0∨s<0∨n≤s)
  (hdep:Calls Tryz.prog 103 #[.int .i64 n] w fun e w'=>e = .returned (.int .i64 d)∧Below w.heap.size w w'):
  Calls Tryz.prog 51 #[.int .i64 n,.int .i64 s] w fun e w'=>e = .returned (.tuple #[.slice none 0 0,.int .i64 2])∧Below w.heap.size w w':=by
 refine (callsIn_wide (n:=6)).1 ?_
 have cD:CallsIn Fence.wide 5 Tryz.prog 103 #[.int .i64 n] w _:=callsIn_wide.2 hdep
 have hfD:Fence.wide.fn 103:=trivial
 refine callsIn_of_wp Tryz.func51 rfl trivial ?_ rfl
 simp only [Tryz.ntmps51,List.size_toArray,List.length_cons,List.length_nil,Nat.reduceAdd,Nat.reduceSub,Array.replicate_succ,Array.replicate_zero,List.push_toArray,List.append_toArray,List.nil_append,List.cons_append]
 gi_wp2_with (gi_at_call 103; refine cD.mono ?_; rintro e w' ⟨rfl,hb⟩)
 all_goals first
  | (go_ret2; exact ⟨rfl,hb⟩)
  | (exfalso; simp_all; omega)
theorem rev_row {W:World} {base:Nat} {v:Value} {ys:List Int} (h:W.ownsRow base 3 1 v ys.length (ys.map (Value.int .i64))) (hl:ys.length≤1000):
  Calls Tryz.prog 105 #[v] W fun e W3=>e = .returned (.tuple #[])∧W3.ownsRow base 3 1 v ys.length (ys.reverse.map (Value.int .i64))∧W.grownBy W3 v.ownBlock:=by
 obtain ⟨h0,⟨rfl,hz⟩ | ⟨g,cap,cur,rfl,hg,hc,h1,h2,h3,h4⟩⟩:=h
 ·have hy:ys=[]:=List.eq_nil_of_length_eq_zero hz
  subst hy
  exact (AnyG.slices_Reverse_int_empty Tryz.revA none 0 W).mono fun e W3 ⟨h1,h2⟩=>⟨h1,by rw [h2]; exact World.ownsRow_nil _ _ _ _,by rw [h2]; exact ⟨rfl,rfl,rfl,Nat.le_refl _,fun _ _ _=>rfl⟩⟩
 ·have hH:Holds (Value.int .i64) W g 0 ys.toArray:=holds_of_block_i hc (by rw [Nat.mul_one] at h4; exact h4)
  refine (AnyG.slices_Reverse_int Tryz.revA g 0 cap ys W hH (by omega)).mono fun e W3 ⟨h1',n,hW3⟩=>?_
  have hgr:grow (putRow encZ (Sort.ahead W n) g 0 ys.reverse.toArray) #[]=W3:=by rw [hW3]; exact grow_empty _
  refine ⟨h1',?_,?_⟩
  ·rw [←hgr]
   have:=ownsRow_sorted_i (os:=#[]) (n:=n) (ss:=ys) (ts:=ys.reverse) (by simp) hg hc h1 h2 (by rw [h3,Nat.mul_one])
   simpa using this
  ·rw [←hgr]
   exact grownBy_sorted_i _
theorem overZ_len:∀ (f n:Nat),(overZ f n).length≤f
 | 0,_=>Nat.le_refl _
 | f+1,n=>by
  unfold overZ
  split
  ·simp
  ·have:=overZ_len f (n / 2)
   simp; omega
theorem own_ne {W:World} {base e size k b:Nat} {v:Value} {xs:List Value} (h:W.ownsRow base e size v k xs) (hb:b<base):some b≠v.ownBlock:=by
 obtain ⟨h0,⟨rfl,_⟩ | ⟨g,cap,cur,rfl,h2,_⟩⟩:=h
 ·simp [Value.ownBlock]
 ·simp [Value.ownBlock]; omega
theorem own_ge {W:World} {base e size k j:Nat} {v:Value} {xs:List Value} (h:W.ownsRow base e size v k xs) (hj:v.ownBlock=some j):base≤j:=by
 obtain ⟨h0,⟨rfl,_⟩ | ⟨g,cap,cur,rfl,h2,_⟩⟩:=h
 ·simp [Value.ownBlock] at hj
 ·simp [Value.ownBlock] at hj; omega
theorem row_not {W:World} {base e size k D:Nat} {v:Value} {xs:List Value} {o:Option (List Deferred)} (h:W.ownsRow base e size v k xs) (hD:W.heap[D]? = some (.deferred o)):some D≠v.ownBlock:=by
 obtain ⟨h0,⟨rfl,_⟩ | ⟨g,cap,cur,rfl,h2,h3,_⟩⟩:=h
 ·simp [Value.ownBlock]
 ·intro e
  simp [Value.ownBlock] at e
  rw [e,h3] at hD
  simp at hD
theorem row_set {W:World} {base e size k B:Nat} {v u:Value} {xs:List Value} (h:W.ownsRow base e size v k xs) (hB:B<base):(W.setCell ⟨B,0,none⟩ u).ownsRow base e size v k xs:=by
 obtain ⟨h0,h | ⟨g,cap,cur,h1,h2,h3,h4⟩⟩:=h
 ·exact ⟨h0,.inl h⟩
 ·exact ⟨h0,.inr ⟨g,cap,cur,h1,h2,((grownBy_setCell' W B u).block g (Array.getElem?_eq_some_iff.1 h3).1 (by simp; omega)).trans h3,h4⟩⟩
set_option maxRecDepth 100000 in
set_option maxHeartbeats 2000000 in
theorem path_ok (n s:Nat) (d:Int) (w:World) (hd:d≠0) (hs:s<n) (hns:n+s≤1000)
  (hdep:Calls Tryz.prog 103 #[.int .i64 (n:Int)] w fun e w'=>e = .returned (.int .i64 d)∧Below w.heap.size w w'):
  Calls Tryz.prog 51 #[.int .i64 (n:Int),.int .i64 (s:Int)] w fun e w'=>∃ v,e = .returned (.tuple #[v,.int .i64 0])∧w'.ownsRow w.heap.size 3 1 v (overZ 10 (n+s)).length ((overZ 10 (n+s)).reverse.map encZ)∧Below w.heap.size w w':=by
 refine (callsIn_wide (n:=6)).1 ?_
 have cD:CallsIn Fence.wide 5 Tryz.prog 103 #[.int .i64 (n:Int)] w _:=callsIn_wide.2 hdep
 have hfD:Fence.wide.fn 103:=trivial
 have hfO:Fence.wide.fn 104:=trivial
 have hd2:(d == 0)=false:=by simpa using hd
 have hs2:¬ (s:Int)<0:=by omega
 have hs3:¬ (n:Int)≤(s:Int):=by omega
 refine callsIn_of_wp_marks Tryz.func51 rfl trivial ?_ rfl
 simp only [Tryz.ntmps51,List.size_toArray,List.length_cons,List.length_nil,Nat.reduceAdd,Nat.reduceSub,Array.replicate_succ,Array.replicate_zero,List.push_toArray,List.append_toArray,List.nil_append,List.cons_append]
 gi_wp2_with (first
  | (gi_at_call 103; refine cD.mono ?_; rintro e w' ⟨rfl,hb⟩)
  | (gi_at_call 104; refine (over_in Fence.wide 5 trivial rfl _ _).mono ?_; rintro e w' ⟨rfl,rfl⟩))
 obtain ⟨i0,hi,hz0,hz1,hz2⟩:=info_parts Tryz.info3
 have bO:=(Boxed.new w' 51 (.slice none 0 0)).alloc (.cells #[.int .i64 ((n:Int)+(s:Int))] 3)
 have bN:=Boxed.new (w'.alloc (.cells #[.slice none 0 0] 51)) 3 (.int .i64 ((n:Int)+(s:Int)))
 rw [World.size_alloc] at bN
 have hbz:=hb.size
 have hB0:Below w.heap.size w ((w'.alloc (.cells #[.slice none 0 0] 51)).alloc (.cells #[.int .i64 ((n:Int)+(s:Int))] 3)):=(hb.alloc hbz _).alloc (by simp; omega) _
 have hseq:=over1_seq Fence.wide 5 trivial rfl (by omega) (w'.heap.size+1) (n+s) hns _ (by rw [Int.natCast_add]; exact bN)
 have hlen:(overZ 10 (n+s)).length≤10:=overZ_len _ _
 refine wpIn_rangeFunc_box rfl (by omega) (gf:=155) (lb:=#[.pointer (some ⟨w'.heap.size+1,0,none⟩)]) rfl trivial (enters_of Tryz.func155 (by kernel_rfl) rfl) (Bx:=w'.heap.size+1) (by simp) hseq (fun _=>rfl)
  (fun pre W=>(∃ v,Boxed W w'.heap.size 51 v∧W.ownsRow (w'.heap.size+2) 3 1 v pre.length (pre.map (Value.int .i64))∧True)∧Below w.heap.size w W)
  (OwnFrom.and (Own.from (holdsRow_own (w'.heap.size+2) w'.heap.size 51 3 1 (fun pre:List Int=>pre.length) (fun pre=>pre.map (Value.int .i64)) (fun _ _=>True)) _) (ownFrom_below (Nat.le_refl _) (by simp; omega)))
  (fun pre A v hs=>by
   obtain ⟨⟨v0,h1,h2,h3⟩,h4⟩:=hs
   exact ⟨⟨v0,h1.kept (grownBy_setCell' A (w'.heap.size+1) v) (by simp),row_set h2 (by omega),h3⟩,h4.setCell (p:=⟨w'.heap.size+1,0,none⟩) (by simp; omega) _⟩)
  ⟨⟨_,bO,World.ownsRow_nil _ _ _ _,trivial⟩,hB0⟩
  (fun x=>{ tmps:=#[.int .i64 n,.int .i64 s,undef,undef,.slice none 0 0,.int .i64 0,.pointer (some ⟨w'.heap.size,0,none⟩),.int .i64 x,.int .i64 n,.int .i64 d,.bool false,.bool false,.int .i64 s,.bool (decide ((s:Int)<0)),.bool (decide ((s:Int)<0)),.bool (decide ((s:Int)<0)),.int .i64 s,.int .i64 n,.bool false,.bool (decide ((s:Int)<0)),.int .i64 n,.int .i64 s,.int .i64 (n+s),.func (.func 155) #[] #[.pointer (some ⟨w'.heap.size+1,0,none⟩)],.int .i64 x,undef,undef,undef,undef,undef,undef,undef],defers:=[] }) ?assign ?body ?done
 case assign=>
  intro l x W K hK
  gi_wp2
  exact hK
 case body=>
  rintro l pre x W ⟨⟨v,hv,hrow,_⟩,hB⟩ hlt hWz
  have hc:=hv.cell
  have hf:=hv.frozen
  rw [World.size_alloc,World.size_alloc] at hWz
  have b1:pre.length+1≤maxLen:=by
   have:maxLen=9223372036854775807:=by decide
   omega
  have b2:(pre.length+1)*8≤140737488355328:=by omega
  have hne:=own_ne hrow (b:=w'.heap.size) (by omega)
  have hne2:=own_ne hrow (b:=w'.heap.size+1) (by omega)
  gi_wp2_with (gi_at_builtin; refine wpListIn_append_own _ rfl _ _ 51 rfl (w'.heap.size+2) 3 i0 (.int .i64 0) 1 8 Tryz.underlying51 hi hz0 hz1 hz2 rfl (by decide) _ _ _ rfl (hrow.alloc _) ⟨W.heap.size,0,none⟩ 1 1 [.int .i64 x] rfl rfl (cell_one_new _ _ _) (by simp [Value.oneCell']) b1 b2 (by simp; omega) ?_; intro v' w1 hown' hgrow _; obtain ⟨g',cap',rfl⟩:=ownsRow_succ hown'; have hv1:=(hv.alloc _).kept hgrow hne; have hc1:=hv1.cell; have hf1:=hv1.frozen)
  have hsz:w'.heap.size≤W.heap.size:=by omega
  obtain ⟨_,hv2,_,hk2,hb2⟩:=hv.appended (by decide) (ownsRow_base_a hrow (by omega)) hsz (Nat.le_refl _) (ownsRow_base_a hown' (by omega)) hgrow
  refine ⟨hk2,?_,⟨_,hv2,by simpa using row_set hown' (by omega),trivial⟩,hB.trans (hb2.mono hbz)⟩
  have hlt3:w'.heap.size+1<W.heap.size:=by omega
  have hlt2:w'.heap.size+1<(W.alloc (.cells #[.int .i64 x] 3)).heap.size:=by simp; omega
  have e2:=hgrow.block (w'.heap.size+1) hlt2 hne2
  have e3:(W.alloc (.cells #[.int .i64 x] 3)).heap[w'.heap.size+1]? = W.heap[w'.heap.size+1]?:=Below.heap_alloc _ _ _ hlt3
  have e1:=(grownBy_setCell' w1 w'.heap.size (Value.slice (some ⟨g',0,none⟩) (pre.length+1) cap')).block (w'.heap.size+1) (by have:=hgrow.size; omega) (by simp)
  exact e1.trans (e2.trans e3)
 case done=>
  rintro D W rfl ⟨⟨v,hv,hrow,_⟩,hB⟩ hK
  have hc:=hv.cell
  have hfR:Fence.wide.fn 105:=trivial
  have hne:=own_ne hrow (b:=w'.heap.size) (by omega)
  have hsz2:((w'.alloc (.cells #[.slice none 0 0] 51)).alloc (.cells #[.int .i64 ((n:Int)+(s:Int))] 3)).heap.size=w'.heap.size+1+1:=by simp
  rw [hsz2] at hK
  have cR:=(callsIn_wide (n:=5)).2 (rev_row hrow (by omega))
  gi_wp2_with (gi_at_call 105; refine cR.mono ?_; rintro e W3 ⟨rfl,hr3,hg3⟩; have hv3:=hv.kept hg3 hne; have hc3:=hv3.cell)
  have hneD:some (w'.heap.size+1+1)≠v.ownBlock:=row_not hrow hK
  have hK3:=(hg3.block (w'.heap.size+1+1) (Array.getElem?_eq_some_iff.1 hK).1 hneD).trans hK
  have hB3:=hB.grown hg3 hB.size fun j hj=>by have:=own_ge hrow hj; omega
  refine ⟨by simp,.inl ⟨_,_,rfl,run_takeDeferred hK3,?_⟩⟩
  exact ⟨_,results_tmp2 rfl _ _ _,v,rfl,ownsRow_base_a (ownsRow_putObj hr3 _ hK3 rfl) (by omega),hB3.trans (belowK_b (w:=w) (Nat.le_refl _) W3 (w'.heap.size+1+1) _ _ (by omega) hK3 rfl rfl)⟩
end Go.Proofs.YthegnmanjdlmjaaGreatDoor
namespace Go.Proofs.YthegnmanjdlmjaaGreatDoor
open Go.Sh
theorem mixed:Tryz.prog.follows .mixedOrders=true:=by kernel_rfl
def math_bits_TrailingZeros64 (x0:Int) (h:H) (Q:Int→H→Prop):Prop:=
(bif (x0 == 0) then
Q 64 h
else
M.val (IntKind.wrap .u64 (0-x0)) fun z2=>
M.val (bAnd .u64 x0 z2) fun z3=>
M.val (IntKind.wrap .u64 (z3*285870213051353865)) fun z4=>
M.shr0 58 (
M.val (shr .u64 z4 58) fun z5=>
M.aidx 64 z5 fun j6=>
M.load h (Addr.add ⟨5,0,none⟩ (j6*1)) fun v7=>
M.int .u8 v7 fun n8=>
M.val (IntKind.wrap .i64 n8) fun z9=>
Q z9 h))
def math_bits_TrailingZeros64.L (F:type_of% math_bits_TrailingZeros64):LT
 | [.int .u64 x0]=>fun Q h=>F x0 h fun n12 h13=>Q (.int .i64 n12) h13
 | _=>fun _ _=>False
theorem math_bits_TrailingZeros64.geq:∀ l,OkL (evF Tryz.prog (envOf []) Tryz.f198 an0) l (math_bits_TrailingZeros64.L math_bits_TrailingZeros64 l):=by
 intro l; unfold math_bits_TrailingZeros64.L; split; exact .inr (by intros; kernel_rfl); exact .inl rfl
theorem math_bits_TrailingZeros64.good:FnGood Tryz.prog 198 (WL (math_bits_TrailingZeros64.L math_bits_TrailingZeros64)):=.ofL mixed .nil Tryz.func198 Tryz.call198 (math_bits_TrailingZeros64.geq)
def math_bits_TrailingZeros.g (F0:type_of% math_bits_TrailingZeros64) (x0:Int) (h:H) (Q:Int→H→Prop):Prop:=
F0 x0 h fun n2 h3=>
Q n2 h3
def math_bits_TrailingZeros:=math_bits_TrailingZeros.g math_bits_TrailingZeros64
def math_bits_TrailingZeros.L (F:type_of% math_bits_TrailingZeros):LT
 | [.int .u64 x0]=>fun Q h=>F x0 h fun n6 h7=>Q (.int .i64 n6) h7
 | _=>fun _ _=>False
theorem math_bits_TrailingZeros.geq (F0):∀ l,OkL (evF Tryz.prog (envOf [(198,WL (math_bits_TrailingZeros64.L F0))]) Tryz.f154 an0) l (math_bits_TrailingZeros.L (math_bits_TrailingZeros.g F0) l):=by
 intro l; unfold math_bits_TrailingZeros.L; split; exact .inr (by intros; kernel_rfl); exact .inl rfl
theorem math_bits_TrailingZeros.good:FnGood Tryz.prog 154 (WL (math_bits_TrailingZeros.L math_bits_TrailingZeros)):=.ofL mixed (.cons math_bits_TrailingZeros64.good .nil) Tryz.func154 Tryz.call154 (math_bits_TrailingZeros.geq math_bits_TrailingZeros64)
def tree_depth.g (F0:type_of% math_bits_TrailingZeros) (x0:Int) (h:H) (Q:Int→H→Prop):Prop:=
M.join (α:=Bool) (fun d5 h6=>
(bif d5 then
Q 0 h6
else
M.val (IntKind.wrap .u64 x0) fun z7=>
F0 z7 h6 fun n8 h9=>
Q n8 h9)) fun J2=>
(bif (decide (x0<2)) then
J2 true h
else
(bif (decide (x0 > 16)) then
J2 true h
else
M.val (IntKind.wrap .i64 (x0-1)) fun z3=>
M.val (bAnd .i64 x0 z3) fun z4=>
J2 (z4 != 0) h))
def tree_depth:=tree_depth.g math_bits_TrailingZeros
def tree_depth.L (F:type_of% tree_depth):LT
 | [.int .i64 x0]=>fun Q h=>F x0 h fun n12 h13=>Q (.int .i64 n12) h13
 | _=>fun _ _=>False
def tree_depth.ann:Ann:=⟨lookN [(1,[(15,.bool)])],lookN [],lookN []⟩
theorem tree_depth.geq (F0):∀ l,OkL (evF Tryz.prog (envOf [(154,WL (math_bits_TrailingZeros.L F0))]) Tryz.f103 tree_depth.ann) l (tree_depth.L (tree_depth.g F0) l):=by
 intro l; unfold tree_depth.L; split; exact .inr (by intros; kernel_rfl); exact .inl rfl
theorem tree_depth.good:FnGood Tryz.prog 103 (WL (tree_depth.L tree_depth)):=.ofL mixed (.cons math_bits_TrailingZeros.good .nil) Tryz.func103 Tryz.call103 (tree_depth.geq math_bits_TrailingZeros)
end Go.Proofs.YthegnmanjdlmjaaGreatDoor
namespace Go.Proofs.YthegnmanjdlmjaaGreatDoor
open Go.Sh Go.RowKit
def pathBad (d n s:Int):Prop:=d=0∨s<0∨n≤s
def pathV (n s:Int):List Int:=(overZ 10 (n+s).toNat).reverse
def tree_Path (x_n:Int) (x_slot:Int) (h:H) (Q:Option Addr→Nat→Nat→Int→H→Prop):Prop:=
 ∃ d,tree_depth x_n h (fun d' h'=>Value.int .i64 d'=Value.int .i64 d∧Keep h h')∧(pathBad d x_n x_slot→∀ h',Keep h h'→Q none 0 0 2 h') ∧
  (¬ pathBad d x_n x_slot→x_n+x_slot≤1000∧∀ a c h',Wd h h' [.sl 3 1 a (pathV x_n x_slot).length c ((pathV x_n x_slot).map (Value.int .i64))]→Q a (pathV x_n x_slot).length c 0 h')
def tree_Path.L (F:Int→Int→H→(Option Addr→Nat→Nat→Int→H→Prop)→Prop):List Value→(Value→H→Prop)→H→Prop
 | [.int .i64 n,.int .i64 s]=>fun Q h=>F n s h fun a l c e h2=>Q (.tuple #[.slice a l c,.int .i64 e]) h2
 | _=>fun _ _=>False
def tree_Path.W:W:=fun args=>tree_Path.L tree_Path args.toList
theorem tree_Path.good:FnGood Tryz.prog 51 tree_Path.W:=by
 refine FnGood.known Tryz.call51 (fun args Q Q' m hq hh=>?_) fun args Q w hh=>?_
 ·revert hh
  show tree_Path.L tree_Path args.toList Q m→tree_Path.L tree_Path args.toList Q' m
  generalize args.toList=l
  unfold tree_Path.L
  split
  ·exact fun ⟨d,e1,e2,e3⟩=>⟨d,e1,fun b h' k=>hq _ _ (e2 b h' k),fun b=>⟨(e3 b).1,fun a c h' w=>hq _ _ ((e3 b).2 a c h' w)⟩⟩
  ·exact id
 ·have key:∀ l,tree_Path.L tree_Path l Q (hp w)→∃ n s,l=[.int .i64 n,.int .i64 s]∧tree_Path n s (hp w) fun a l c e h2=>Q (.tuple #[.slice a l c,.int .i64 e]) h2:=by
   intro l
   unfold tree_Path.L
   split
   ·exact fun h=>⟨_,_,rfl,h⟩
   ·exact fun h=>h.elim
  obtain ⟨n,s,hl,d,hd,hbad,hok⟩:=key args.toList hh
  have ha:args = #[.int .i64 n,.int .i64 s]:=by rw [←Array.toList_inj]; exact hl
  have cd:Calls Tryz.prog 103 #[.int .i64 n] w fun e w'=>e = .returned (.int .i64 d)∧Below w.heap.size w w':=by
   have c:=tree_depth.good.calls Tryz.call103 (args:=#[.int .i64 n]) (w:=w) (Q:=fun v h2=>v = .int .i64 d∧Keep (hp w) h2) ?_
   ·refine c.mono fun e w' ⟨v,h1,⟨h2,h3⟩,h4⟩=>⟨by rw [h1,h2],?_⟩
    exact ⟨h4.os,h4.tape,h4.output,h4.size,fun x hx=>(h3 x _ (Array.getElem?_eq_getElem hx)).trans (Array.getElem?_eq_getElem hx).symm⟩
   ·exact hd
  rw [ha]
  by_cases hb:pathBad d n s
  ·refine (path_bad n s d w hb cd).mono fun e w' ⟨h1,h2⟩=>?_
   exact ⟨_,h1,hbad hb _ (keep_of_below h2),stays_of_below h2⟩
  ·obtain ⟨h1,kk⟩:=hok hb
   simp only [pathBad,not_or] at hb
   obtain ⟨n,rfl⟩:=Int.eq_ofNat_of_zero_le (show 0≤n by omega)
   obtain ⟨s,rfl⟩:=Int.eq_ofNat_of_zero_le (show 0≤s by omega)
   have e:((n:Int)+(s:Int)).toNat=n+s:=by omega
   have hv:pathV n s=(overZ 10 (n+s)).reverse:=by rw [pathV,e]
   rw [hv,List.length_reverse] at kk
   refine (path_ok n s d w hb.1 (by omega) (by omega) cd).mono fun e w' hh=>?_
   obtain ⟨v,rfl,hr,hbw⟩:=hh
   obtain ⟨a,c',rfl,wd⟩:=wd_of_row hr hbw
   exact ⟨_,rfl,kk a c' _ wd,stays_of_below hbw⟩
end Go.Proofs.YthegnmanjdlmjaaGreatDoor

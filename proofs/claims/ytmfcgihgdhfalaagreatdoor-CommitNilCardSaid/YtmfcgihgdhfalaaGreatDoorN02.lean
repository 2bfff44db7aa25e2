/- A map's keys in order, by the library's contracts. A map's keys in order: the form is what the code does. A range over a function that writes its own captured variable: one law. tree.over's iterator. tree.Path, walked. The shallow forms of the functions of this seat, printed by a program of mine, each checked by the kernel against the given code. tree.Path: the form is what the code does. strings.Builder's copyCheck, by the library's laws. The shallow forms of the functions of this seat, printed by a program of mine, each checked by the kernel against the given code. -/
import Derived.Test.YtmfcgihgdhfalaaGreatDoorN01
import Derived.RangeFuncBound
import Derived.OwnWalkIn
import Derived.LoopNIn
import Derived.RangeFuncBox
import Derived.LoopIn
import Derived.Maps.AppendAt
import Derived.Test.YtmfcgihgdhfalaaGreatDoorProg
import Derived.Shelf.Strings.Builder1
open ByteArray(empty)
open Go.IntKind(wrap)
set_option linter.unusedSimpArgs false
set_option linter.unusedVariables false
namespace Go.Proofs.YtmfcgihgdhfalaaGreatDoor
open Go.Sh Go.RowKit
def ou(l:List Int):List Int:=l.mergeSort λx y=>decide (x≤y)
def qH(l:List MapEntry)(c:Nat):Prop:=(∀x∈l,x.born<c)∧(l.map (·.born)).Nodup
def gB(x_m:Option Nat)(h:H)(Q:Option Addr->Nat->Nat->H->Prop):Prop:=
 ∃b es c,x_m=some b∧h b=some (.map es c)∧qH es.toList c∧∃ks:List Int,es.toList.map (·.key)=ks.map (Value.int .i64)∧(∀k∈ks,-9223372036854775808≤k∧k≤9223372036854775807)∧ks.Nodup∧es.size≤1000000 ∧
  ∀a c' h',Wd h h' [.sl 3 1 a es.size c' ((ou ks).map (Value.int .i64))]->Q a es.size c' h'
def gB.L(F:Option Nat->H->(Option Addr->Nat->Nat->H->Prop)->Prop):List Value->(Value->H->Prop)->H->Prop
 | [.map m]=>λQ h=>F m h λa l c h2=>Q (.slice a l c) h2
 | _=>λ_ _=>False
def gB.W:W:=λargs=>gB.L gB args.toList
end Go.Proofs.YtmfcgihgdhfalaaGreatDoor
namespace Go.Proofs
open Go.RowKit Go.Maps Go.Sort Go.Shelf
theorem Tryz.PA(m:Nat):AnyZI.SortsIn Tryz.prog Tryz.zH Fence.wide m:=
 ⟨λblk off cap ss W hH hblk hsz=>callsIn_wide.2 (AnyM.slices_Sort_int Tryz.O4 blk off cap ss W hH hblk hsz),
  λp cap W=>callsIn_wide.2 (AnyM.slices_Sort_int_none Tryz.O4 p cap W)⟩
set_option maxHeartbeats 1000000 in
theorem Tryz.OH{H:Type}(b nn:Nat)(D0:DataW H)(R:Value->Option (DataW H×List MemPlace))(w:World)(hown:w.ownsMap Tryz.prog 3 R b nn D0)(hmax:Maps.size D0≤maxLen)(hbytes:Maps.size D0*8≤140737488355328):
  Calls Tryz.prog 186 #[.map (some b)] w λe w'=>∃(v:Value) (ss:List Int),e = .returned v∧ss.Perm (intKeys D0) ∧
   w'.ownsRow w.heap.size 3 1 v ss.length ((ss.mergeSort (λx y=>decide (x≤y))).map encZ)∧(v = .slice none 0 0↔ss=[])∧Below w.heap.size w w':=by
 refine(callsIn_wide (n:=6)).1 ?_;have hbl:=hown.lt;have hseq:SeqGives Fence.wide 2 Tryz.prog 283 #[.pointer (some ⟨w.heap.size,0,none⟩)] encZ (λss=>ss.Perm (intKeys D0)) (Maps.size D0) (w.alloc (.cells #[.map (some b)] 144)):=
  AnyZI.keys_gives (ρ:=Tryz.Dh) { Tryz.Pa with } Fence.wide _ trivial rfl (by omega) w.heap.size b nn D0 _ (by simp) (by simp) (by
   obtain⟨es,clock,hb,Ft,hs,hD⟩:=hown
   exact⟨es,clock,(Below.heap_alloc _ _ b hbl).trans hb,Ft,hs,hD⟩)
 have cK:∀mb W,CallsIn Fence.wide 5 Tryz.prog 250 #[.map mb] W λe w'=>e = .returned (.func (.func 283) #[] #[.pointer (some ⟨W.heap.size,0,none⟩)])∧w'=W.alloc (.cells #[.map mb] 144):=λmb W=>AnyZI.keys_in Tryz.Pa Fence.wide 5 trivial rfl mb W;have cS:=AnyZI.sorted_in Tryz.Ol Fence.wide 5 trivial trivial trivial trivial rfl (by omega) (Tryz.PA _) (enters_of Tryz.func282 (by kernel_rfl) rfl) 283 #[.pointer (some ⟨w.heap.size,0,none⟩)] trivial (enters_of Tryz.func283 (by kernel_rfl) rfl) _ _ hmax hbytes _ hseq;change CallsIn _ _ Tryz.prog 249 _ _ _ at cS;have hfK:Fence.wide.fn 250:=trivial;have hfS:Fence.wide.fn 249:=trivial;refine callsIn_of_wp Tryz.func186 rfl trivial ?_ rfl;simp only[Tryz.ntmps186,List.size_toArray,List.length_cons,List.length_nil,Nat.reduceAdd,Nat.reduceSub,Array.replicate_succ,Array.replicate_zero,List.push_toArray,List.append_toArray,List.nil_append,List.cons_append]
 gi_wp2_with (first
  | (gi_at_call 250;refine(cK _ _).mono ?_;rintro e w' ⟨rfl,rfl⟩)
  | (gi_at_call 249;refine cS.mono ?_;rintro e w' ⟨v,ss,rfl,hS,hrow,hnil,hb⟩))
 go_ret
 exact⟨v,ss,rfl,hS,ownsRow_base_a hrow (by simp),hnil,((Below.refl _ w).alloc (Nat.le_refl _) _).trans (hb.mono (by simp))⟩
end Go.Proofs
namespace Go.Proofs.YtmfcgihgdhfalaaGreatDoor
open Go.Sh Go.RowKit Go.Maps
open Go.WideElems (Fit rd rg)
open Go.MapKept (stamped_iff)
open Go.WideShapes (sorted_perm)
theorem C7{w w':World}{e:TypeId}{v:Value}{n:Nat}{xs:List Value}(hr:w'.ownsRow w.heap.size e 1 v n xs)(hb:Below w.heap.size w w'):∃a c,v = .slice a n c∧Wd (hp w) (hp w') [.sl e 1 a n c xs]:=by
 obtain⟨hl,⟨rfl,rfl⟩|⟨g,cap,cur,rfl,hg,hc,h1,h2,h3,h4⟩⟩:=hr
 ·refine⟨none,0,rfl,?_⟩;have:xs=[]:=List.eq_nil_of_length_eq_zero (by omega);rw[this];exact((Wd.start (hp w)).keeps (oI hb)).jt e 1
 ·refine⟨_,cap,rfl,Wd.one (F:=λx=>x=g) (oI hb) (.inr ⟨g,cur.toList.drop n,rfl,λx=>Iff.rfl,?_,hl,?_⟩) λx hx=>?_⟩
  ·have:(xs++cur.toList.drop n).toArray=cur:=by
    rw[←h4,Nat.mul_one,List.take_append_drop]
   rw[this];exact .of hc
  ·rw[List.length_append,hl,List.length_drop,Array.length_toList,h3];omega
  ·subst hx;show w.heap[x]? = none;exact Array.getElem?_eq_none hg
theorem EZ(f:MapEntry->Int):∀(l:List MapEntry) (ks:List Int),l.map (·.key)=ks.map (Value.int .i64)->(∀x∈l,Value.int .i64 (f x)=x.key)->l.map f=ks
 | [],[],_,_=>rfl
 | [],_ :: _,h,_=>by simp at h
 | _ :: _,[],h,_=>by simp at h
 | x::l,k::ks,h,hf=>by
  rw[List.map_cons,List.map_cons,List.cons.injEq]at h;rw[List.map_cons,EZ f l ks h.2 λy hy=>hf y (by simp[hy])];have:=hf x (by simp);rw[h.1]at this;simp only[Value.int.injEq,true_and]at this;rw[this]
theorem gB.good:ai Tryz.prog 186 gB.W:=by
 refine ai.known Tryz.call186 (λargs Q Q' m hq hh=>?_) λargs Q w hh=>?_
 ·revert hh
  show gB.L gB args.toList Q m->gB.L gB args.toList Q' m;generalize args.toList=l;unfold gB.L;split
  ·exact λ⟨b,es,c,e1,e2,e3,ks,e4,e5,e6,e7,e8⟩=>⟨b,es,c,e1,e2,e3,ks,e4,e5,e6,e7,λa c' h' w=>hq _ _ (e8 a c' h' w)⟩
  ·exact id
 ·have key:∀l,gB.L gB l Q (hp w)->∃m,l=[.map m]∧gB m (hp w) λa l c h2=>Q (.slice a l c) h2:=by
   intro l;unfold gB.L;split
   ·exact λh=>⟨_,rfl,h⟩
   ·exact λh=>h.elim
  obtain⟨m,hl,b,es,c,rfl,hb,⟨ha1,ha2⟩,ks,hk,hr,hn,hs,kk⟩:=key args.toList hh;have ha:args = #[.map (some b)]:=by rw[←Array.toList_inj];exact hl
  have hu:=Tryz.underlying3;have hmx:maxLen=9223372036854775807:=by decide
  have hkl:es.size=ks.length:=by rw[←Array.length_toList,←List.length_map (f:=(·.key)),hk,List.length_map]
  have hwf:∀x∈ks,(Lit.int .i64 x).wf=true:=λx hx=>by
   have:=hr x hx;have h1:IntKind.i64.min = -9223372036854775808:=by decide
   have h2:IntKind.i64.max=9223372036854775807:=by decide
   simp[Lit.wf,IntKind.wrap_i64];omega
  let R:Value->Option (DataW Unit×List MemPlace):=λ_=>some (.lit (.bool true),[])
  have hrd:∀x∈es.toList,∃z,z∈ks∧x.key = .int .i64 z∧rd Tryz.prog 3 R x=some (.int .i64 z,.lit (.bool true)):=λx hx=>by
   have:x.key∈es.toList.map (·.key):=List.mem_map.2 ⟨x,hx,rfl⟩;rw[hk]at this;obtain⟨z,hz,e⟩:=List.mem_map.1 this;refine⟨z,hz,e.symm,?_⟩;unfold rd;rw[←e,keyOf_int_mk hu (hwf z hz)];rfl
  have hown:w.ownsMap Tryz.prog 3 R b es.size (.map ((es.toList.map (rg Tryz.prog 3 R)).foldr DataW.insert [])):=by
   refine⟨es,c,hb,⟨by rw[hmx];omega,(stamped_iff _ _).2 ⟨ha1,ha2,?_⟩,λx hx=>?_⟩,Nat.le_refl _,rfl⟩
   ·have h2:(ks.map (Value.int .i64)).Nodup:=by
     refine List.Pairwise.map _ (λa b h e=>h ?_) hn;simpa using e
    rw[←hk]at h2;exact List.pairwise_map.1 h2
   ·obtain⟨z,_,_,h⟩:=hrd x hx;exact⟨_,h⟩
  have hsz:Maps.size (H:=Unit) (.map ((es.toList.map (rg Tryz.prog 3 R)).foldr DataW.insert []))=es.size:=by
   rw[size_eq,length_sorted,List.length_map,Array.length_toList]
  have hint:(intKeys (H:=Unit) (.map ((es.toList.map (rg Tryz.prog 3 R)).foldr DataW.insert []))).Perm ks:=by
   show(((es.toList.map (rg Tryz.prog 3 R)).foldr DataW.insert []).map λp=>Go.intOf p.1).Perm ks;refine((sorted_perm _).map _).trans ?_;rw[List.map_map];have:=EZ (λx=>Go.intOf (rg Tryz.prog 3 R x).1) es.toList ks hk λx hx=>by
    obtain⟨z,_,e1,e2⟩:=hrd x hx;rw[rg,e2,e1];rfl
   simp only[Function.comp_def];rw[this]
  rw[ha];have cc:=Go.Proofs.Tryz.OH b es.size _ R w hown (by rw[hsz,hmx];omega) (by rw[hsz];omega);refine cc.mono λe w' hh=>?_;obtain⟨v,ss,rfl,hp,hrow,_,hbw⟩:=hh;have hp2:ss.Perm ks:=hp.trans hint;have hl2:ss.length=es.size:=by rw[hp2.length_eq,hkl]
  have he:(ss.mergeSort λx y=>decide (x≤y))=ou ks:=mergeSort_of_perm_i hp2;rw[he,hl2]at hrow;obtain⟨a,c',rfl,wd⟩:=C7 hrow hbw;exact⟨_,rfl,kk a c' _ wd,om hbw⟩
end Go.Proofs.YtmfcgihgdhfalaaGreatDoor
namespace Go.Proofs.YtmfcgihgdhfalaaGreatDoor
open Go Go.RowKit Go.Shelf
variable {F:Fence}{n:Nat}{P:Program}
def ME{α:Type}(F:Fence)(n:Nat)(P:Program)(g:Nat)(lb:Array Value)(Bx:Nat)(encs:α -> Array Value)(xs:List α)(w:World):Prop:=
 ∀(l:Nat) (J:List α -> World->Prop) (W:World),Below w.heap.size w W->(∀s A v,J s A->J s (A.setCell ⟨Bx,0,none⟩ v)) ->
  (∀pre x W1,J pre W1->pre.length<xs.length->YieldAt F (n-1) P l (encs x) W1 λe W'=>e = .returned (.bool true)∧J (pre++[x]) W'∧W'.heap[Bx]? = W1.heap[Bx]?) ->
  J [] W ->
  CallsIn F n P g (#[.func (.yield l) #[] #[]]++lb) W λe W'=>(∃v,e = .returned v)∧J xs W'
def NJ{α:Type}(Bx:Nat)(I:List α -> World->Prop)(xs:List α)(W:World):Exit->Act->World->Prop
 | .normal,_,W'=>KeepsOthers W W'∧W'.heap[Bx]? = W.heap[Bx]? ∧ I xs W'
 | _,_,_=>False
theorem wg{α:Type}{g:Operand}{ps:Array Tmp}{assign body:Code}{Q:Exit->Act->World->Prop}{a:Act}{w:World}
  (hro:F.round=none) (h1:1≤n) {gf:Nat} {lb:Array Value} (hg:a.eval g = .func (.func gf) #[] lb) (hFg:F.fn gf) (eg:∀args w,(callFunc gf args).run P w = .ok (.enter gf args) w)
  {Bx:Nat} (hBx:Bx<w.heap.size) {encs:α -> Array Value} {xs:List α} (hseq:ME F (n-1) P gf lb Bx encs xs w) (hps:∀x,(encs x).size=ps.size)
  (I:List α -> World->Prop) (hI:OwnFrom w.heap.size I) (hIb:∀s A v,I s A->I s (A.setCell ⟨Bx,0,none⟩ v)) (h0:I [] w) (a₁:α -> Act)
  (hassign:∀(l:Nat) (x:α) (W:World) (K:Act->World->Prop),K (a₁ x) W ->
   assign.wpIn (F.inRound l) (n-1-1) P (Exit.then K (λ_ _ _=>False)) { tmps:=(ps.zip (encs x)).foldl (λt (p,v)=>t.setIfInBounds p v) a.tmps,defers:=[] } W)
  (hbody:∀(l:Nat) (pre:List α) (x:α) (W:World),I pre W->pre.length<xs.length->w.heap.size<W.heap.size->body.wpIn (F.inRound l) (n-1-1) P (NJ Bx I (pre++[x]) W) (a₁ x) W)
  (hdone:∀(D:Nat) (W:World),D=w.heap.size->I xs W->W.heap[D]? = some (.deferred (some []))->Q .normal { a with defers:={ target:=.collected D,args:=#[] } :: a.defers } W):
  (Code.rangeFunc g ps assign body).wpIn F n P Q a w:=by
 refine wpIn_rangeFunc ?_;intro fn hfn;rw[hro];obtain⟨rec,hrec⟩:∃rec:LoopState->Option Code->Loop,rec=λst pe=>{ state:=st,pending:=pe,fn,tmps:=a.tmps,params:=ps,assign,body,defers:=w.heap.size }:=⟨_,rfl⟩;obtain⟨W1,hW1⟩:∃W1,(w.alloc (.deferred (some []))).alloc (.loop (rec .ready none))=W1:=⟨_,rfl⟩;have hL1:W1.heap[w.heap.size+1]? = some (.loop (rec .ready none)):=by
  rw[←hW1];have:=World.alloc_heap_new (w.alloc (.deferred (some []))) (.loop (rec .ready none));rwa [World.size_alloc]at this
 have hK1:W1.heap[w.heap.size]? = some (.deferred (some [])):=by
  rw[←hW1];exact(Below.heap_alloc _ _ _ (by simp)).trans (World.alloc_heap_new w _)
 have hI1:I [] W1:=by rw[←hW1];exact hI.alloc _ (hI.alloc _ h0)
 have hb1:Below w.heap.size w W1:=by
  rw[←hW1];exact((Below.refl _ w).alloc (Nat.le_refl _) _).alloc (by simp) _
 refine⟨w.heap.size+1,[{ target:=.collected w.heap.size,args:=#[] }],W1,{ target:=.fn (.func gf) lb,args:=#[.func (.yield (w.heap.size+1)) #[] #[]] },W1,gf,
  #[.func (.yield (w.heap.size+1)) #[] #[]]++lb,W1,?_,?_,?_,?_,λ_=>h1,?_⟩
 ·rw[←hW1,hrec];exact run_enterLoop_outer _ _ _ _ _
 ·simp only[resolve,hg];simp[go_sem]
 ·intro f' hf';simp[Target.leads]at hf';subst hf';exact hFg
 ·simp[invoke,go_sem,eg]
 ·refine(hseq (w.heap.size+1)
   (λpre W=>I pre W∧W.heap[w.heap.size+1]? = some (.loop (rec .ready none))∧W.heap[w.heap.size]? = some (.deferred (some [])))
   W1 hb1
   (λs A v hs=>⟨hIb s A v hs.1,(KeepsOthers.setCell A ⟨Bx,0,none⟩ v).same _ _ hs.2.1 rfl,(KeepsOthers.setCell A ⟨Bx,0,none⟩ v).same _ _ hs.2.2 rfl⟩)
   ?_ ⟨hI1,hL1,hK1⟩).mono ?_
  ·rintro pre x W ⟨hi,hl,hk⟩ hlen;have hlt:w.heap.size+1<W.heap.size:=(Array.getElem?_eq_some_iff.1 hl).1;have hy:=run_yield (P:=P) (args:=encs x) hl (by rw[hrec];exact hps x);rw[hrec]at hy;refine⟨fn,_,assign,body,hy,roundIn_of_wpIn hfn (hassign _ x W _ ⟨_,run_beginRound hl (by rw[hrec]),?_⟩)⟩;have hl2:(W.putObj (w.heap.size+1) (.loop { rec .ready none with state:=.busy })).heap[w.heap.size+1]? = some (.loop { rec .ready none with state:=.busy }):=World.putObj_heap_same hlt
   have hk2:(W.putObj (w.heap.size+1) (.loop { rec .ready none with state:=.busy })).heap[w.heap.size]? = some (.deferred (some [])):=(World.putObj_heap_other (by omega)).trans hk
   have hx2:(W.putObj (w.heap.size+1) (.loop { rec .ready none with state:=.busy })).heap[Bx]? = W.heap[Bx]?:=World.putObj_heap_other (by omega)
   have hz2:w.heap.size<(W.putObj (w.heap.size+1) (.loop { rec .ready none with state:=.busy })).heap.size:=by
    have:=(Array.getElem?_eq_some_iff.1 hl2).1;omega
   refine wpIn_mono (hbody _ pre x _ (hI.putObj _ hi (by omega) hl rfl) hlen hz2) ?_;rintro e a3 W3 hp;cases e with
   | normal=>
    obtain⟨hk3,hx3,hi3⟩:=hp;have hl3:=hk3.same _ _ hl2 rfl;have hr:=run_endRound (P:=P) none hl3;have hl3':=hl3;rw[hrec]at hr hl3;refine⟨_,_,hr,rfl,⟨hI.putObj _ hi3 (by omega) hl3' rfl,?_,(World.putObj_heap_other (by omega)).trans (hk3.same _ _ hk2 rfl)⟩,?_⟩
    ·rw[hrec];exact World.putObj_heap_same (Array.getElem?_eq_some_iff.1 hl3).1
    ·exact(World.putObj_heap_other (by omega)).trans (hx3.trans hx2)
   | ret=>exact hp.elim
   | exit id=>exact hp.elim
   | goto t=>exact hp.elim
   | panic ch=>exact hp.elim
   | outgrown=>exact hp.elim
  ·rintro e W2 ⟨⟨v,rfl⟩,hi,hl,hk⟩;exact⟨none,_,by have:=run_endLoop (P:=P) hl (by rw[hrec];simp);rw[hrec]at this;exact this,hdone _ _ rfl (hI.putObj _ hi (by omega) hl rfl) ((World.putObj_heap_other (by omega)).trans hk)⟩
attribute [local go_sem] Oper.semAt_some
def sZ:Nat->Nat->List Int
 | 0,_=>[]
 | f+1,n=>if n/2=0 then [] else(n/2:Nat)::sZ f (n/2)
def FD(f m:Nat):List Int:=if m=0 then [] else(m:Int)::sZ f m
theorem KM{f m:Nat}(h:m≠0):FD (f+1) m=(m:Int)::FD f (m/2):=by
 rw[FD,if_neg h];rfl
def Ql(B:Nat)(W:World):Nat:=match W.cell? ⟨B,0,none⟩with|some (.int _ k)=>k.toNat|_=>0
theorem Jq{B:Nat}{W:World}{t:TypeId}{k:Int}(h:Boxed W B t (.int .i64 k)):Ql B W=k.toNat:=by rw[Ql,h.cell]
set_option maxRecDepth 100000 in
set_option maxHeartbeats 1000000 in
theorem JM(F:Fence)(n:Nat)(hf:F.fn 280)(hro:F.round=none)(hn:1≤n)(Bx k:Nat)(hk:k≤1000)(w:World)(hb:Boxed w Bx 3 (.int .i64 (k:Int))):
  ME F n Tryz.prog 280 #[.pointer (some ⟨Bx,0,none⟩)] Bx (λx:Int=>#[Value.int .i64 x]) (sZ 10 k) w:=by
 intro l J W hW hJ hY h0;have hb1:Boxed W Bx 3 (.int .i64 (k:Int)):=(hW.block Bx hb.lt).trans hb;have hc1:=hb1.cell;have hf1:=hb1.frozen;refine callsIn_of_wp Tryz.func280 rfl hf ?_ hro;simp only[Tryz.ntmps280,List.size_toArray,List.length_cons,List.length_nil,Nat.reduceAdd,Nat.reduceSub,Array.replicate_succ,Array.replicate_zero,List.push_toArray,List.append_toArray,List.nil_append,List.cons_append]
 gi_wp2
 gi_loopw [] (λwr=>∃(pre:List Int) (m f:Nat),Boxed wr Bx 3 (.int .i64 (m:Int))∧sZ 10 k=pre++FD f m∧m<2^f∧m≤1000∧J pre wr)
  (λwr=>Ql Bx wr)
 case atStart=>
  refine⟨[],k/2,9,?_,rfl,by omega,by omega,hJ _ _ _ h0⟩;have e:((k/2:Nat):Int)=(k:Int)/2:=by omega
  rw[e];exact hb1.set _
 case round=>
  obtain⟨pre,m,f,hbx,hov,hm,hm2,hJs⟩:=hrel;have hc:=hbx.cell;have hfz:=hbx.frozen;by_cases h0:m=0
  ·subst h0
   gi_wp2
   go_end0
   refine⟨⟨_,rfl⟩,?_⟩;have e:sZ 10 k=pre:=by rw[hov];simp[FD]
   rw[e];exact hJs
  ·have hpos:(0:Int)<(m:Int):=by omega
   obtain⟨f,rfl⟩:∃q,f=q+1:=⟨f-1,by cases f with|zero=>simp at hm;omega|succ f=>rfl⟩
   rw[KM h0]at hov;obtain⟨fn,tmps,assign,body,hy,hR⟩:=hY pre (m:Int) wr hJs (by rw[hov];simp)
   gi_wp2
   refine hR.mono ?_;rintro e W3 ⟨rfl,hJ3,hk3⟩;have hbx3:Boxed W3 Bx 3 (.int .i64 (m:Int)):=hk3.trans hbx;have hc3:=hbx3.cell;have hf3:=hbx3.frozen;have e2:((m/2:Nat):Int)=(m:Int)/2:=by omega
   have hb4:=hbx3.set (.int .i64 ((m:Int)/2))
   gi_wp2
   go_roundw
   case rel=>exact⟨pre++[(m:Int)],m/2,f,by rw[e2];exact hb4,by rw[hov];simp,by rw[Nat.pow_succ]at hm;omega,by omega,hJ _ _ _ hJ3⟩
   case measure=>rw[Jq hb4,Jq hbx];omega
end Go.Proofs.YtmfcgihgdhfalaaGreatDoor
namespace Go.Proofs.YtmfcgihgdhfalaaGreatDoor
open Go Go.RowKit Go.Shelf Go.Maps Go.Sort
attribute [local go_sem] Oper.semAt_some
set_option maxHeartbeats 1000000 in
theorem OT(F:Fence)(n:Nat)(hf:F.fn 247)(hro:F.round=none)(x:Int)(w:World):
  CallsIn F n Tryz.prog 247 #[.int .i64 x] w λe w'=>e = .returned (.func (.func 280) #[] #[.pointer (some ⟨w.heap.size,0,none⟩)])∧w'=w.alloc (.cells #[.int .i64 x] 3):=by
 refine callsIn_of_wp Tryz.func247 rfl hf ?_ hro;simp only[Tryz.ntmps247,List.size_toArray,List.length_cons,List.length_nil,Nat.reduceAdd,Nat.reduceSub,Array.replicate_succ,Array.replicate_zero,List.push_toArray,List.append_toArray,List.nil_append,List.cons_append]
 gi_wp2
 go_ret
 exact⟨rfl,rfl⟩
theorem Tryz.Ri:(Tryz.prog.info? 3).map (λi=>(i.zero,i.size,i.bytes))=some (some (.int .i64 0),1,8):=by kernel_rfl
set_option maxRecDepth 100000 in
set_option maxHeartbeats 2000000 in
theorem LD(n s d:Int)(w:World)(hbad:d=0∨s<0∨n≤s)
  (hdep:Calls Tryz.prog 209 #[.int .i64 n] w λe w'=>e = .returned (.int .i64 d)∧Below w.heap.size w w'):
  Calls Tryz.prog 185 #[.int .i64 n,.int .i64 s] w λe w'=>e = .returned (.tuple #[.slice none 0 0,.int .i64 2])∧Below w.heap.size w w':=by
 refine(callsIn_wide (n:=6)).1 ?_;have cD:CallsIn Fence.wide 5 Tryz.prog 209 #[.int .i64 n] w _:=callsIn_wide.2 hdep;have hfD:Fence.wide.fn 209:=trivial;refine callsIn_of_wp Tryz.func185 rfl trivial ?_ rfl;simp only[Tryz.ntmps185,List.size_toArray,List.length_cons,List.length_nil,Nat.reduceAdd,Nat.reduceSub,Array.replicate_succ,Array.replicate_zero,List.push_toArray,List.append_toArray,List.nil_append,List.cons_append]
 gi_wp2_with (gi_at_call 209;refine cD.mono ?_;rintro e w' ⟨rfl,hb⟩)
 all_goals first
  | (go_ret2;exact⟨rfl,hb⟩)
  | (exfalso;simp_all;omega)
theorem N5{W:World}{base:Nat}{v:Value}{ys:List Int}(h:W.ownsRow base 3 1 v ys.length (ys.map (Value.int .i64)))(hl:ys.length≤1000):
  Calls Tryz.prog 248 #[v] W λe W3=>e = .returned (.tuple #[])∧W3.ownsRow base 3 1 v ys.length (ys.reverse.map (Value.int .i64))∧W.grownBy W3 v.ownBlock:=by
 obtain⟨h0,⟨rfl,hz⟩|⟨g,cap,cur,rfl,hg,hc,h1,h2,h3,h4⟩⟩:=h
 ·have hy:ys=[]:=List.eq_nil_of_length_eq_zero hz;subst hy;exact(AnyG.slices_Reverse_int_empty Tryz.Q8 none 0 W).mono λe W3 ⟨h1,h2⟩=>⟨h1,by rw[h2];exact World.ownsRow_nil _ _ _ _,by rw[h2];exact⟨rfl,rfl,rfl,Nat.le_refl _,λ_ _ _=>rfl⟩⟩
 ·have hH:Holds (Value.int .i64) W g 0 ys.toArray:=holds_of_block_i hc (by rw[Nat.mul_one]at h4;exact h4);refine(AnyG.slices_Reverse_int Tryz.Q8 g 0 cap ys W hH (by omega)).mono λe W3 ⟨h1',n,hW3⟩=>?_;have hgr:grow (putRow encZ (Sort.ahead W n) g 0 ys.reverse.toArray) #[]=W3:=by rw[hW3];exact grow_empty _
  refine⟨h1',?_,?_⟩
  ·rw[←hgr];have:=ownsRow_sorted_i (os:=#[]) (n:=n) (ss:=ys) (ts:=ys.reverse) (by simp) hg hc h1 h2 (by rw[h3,Nat.mul_one]);simpa using this
  ·rw[←hgr];exact grownBy_sorted_i _
theorem C1:∀(f n:Nat),(sZ f n).length≤f
 | 0,_=>Nat.le_refl _
 | f+1,n=>by
  unfold sZ;split
  ·simp
  ·have:=C1 f (n/2);simp;omega
theorem Hg{W:World}{base e size k b:Nat}{v:Value}{xs:List Value}(h:W.ownsRow base e size v k xs)(hb:b<base):some b≠v.ownBlock:=by
 obtain⟨h0,⟨rfl,_⟩|⟨g,cap,cur,rfl,h2,_⟩⟩:=h
 ·simp[Value.ownBlock]
 ·simp[Value.ownBlock];omega
theorem Qn{W:World}{base e size k j:Nat}{v:Value}{xs:List Value}(h:W.ownsRow base e size v k xs)(hj:v.ownBlock=some j):base≤j:=by
 obtain⟨h0,⟨rfl,_⟩|⟨g,cap,cur,rfl,h2,_⟩⟩:=h
 ·simp[Value.ownBlock]at hj
 ·simp[Value.ownBlock]at hj;omega
theorem ON{W:World}{base e size k D:Nat}{v:Value}{xs:List Value}{o:Option (List Deferred)}(h:W.ownsRow base e size v k xs)(hD:W.heap[D]? = some (.deferred o)):some D≠v.ownBlock:=by
 obtain⟨h0,⟨rfl,_⟩|⟨g,cap,cur,rfl,h2,h3,_⟩⟩:=h
 ·simp[Value.ownBlock]
 ·intro e;simp[Value.ownBlock]at e;rw[e,h3]at hD;simp at hD
theorem I7{W:World}{base e size k B:Nat}{v u:Value}{xs:List Value}(h:W.ownsRow base e size v k xs)(hB:B<base):(W.setCell ⟨B,0,none⟩ u).ownsRow base e size v k xs:=by
 obtain⟨h0,h|⟨g,cap,cur,h1,h2,h3,h4⟩⟩:=h
 ·exact⟨h0,.inl h⟩
 ·exact⟨h0,.inr ⟨g,cap,cur,h1,h2,((grownBy_setCell' W B u).block g (Array.getElem?_eq_some_iff.1 h3).1 (by simp;omega)).trans h3,h4⟩⟩
set_option maxRecDepth 100000 in
set_option maxHeartbeats 2000000 in
theorem OD(n s:Nat)(d:Int)(w:World)(hd:d≠0)(hs:s<n)(hns:n+s≤1000)
  (hdep:Calls Tryz.prog 209 #[.int .i64 (n:Int)] w λe w'=>e = .returned (.int .i64 d)∧Below w.heap.size w w'):
  Calls Tryz.prog 185 #[.int .i64 (n:Int),.int .i64 (s:Int)] w λe w'=>∃v,e = .returned (.tuple #[v,.int .i64 0])∧w'.ownsRow w.heap.size 3 1 v (sZ 10 (n+s)).length ((sZ 10 (n+s)).reverse.map encZ)∧Below w.heap.size w w':=by
 refine(callsIn_wide (n:=6)).1 ?_;have cD:CallsIn Fence.wide 5 Tryz.prog 209 #[.int .i64 (n:Int)] w _:=callsIn_wide.2 hdep;have hfD:Fence.wide.fn 209:=trivial;have hfO:Fence.wide.fn 247:=trivial;have hd2:(d == 0)=false:=by simpa using hd
 have hs2:¬(s:Int)<0:=by omega
 have hs3:¬(n:Int)≤(s:Int):=by omega
 refine callsIn_of_wp_marks Tryz.func185 rfl trivial ?_ rfl;simp only[Tryz.ntmps185,List.size_toArray,List.length_cons,List.length_nil,Nat.reduceAdd,Nat.reduceSub,Array.replicate_succ,Array.replicate_zero,List.push_toArray,List.append_toArray,List.nil_append,List.cons_append]
 gi_wp2_with (first
  | (gi_at_call 209;refine cD.mono ?_;rintro e w' ⟨rfl,hb⟩)
  | (gi_at_call 247;refine(OT Fence.wide 5 trivial rfl _ _).mono ?_;rintro e w' ⟨rfl,rfl⟩))
 obtain⟨i0,hi,hz0,hz1,hz2⟩:=info_parts Tryz.Ri;have bO:=(Boxed.new w' 37 (.slice none 0 0)).alloc (.cells #[.int .i64 ((n:Int)+(s:Int))] 3);have bN:=Boxed.new (w'.alloc (.cells #[.slice none 0 0] 37)) 3 (.int .i64 ((n:Int)+(s:Int)));rw[World.size_alloc]at bN;have hbz:=hb.size;have hB0:Below w.heap.size w ((w'.alloc (.cells #[.slice none 0 0] 37)).alloc (.cells #[.int .i64 ((n:Int)+(s:Int))] 3)):=(hb.alloc hbz _).alloc (by simp;omega) _;have hseq:=JM Fence.wide 5 trivial rfl (by omega) (w'.heap.size+1) (n+s) hns _ (by rw[Int.natCast_add];exact bN);have hlen:(sZ 10 (n+s)).length≤10:=C1 _ _;refine wg rfl (by omega) (gf:=280) (lb:=#[.pointer (some ⟨w'.heap.size+1,0,none⟩)]) rfl trivial (enters_of Tryz.func280 (by kernel_rfl) rfl) (Bx:=w'.heap.size+1) (by simp) hseq (λ_=>rfl)
  (λpre W=>(∃v,Boxed W w'.heap.size 37 v∧W.ownsRow (w'.heap.size+2) 3 1 v pre.length (pre.map (Value.int .i64))∧True)∧Below w.heap.size w W)
  (OwnFrom.and (Own.from (holdsRow_own (w'.heap.size+2) w'.heap.size 37 3 1 (λpre:List Int=>pre.length) (λpre=>pre.map (Value.int .i64)) (λ_ _=>True)) _) (ownFrom_below (Nat.le_refl _) (by simp;omega)))
  (λpre A v hs=>by
   obtain⟨⟨v0,h1,h2,h3⟩,h4⟩:=hs
   exact⟨⟨v0,h1.kept (grownBy_setCell' A (w'.heap.size+1) v) (by simp),I7 h2 (by omega),h3⟩,h4.setCell (p:=⟨w'.heap.size+1,0,none⟩) (by simp;omega) _⟩)
  ⟨⟨_,bO,World.ownsRow_nil _ _ _ _,trivial⟩,hB0⟩
  (λx=>{ tmps:=#[.int .i64 n,.int .i64 s,undef,undef,.slice none 0 0,.int .i64 0,.pointer (some ⟨w'.heap.size,0,none⟩),.int .i64 x,.int .i64 n,.int .i64 d,.bool false,.bool false,.int .i64 s,.bool (decide ((s:Int)<0)),.bool (decide ((s:Int)<0)),.bool (decide ((s:Int)<0)),.int .i64 s,.int .i64 n,.bool false,.bool (decide ((s:Int)<0)),.int .i64 n,.int .i64 s,.int .i64 (n+s),.func (.func 280) #[] #[.pointer (some ⟨w'.heap.size+1,0,none⟩)],.int .i64 x,undef,undef,undef,undef,undef,undef,undef],defers:=[] }) ?assign ?body ?done
 case assign=>
  intro l x W K hK
  gi_wp2
  exact hK
 case body=>
  rintro l pre x W ⟨⟨v,hv,hrow,_⟩,hB⟩ hlt hWz;have hc:=hv.cell;have hf:=hv.frozen;rw[World.size_alloc,World.size_alloc]at hWz;have b1:pre.length+1≤maxLen:=by
   have:maxLen=9223372036854775807:=by decide
   omega
  have b2:(pre.length+1)*8≤140737488355328:=by omega
  have hne:=Hg hrow (b:=w'.heap.size) (by omega);have hne2:=Hg hrow (b:=w'.heap.size+1) (by omega)
  gi_wp2_with (gi_at_builtin;refine wpListIn_append_own _ rfl _ _ 37 rfl (w'.heap.size+2) 3 i0 (.int .i64 0) 1 8 Tryz.underlying37 hi hz0 hz1 hz2 rfl (by decide) _ _ _ rfl (hrow.alloc _) ⟨W.heap.size,0,none⟩ 1 1 [.int .i64 x] rfl rfl (cell_one_new _ _ _) (by simp[Value.oneCell']) b1 b2 (by simp;omega) ?_;intro v' w1 hown' hgrow _;obtain⟨g',cap',rfl⟩:=ownsRow_succ hown';have hv1:=(hv.alloc _).kept hgrow hne;have hc1:=hv1.cell;have hf1:=hv1.frozen)
  have hsz:w'.heap.size≤W.heap.size:=by omega
  obtain⟨_,hv2,_,hk2,hb2⟩:=hv.appended (by decide) (ownsRow_base_a hrow (by omega)) hsz (Nat.le_refl _) (ownsRow_base_a hown' (by omega)) hgrow;refine⟨hk2,?_,⟨_,hv2,by simpa using I7 hown' (by omega),trivial⟩,hB.trans (hb2.mono hbz)⟩;have hlt3:w'.heap.size+1<W.heap.size:=by omega
  have hlt2:w'.heap.size+1<(W.alloc (.cells #[.int .i64 x] 3)).heap.size:=by simp;omega
  have e2:=hgrow.block (w'.heap.size+1) hlt2 hne2;have e3:(W.alloc (.cells #[.int .i64 x] 3)).heap[w'.heap.size+1]? = W.heap[w'.heap.size+1]?:=Below.heap_alloc _ _ _ hlt3;have e1:=(grownBy_setCell' w1 w'.heap.size (Value.slice (some ⟨g',0,none⟩) (pre.length+1) cap')).block (w'.heap.size+1) (by have:=hgrow.size;omega) (by simp);exact e1.trans (e2.trans e3)
 case done=>
  rintro D W rfl ⟨⟨v,hv,hrow,_⟩,hB⟩ hK;have hc:=hv.cell;have hfR:Fence.wide.fn 248:=trivial;have hne:=Hg hrow (b:=w'.heap.size) (by omega);have hsz2:((w'.alloc (.cells #[.slice none 0 0] 37)).alloc (.cells #[.int .i64 ((n:Int)+(s:Int))] 3)).heap.size=w'.heap.size+1+1:=by simp
  rw[hsz2]at hK;have cR:=(callsIn_wide (n:=5)).2 (N5 hrow (by omega))
  gi_wp2_with (gi_at_call 248;refine cR.mono ?_;rintro e W3 ⟨rfl,hr3,hg3⟩;have hv3:=hv.kept hg3 hne;have hc3:=hv3.cell)
  have hneD:some (w'.heap.size+1+1)≠v.ownBlock:=ON hrow hK;have hK3:=(hg3.block (w'.heap.size+1+1) (Array.getElem?_eq_some_iff.1 hK).1 hneD).trans hK;have hB3:=hB.grown hg3 hB.size λj hj=>by have:=Qn hrow hj;omega
  refine⟨by simp,.inl ⟨_,_,rfl,run_takeDeferred hK3,?_⟩⟩;exact⟨_,results_tmp2 rfl _ _ _,v,rfl,ownsRow_base_a (ownsRow_putObj hr3 _ hK3 rfl) (by omega),hB3.trans (belowK_b (w:=w) (Nat.le_refl _) W3 (w'.heap.size+1+1) _ _ (by omega) hK3 rfl rfl)⟩
end Go.Proofs.YtmfcgihgdhfalaaGreatDoor
namespace Go.Proofs.YtmfcgihgdhfalaaGreatDoor
open Go.Sh
theorem mixed:Tryz.prog.follows .mixedOrders=true:=by kernel_rfl
def bX(x0:Int)(h:H)(Q:Int->H->Prop):Prop:=
(bif(x0 == 0)then
Q 64 h
else
M.val (wrap .u64 (0-x0)) λz2=>
M.val (lS .u64 x0 z2) λz3=>
M.val (wrap .u64 (z3*285870213051353865)) λz4=>
M.jZ 58 (
M.val (shr .u64 z4 58) λz5=>
M.fk 64 z5 λj6=>
M.load h (Addr.add ⟨7,0,none⟩ (j6*1)) λv7=>
M.int .u8 v7 λn8=>
M.val (wrap .i64 n8) λz9=>
Q z9 h))
def bX.L(F:type_of% bX):LT
 | [.int .u64 x0]=>λQ h=>F x0 h λn12 h13=>Q (.int .i64 n12) h13
 | _=>λ_ _=>False
theorem bX.geq:∀l,gj (fT Tryz.prog (ay []) Tryz.f295 lQ) l (bX.L bX l):=by
 intro l;unfold bX.L;split;exact .inr (by intros;kernel_rfl);exact .inl rfl
theorem bX.good:ai Tryz.prog 295 (WL (bX.L bX)):=.gu mixed .nil Tryz.func295 Tryz.call295 (bX.geq)
def bh(x0:Int)(h:H)(Q:Int->H->Prop):Prop:=
bX x0 h λn2 h3=>
Q n2 h3
def bh.L(F:type_of% bh):LT
 | [.int .u64 x0]=>λQ h=>F x0 h λn6 h7=>Q (.int .i64 n6) h7
 | _=>λ_ _=>False
theorem bh.good:ai Tryz.prog 261 (WL (bh.L bh)):=.gu (ann:=lQ) mixed (.cons bX.good .nil) Tryz.func261 Tryz.call261 (by intro l;unfold bh.L;split;exact .inr (by intros;kernel_rfl);exact .inl rfl)
def ff(x0:Int)(h:H)(Q:Int->H->Prop):Prop:=
M.join (α:=Bool) (λd5 h6=>
(bif d5 then
Q 0 h6
else
M.val (wrap .u64 x0) λz7=>
bh z7 h6 λn8 h9=>
Q n8 h9)) λJ2=>
(bif(decide (x0<2))then
J2 true h
else
(bif(decide (x0>16))then
J2 true h
else
M.val (wrap .i64 (x0-1)) λz3=>
M.val (lS .i64 x0 z3) λz4=>
J2 (z4 != 0) h))
def ff.L(F:type_of% ff):LT
 | [.int .i64 x0]=>λQ h=>F x0 h λn12 h13=>Q (.int .i64 n12) h13
 | _=>λ_ _=>False
def ff.ann:jy:=⟨ah [(1,[(15,.bool)])],ah [],ah []⟩
theorem ff.good:ai Tryz.prog 209 (WL (ff.L ff)):=.gu (ann:=ff.ann) mixed (.cons bh.good .nil) Tryz.func209 Tryz.call209 (by intro l;unfold ff.L;split;exact .inr (by intros;kernel_rfl);exact .inl rfl)
end Go.Proofs.YtmfcgihgdhfalaaGreatDoor
namespace Go.Proofs.YtmfcgihgdhfalaaGreatDoor
open Go.Sh Go.RowKit
def uU(d n s:Int):Prop:=d=0∨s<0∨n≤s
def vE(n s:Int):List Int:=(sZ 10 (n+s).toNat).reverse
def fu(x_n:Int)(x_slot:Int)(h:H)(Q:Option Addr->Nat->Nat->Int->H->Prop):Prop:=
 ∃d,ff x_n h (λd' h'=>Value.int .i64 d'=Value.int .i64 d∧bq h h')∧(uU d x_n x_slot->∀h',bq h h'->Q none 0 0 2 h') ∧
  (¬uU d x_n x_slot->x_n+x_slot≤1000∧∀a c h',Wd h h' [.sl 3 1 a (vE x_n x_slot).length c ((vE x_n x_slot).map (Value.int .i64))]->Q a (vE x_n x_slot).length c 0 h')
def fu.L(F:Int->Int->H->(Option Addr->Nat->Nat->Int->H->Prop)->Prop):List Value->(Value->H->Prop)->H->Prop
 | [.int .i64 n,.int .i64 s]=>λQ h=>F n s h λa l c e h2=>Q (.tuple #[.slice a l c,.int .i64 e]) h2
 | _=>λ_ _=>False
def fu.W:W:=λargs=>fu.L fu args.toList
theorem fu.good:ai Tryz.prog 185 fu.W:=by
 refine ai.known Tryz.call185 (λargs Q Q' m hq hh=>?_) λargs Q w hh=>?_
 ·revert hh
  show fu.L fu args.toList Q m->fu.L fu args.toList Q' m;generalize args.toList=l;unfold fu.L;split
  ·exact λ⟨d,e1,e2,e3⟩=>⟨d,e1,λb h' k=>hq _ _ (e2 b h' k),λb=>⟨(e3 b).1,λa c h' w=>hq _ _ ((e3 b).2 a c h' w)⟩⟩
  ·exact id
 ·have key:∀l,fu.L fu l Q (hp w)->∃n s,l=[.int .i64 n,.int .i64 s]∧fu n s (hp w) λa l c e h2=>Q (.tuple #[.slice a l c,.int .i64 e]) h2:=by
   intro l;unfold fu.L;split
   ·exact λh=>⟨_,_,rfl,h⟩
   ·exact λh=>h.elim
  obtain⟨n,s,hl,d,hd,hbad,hok⟩:=key args.toList hh;have ha:args = #[.int .i64 n,.int .i64 s]:=by rw[←Array.toList_inj];exact hl
  have cd:Calls Tryz.prog 209 #[.int .i64 n] w λe w'=>e = .returned (.int .i64 d)∧Below w.heap.size w w':=by
   have c:=ff.good.calls Tryz.call209 (args:=#[.int .i64 n]) (w:=w) (Q:=λv h2=>v = .int .i64 d∧bq (hp w) h2) ?_
   ·refine c.mono λe w' ⟨v,h1,⟨h2,h3⟩,h4⟩=>⟨by rw[h1,h2],?_⟩;exact⟨h4.os,h4.tape,h4.output,h4.size,λx hx=>(h3 x _ (Array.getElem?_eq_getElem hx)).trans (Array.getElem?_eq_getElem hx).symm⟩
   ·exact hd
  rw[ha];by_cases hb:uU d n s
  ·refine(LD n s d w hb cd).mono λe w' ⟨h1,h2⟩=>?_;exact⟨_,h1,hbad hb _ (oI h2),om h2⟩
  ·obtain⟨h1,kk⟩:=hok hb;simp only[uU,not_or]at hb;obtain⟨n,rfl⟩:=Int.eq_ofNat_of_zero_le (show 0≤n by omega);obtain⟨s,rfl⟩:=Int.eq_ofNat_of_zero_le (show 0≤s by omega);have e:((n:Int)+(s:Int)).toNat=n+s:=by omega
   have hv:vE n s=(sZ 10 (n+s)).reverse:=by rw[vE,e]
   rw[hv,List.length_reverse]at kk;refine(OD n s d w hb.1 (by omega) (by omega) cd).mono λe w' hh=>?_;obtain⟨v,rfl,hr,hbw⟩:=hh;obtain⟨a,c',rfl,wd⟩:=C7 hr hbw;exact⟨_,rfl,kk a c' _ wd,om hbw⟩
def Builder_copyCheck(x:Option Addr)(h:H)(Q:H->Prop):Prop:=
 ∃b p v,x=some ⟨b,0,none⟩∧h b=some (.cells #[.pointer p,v] 213 (0,0))∧(p=none∨p=some ⟨b,0,none⟩)∧Q (h.nh b (.cells #[.pointer (some ⟨b,0,none⟩),v] 213 (0,0)))
def Builder_copyCheck.L(F:Option Addr->H->(H->Prop)->Prop):List Value->(Value->H->Prop)->H->Prop
 | [.pointer x]=>λQ h=>F x h λh2=>Q (.tuple #[]) h2
 | _=>λ_ _=>False
def Builder_copyCheck.W:W:=λargs=>Builder_copyCheck.L Builder_copyCheck args.toList
theorem Builder_copyCheck.good:ai Tryz.prog 178 Builder_copyCheck.W:=by
 refine ai.known Tryz.call178 (λargs Q Q' m hq hh=>?_) λargs Q w hh=>?_
 ·revert hh
  show Builder_copyCheck.L Builder_copyCheck args.toList Q m->Builder_copyCheck.L Builder_copyCheck args.toList Q' m;generalize args.toList=l;unfold Builder_copyCheck.L;split
  ·exact λ⟨b,p,v,h1,h2,h3,h4⟩=>⟨b,p,v,h1,h2,h3,hq _ _ h4⟩
  ·exact id
 ·have key:∀l,Builder_copyCheck.L Builder_copyCheck l Q (hp w)->∃x,l=[.pointer x]∧Builder_copyCheck x (hp w) λh2=>Q (.tuple #[]) h2:=by
   intro l;unfold Builder_copyCheck.L;split
   ·exact λh=>⟨_,rfl,h⟩
   ·exact λh=>h.elim
  obtain⟨x,hl,b,p,v,rfl,hb,hpp,hk⟩:=key args.toList hh;have ha:args = #[.pointer (some ⟨b,0,none⟩)]:=by rw[←Array.toList_inj];exact hl
  have hb':w.heap[b]? = some (.cells #[.pointer p,v] 213 (0,0)):=hb;rw[ha];rcases hpp with rfl|rfl
  ·refine(Any.Builder_copyCheck_fresh { Tryz.Ew with } Tryz.oh.toX72 b w (by simp[World.cell?,hb']) (by simp[World.shape?,hb'];rfl) (by simp[World.frozen?,hb'])).mono λe w' hh=>?_
   obtain⟨rfl,rfl⟩:=hh;refine⟨_,rfl,?_,?_⟩
   ·have:hp (w.setCell ⟨b,0,none⟩ (.pointer (some ⟨b,0,none⟩)))=(hp w).nh b (.cells #[.pointer (some ⟨b,0,none⟩),v] 213 (0,0)):=by
     funext x;by_cases hx:x=b
     ·subst hx;rw[H.jD];simp[hp,World.setCell,Array.getElem?_modify,hb']
     ·rw[H.uw _ _ hx];simp[hp,World.setCell,Array.getElem?_modify];exact λe=>absurd e.symm hx
    rw[this];exact hk
   ·exact⟨rfl,rfl,rfl,by simp[World.setCell]⟩
  ·refine(Any.Builder_copyCheck_used { Tryz.Ew with } Tryz.oh.toX72 b w (by simp[World.cell?,hb'])).mono λe w' hh=>?_
   obtain⟨rfl,rfl⟩:=hh;rw[jD hb]at hk;exact⟨_,rfl,hk,.refl _⟩
end Go.Proofs.YtmfcgihgdhfalaaGreatDoor
namespace Go.Proofs.YtmfcgihgdhfalaaGreatDoor
open Go.Sh
def dD(x0:Option Addr)(h:H)(Q:Bool->H->Prop):Prop:=
M.join (α:=Bool) (λd6 h7=>
Q d6 h7) λJ2=>
(bif(!(Option.isNone x0))then
M.nn x0 λa3=>
M.load h (Addr.add a3 13) λv4=>
M.bool v4 λb5=>
J2 b5 h
else
J2 false h)
def dD.L(F:type_of% dD):LT
 | [.pointer x0]=>λQ h=>F x0 h λb10 h11=>Q (.bool b10) h11
 | _=>λ_ _=>False
def dD.ann:jy:=⟨ah [(1,[(2,.bool)])],ah [],ah []⟩
theorem dD.geq:∀l,gj (fT Tryz.prog (ay []) Tryz.f15 dD.ann) l (dD.L dD l):=by
 intro l;unfold dD.L;split;exact .inr (by intros;kernel_rfl);exact .inl rfl
theorem dD.good:ai Tryz.prog 15 (WL (dD.L dD)):=.gu mixed .nil Tryz.func15 Tryz.call15 (dD.geq)
def bC(x0:Option Addr)(h:H)(Q:Int->Int->Int->Bool->H->Prop):Prop:=
M.new h (.cells #[.int .i64 0,.int .i64 0,.int .i64 0,.bool false] 59) λb5 h6=>
(bif(Option.isNone x0)then
M.nN 4 h6 ⟨b5,0,none⟩ [.int .i64 0,.int .i64 0,.int .i64 0,.bool false] (λh7=>
M.load h7 (Addr.add ⟨b5,0,none⟩ 0) λv8=>
M.int .i64 v8 λn9=>
M.load h7 (Addr.add ⟨b5,0,none⟩ 1) λv10=>
M.int .i64 v10 λn11=>
M.load h7 (Addr.add ⟨b5,0,none⟩ 2) λv12=>
M.int .i64 v12 λn13=>
M.load h7 (Addr.add ⟨b5,0,none⟩ 3) λv14=>
M.bool v14 λb15=>
Q n9 n11 n13 b15 h7)
else
M.nn x0 λa16=>
M.load h6 (Addr.add (Addr.add a16 3) 2) λv17=>
M.int .i64 v17 λn18=>
M.nn x0 λa19=>
M.load h6 (Addr.add (Addr.add a19 3) 3) λv20=>
M.int .i64 v20 λn21=>
M.nn x0 λa22=>
M.load h6 (Addr.add (Addr.add a22 3) 4) λv23=>
M.int .i64 v23 λn24=>
M.nn x0 λa25=>
M.load h6 (Addr.add (Addr.add a25 3) 6) λv26=>
M.bool v26 λb27=>
M.nN 4 h6 ⟨b5,0,none⟩ [.int .i64 n18,.int .i64 n21,.int .i64 n24,.bool b27] (λh28=>
M.load h28 (Addr.add ⟨b5,0,none⟩ 0) λv29=>
M.int .i64 v29 λn30=>
M.load h28 (Addr.add ⟨b5,0,none⟩ 1) λv31=>
M.int .i64 v31 λn32=>
M.load h28 (Addr.add ⟨b5,0,none⟩ 2) λv33=>
M.int .i64 v33 λn34=>
M.load h28 (Addr.add ⟨b5,0,none⟩ 3) λv35=>
M.bool v35 λb36=>
Q n30 n32 n34 b36 h28))
def bC.L(F:type_of% bC):LT
 | [.pointer x0]=>λQ h=>F x0 h λn42 n43 n44 b45 h46=>Q (.agg (#[.int .i64 n42,.int .i64 n43,.int .i64 n44,.bool b45]:Array Value)) h46
 | _=>λ_ _=>False
theorem bC.geq:∀l,gj (fT Tryz.prog (ay []) Tryz.f16 lQ) l (bC.L bC l):=by
 intro l;unfold bC.L;split;exact .inr (by intros;kernel_rfl);exact .inl rfl
theorem bC.good:ai Tryz.prog 16 (WL (bC.L bC)):=.gu mixed .nil Tryz.func16 Tryz.call16 (bC.geq)
def gQ  (h:H) (Q:Option Addr->H->Prop):Prop:=
M.new h (.cells #[.int .u64 0,.string empty] 158) λb2 h3=>
Q (some ⟨b2,0,none⟩) h3
def gQ.L(F:type_of% gQ):LT
 | []=>λQ h=>F  h λp6 h7=>Q (.pointer p6) h7
 | _=>λ_ _=>False
theorem gQ.geq:∀l,gj (fT Tryz.prog (ay []) Tryz.f21 lQ) l (gQ.L gQ l):=by
 intro l;unfold gQ.L;split;exact .inr (by intros;kernel_rfl);exact .inl rfl
theorem gQ.good:ai Tryz.prog 21 (WL (gQ.L gQ)):=.gu mixed .nil Tryz.func21 Tryz.call21 (gQ.geq)
def cw(x0:Option Addr)(x1:Int)(h:H)(Q:Option Addr->H->Prop):Prop:=
M.join (α:=Bool) (λd8 h9=>
(bif d8 then
Q none h9
else
M.nn x0 λa10=>
M.load h9 (Addr.add a10 0) λv11=>
M.slc v11 λa12 l13 c14=>
M.idx a12 l13 x1 λa15 j16=>
M.load h9 (Addr.add a15 (j16*1)) λv17=>
M.ptr v17 λp18=>
Q p18 h9)) λJ2=>
(bif(Option.isNone x0)then
J2 true h
else
(bif(decide (x1<0))then
J2 true h
else
M.nn x0 λa3=>
M.load h (Addr.add a3 0) λv4=>
M.slc v4 λa5 l6 c7=>
J2 (decide (x1≥(l6:Int))) h))
def cw.L(F:type_of% cw):LT
 | [.pointer x0,.int .i64 x1]=>λQ h=>F x0 x1 h λp21 h22=>Q (.pointer p21) h22
 | _=>λ_ _=>False
def cw.ann:jy:=⟨ah [(1,[(19,.bool)])],ah [],ah []⟩
theorem cw.geq:∀l,gj (fT Tryz.prog (ay []) Tryz.f30 cw.ann) l (cw.L cw l):=by
 intro l;unfold cw.L;split;exact .inr (by intros;kernel_rfl);exact .inl rfl
theorem cw.good:ai Tryz.prog 30 (WL (cw.L cw)):=.gu mixed .nil Tryz.func30 Tryz.call30 (cw.geq)
def bF(x0:Option Addr)(h:H)(Q:Int->ByteArray->H->Prop):Prop:=
(bif(Option.isNone x0)then
Q 0 empty h
else
M.nn x0 λa3=>
M.load h (Addr.add (Addr.add a3 0) 0) λv4=>
M.int .u64 v4 λn5=>
M.nn x0 λa6=>
M.load h (Addr.add (Addr.add a6 0) 1) λv7=>
M.str v7 λs8=>
Q n5 s8 h)
def bF.L(F:type_of% bF):LT
 | [.pointer x0]=>λQ h=>F x0 h λn12 s13 h14=>Q (.tuple #[.int .u64 n12,.string s13]) h14
 | _=>λ_ _=>False
theorem bF.geq:∀l,gj (fT Tryz.prog (ay []) Tryz.f35 lQ) l (bF.L bF l):=by
 intro l;unfold bF.L;split;exact .inr (by intros;kernel_rfl);exact .inl rfl
theorem bF.good:ai Tryz.prog 35 (WL (bF.L bF)):=.gu mixed .nil Tryz.func35 Tryz.call35 (bF.geq)
def bK(x0:Option Addr)(h:H)(Q:Int->H->Prop):Prop:=
(bif(Option.isNone x0)then
Q 1 h
else
M.nn x0 λa2=>
M.load h (Addr.add a2 13) λv3=>
M.bool v3 λb4=>
(bif b4 then
Q 21 h
else
Q 0 h))
def bK.L(F:type_of% bK):LT
 | [.pointer x0]=>λQ h=>F x0 h λn7 h8=>Q (.int .i64 n7) h8
 | _=>λ_ _=>False
theorem bK.geq:∀l,gj (fT Tryz.prog (ay []) Tryz.f45 lQ) l (bK.L bK l):=by
 intro l;unfold bK.L;split;exact .inr (by intros;kernel_rfl);exact .inl rfl
theorem bK.good:ai Tryz.prog 45 (WL (bK.L bK)):=.gu mixed .nil Tryz.func45 Tryz.call45 (bK.geq)
def az(x0_0 x0_1:Option Addr)(x0_2:ByteArray)(x1 x2:Int)(h:H)(Q:Option Addr->Int->Int->ByteArray->H->Prop):Prop:=
M.new h (.cells #[.pointer x0_0,.pointer x0_1,.string x0_2] 120) λb5 h6=>
M.new h6 (.cells #[.pointer none,.int .i64 0,.int .i64 0,.string empty] 126) λb7 h8=>
M.load h8 (Addr.add ⟨b5,0,none⟩ 0) λv9=>
M.ptr v9 λp10=>
M.load h8 (Addr.add ⟨b5,0,none⟩ 2) λv11=>
M.str v11 λs12=>
M.nN 4 h8 ⟨b7,0,none⟩ [.pointer p10,.int .i64 x1,.int .i64 x2,.string s12] (λh13=>
M.load h13 (Addr.add ⟨b7,0,none⟩ 0) λv14=>
M.ptr v14 λp15=>
M.load h13 (Addr.add ⟨b7,0,none⟩ 1) λv16=>
M.int .i64 v16 λn17=>
M.load h13 (Addr.add ⟨b7,0,none⟩ 2) λv18=>
M.int .i64 v18 λn19=>
M.load h13 (Addr.add ⟨b7,0,none⟩ 3) λv20=>
M.str v20 λs21=>
Q p15 n17 n19 s21 h13)
def az.L(F:type_of% az):LT
 | [.agg ⟨[.pointer x0_0,.pointer x0_1,.string x0_2]⟩,.int .i64 x1,.int .i64 x2]=>λQ h=>F x0_0 x0_1 x0_2 x1 x2 h λp27 n28 n29 s30 h31=>Q (.agg (#[.pointer p27,.int .i64 n28,.int .i64 n29,.string s30]:Array Value)) h31
 | _=>λ_ _=>False
theorem az.geq:∀l,gj (fT Tryz.prog (ay []) Tryz.f47 lQ) l (az.L az l):=by
 intro l;unfold az.L;split;exact .inr (by intros;kernel_rfl);exact .inl rfl
theorem az.good:ai Tryz.prog 47 (WL (az.L az)):=.gu mixed .nil Tryz.func47 Tryz.call47 (az.geq)
def cJ(x0_0 x0_1 x0_2 x0_3 x0_4 x0_5:Int)(x0_6:Bool)(x0_7:Option Addr)(x0_7L x0_7C:Nat)(x0_8:Option Addr)(x0_8L x0_8C:Nat)(h:H)(Q:Bool->H->Prop):Prop:=
M.new h (.cells #[.int .u64 x0_0,.int .u64 x0_1,.int .i64 x0_2,.int .i64 x0_3,.int .i64 x0_4,.int .i64 x0_5,.bool x0_6,.slice x0_7 x0_7L x0_7C,.slice x0_8 x0_8L x0_8C] 40) λb2 h3=>
M.join (α:=Int) (λd39 h40=>
M.join (α:=Bool) (λd44 h45=>
Q d44 h45) λJ41=>
(bif(d39 == 1)then
J41 true h40
else
(bif(d39 == 0)then
M.load h40 (Addr.add ⟨b2,0,none⟩ 5) λv42=>
M.int .i64 v42 λn43=>
J41 (n43 == 0) h40
else
J41 false h40))) λJ4=>
M.load h3 (Addr.add ⟨b2,0,none⟩ 8) λv5=>
M.slc v5 λa6 l7 c8=>
M.loop (α:=Int×Int) (λJ9 d10 h11=>
(bif(decide (d10.2<(l7:Int)))then
M.idx a6 l7 d10.2 λa12 j13=>
M.load h11 ((Addr.add a12 (j13*3)).add 0) λv14=>
M.int .i64 v14 λn15=>
M.load h11 ((Addr.add a12 (j13*3)).add 1) λv16=>
M.str v16 λs17=>
M.load h11 ((Addr.add a12 (j13*3)).add 2) λv18=>
M.str v18 λs19=>
M.new h11 (.cells #[.int .i64 0,.string empty,.string empty] 51) λb20 h21=>
M.nN 3 h21 ⟨b20,0,none⟩ [.int .i64 n15,.string s17,.string s19] (λh22=>
M.join (α:=Bool) (λd32 h33=>
(bif d32 then
Q false h33
else
M.load h33 (Addr.add ⟨b20,0,none⟩ 0) λv34=>
M.int .i64 v34 λn35=>
(bif(n35 == 3)then
M.val (wrap .i64 (d10.1+1)) λz36=>
M.val (wrap .i64 (d10.2+1)) λz37=>
J9 (z36,z37) h33
else
M.val (wrap .i64 (d10.2+1)) λz38=>
J9 (d10.1,z38) h33))) λJ23=>
M.load h22 (Addr.add ⟨b20,0,none⟩ 0) λv24=>
M.int .i64 v24 λn25=>
(bif(decide (n25<0))then
J23 true h22
else
M.load h22 (Addr.add ⟨b20,0,none⟩ 0) λv26=>
M.int .i64 v26 λn27=>
(bif(decide (n27≥4))then
J23 true h22
else
M.load h22 (Addr.add ⟨b20,0,none⟩ 1) λv28=>
M.str v28 λs29=>
(bif((ByteArray.size s29:Int) != 32)then
J23 true h22
else
M.load h22 (Addr.add ⟨b20,0,none⟩ 2) λv30=>
M.str v30 λs31=>
J23 ((ByteArray.size s31:Int) != 32) h22))))
else
J4 d10.1 h11)) (0,0) h3
def cJ.L(F:type_of% cJ):LT
 | [.agg ⟨[.int .u64 x0_0,.int .u64 x0_1,.int .i64 x0_2,.int .i64 x0_3,.int .i64 x0_4,.int .i64 x0_5,.bool x0_6,.slice x0_7 x0_7L x0_7C,.slice x0_8 x0_8L x0_8C]⟩]=>λQ h=>F x0_0 x0_1 x0_2 x0_3 x0_4 x0_5 x0_6 x0_7 x0_7L x0_7C x0_8 x0_8L x0_8C h λb48 h49=>Q (.bool b48) h49
 | _=>λ_ _=>False
def cJ.ann:jy:=⟨ah [(5,[(32,.bool)]),(10,[(2,.bool)])],ah [(7,[(3,.int .i64)])],ah [(58,[(3,.int .i64),(9,.int .i64)])]⟩
theorem cJ.geq:∀l,gj (fT Tryz.prog (ay []) Tryz.f69 cJ.ann) l (cJ.L cJ l):=by
 intro l;unfold cJ.L;split;exact .inr (by intros;kernel_rfl);exact .inl rfl
theorem cJ.good:ai Tryz.prog 69 (WL (cJ.L cJ)):=.gu mixed .nil Tryz.func69 Tryz.call69 (cJ.geq)
def dB(x0_0 x0_1 x0_2 x0_3 x0_4 x0_5:Int)(x0_6:Bool)(x0_7:Option Addr)(x0_7L x0_7C:Nat)(x0_8:Option Addr)(x0_8L x0_8C:Nat)(h:H)(Q:Bool->H->Prop):Prop:=
M.new h (.cells #[.int .u64 x0_0,.int .u64 x0_1,.int .i64 x0_2,.int .i64 x0_3,.int .i64 x0_4,.int .i64 x0_5,.bool x0_6,.slice x0_7 x0_7L x0_7C,.slice x0_8 x0_8L x0_8C] 40) λb2 h3=>
M.load h3 (Addr.add ⟨b2,0,none⟩ 2) λv4=>
M.int .i64 v4 λn5=>
M.val (wrap .i64 (n5+2)) λz6=>
M.join (α:=Int) (λd11 h12=>
M.load h12 (Addr.add ⟨b2,0,none⟩ 7) λv13=>
M.slc v13 λa14 l15 c16=>
(bif((l15:Int) != d11)then
Q false h12
else
M.new h12 (.map #[] 0) λb17 h18=>
M.join (α:=Unit) (λd43 h44=>
M.load h44 (Addr.add ⟨b2,0,none⟩ 8) λv45=>
M.slc v45 λa46 l47 c48=>
M.loop (α:=Int) (λJ49 d50 h51=>
(bif(decide (d50<(l47:Int)))then
M.idx a46 l47 d50 λa52 j53=>
M.load h51 ((Addr.add a52 (j53*3)).add 0) λv54=>
M.int .i64 v54 λn55=>
M.load h51 ((Addr.add a52 (j53*3)).add 1) λv56=>
M.str v56 λs57=>
M.load h51 ((Addr.add a52 (j53*3)).add 2) λv58=>
M.str v58 λs59=>
M.new h51 (.cells #[.int .i64 0,.string empty,.string empty] 51) λb60 h61=>
M.nN 3 h61 ⟨b60,0,none⟩ [.int .i64 n55,.string s57,.string s59] (λh62=>
M.join (α:=Bool) (λd71 h72=>
(bif d71 then
Q false h72
else
M.val (wrap .i64 (d50+1)) λz73=>
J49 z73 h72)) λJ63=>
M.load h62 (Addr.add ⟨b60,0,none⟩ 0) λv64=>
M.int .i64 v64 λn65=>
(bif(n65 != 2)then
M.lk Tryz.prog 254 (.map (some b17)) (.int .i64 d50) h62 λv66 h67=>
M.bool v66 λb68=>
M.load h67 (Addr.add ⟨b60,0,none⟩ 0) λv69=>
M.int .i64 v69 λn70=>
J63 (b68 == (n70 == 0)) h67
else
J63 false h62))
else
Q true h51)) 0 h44) λJ19=>
M.load h18 (Addr.add ⟨b2,0,none⟩ 7) λv20=>
M.slc v20 λa21 l22 c23=>
M.loop (α:=Int) (λJ24 d25 h26=>
(bif(decide (d25<(l22:Int)))then
M.idx a21 l22 d25 λa27 j28=>
M.load h26 (Addr.add a27 (j28*1)) λv29=>
M.int .i64 v29 λn30=>
M.join (α:=Bool) (λd39 h40=>
(bif d39 then
Q false h40
else
M.An Tryz.prog 254 (.map (some b17)) (.int .i64 n30) (.bool true) h40 λh41=>
M.val (wrap .i64 (d25+1)) λz42=>
J24 z42 h41)) λJ31=>
(bif(decide (n30<0))then
J31 true h26
else
M.load h26 (Addr.add ⟨b2,0,none⟩ 8) λv32=>
M.slc v32 λa33 l34 c35=>
(bif(decide (n30≥(l34:Int)))then
J31 true h26
else
M.lk Tryz.prog 254 (.map (some b17)) (.int .i64 n30) h26 λv36 h37=>
M.bool v36 λb38=>
J31 b38 h37))
else
J19 () h26)) 0 h18)) λJ7=>
M.load h3 (Addr.add ⟨b2,0,none⟩ 6) λv8=>
M.bool v8 λb9=>
(bif b9 then
M.val (wrap .i64 (z6+1)) λz10=>
J7 z10 h3
else
J7 z6 h3)
def dB.L(F:type_of% dB):LT
 | [.agg ⟨[.int .u64 x0_0,.int .u64 x0_1,.int .i64 x0_2,.int .i64 x0_3,.int .i64 x0_4,.int .i64 x0_5,.bool x0_6,.slice x0_7 x0_7L x0_7C,.slice x0_8 x0_8L x0_8C]⟩]=>λQ h=>F x0_0 x0_1 x0_2 x0_3 x0_4 x0_5 x0_6 x0_7 x0_7L x0_7C x0_8 x0_8L x0_8C h λb76 h77=>Q (.bool b76) h77
 | _=>λ_ _=>False
def dB.ann:jy:=⟨ah [(10,[(42,.bool)]),(17,[(65,.bool)])],ah [(7,[(3,.int .i64)]),(63,[])],ah [(506,[(25,.int .i64)]),(1018,[(49,.int .i64)])]⟩
theorem dB.geq:∀l,gj (fT Tryz.prog (ay []) Tryz.f70 dB.ann) l (dB.L dB l):=by
 intro l;unfold dB.L;split;exact .inr (by intros;kernel_rfl);exact .inl rfl
theorem dB.good:ai Tryz.prog 70 (WL (dB.L dB)):=.gu mixed .nil Tryz.func70 Tryz.call70 (dB.geq)
def jO(x0:Int)(h:H)(Q:Option Addr->H->Prop):Prop:=
M.join (α:=Addr) (λd23 h24=>
Q (some d23) h24) λJ2=>
(M.mk h 9 [.string empty] 16 (mx 1 (mn x0 512)) (mx 1 (mn x0 512)) λa3 l4 c5 h6=>
M.mk h6 9 [.string empty] 16 (mx 1 (mn x0 512)) (mx 1 (mn x0 512)) λa7 l8 c9 h10=>
M.new h10 (.cells #[.slice a3 l4 c5,.slice a7 l8 c9,.slice none 0 0,.bool false] 205) λb11 h12=>
J2 ⟨b11,0,none⟩ h12) ∧
(M.mk h 9 [.string empty] 16 (mx 1 (mn x0 512)) (mx 1 (mn x0 512)) λa13 l14 c15 h16=>
M.mk h16 9 [.string empty] 16 (mx 1 (mn x0 512)) (mx 1 (mn x0 512)) λa17 l18 c19 h20=>
M.new h20 (.cells #[.slice a17 l18 c19,.slice a13 l14 c15,.slice none 0 0,.bool false] 205) λb21 h22=>
J2 ⟨b21,0,none⟩ h22)
def jO.L(F:type_of% jO):LT
 | [.int .i64 x0]=>λQ h=>F x0 h λp27 h28=>Q (.pointer p27) h28
 | _=>λ_ _=>False
def jO.ann:jy:=⟨ah [(2,[(2,.adr)])],ah [],ah []⟩
theorem jO.geq:∀l,gj (fT Tryz.prog (ay []) Tryz.f71 jO.ann) l (jO.L jO l):=by
 intro l;unfold jO.L;split;exact .inr (by intros;kernel_rfl);exact .inl rfl
theorem jO.good:ai Tryz.prog 71 (WL (jO.L jO)):=.gu mixed .nil Tryz.func71 Tryz.call71 (jO.geq)
def jk(x0:Int)(h:H)(Q:Option Addr->H->Prop):Prop:=
M.join (α:=Int) (λd3 h4=>
M.join (α:=Int) (λd6 h7=>
M.mk h7 9 [.string empty] 16 d6 d6 λa8 l9 c10 h11=>
M.new h11 (.cells #[.slice a8 l9 c10,.slice none 0 0,.bool false] 168) λb12 h13=>
Q (some ⟨b12,0,none⟩) h13) λJ5=>
(bif(decide (d3>512))then
J5 512 h4
else
J5 d3 h4)) λJ2=>
(bif(decide (x0<1))then
J2 1 h
else
J2 x0 h)
def jk.L(F:type_of% jk):LT
 | [.int .i64 x0]=>λQ h=>F x0 h λp16 h17=>Q (.pointer p16) h17
 | _=>λ_ _=>False
def jk.ann:jy:=⟨ah [],ah [(3,[(0,.int .i64)]),(7,[(0,.int .i64)])],ah []⟩
theorem jk.geq:∀l,gj (fT Tryz.prog (ay []) Tryz.f72 jk.ann) l (jk.L jk l):=by
 intro l;unfold jk.L;split;exact .inr (by intros;kernel_rfl);exact .inl rfl
theorem jk.good:ai Tryz.prog 72 (WL (jk.L jk)):=.gu mixed .nil Tryz.func72 Tryz.call72 (jk.geq)
def cM(x0:Option Addr)(h:H)(Q:Int->H->Prop):Prop:=
(bif(Option.isNone x0)then
Q 0 h
else
M.nn x0 λa2=>
M.load h (Addr.add a2 0) λv3=>
M.slc v3 λa4 l5 c6=>
Q (l5:Int) h)
def cM.L(F:type_of% cM):LT
 | [.pointer x0]=>λQ h=>F x0 h λn9 h10=>Q (.int .i64 n9) h10
 | _=>λ_ _=>False
theorem cM.geq:∀l,gj (fT Tryz.prog (ay []) Tryz.f73 lQ) l (cM.L cM l):=by
 intro l;unfold cM.L;split;exact .inr (by intros;kernel_rfl);exact .inl rfl
theorem cM.good:ai Tryz.prog 73 (WL (cM.L cM)):=.gu mixed .nil Tryz.func73 Tryz.call73 (cM.geq)
def iR(x0_0 x0_1 x0_2:Int)(x0_3:Bool)(h:H)(Q:Bool->H->Prop):Prop:=
M.new h (.cells #[.int .i64 x0_0,.int .i64 x0_1,.int .i64 x0_2,.bool x0_3] 165) λb2 h3=>
M.join (α:=Bool) (λd13 h14=>
(bif d13 then
Q false h14
else
M.join (α:=Bool) (λd24 h25=>
(bif d24 then
Q false h25
else
M.join (α:=Bool) (λd37 h38=>
Q d37 h38) λJ26=>
M.load h25 (Addr.add ⟨b2,0,none⟩ 2) λv27=>
M.int .i64 v27 λn28=>
(bif(decide (n28≥0))then
M.load h25 (Addr.add ⟨b2,0,none⟩ 2) λv29=>
M.int .i64 v29 λn30=>
M.load h25 (Addr.add ⟨b2,0,none⟩ 1) λv31=>
M.int .i64 v31 λn32=>
(bif(decide (n30<n32))then
M.load h25 (Addr.add ⟨b2,0,none⟩ 3) λv33=>
M.bool v33 λb34=>
(bif b34 then
J26 true h25
else
M.load h25 (Addr.add ⟨b2,0,none⟩ 2) λv35=>
M.int .i64 v35 λn36=>
J26 (n36 == 0) h25)
else
J26 false h25)
else
J26 false h25))) λJ15=>
M.load h14 (Addr.add ⟨b2,0,none⟩ 0) λv16=>
M.int .i64 v16 λn17=>
(bif(decide (n17<2))then
J15 true h14
else
M.load h14 (Addr.add ⟨b2,0,none⟩ 0) λv18=>
M.int .i64 v18 λn19=>
(bif(decide (n19>8))then
J15 true h14
else
M.load h14 (Addr.add ⟨b2,0,none⟩ 3) λv20=>
M.bool v20 λb21=>
(bif b21 then
M.load h14 (Addr.add ⟨b2,0,none⟩ 0) λv22=>
M.int .i64 v22 λn23=>
J15 (n23 == 8) h14
else
J15 false h14))))) λJ4=>
M.load h3 (Addr.add ⟨b2,0,none⟩ 1) λv5=>
M.int .i64 v5 λn6=>
(bif(n6 != 2)then
M.load h3 (Addr.add ⟨b2,0,none⟩ 1) λv7=>
M.int .i64 v7 λn8=>
(bif(n8 != 4)then
M.load h3 (Addr.add ⟨b2,0,none⟩ 1) λv9=>
M.int .i64 v9 λn10=>
(bif(n10 != 8)then
M.load h3 (Addr.add ⟨b2,0,none⟩ 1) λv11=>
M.int .i64 v11 λn12=>
J4 (n12 != 16) h3
else
J4 false h3)
else
J4 false h3)
else
J4 false h3)
def iR.L(F:type_of% iR):LT
 | [.agg ⟨[.int .i64 x0_0,.int .i64 x0_1,.int .i64 x0_2,.bool x0_3]⟩]=>λQ h=>F x0_0 x0_1 x0_2 x0_3 h λb41 h42=>Q (.bool b41) h42
 | _=>λ_ _=>False
def iR.ann:jy:=⟨ah [(1,[(20,.bool)]),(3,[(37,.bool)]),(5,[(2,.bool)])],ah [],ah []⟩
theorem iR.geq:∀l,gj (fT Tryz.prog (ay []) Tryz.f77 iR.ann) l (iR.L iR l):=by
 intro l;unfold iR.L;split;exact .inr (by intros;kernel_rfl);exact .inl rfl
theorem iR.good:ai Tryz.prog 77 (WL (iR.L iR)):=.gu mixed .nil Tryz.func77 Tryz.call77 (iR.geq)
def gV(x0:Option Addr)(x1:Int)(h:H)(Q:Option Addr->Int->Int->ByteArray->H->Prop):Prop:=
M.new h (.cells #[.pointer none,.int .i64 0,.int .i64 0,.string empty] 173) λb5 h6=>
M.nn x0 λa7=>
M.load h6 (Addr.add a7 0) λv8=>
M.ptr v8 λp9=>
M.nn x0 λa10=>
M.load h6 (Addr.add (Addr.add a10 3) 3) λv11=>
M.int .i64 v11 λn12=>
M.nn x0 λa13=>
M.load h6 (Addr.add a13 2) λv14=>
M.str v14 λs15=>
M.nN 4 h6 ⟨b5,0,none⟩ [.pointer p9,.int .i64 x1,.int .i64 n12,.string s15] (λh16=>
M.load h16 (Addr.add ⟨b5,0,none⟩ 0) λv17=>
M.ptr v17 λp18=>
M.load h16 (Addr.add ⟨b5,0,none⟩ 1) λv19=>
M.int .i64 v19 λn20=>
M.load h16 (Addr.add ⟨b5,0,none⟩ 2) λv21=>
M.int .i64 v21 λn22=>
M.load h16 (Addr.add ⟨b5,0,none⟩ 3) λv23=>
M.str v23 λs24=>
Q p18 n20 n22 s24 h16)
def gV.L(F:type_of% gV):LT
 | [.pointer x0,.int .i64 x1]=>λQ h=>F x0 x1 h λp30 n31 n32 s33 h34=>Q (.agg (#[.pointer p30,.int .i64 n31,.int .i64 n32,.string s33]:Array Value)) h34
 | _=>λ_ _=>False
theorem gV.geq:∀l,gj (fT Tryz.prog (ay []) Tryz.f79 lQ) l (gV.L gV l):=by
 intro l;unfold gV.L;split;exact .inr (by intros;kernel_rfl);exact .inl rfl
theorem gV.good:ai Tryz.prog 79 (WL (gV.L gV)):=.gu mixed .nil Tryz.func79 Tryz.call79 (gV.geq)
def hO(x0_0:Int)(x0_1 x0_2:ByteArray)(h:H)(Q:Bool->H->Prop):Prop:=
M.new h (.cells #[.int .i64 x0_0,.string x0_1,.string x0_2] 171) λb2 h3=>
M.join (α:=Bool) (λd9 h10=>
Q d9 h10) λJ4=>
M.load h3 (Addr.add ⟨b2,0,none⟩ 0) λv5=>
M.int .i64 v5 λn6=>
(bif(n6 == 1)then
J4 true h3
else
M.load h3 (Addr.add ⟨b2,0,none⟩ 0) λv7=>
M.int .i64 v7 λn8=>
J4 (n8 == 3) h3)
def hO.L(F:type_of% hO):LT
 | [.agg ⟨[.int .i64 x0_0,.string x0_1,.string x0_2]⟩]=>λQ h=>F x0_0 x0_1 x0_2 h λb13 h14=>Q (.bool b13) h14
 | _=>λ_ _=>False
def hO.ann:jy:=⟨ah [(1,[(2,.bool)])],ah [],ah []⟩
theorem hO.geq:∀l,gj (fT Tryz.prog (ay []) Tryz.f84 hO.ann) l (hO.L hO l):=by
 intro l;unfold hO.L;split;exact .inr (by intros;kernel_rfl);exact .inl rfl
theorem hO.good:ai Tryz.prog 84 (WL (hO.L hO)):=.gu mixed .nil Tryz.func84 Tryz.call84 (hO.geq)
def bD(x0:Option Addr)(x1:Int)(h:H)(Q:Int->H->Prop):Prop:=
(bif(Option.isNone x0)then
Q 1 h
else
M.nn x0 λa2=>
M.load h (Addr.add a2 3) λv3=>
M.bool v3 λb4=>
(bif b4 then
Q 20 h
else
M.join (α:=Bool) (λd11 h12=>
(bif d11 then
Q 2 h12
else
Q 0 h12)) λJ5=>
(bif(decide (x1<0))then
J5 true h
else
M.nn x0 λa6=>
M.load h (Addr.add a6 1) λv7=>
M.slc v7 λa8 l9 c10=>
J5 (decide (x1≥(l9:Int))) h)))
def bD.L(F:type_of% bD):LT
 | [.pointer x0,.int .i64 x1]=>λQ h=>F x0 x1 h λn15 h16=>Q (.int .i64 n15) h16
 | _=>λ_ _=>False
def bD.ann:jy:=⟨ah [(5,[(13,.bool)])],ah [],ah []⟩
theorem bD.geq:∀l,gj (fT Tryz.prog (ay []) Tryz.f97 bD.ann) l (bD.L bD l):=by
 intro l;unfold bD.L;split;exact .inr (by intros;kernel_rfl);exact .inl rfl
theorem bD.good:ai Tryz.prog 97 (WL (bD.L bD)):=.gu mixed .nil Tryz.func97 Tryz.call97 (bD.geq)
def iO(x0:Option Addr)(x1:Int)(h:H)(Q:ByteArray->Int->H->Prop):Prop:=
M.nn x0 λa3=>
M.load h (Addr.add a3 2) λv4=>
M.bool v4 λb5=>
(bif b5 then
Q empty 20 h
else
M.join (α:=Bool) (λd12 h13=>
(bif d12 then
Q empty 2 h13
else
M.join (α:=Unit) (λd43 h44=>
M.nn x0 λa45=>
M.load h44 (Addr.add a45 0) λv46=>
M.slc v46 λa47 l48 c49=>
M.idx a47 l48 x1 λa50 j51=>
M.load h44 (Addr.add a50 (j51*1)) λv52=>
M.str v52 λs53=>
Q s53 0 h44) λJ14=>
M.nn x0 λa15=>
M.load h13 (Addr.add a15 1) λv16=>
M.slc v16 λa17 l18 c19=>
M.val (wrap .i64 ((l18:Int)-1)) λz20=>
M.loop (α:=Int) (λJ21 d22 h23=>
(bif(decide (d22≥0))then
M.nn x0 λa24=>
M.load h23 (Addr.add a24 1) λv25=>
M.slc v25 λa26 l27 c28=>
M.idx a26 l27 d22 λa29 j30=>
M.load h23 (Addr.add (Addr.add a29 (j30*2)) 0) λv31=>
M.int .i64 v31 λn32=>
(bif(n32 == x1)then
M.nn x0 λa33=>
M.load h23 (Addr.add a33 1) λv34=>
M.slc v34 λa35 l36 c37=>
M.idx a35 l36 d22 λa38 j39=>
M.load h23 (Addr.add (Addr.add a38 (j39*2)) 1) λv40=>
M.str v40 λs41=>
Q s41 0 h23
else
M.val (wrap .i64 (d22-1)) λz42=>
J21 z42 h23)
else
J14 () h23)) z20 h13)) λJ6=>
(bif(decide (x1<0))then
J6 true h
else
M.nn x0 λa7=>
M.load h (Addr.add a7 0) λv8=>
M.slc v8 λa9 l10 c11=>
J6 (decide (x1≥(l10:Int))) h))
def iO.L(F:type_of% iO):LT
 | [.pointer x0,.int .i64 x1]=>λQ h=>F x0 x1 h λs57 n58 h59=>Q (.tuple #[.string s57,.int .i64 n58]) h59
 | _=>λ_ _=>False
def iO.ann:jy:=⟨ah [(3,[(21,.bool)])],ah [(15,[])],ah [(122,[(6,.int .i64)])]⟩
theorem iO.geq:∀l,gj (fT Tryz.prog (ay []) Tryz.f99 iO.ann) l (iO.L iO l):=by
 intro l;unfold iO.L;split;exact .inr (by intros;kernel_rfl);exact .inl rfl
theorem iO.good:ai Tryz.prog 99 (WL (iO.L iO)):=.gu mixed .nil Tryz.func99 Tryz.call99 (iO.geq)
def ax(x0:Option Addr)(x1:ByteArray)(h:H)(Q:Int->Value->H->Prop):Prop:=
Builder_copyCheck x0 h λh3=>
M.nn x0 λa4=>
M.load h3 (Addr.add a4 1) λv5=>
M.slc v5 λa6 l7 c8=>
M.app h3 5 1 1 [.int .u8 0] a6 l7 c8 (ByteArray.size x1) (bytesOf x1) λa9 l10 c11 h12=>
M.nn x0 λa13=>
M.put h12 (Addr.add a13 1) (.slice a9 l10 c11) λh14=>
Q (ByteArray.size x1:Int) .nilIface h14
def ax.L(F:type_of% ax):LT
 | [.pointer x0,.string x1]=>λQ h=>F x0 x1 h λn18 v19 h20=>Q (.tuple #[.int .i64 n18,v19]) h20
 | _=>λ_ _=>False
theorem ax.good:ai Tryz.prog 102 (WL (ax.L ax)):=.gu (ann:=lQ) mixed (.cons Builder_copyCheck.good .nil) Tryz.func102 Tryz.call102 (by intro l;unfold ax.L;split;exact .inr (by intros;kernel_rfl);exact .inl rfl)
def jH(x0:Bool)(h:H)(Q:Int->H->Prop):Prop:=
(bif x0 then
Q 1 h
else
Q 0 h)
def jH.L(F:type_of% jH):LT
 | [.bool x0]=>λQ h=>F x0 h λn4 h5=>Q (.int .i64 n4) h5
 | _=>λ_ _=>False
theorem jH.geq:∀l,gj (fT Tryz.prog (ay []) Tryz.f104 lQ) l (jH.L jH l):=by
 intro l;unfold jH.L;split;exact .inr (by intros;kernel_rfl);exact .inl rfl
theorem jH.good:ai Tryz.prog 104 (WL (jH.L jH)):=.gu mixed .nil Tryz.func104 Tryz.call104 (jH.geq)
def aU(x0:Option Addr)(h:H)(Q:ByteArray->H->Prop):Prop:=
M.nn x0 λa2=>
M.load h (Addr.add a2 1) λv3=>
M.slc v3 λa4 l5 c6=>
M.nn x0 λa7=>
M.load h (Addr.add a7 1) λv8=>
M.slc v8 λa9 l10 c11=>
M.SF a4 c6 λa12=>
M.still h (Addr.add a7 1) 1 h (
M.SA Tryz.prog 301 h (some a12) (l10:Int) λs13 h14=>
Q s13 h14)
def aU.L(F:type_of% aU):LT
 | [.pointer x0]=>λQ h=>F x0 h λs17 h18=>Q (.string s17) h18
 | _=>λ_ _=>False
theorem aU.geq:∀l,gj (fT Tryz.prog (ay []) Tryz.f106 lQ) l (aU.L aU l):=by
 intro l;unfold aU.L;split;exact .inr (by intros;kernel_rfl);exact .inl rfl
theorem aU.good:ai Tryz.prog 106 (WL (aU.L aU)):=.gu mixed .nil Tryz.func106 Tryz.call106 (aU.geq)
def cI(x0:Option Addr)(x0L x0C:Nat)(h:H)(Q:ByteArray->H->Prop):Prop:=
M.val (wrap .i64 (4*(x0L:Int))) λz2=>
M.mk h 5 [.int .u8 0] 1 0 z2 λa3 l4 c5 h6=>
M.join (α:=(Option Addr×Nat×Nat)) (λd30 h31=>
M.xX h31 d30.1 d30.2.1 λs32=>
Q s32 h31) λJ7=>
M.loop (α:=(Option Addr×Nat×Nat)×Int) (λJ8 d9 h10=>
(bif(decide (d9.2<(x0L:Int)))then
M.idx x0 x0L d9.2 λa11 j12=>
M.load h10 (Addr.add a11 (j12*1)) λv13=>
M.int .u32 v13 λn14=>
M.jZ 24 (
M.val (shr .u32 n14 24) λz15=>
M.val (wrap .u8 z15) λz16=>
M.jZ 16 (
M.val (shr .u32 n14 16) λz17=>
M.val (wrap .u8 z17) λz18=>
M.jZ 8 (
M.val (shr .u32 n14 8) λz19=>
M.val (wrap .u8 z19) λz20=>
M.val (wrap .u8 n14) λz21=>
M.new h10 (.cells #[.int .u8 z16,.int .u8 z18,.int .u8 z20,.int .u8 z21] 5) λb22 h23=>
M.cellsOf h23 (some ⟨b22,0,none⟩) (4*1) λcs28=>
M.app h23 5 1 1 [.int .u8 0] d9.1.1 d9.1.2.1 d9.1.2.2 4 cs28 λa24 l25 c26 h27=>
M.val (wrap .i64 (d9.2+1)) λz29=>
J8 ((a24,l25,c26),z29) h27)))
else
J7 (d9.1.1,d9.1.2.1,d9.1.2.2) h10)) ((a3,l4,c5),0) h6
def cI.L(F:type_of% cI):LT
 | [.slice x0 x0L x0C]=>λQ h=>F x0 x0L x0C h λs35 h36=>Q (.string s35) h36
 | _=>λ_ _=>False
def cI.ann:jy:=⟨ah [],ah [(7,[(3,.slc)])],ah [(58,[(3,.slc),(12,.int .i64)])]⟩
theorem cI.geq:∀l,gj (fT Tryz.prog (ay []) Tryz.f111 cI.ann) l (cI.L cI l):=by
 intro l;unfold cI.L;split;exact .inr (by intros;kernel_rfl);exact .inl rfl
theorem cI.good:ai Tryz.prog 111 (WL (cI.L cI)):=.gu mixed .nil Tryz.func111 Tryz.call111 (cI.geq)
def fS(x0:Option Addr)(h:H)(Q:Int->H->Prop):Prop:=
(bif(Option.isNone x0)then
Q 0 h
else
M.nn x0 λa2=>
M.load h (Addr.add a2 1) λv3=>
M.slc v3 λa4 l5 c6=>
Q (l5:Int) h)
def fS.L(F:type_of% fS):LT
 | [.pointer x0]=>λQ h=>F x0 h λn9 h10=>Q (.int .i64 n9) h10
 | _=>λ_ _=>False
theorem fS.geq:∀l,gj (fT Tryz.prog (ay []) Tryz.f115 lQ) l (fS.L fS l):=by
 intro l;unfold fS.L;split;exact .inr (by intros;kernel_rfl);exact .inl rfl
theorem fS.good:ai Tryz.prog 115 (WL (fS.L fS)):=.gu mixed .nil Tryz.func115 Tryz.call115 (fS.geq)
def eO(x0_0:Int)(x0_1 x0_2:ByteArray)(h:H)(Q:Bool->H->Prop):Prop:=
M.new h (.cells #[.int .i64 x0_0,.string x0_1,.string x0_2] 51) λb2 h3=>
M.join (α:=Bool) (λd9 h10=>
Q d9 h10) λJ4=>
M.load h3 (Addr.add ⟨b2,0,none⟩ 0) λv5=>
M.int .i64 v5 λn6=>
(bif(n6 == 1)then
J4 true h3
else
M.load h3 (Addr.add ⟨b2,0,none⟩ 0) λv7=>
M.int .i64 v7 λn8=>
J4 (n8 == 3) h3)
def eO.L(F:type_of% eO):LT
 | [.agg ⟨[.int .i64 x0_0,.string x0_1,.string x0_2]⟩]=>λQ h=>F x0_0 x0_1 x0_2 h λb13 h14=>Q (.bool b13) h14
 | _=>λ_ _=>False
def eO.ann:jy:=⟨ah [(1,[(2,.bool)])],ah [],ah []⟩
theorem eO.geq:∀l,gj (fT Tryz.prog (ay []) Tryz.f119 eO.ann) l (eO.L eO l):=by
 intro l;unfold eO.L;split;exact .inr (by intros;kernel_rfl);exact .inl rfl
theorem eO.good:ai Tryz.prog 119 (WL (eO.L eO)):=.gu mixed .nil Tryz.func119 Tryz.call119 (eO.geq)
def cg(x0:Option Addr)(h:H)(Q:Int->H->Prop):Prop:=
M.join (α:=Unit) (λd21 h22=>
M.nn x0 λa23=>
M.load h22 (Addr.add a23 1) λv24=>
M.int .i64 v24 λn25=>
M.val (wrap .i64 (n25+1)) λz26=>
M.nn x0 λa27=>
M.put h22 (Addr.add a27 1) (.int .i64 z26) λh28=>
Q 0 h28) λJ2=>
(bif(Option.isNone x0)then
Q 1 h
else
M.join (α:=Bool) (λd10 h11=>
(bif d10 then
Q 21 h11
else
M.nn x0 λa12=>
M.load h11 (Addr.add a12 2) λv13=>
M.bool v13 λb14=>
(bif b14 then
M.nn x0 λa15=>
M.load h11 (Addr.add a15 3) λv16=>
M.int .i64 v16 λn17=>
M.val (wrap .i64 (n17-1)) λz18=>
M.nn x0 λa19=>
M.put h11 (Addr.add a19 3) (.int .i64 z18) λh20=>
J2 () h20
else
J2 () h11))) λJ3=>
M.nn x0 λa4=>
M.load h (Addr.add a4 2) λv5=>
M.bool v5 λb6=>
(bif b6 then
M.nn x0 λa7=>
M.load h (Addr.add a7 3) λv8=>
M.int .i64 v8 λn9=>
J3 (n9 == 0) h
else
J3 false h))
def cg.L(F:type_of% cg):LT
 | [.pointer x0]=>λQ h=>F x0 h λn31 h32=>Q (.int .i64 n31) h32
 | _=>λ_ _=>False
def cg.ann:jy:=⟨ah [(3,[(6,.bool)])],ah [(3,[])],ah []⟩
theorem cg.geq:∀l,gj (fT Tryz.prog (ay []) Tryz.f123 cg.ann) l (cg.L cg l):=by
 intro l;unfold cg.L;split;exact .inr (by intros;kernel_rfl);exact .inl rfl
theorem cg.good:ai Tryz.prog 123 (WL (cg.L cg)):=.gu mixed .nil Tryz.func123 Tryz.call123 (cg.geq)
def dW(x0:Option Addr)(x1:Int)(x2:ByteArray)(h:H)(Q:Int->H->Prop):Prop:=
(bif(Option.isNone x0)then
Q 1 h
else
(bif((ByteArray.size x2:Int) != 32)then
Q 7 h
else
M.nn x0 λa2=>
M.load h (Addr.add (Addr.add a2 0) 0) λv3=>
M.int .u64 v3 λn4=>
(bif(decide (x1≤n4))then
Q 25 h
else
M.nn x0 λa5=>
M.req (Array.size (#[.int .u64 x1,.string x2]:Array Value)=2) (M.ku h (Addr.add a5 0) [.int .u64 x1,.string x2] λh6=>
Q 0 h6))))
def dW.L(F:type_of% dW):LT
 | [.pointer x0,.int .u64 x1,.string x2]=>λQ h=>F x0 x1 x2 h λn9 h10=>Q (.int .i64 n9) h10
 | _=>λ_ _=>False
theorem dW.geq:∀l,gj (fT Tryz.prog (ay []) Tryz.f124 lQ) l (dW.L dW l):=by
 intro l;unfold dW.L;split;exact .inr (by intros;kernel_rfl);exact .inl rfl
theorem dW.good:ai Tryz.prog 124 (WL (dW.L dW)):=.gu mixed .nil Tryz.func124 Tryz.call124 (dW.geq)
def jw(x0:Int)(h:H)(Q:Bool->H->Prop):Prop:=
M.join (α:=Bool) (λd3 h4=>
Q d3 h4) λJ2=>
(bif(decide (x0≥1))then
J2 (decide (x0≤4294967295)) h
else
J2 false h)
def jw.L(F:type_of% jw):LT
 | [.int .u64 x0]=>λQ h=>F x0 h λb7 h8=>Q (.bool b7) h8
 | _=>λ_ _=>False
def jw.ann:jy:=⟨ah [(1,[(2,.bool)])],ah [],ah []⟩
theorem jw.geq:∀l,gj (fT Tryz.prog (ay []) Tryz.f125 jw.ann) l (jw.L jw l):=by
 intro l;unfold jw.L;split;exact .inr (by intros;kernel_rfl);exact .inl rfl
theorem jw.good:ai Tryz.prog 125 (WL (jw.L jw)):=.gu mixed .nil Tryz.func125 Tryz.call125 (jw.geq)
def dy(x0:Option Addr)(x0L x0C:Nat)(h:H)(Q:Option Addr->Nat->Nat->H->Prop):Prop:=
(bif(Option.isNone x0)then
Q none 0 0 h
else
M.new h (.cells #[] 3) λb4 h5=>
M.cellsOf h5 x0 (x0L*1) λcs10=>
M.app h5 3 1 8 [.int .i64 0] (some ⟨b4,0,none⟩) 0 0 x0L cs10 λa6 l7 c8 h9=>
Q a6 l7 c8 h9)
def dy.L(F:type_of% dy):LT
 | [.slice x0 x0L x0C]=>λQ h=>F x0 x0L x0C h λa15 l16 c17 h18=>Q (.slice a15 l16 c17) h18
 | _=>λ_ _=>False
theorem dy.geq:∀l,gj (fT Tryz.prog (ay []) Tryz.f129 lQ) l (dy.L dy l):=by
 intro l;unfold dy.L;split;exact .inr (by intros;kernel_rfl);exact .inl rfl
theorem dy.good:ai Tryz.prog 129 (WL (dy.L dy)):=.gu mixed .nil Tryz.func129 Tryz.call129 (dy.geq)
def aA(x0:Option Addr)(x0L x0C:Nat)(h:H)(Q:Option Addr->Nat->Nat->H->Prop):Prop:=
(bif(Option.isNone x0)then
Q none 0 0 h
else
M.new h (.cells #[] 51) λb4 h5=>
M.cellsOf h5 x0 (x0L*3) λcs10=>
M.app h5 51 3 40 [.int .i64 0,.string empty,.string empty] (some ⟨b4,0,none⟩) 0 0 x0L cs10 λa6 l7 c8 h9=>
Q a6 l7 c8 h9)
def aA.L(F:type_of% aA):LT
 | [.slice x0 x0L x0C]=>λQ h=>F x0 x0L x0C h λa15 l16 c17 h18=>Q (.slice a15 l16 c17) h18
 | _=>λ_ _=>False
theorem aA.geq:∀l,gj (fT Tryz.prog (ay []) Tryz.f130 lQ) l (aA.L aA l):=by
 intro l;unfold aA.L;split;exact .inr (by intros;kernel_rfl);exact .inl rfl
theorem aA.good:ai Tryz.prog 130 (WL (aA.L aA)):=.gu mixed .nil Tryz.func130 Tryz.call130 (aA.geq)
def aQ(x0:Int)(a1:Addr)(h:H)(Q:Bool->H->Prop):Prop:=
M.join (α:=Bool) (λd11 h12=>
Q d11 h12) λJ3=>
(bif(decide (x0≥0))then
M.load h a1 λv4=>
M.ptr v4 λp5=>
M.nn p5 λa6=>
M.load h (Addr.add (Addr.add a6 0) 8) λv7=>
M.slc v7 λa8 l9 c10=>
J3 (decide (x0<(l9:Int))) h
else
J3 false h)
def aQ.L(F:type_of% aQ):LT
 | [.int .i64 x0,.pointer (some a1)]=>λQ h=>F x0 a1 h λb15 h16=>Q (.bool b15) h16
 | _=>λ_ _=>False
def aQ.ann:jy:=⟨ah [(1,[(3,.bool)])],ah [],ah []⟩
theorem aQ.geq:∀l,gj (fT Tryz.prog (ay []) Tryz.f131 aQ.ann) l (aQ.L aQ l):=by
 intro l;unfold aQ.L;split;exact .inr (by intros;kernel_rfl);exact .inl rfl
theorem aQ.good:ai Tryz.prog 131 (WL (aQ.L aQ)):=.gu mixed .nil Tryz.func131 Tryz.call131 (aQ.geq)
def aW(x0:Int)(a1:Addr)(h:H)(Q:Bool->H->Prop):Prop:=
M.load h a1 λv3=>
sg (ay [(131,WL (aQ.L aQ))]) v3 [.int .i64 x0] (λr4 h5=>
M.Fb r4 λb6=>
Q (!b6) h5) h
def aW.L(F:type_of% aW):LT
 | [.int .i64 x0,.pointer (some a1)]=>λQ h=>F x0 a1 h λb9 h10=>Q (.bool b9) h10
 | _=>λ_ _=>False
theorem aW.good:ai Tryz.prog 133 (WL (aW.L aW)):=.gu (ann:=lQ) mixed (.cons aQ.good .nil) Tryz.func133 Tryz.call133 (by intro l;unfold aW.L;split;exact .inr (by intros;kernel_rfl);exact .inl rfl)
def cx(x0_0 x0_1:Int)(x0_2:ByteArray)(a1:Addr)(h:H)(Q:Bool->H->Prop):Prop:=
M.new h (.cells #[.int .i64 x0_0,.int .i64 x0_1,.string x0_2] 111) λb3 h4=>
M.load h4 a1 λv5=>
M.load h4 (Addr.add ⟨b3,0,none⟩ 0) λv6=>
M.int .i64 v6 λn7=>
sg (ay [(131,WL (aQ.L aQ)),(133,WL (aW.L aW))]) v5 [.int .i64 n7] (λr8 h9=>
M.Fb r8 λb10=>
Q (!b10) h9) h4
def cx.L(F:type_of% cx):LT
 | [.agg ⟨[.int .i64 x0_0,.int .i64 x0_1,.string x0_2]⟩,.pointer (some a1)]=>λQ h=>F x0_0 x0_1 x0_2 a1 h λb13 h14=>Q (.bool b13) h14
 | _=>λ_ _=>False
theorem cx.good:ai Tryz.prog 135 (WL (cx.L cx)):=.gu (ann:=lQ) mixed (.cons aQ.good (.cons aW.good .nil)) Tryz.func135 Tryz.call135 (by intro l;unfold cx.L;split;exact .inr (by intros;kernel_rfl);exact .inl rfl)
def ck(x0:Option Addr)(x1:Int)(h:H)(Q:H->Prop):Prop:=
M.join (α:=Unit) (λd13 h14=>
M.nn x0 λa15=>
M.load h14 (Addr.add (Addr.add a15 0) 8) λv16=>
M.slc v16 λa17 l18 c19=>
M.idx a17 l18 x1 λa20 j21=>
M.put h14 (Addr.add (Addr.add a20 (j21*3)) 0) (.int .i64 2) λh22=>
M.nn x0 λa23=>
M.load h22 (Addr.add a23 9) λv24=>
M.map v24 λm25=>
M.P8 Tryz.prog 143 (.map m25) (.int .i64 x1) h22 λh26=>
Q h26) λJ1=>
M.nn x0 λa2=>
M.load h (Addr.add (Addr.add a2 0) 8) λv3=>
M.slc v3 λa4 l5 c6=>
M.idx a4 l5 x1 λa7 j8=>
M.load h (Addr.add (Addr.add a7 (j8*3)) 0) λv9=>
M.int .i64 v9 λn10=>
(bif(n10 == 3)then
M.nn x0 λa11=>
M.put h (Addr.add (Addr.add a11 0) 5) (.int .i64 0) λh12=>
J1 () h12
else
J1 () h)
def ck.L(F:type_of% ck):LT
 | [.pointer x0,.int .i64 x1]=>λQ h=>F x0 x1 h λh28=>Q (.tuple #[]) h28
 | _=>λ_ _=>False
def ck.ann:jy:=⟨ah [],ah [(1,[])],ah []⟩
theorem ck.geq:∀l,gj (fT Tryz.prog (ay []) Tryz.f136 ck.ann) l (ck.L ck l):=by
 intro l;unfold ck.L;split;exact .inr (by intros;kernel_rfl);exact .inl rfl
theorem ck.good:ai Tryz.prog 136 (WL (ck.L ck)):=.gu mixed .nil Tryz.func136 Tryz.call136 (ck.geq)
def bW(x0:Option Addr)(h:H)(Q:Bool->H->Prop):Prop:=
M.join (α:=Int) (λd27 h28=>
Q (decide (d27≤2)) h28) λJ2=>
M.nn x0 λa3=>
M.load h (Addr.add (Addr.add a3 0) 7) λv4=>
M.slc v4 λa5 l6 c7=>
M.loop (α:=Int×Int) (λJ8 d9 h10=>
(bif(decide (d9.2<(l6:Int)))then
M.idx a5 l6 d9.2 λa11 j12=>
M.load h10 (Addr.add a11 (j12*1)) λv13=>
M.int .i64 v13 λn14=>
M.nn x0 λa15=>
M.load h10 (Addr.add (Addr.add a15 0) 8) λv16=>
M.slc v16 λa17 l18 c19=>
M.idx a17 l18 n14 λa20 j21=>
M.load h10 (Addr.add (Addr.add a20 (j21*3)) 0) λv22=>
M.int .i64 v22 λn23=>
(bif(n23 != 1)then
M.val (wrap .i64 (d9.1+1)) λz24=>
M.val (wrap .i64 (d9.2+1)) λz25=>
J8 (z24,z25) h10
else
M.val (wrap .i64 (d9.2+1)) λz26=>
J8 (d9.1,z26) h10)
else
J2 d9.1 h10)) (0,0) h
def bW.L(F:type_of% bW):LT
 | [.pointer x0]=>λQ h=>F x0 h λb31 h32=>Q (.bool b31) h32
 | _=>λ_ _=>False
def bW.ann:jy:=⟨ah [],ah [(7,[(3,.int .i64)])],ah [(58,[(3,.int .i64),(12,.int .i64)])]⟩
theorem bW.geq:∀l,gj (fT Tryz.prog (ay []) Tryz.f137 bW.ann) l (bW.L bW l):=by
 intro l;unfold bW.L;split;exact .inr (by intros;kernel_rfl);exact .inl rfl
theorem bW.good:ai Tryz.prog 137 (WL (bW.L bW)):=.gu mixed .nil Tryz.func137 Tryz.call137 (bW.geq)
def cU(x0:Option Addr)(x0L x0C:Nat)(x1:Int)(h:H)(Q:Int->H->Prop):Prop:=
M.loop (α:=Int) (λJ2 d3 h4=>
(bif(decide (d3<(x0L:Int)))then
M.idx x0 x0L d3 λa5 j6=>
M.load h4 (Addr.add a5 (j6*1)) λv7=>
M.int .i64 v7 λn8=>
(bif(x1 == n8)then
Q d3 h4
else
M.val (wrap .i64 (d3+1)) λz9=>
J2 z9 h4)
else
Q (-1) h4)) 0 h
def cU.L(F:type_of% cU):LT
 | [.slice x0 x0L x0C,.int .i64 x1]=>λQ h=>F x0 x0L x0C x1 h λn12 h13=>Q (.int .i64 n12) h13
 | _=>λ_ _=>False
def cU.ann:jy:=⟨ah [],ah [],ah [(26,[(8,.int .i64)])]⟩
theorem cU.geq:∀l,gj (fT Tryz.prog (ay []) Tryz.f139 cU.ann) l (cU.L cU l):=by
 intro l;unfold cU.L;split;exact .inr (by intros;kernel_rfl);exact .inl rfl
theorem cU.good:ai Tryz.prog 139 (WL (cU.L cU)):=.gu mixed .nil Tryz.func139 Tryz.call139 (cU.geq)
def aX(x0_0:Option Addr)(x0_1 x0_2:Int)(x0_3:ByteArray)(h:H)(Q:Bool->H->Prop):Prop:=
M.new h (.cells #[.pointer x0_0,.int .i64 x0_1,.int .i64 x0_2,.string x0_3] 126) λb2 h3=>
M.load h3 (Addr.add ⟨b2,0,none⟩ 2) λv4=>
M.int .i64 v4 λn5=>
fu n5 0 h3 λa6 l7 c8 n9 h10=>
M.join (α:=Bool) (λd20 h21=>
Q d20 h21) λJ11=>
(bif(n9 == 0)then
M.load h10 (Addr.add ⟨b2,0,none⟩ 3) λv12=>
M.str v12 λs13=>
(bif((ByteArray.size s13:Int) == 32)then
M.load h10 (Addr.add ⟨b2,0,none⟩ 0) λv14=>
M.ptr v14 λp15=>
M.load h10 (Addr.add ⟨b2,0,none⟩ 1) λv16=>
M.int .i64 v16 λn17=>
cw p15 n17 h10 λp18 h19=>
J11 (!(Option.isNone p18)) h19
else
J11 false h10)
else
J11 false h10)
def aX.L(F:type_of% aX):LT
 | [.agg ⟨[.pointer x0_0,.int .i64 x0_1,.int .i64 x0_2,.string x0_3]⟩]=>λQ h=>F x0_0 x0_1 x0_2 x0_3 h λb24 h25=>Q (.bool b24) h25
 | _=>λ_ _=>False
def aX.ann:jy:=⟨ah [(2,[(2,.bool)])],ah [],ah []⟩
theorem aX.good:ai Tryz.prog 144 (WL (aX.L aX)):=.gu (ann:=aX.ann) mixed (.cons fu.good (.cons cw.good .nil)) Tryz.func144 Tryz.call144 (by intro l;unfold aX.L;split;exact .inr (by intros;kernel_rfl);exact .inl rfl)
def dY(x0:Option Addr)(h:H)(Q:Int->H->Prop):Prop:=
M.nn x0 λa2=>
M.load h (Addr.add a2 2) λv3=>
M.int .i64 v3 λn4=>
(bif(n4 == 0)then
Q 21 h
else
M.join (α:=Unit) (λd15 h16=>
M.nn x0 λa17=>
M.load h16 (Addr.add a17 1) λv18=>
M.int .i64 v18 λn19=>
M.val (wrap .i64 (n19+1)) λz20=>
M.nn x0 λa21=>
M.put h16 (Addr.add a21 1) (.int .i64 z20) λh22=>
Q 0 h22) λJ5=>
M.nn x0 λa6=>
M.load h (Addr.add a6 2) λv7=>
M.int .i64 v7 λn8=>
(bif(decide (n8>0))then
M.nn x0 λa9=>
M.load h (Addr.add a9 2) λv10=>
M.int .i64 v10 λn11=>
M.val (wrap .i64 (n11-1)) λz12=>
M.nn x0 λa13=>
M.put h (Addr.add a13 2) (.int .i64 z12) λh14=>
J5 () h14
else
J5 () h))
def dY.L(F:type_of% dY):LT
 | [.pointer x0]=>λQ h=>F x0 h λn25 h26=>Q (.int .i64 n25) h26
 | _=>λ_ _=>False
def dY.ann:jy:=⟨ah [],ah [(7,[])],ah []⟩
theorem dY.geq:∀l,gj (fT Tryz.prog (ay []) Tryz.f155 dY.ann) l (dY.L dY l):=by
 intro l;unfold dY.L;split;exact .inr (by intros;kernel_rfl);exact .inl rfl
theorem dY.good:ai Tryz.prog 155 (WL (dY.L dY)):=.gu mixed .nil Tryz.func155 Tryz.call155 (dY.geq)
def jF(x0:Option Addr)(x1:Int)(x2:ByteArray)(h:H)(Q:Int->H->Prop):Prop:=
(bif((ByteArray.size x2:Int) != 32)then
Q 7 h
else
M.nn x0 λa2=>
M.load h (Addr.add a2 0) λv3=>
M.int .u64 v3 λn4=>
(bif(decide (x1≤n4))then
Q 25 h
else
M.nn x0 λa5=>
M.put h (Addr.add a5 0) (.int .u64 x1) λh6=>
M.nn x0 λa7=>
M.put h6 (Addr.add a7 1) (.string x2) λh8=>
Q 0 h8))
def jF.L(F:type_of% jF):LT
 | [.pointer x0,.int .u64 x1,.string x2]=>λQ h=>F x0 x1 x2 h λn11 h12=>Q (.int .i64 n11) h12
 | _=>λ_ _=>False
theorem jF.geq:∀l,gj (fT Tryz.prog (ay []) Tryz.f157 lQ) l (jF.L jF l):=by
 intro l;unfold jF.L;split;exact .inr (by intros;kernel_rfl);exact .inl rfl
theorem jF.good:ai Tryz.prog 157 (WL (jF.L jF)):=.gu mixed .nil Tryz.func157 Tryz.call157 (jF.geq)
def fI(x0:Option Addr)(x1 x2:Int)(h:H)(Q:ByteArray->Int->H->Prop):Prop:=
M.join (α:=Bool) (λd9 h10=>
(bif d9 then
Q empty 11 h10
else
M.nn x0 λa11=>
M.load h10 (Addr.add a11 2) λv12=>
M.int .i64 v12 λn13=>
(bif(n13 == 0)then
Q empty 21 h10
else
M.nn x0 λa14=>
M.load h10 (Addr.add a14 0) λv15=>
M.slc v15 λa16 l17 c18=>
M.idx a16 l17 x1 λa19 j20=>
M.load h10 (Addr.add a19 (j20*1)) λv21=>
M.ptr v21 λO8=>
iO O8 x2 h10 λs23 n24 h25=>
Q s23 n24 h25))) λJ3=>
(bif(decide (x1<0))then
J3 true h
else
M.nn x0 λa4=>
M.load h (Addr.add a4 0) λv5=>
M.slc v5 λa6 l7 c8=>
J3 (decide (x1≥(l7:Int))) h)
def fI.L(F:type_of% fI):LT
 | [.pointer x0,.int .i64 x1,.int .i64 x2]=>λQ h=>F x0 x1 x2 h λs29 n30 h31=>Q (.tuple #[.string s29,.int .i64 n30]) h31
 | _=>λ_ _=>False
def fI.ann:jy:=⟨ah [(1,[(18,.bool)])],ah [],ah []⟩
theorem fI.good:ai Tryz.prog 158 (WL (fI.L fI)):=.gu (ann:=fI.ann) mixed (.cons iO.good .nil) Tryz.func158 Tryz.call158 (by intro l;unfold fI.L;split;exact .inr (by intros;kernel_rfl);exact .inl rfl)
def eY(x0:Int)(h:H)(Q:ByteArray->H->Prop):Prop:=
M.new h (.cells #[.int .u8 0,.int .u8 0,.int .u8 0,.int .u8 0,.int .u8 0,.int .u8 0,.int .u8 0,.int .u8 0] 340) λb2 h3=>
M.join (α:=Unit) (λd14 h15=>
M.sub (some ⟨b2,0,none⟩) 8 1 0 ((8:Nat):Int) λa16 l17 c18=>
M.xX h15 a16 l17 λs19=>
Q s19 h15) λJ4=>
M.loop (α:=Int×Int) (λJ5 d6 h7=>
(bif(decide (d6.2≥0))then
M.nz 256 (
M.val (Int.tmod d6.1 256) λz8=>
M.val (wrap .u8 z8) λz9=>
M.fk 8 d6.2 λj10=>
M.put h7 (Addr.add ⟨b2,0,none⟩ (j10*1)) (.int .u8 z9) λh11=>
M.nz 256 (
M.val (wrap .u64 (Int.tdiv d6.1 256)) λz12=>
M.val (wrap .i64 (d6.2-1)) λz13=>
J5 (z12,z13) h11))
else
J4 () h7)) (x0,7) h3
def eY.L(F:type_of% eY):LT
 | [.int .u64 x0]=>λQ h=>F x0 h λs22 h23=>Q (.string s22) h23
 | _=>λ_ _=>False
def eY.ann:jy:=⟨ah [],ah [(7,[])],ah [(58,[(0,.int .u64),(4,.int .i64)])]⟩
theorem eY.geq:∀l,gj (fT Tryz.prog (ay []) Tryz.f163 eY.ann) l (eY.L eY l):=by
 intro l;unfold eY.L;split;exact .inr (by intros;kernel_rfl);exact .inl rfl
theorem eY.good:ai Tryz.prog 163 (WL (eY.L eY)):=.gu mixed .nil Tryz.func163 Tryz.call163 (eY.geq)
def eX(x0:ByteArray)(h:H)(Q:ByteArray->H->Prop):Prop:=
M.val (wrap .u64 (ByteArray.size x0:Int)) λz2=>
eY z2 h λs3 h4=>
M.cat s3 x0 λs5=>
Q s5 h4
def eX.L(F:type_of% eX):LT
 | [.string x0]=>λQ h=>F x0 h λs8 h9=>Q (.string s8) h9
 | _=>λ_ _=>False
theorem eX.good:ai Tryz.prog 164 (WL (eX.L eX)):=.gu (ann:=lQ) mixed (.cons eY.good .nil) Tryz.func164 Tryz.call164 (by intro l;unfold eX.L;split;exact .inr (by intros;kernel_rfl);exact .inl rfl)
def kX  (h:H) (Q:Option Addr->H->Prop):Prop:=
M.load h (Addr.add ⟨1,0,none⟩ 0) λv2=>
M.int .u32 v2 λn3=>
M.load h (Addr.add ⟨1,0,none⟩ 1) λv4=>
M.int .u32 v4 λn5=>
M.load h (Addr.add ⟨1,0,none⟩ 2) λv6=>
M.int .u32 v6 λn7=>
M.load h (Addr.add ⟨1,0,none⟩ 3) λv8=>
M.int .u32 v8 λn9=>
M.load h (Addr.add ⟨1,0,none⟩ 4) λv10=>
M.int .u32 v10 λn11=>
M.load h (Addr.add ⟨1,0,none⟩ 5) λv12=>
M.int .u32 v12 λn13=>
M.load h (Addr.add ⟨1,0,none⟩ 6) λv14=>
M.int .u32 v14 λn15=>
M.load h (Addr.add ⟨1,0,none⟩ 7) λv16=>
M.int .u32 v16 λn17=>
M.new h (.cells #[.int .u32 n3,.int .u32 n5,.int .u32 n7,.int .u32 n9,.int .u32 n11,.int .u32 n13,.int .u32 n15,.int .u32 n17,.string empty,.int .i64 0] 367) λb18 h19=>
Q (some ⟨b18,0,none⟩) h19
def kX.L(F:type_of% kX):LT
 | []=>λQ h=>F  h λO8 h23=>Q (.pointer O8) h23
 | _=>λ_ _=>False
theorem kX.geq:∀l,gj (fT Tryz.prog (ay []) Tryz.f179 lQ) l (kX.L kX l):=by
 intro l;unfold kX.L;split;exact .inr (by intros;kernel_rfl);exact .inl rfl
theorem kX.good:ai Tryz.prog 179 (WL (kX.L kX)):=.gu mixed .nil Tryz.func179 Tryz.call179 (kX.geq)
def gA(x0 x1:ByteArray)(h:H)(Q:Bool->H->Prop):Prop:=
M.join (α:=Bool) (λd3 h4=>
Q d3 h4) λJ2=>
(bif((ByteArray.size x0:Int) == 32)then
J2 ((ByteArray.size x1:Int) == 12) h
else
J2 false h)
def gA.L(F:type_of% gA):LT
 | [.string x0,.string x1]=>λQ h=>F x0 x1 h λb7 h8=>Q (.bool b7) h8
 | _=>λ_ _=>False
def gA.ann:jy:=⟨ah [(1,[(4,.bool)])],ah [],ah []⟩
theorem gA.geq:∀l,gj (fT Tryz.prog (ay []) Tryz.f187 gA.ann) l (gA.L gA l):=by
 intro l;unfold gA.L;split;exact .inr (by intros;kernel_rfl);exact .inl rfl
theorem gA.good:ai Tryz.prog 187 (WL (gA.L gA)):=.gu mixed .nil Tryz.func187 Tryz.call187 (gA.geq)
def bV(x0:Option Addr)(x1:Int)(h:H)(Q:Int->H->Prop):Prop:=
(bif(Option.isNone x0)then
Q 1 h
else
cw x0 x1 h λp2 h3=>
(bif(Option.isNone p2)then
Q 11 h3
else
Q 0 h3))
def bV.L(F:type_of% bV):LT
 | [.pointer x0,.int .i64 x1]=>λQ h=>F x0 x1 h λn6 h7=>Q (.int .i64 n6) h7
 | _=>λ_ _=>False
theorem bV.good:ai Tryz.prog 190 (WL (bV.L bV)):=.gu (ann:=lQ) mixed (.cons cw.good .nil) Tryz.func190 Tryz.call190 (by intro l;unfold bV.L;split;exact .inr (by intros;kernel_rfl);exact .inl rfl)
def ey(x0:Option Addr)(x1:Int)(h:H)(Q:ByteArray->Int->H->Prop):Prop:=
bD x0 x1 h λn3 h4=>
(bif(n3 != 0)then
Q empty n3 h4
else
M.nn x0 λa5=>
M.load h4 (Addr.add a5 1) λv6=>
M.slc v6 λa7 l8 c9=>
M.idx a7 l8 x1 λa10 j11=>
M.load h4 (Addr.add a10 (j11*1)) λv12=>
M.str v12 λs13=>
Q s13 0 h4)
def ey.L(F:type_of% ey):LT
 | [.pointer x0,.int .i64 x1]=>λQ h=>F x0 x1 h λs17 n18 h19=>Q (.tuple #[.string s17,.int .i64 n18]) h19
 | _=>λ_ _=>False
theorem ey.good:ai Tryz.prog 191 (WL (ey.L ey)):=.gu (ann:=lQ) mixed (.cons bD.good .nil) Tryz.func191 Tryz.call191 (by intro l;unfold ey.L;split;exact .inr (by intros;kernel_rfl);exact .inl rfl)
def gE(x0:ByteArray)(h:H)(Q:Option Addr->H->Prop):Prop:=
M.new h (.cells #[.string x0,.int .i64 0] 381) λb2 h3=>
Q (some ⟨b2,0,none⟩) h3
def gE.L(F:type_of% gE):LT
 | [.string x0]=>λQ h=>F x0 h λp6 h7=>Q (.pointer p6) h7
 | _=>λ_ _=>False
theorem gE.geq:∀l,gj (fT Tryz.prog (ay []) Tryz.f193 lQ) l (gE.L gE l):=by
 intro l;unfold gE.L;split;exact .inr (by intros;kernel_rfl);exact .inl rfl
theorem gE.good:ai Tryz.prog 193 (WL (gE.L gE)):=.gu mixed .nil Tryz.func193 Tryz.call193 (gE.geq)
def bu(x0:Option Addr)(h:H)(Q:Int->H->Prop):Prop:=
(bif(Option.isNone x0)then
Q 1 h
else
M.nn x0 λa2=>
M.load h (Addr.add a2 1) λv3=>
M.int .i64 v3 λn4=>
(bif(n4 != 0)then
M.nn x0 λa5=>
M.load h (Addr.add a5 1) λv6=>
M.int .i64 v6 λn7=>
Q n7 h
else
M.nn x0 λa8=>
M.load h (Addr.add a8 0) λv9=>
M.str v9 λs10=>
(bif(!mX s10 empty)then
Q 5 h
else
Q 0 h)))
def bu.L(F:type_of% bu):LT
 | [.pointer x0]=>λQ h=>F x0 h λn13 h14=>Q (.int .i64 n13) h14
 | _=>λ_ _=>False
theorem bu.geq:∀l,gj (fT Tryz.prog (ay []) Tryz.f197 lQ) l (bu.L bu l):=by
 intro l;unfold bu.L;split;exact .inr (by intros;kernel_rfl);exact .inl rfl
theorem bu.good:ai Tryz.prog 197 (WL (bu.L bu)):=.gu mixed .nil Tryz.func197 Tryz.call197 (bu.geq)
def cy(x0_0:Int)(x0_1:ByteArray)(h:H)(Q:Int->H->Prop):Prop:=
M.new h (.cells #[.int .i64 x0_0,.string x0_1] 261) λb2 h3=>
M.join (α:=Bool) (λd9 h10=>
(bif d9 then
Q 2 h10
else
M.load h10 (Addr.add ⟨b2,0,none⟩ 1) λv11=>
M.str v11 λs12=>
(bif(decide ((ByteArray.size s12:Int)>2032))then
Q 5 h10
else
Q 0 h10))) λJ4=>
M.load h3 (Addr.add ⟨b2,0,none⟩ 0) λv5=>
M.int .i64 v5 λn6=>
(bif(decide (n6<100))then
J4 true h3
else
M.load h3 (Addr.add ⟨b2,0,none⟩ 0) λv7=>
M.int .i64 v7 λn8=>
J4 (decide (n8≥140)) h3)
def cy.L(F:type_of% cy):LT
 | [.agg ⟨[.int .i64 x0_0,.string x0_1]⟩]=>λQ h=>F x0_0 x0_1 h λn15 h16=>Q (.int .i64 n15) h16
 | _=>λ_ _=>False
def cy.ann:jy:=⟨ah [(1,[(3,.bool)])],ah [],ah []⟩
theorem cy.geq:∀l,gj (fT Tryz.prog (ay []) Tryz.f199 cy.ann) l (cy.L cy l):=by
 intro l;unfold cy.L;split;exact .inr (by intros;kernel_rfl);exact .inl rfl
theorem cy.good:ai Tryz.prog 199 (WL (cy.L cy)):=.gu mixed .nil Tryz.func199 Tryz.call199 (cy.geq)
def iQ(x0 x1:ByteArray)(h:H)(Q:Bool->H->Prop):Prop:=
(bif((ByteArray.size x0:Int) != (ByteArray.size x1:Int))then
Q false h
else
M.join (α:=Int) (λd11 h12=>
Q (d11 == 0) h12) λJ2=>
M.loop (α:=Int×Int) (λJ3 d4 h5=>
(bif(decide (d4.2<(ByteArray.size x0:Int)))then
M.byte x0 d4.2 λn6=>
M.byte x1 d4.2 λn7=>
M.val (mZ .u8 n6 n7) λz8=>
M.val (ye .u8 d4.1 z8) λz9=>
M.val (wrap .i64 (d4.2+1)) λz10=>
J3 (z9,z10) h5
else
J2 d4.1 h5)) (0,0) h)
def iQ.L(F:type_of% iQ):LT
 | [.string x0,.string x1]=>λQ h=>F x0 x1 h λb15 h16=>Q (.bool b15) h16
 | _=>λ_ _=>False
def iQ.ann:jy:=⟨ah [],ah [(15,[(5,.int .u8)])],ah [(122,[(5,.int .u8),(14,.int .i64)])]⟩
theorem iQ.geq:∀l,gj (fT Tryz.prog (ay []) Tryz.f202 iQ.ann) l (iQ.L iQ l):=by
 intro l;unfold iQ.L;split;exact .inr (by intros;kernel_rfl);exact .inl rfl
theorem iQ.good:ai Tryz.prog 202 (WL (iQ.L iQ)):=.gu mixed .nil Tryz.func202 Tryz.call202 (iQ.geq)
def fM(x0 x1:Int)(h:H)(Q:Int->Int->H->Prop):Prop:=
M.val (lS .u64 x0 4294967295) λz3=>
M.jZ 32 (
M.val (shr .u64 x0 32) λz4=>
M.val (lS .u64 x1 4294967295) λz5=>
M.jZ 32 (
M.val (shr .u64 x1 32) λz6=>
M.val (wrap .u64 (z3*z5)) λz7=>
M.val (wrap .u64 (z4*z5)) λz8=>
M.jZ 32 (
M.val (shr .u64 z7 32) λz9=>
M.val (wrap .u64 (z8+z9)) λz10=>
M.val (lS .u64 z10 4294967295) λz11=>
M.jZ 32 (
M.val (shr .u64 z10 32) λz12=>
M.val (wrap .u64 (z3*z6)) λz13=>
M.val (wrap .u64 (z11+z13)) λz14=>
M.val (wrap .u64 (z4*z6)) λz15=>
M.val (wrap .u64 (z15+z12)) λz16=>
M.jZ 32 (
M.val (shr .u64 z14 32) λz17=>
M.val (wrap .u64 (z16+z17)) λz18=>
M.val (wrap .u64 (x0*x1)) λz19=>
Q z18 z19 h)))))
def fM.L(F:type_of% fM):LT
 | [.int .u64 x0,.int .u64 x1]=>λQ h=>F x0 x1 h λn23 n24 h25=>Q (.tuple #[.int .u64 n23,.int .u64 n24]) h25
 | _=>λ_ _=>False
theorem fM.geq:∀l,gj (fT Tryz.prog (ay []) Tryz.f206 lQ) l (fM.L fM l):=by
 intro l;unfold fM.L;split;exact .inr (by intros;kernel_rfl);exact .inl rfl
theorem fM.good:ai Tryz.prog 206 (WL (fM.L fM)):=.gu mixed .nil Tryz.func206 Tryz.call206 (fM.geq)
def dR(x0:Option Addr)(x1:Int)(x2:ByteArray)(h:H)(Q:Int->H->Prop):Prop:=
bD x0 x1 h λn2 h3=>
(bif(n2 != 0)then
Q n2 h3
else
(bif(decide ((ByteArray.size x2:Int)>2048))then
Q 5 h3
else
M.nn x0 λa4=>
M.load h3 (Addr.add a4 1) λv5=>
M.slc v5 λa6 l7 c8=>
M.idx a6 l7 x1 λa9 j10=>
M.put h3 (Addr.add a9 (j10*1)) (.string x2) λh11=>
M.nn x0 λa12=>
M.load h11 (Addr.add a12 2) λv13=>
M.slc v13 λa14 l15 c16=>
M.new h11 (.cells #[.int .i64 x1,.string x2] 283) λb17 h18=>
M.cellsOf h18 (some ⟨b17,0,none⟩) (1*2) λcs23=>
M.app h18 283 2 24 [.int .i64 0,.string empty] a14 l15 c16 1 cs23 λa19 l20 c21 h22=>
M.nn x0 λa24=>
M.put h22 (Addr.add a24 2) (.slice a19 l20 c21) λh25=>
Q 0 h25))
def dR.L(F:type_of% dR):LT
 | [.pointer x0,.int .i64 x1,.string x2]=>λQ h=>F x0 x1 x2 h λn28 h29=>Q (.int .i64 n28) h29
 | _=>λ_ _=>False
theorem dR.good:ai Tryz.prog 211 (WL (dR.L dR)):=.gu (ann:=lQ) mixed (.cons bD.good .nil) Tryz.func211 Tryz.call211 (by intro l;unfold dR.L;split;exact .inr (by intros;kernel_rfl);exact .inl rfl)
def dU(x0:Option Addr)(h:H)(Q:Int->H->Prop):Prop:=
bD x0 0 h λn2 h3=>
(bif(n2 != 0)then
Q n2 h3
else
M.nn x0 λa4=>
M.load h3 (Addr.add a4 0) λv5=>
M.slc v5 λa6 l7 c8=>
M.nn x0 λa9=>
M.load h3 (Addr.add a9 1) λv10=>
M.slc v10 λa11 l12 c13=>
M.cellsOf h3 a11 ((min l12 l7)*1) λcs15=>
M.copy h3 a6 cs15 λh14=>
M.nn x0 λa16=>
M.put h14 (Addr.add a16 2) (.slice none 0 0) λh17=>
Q 0 h17)
def dU.L(F:type_of% dU):LT
 | [.pointer x0]=>λQ h=>F x0 h λn20 h21=>Q (.int .i64 n20) h21
 | _=>λ_ _=>False
theorem dU.good:ai Tryz.prog 212 (WL (dU.L dU)):=.gu (ann:=lQ) mixed (.cons bD.good .nil) Tryz.func212 Tryz.call212 (by intro l;unfold dU.L;split;exact .inr (by intros;kernel_rfl);exact .inl rfl)
def gi(x0:Int)(h:H)(Q:Int->H->Prop):Prop:=
(bif(x0 == 2)then
Q 1 h
else
(bif(x0 == 4)then
Q 2 h
else
(bif(x0 == 8)then
Q 3 h
else
(bif(x0 == 16)then
Q 4 h
else
Q 0 h))))
def gi.L(F:type_of% gi):LT
 | [.int .i64 x0]=>λQ h=>F x0 h λn4 h5=>Q (.int .i64 n4) h5
 | _=>λ_ _=>False
theorem gi.geq:∀l,gj (fT Tryz.prog (ay []) Tryz.f214 lQ) l (gi.L gi l):=by
 intro l;unfold gi.L;split;exact .inr (by intros;kernel_rfl);exact .inl rfl
theorem gi.good:ai Tryz.prog 214 (WL (gi.L gi)):=.gu mixed .nil Tryz.func214 Tryz.call214 (gi.geq)
def jl(x0:Option Addr)(x1:Int)(x2:ByteArray)(h:H)(Q:Int->H->Prop):Prop:=
M.nn x0 λa2=>
M.load h (Addr.add a2 2) λv3=>
M.bool v3 λb4=>
(bif b4 then
Q 20 h
else
M.join (α:=Bool) (λd11 h12=>
(bif d11 then
Q 2 h12
else
(bif(decide ((ByteArray.size x2:Int)>2048))then
Q 5 h12
else
M.nn x0 λa13=>
M.load h12 (Addr.add a13 1) λv14=>
M.slc v14 λa15 l16 c17=>
M.new h12 (.cells #[.int .i64 x1,.string x2] 286) λb18 h19=>
M.cellsOf h19 (some ⟨b18,0,none⟩) (1*2) λcs24=>
M.app h19 286 2 24 [.int .i64 0,.string empty] a15 l16 c17 1 cs24 λa20 l21 c22 h23=>
M.nn x0 λa25=>
M.put h23 (Addr.add a25 1) (.slice a20 l21 c22) λh26=>
Q 0 h26))) λJ5=>
(bif(decide (x1<0))then
J5 true h
else
M.nn x0 λa6=>
M.load h (Addr.add a6 0) λv7=>
M.slc v7 λa8 l9 c10=>
J5 (decide (x1≥(l9:Int))) h))
def jl.L(F:type_of% jl):LT
 | [.pointer x0,.int .i64 x1,.string x2]=>λQ h=>F x0 x1 x2 h λn29 h30=>Q (.int .i64 n29) h30
 | _=>λ_ _=>False
def jl.ann:jy:=⟨ah [(3,[(21,.bool)])],ah [],ah []⟩
theorem jl.geq:∀l,gj (fT Tryz.prog (ay []) Tryz.f217 jl.ann) l (jl.L jl l):=by
 intro l;unfold jl.L;split;exact .inr (by intros;kernel_rfl);exact .inl rfl
theorem jl.good:ai Tryz.prog 217 (WL (jl.L jl)):=.gu mixed .nil Tryz.func217 Tryz.call217 (jl.geq)
def gY(x0:Option Addr)(h:H)(Q:Int->H->Prop):Prop:=
M.nn x0 λa2=>
M.load h (Addr.add a2 2) λv3=>
M.bool v3 λb4=>
(bif b4 then
Q 20 h
else
M.join (α:=Unit) (λd41 h42=>
M.nn x0 λa43=>
M.put h42 (Addr.add a43 1) (.slice none 0 0) λh44=>
Q 0 h44) λJ5=>
M.loop (α:=Int) (λJ6 d7 h8=>
M.nn x0 λa9=>
M.load h8 (Addr.add a9 1) λv10=>
M.slc v10 λa11 l12 c13=>
(bif(decide (d7<(l12:Int)))then
M.nn x0 λa14=>
M.load h8 (Addr.add a14 0) λv15=>
M.slc v15 λa16 l17 c18=>
M.nn x0 λa19=>
M.load h8 (Addr.add a19 1) λv20=>
M.slc v20 λa21 l22 c23=>
M.idx a21 l22 d7 λa24 j25=>
M.load h8 (Addr.add (Addr.add a24 (j25*2)) 0) λv26=>
M.int .i64 v26 λn27=>
M.nn x0 λa28=>
M.load h8 (Addr.add a28 1) λv29=>
M.slc v29 λa30 l31 c32=>
M.idx a30 l31 d7 λa33 j34=>
M.load h8 (Addr.add (Addr.add a33 (j34*2)) 1) λv35=>
M.str v35 λs36=>
M.idx a16 l17 n27 λa37 j38=>
M.put h8 (Addr.add a37 (j38*1)) (.string s36) λh39=>
M.val (wrap .i64 (d7+1)) λz40=>
J6 z40 h39
else
J5 () h8)) 0 h)
def gY.L(F:type_of% gY):LT
 | [.pointer x0]=>λQ h=>F x0 h λn47 h48=>Q (.int .i64 n47) h48
 | _=>λ_ _=>False
def gY.ann:jy:=⟨ah [],ah [(7,[])],ah [(58,[(3,.int .i64)])]⟩
theorem gY.geq:∀l,gj (fT Tryz.prog (ay []) Tryz.f218 gY.ann) l (gY.L gY l):=by
 intro l;unfold gY.L;split;exact .inr (by intros;kernel_rfl);exact .inl rfl
theorem gY.good:ai Tryz.prog 218 (WL (gY.L gY)):=.gu mixed .nil Tryz.func218 Tryz.call218 (gY.geq)
def cv(x0:Option Addr)(h:H)(Q:Int->H->Prop):Prop:=
M.nn x0 λa2=>
M.load h (Addr.add a2 2) λv3=>
M.int .i64 v3 λn4=>
(bif(n4 != 0)then
Q 0 h
else
M.nn x0 λa5=>
M.load h (Addr.add a5 0) λv6=>
M.str v6 λs7=>
M.nn x0 λa8=>
M.load h (Addr.add a8 1) λv9=>
M.int .i64 v9 λn10=>
M.val (wrap .i64 ((ByteArray.size s7:Int)-n10)) λz11=>
(bif(decide (z11<8))then
M.nn x0 λa12=>
M.put h (Addr.add a12 2) (.int .i64 3) λh13=>
Q 0 h13
else
M.join (α:=Int) (λd30 h31=>
M.nn x0 λa32=>
M.load h31 (Addr.add a32 1) λv33=>
M.int .i64 v33 λn34=>
M.val (wrap .i64 (n34+8)) λz35=>
M.nn x0 λa36=>
M.put h31 (Addr.add a36 1) (.int .i64 z35) λh37=>
Q d30 h37) λJ14=>
M.loop (α:=Int×Int) (λJ15 d16 h17=>
(bif(decide (d16.2<8))then
M.val (wrap .u64 (256*d16.1)) λz18=>
M.nn x0 λa19=>
M.load h17 (Addr.add a19 0) λv20=>
M.str v20 λs21=>
M.nn x0 λa22=>
M.load h17 (Addr.add a22 1) λv23=>
M.int .i64 v23 λn24=>
M.val (wrap .i64 (n24+d16.2)) λz25=>
M.byte s21 z25 λn26=>
M.val (wrap .u64 n26) λz27=>
M.val (wrap .u64 (z18+z27)) λz28=>
M.val (wrap .i64 (d16.2+1)) λz29=>
J15 (z28,z29) h17
else
J14 d16.1 h17)) (0,0) h))
def cv.L(F:type_of% cv):LT
 | [.pointer x0]=>λQ h=>F x0 h λn40 h41=>Q (.int .u64 n40) h41
 | _=>λ_ _=>False
def cv.ann:jy:=⟨ah [],ah [(31,[(3,.int .u64)])],ah [(250,[(3,.int .u64),(4,.int .i64)])]⟩
theorem cv.geq:∀l,gj (fT Tryz.prog (ay []) Tryz.f219 cv.ann) l (cv.L cv l):=by
 intro l;unfold cv.L;split;exact .inr (by intros;kernel_rfl);exact .inl rfl
theorem cv.good:ai Tryz.prog 219 (WL (cv.L cv)):=.gu mixed .nil Tryz.func219 Tryz.call219 (cv.geq)
def gK(x0:Option Addr)(h:H)(Q:Int->H->Prop):Prop:=
cv x0 h λn2 h3=>
(bif(decide (n2>100))then
Q (-1) h3
else
M.val (wrap .i64 n2) λz4=>
Q z4 h3)
def gK.L(F:type_of% gK):LT
 | [.pointer x0]=>λQ h=>F x0 h λn7 h8=>Q (.int .i64 n7) h8
 | _=>λ_ _=>False
theorem gK.good:ai Tryz.prog 220 (WL (gK.L gK)):=.gu (ann:=lQ) mixed (.cons cv.good .nil) Tryz.func220 Tryz.call220 (by intro l;unfold gK.L;split;exact .inr (by intros;kernel_rfl);exact .inl rfl)
def fc(x0:Option Addr)(h:H)(Q:ByteArray->H->Prop):Prop:=
cv x0 h λn2 h3=>
M.nn x0 λa4=>
M.load h3 (Addr.add a4 2) λv5=>
M.int .i64 v5 λn6=>
(bif(n6 != 0)then
Q empty h3
else
M.nn x0 λa7=>
M.load h3 (Addr.add a7 0) λv8=>
M.str v8 λs9=>
M.nn x0 λa10=>
M.load h3 (Addr.add a10 1) λv11=>
M.int .i64 v11 λn12=>
M.val (wrap .i64 ((ByteArray.size s9:Int)-n12)) λz13=>
M.val (wrap .u64 z13) λz14=>
(bif(decide (n2>z14))then
M.nn x0 λa15=>
M.put h3 (Addr.add a15 2) (.int .i64 3) λh16=>
Q empty h16
else
M.nn x0 λa17=>
M.load h3 (Addr.add a17 0) λv18=>
M.str v18 λs19=>
M.nn x0 λa20=>
M.load h3 (Addr.add a20 1) λv21=>
M.int .i64 v21 λn22=>
M.nn x0 λa23=>
M.load h3 (Addr.add a23 1) λv24=>
M.int .i64 v24 λn25=>
M.val (wrap .i64 n2) λz26=>
M.still h3 (Addr.add a23 1) 1 h3 (
M.still h3 (Addr.add a20 1) 1 h3 (
M.still h3 (Addr.add a17 0) 1 h3 (
M.val (wrap .i64 (n25+z26)) λz27=>
M.qI s19 n22 z27 λs28=>
M.nn x0 λa29=>
M.load h3 (Addr.add a29 1) λv30=>
M.int .i64 v30 λn31=>
M.val (wrap .i64 n2) λz32=>
M.val (wrap .i64 (n31+z32)) λz33=>
M.nn x0 λa34=>
M.put h3 (Addr.add a34 1) (.int .i64 z33) λh35=>
Q s28 h35)))))
def fc.L(F:type_of% fc):LT
 | [.pointer x0]=>λQ h=>F x0 h λs38 h39=>Q (.string s38) h39
 | _=>λ_ _=>False
theorem fc.good:ai Tryz.prog 221 (WL (fc.L fc)):=.gu (ann:=lQ) mixed (.cons cv.good .nil) Tryz.func221 Tryz.call221 (by intro l;unfold fc.L;split;exact .inr (by intros;kernel_rfl);exact .inl rfl)
def iW(x0:Option Addr)(h:H)(Q:Int->H->Prop):Prop:=
M.nn x0 λa2=>
M.load h (Addr.add a2 2) λv3=>
M.int .i64 v3 λn4=>
(bif(n4 != 0)then
M.nn x0 λa5=>
M.load h (Addr.add a5 2) λv6=>
M.int .i64 v6 λn7=>
Q n7 h
else
M.nn x0 λa8=>
M.load h (Addr.add a8 1) λv9=>
M.int .i64 v9 λn10=>
M.nn x0 λa11=>
M.load h (Addr.add a11 0) λv12=>
M.str v12 λs13=>
(bif(decide (n10<(ByteArray.size s13:Int)))then
Q 5 h
else
Q 0 h))
def iW.L(F:type_of% iW):LT
 | [.pointer x0]=>λQ h=>F x0 h λn16 h17=>Q (.int .i64 n16) h17
 | _=>λ_ _=>False
theorem iW.geq:∀l,gj (fT Tryz.prog (ay []) Tryz.f222 lQ) l (iW.L iW l):=by
 intro l;unfold iW.L;split;exact .inr (by intros;kernel_rfl);exact .inl rfl
theorem iW.good:ai Tryz.prog 222 (WL (iW.L iW)):=.gu mixed .nil Tryz.func222 Tryz.call222 (iW.geq)
def gz(x0_0 x0_1 x0_2 x0_3 x0_4 x0_5:Int)(x0_6:Bool)(x0_7:Option Addr)(x0_7L x0_7C:Nat)(x0_8:Option Addr)(x0_8L x0_8C:Nat)(x1:Int)(h:H)(Q:Int->H->Prop):Prop:=
M.new h (.cells #[.int .u64 x0_0,.int .u64 x0_1,.int .i64 x0_2,.int .i64 x0_3,.int .i64 x0_4,.int .i64 x0_5,.bool x0_6,.slice x0_7 x0_7L x0_7C,.slice x0_8 x0_8L x0_8C] 80) λb2 h3=>
M.loop (α:=Int×Int) (λJ4 d5 h6=>
M.load h6 (Addr.add ⟨b2,0,none⟩ 7) λv7=>
M.slc v7 λa8 l9 c10=>
(bif(decide (d5.2<(l9:Int)))then
M.join (α:=Int) (λd21 h22=>
M.val (wrap .i64 (d5.2+1)) λz23=>
J4 (d21,z23) h22) λJ11=>
M.load h6 (Addr.add ⟨b2,0,none⟩ 7) λv12=>
M.slc v12 λa13 l14 c15=>
M.idx a13 l14 d5.2 λa16 j17=>
M.load h6 (Addr.add a16 (j17*1)) λv18=>
M.int .i64 v18 λn19=>
(bif(n19 == x1)then
M.val (wrap .i64 (d5.1+1)) λz20=>
J11 z20 h6
else
J11 d5.1 h6)
else
Q d5.1 h6)) (0,0) h3
def gz.L(F:type_of% gz):LT
 | [.agg ⟨[.int .u64 x0_0,.int .u64 x0_1,.int .i64 x0_2,.int .i64 x0_3,.int .i64 x0_4,.int .i64 x0_5,.bool x0_6,.slice x0_7 x0_7L x0_7C,.slice x0_8 x0_8L x0_8C]⟩,.int .i64 x1]=>λQ h=>F x0_0 x0_1 x0_2 x0_3 x0_4 x0_5 x0_6 x0_7 x0_7L x0_7C x0_8 x0_8L x0_8C x1 h λn26 h27=>Q (.int .i64 n26) h27
 | _=>λ_ _=>False
def gz.ann:jy:=⟨ah [],ah [(233,[(5,.int .i64)])],ah [(58,[(5,.int .i64),(6,.int .i64)])]⟩
theorem gz.geq:∀l,gj (fT Tryz.prog (ay []) Tryz.f223 gz.ann) l (gz.L gz l):=by
 intro l;unfold gz.L;split;exact .inr (by intros;kernel_rfl);exact .inl rfl
theorem gz.good:ai Tryz.prog 223 (WL (gz.L gz)):=.gu mixed .nil Tryz.func223 Tryz.call223 (gz.geq)
def jj(x0 x1:ByteArray)(h:H)(Q:ByteArray->H->Prop):Prop:=
M.mk h 5 [.int .u8 0] 1 (mn (ByteArray.size x0:Int) (ByteArray.size x1:Int)) (mn (ByteArray.size x0:Int) (ByteArray.size x1:Int)) λa2 l3 c4 h5=>
M.join (α:=Unit) (λd17 h18=>
M.xX h18 a2 l3 λs19=>
Q s19 h18) λJ6=>
M.loop (α:=Int) (λJ7 d8 h9=>
(bif(decide (d8<(l3:Int)))then
M.byte x0 d8 λn10=>
M.byte x1 d8 λn11=>
M.val (mZ .u8 n10 n11) λz12=>
M.idx a2 l3 d8 λa13 j14=>
M.put h9 (Addr.add a13 (j14*1)) (.int .u8 z12) λh15=>
M.val (wrap .i64 (d8+1)) λz16=>
J7 z16 h15
else
J6 () h9)) 0 h5
def jj.L(F:type_of% jj):LT
 | [.string x0,.string x1]=>λQ h=>F x0 x1 h λs22 h23=>Q (.string s22) h23
 | _=>λ_ _=>False
def jj.ann:jy:=⟨ah [],ah [(7,[])],ah [(58,[(15,.int .i64)])]⟩
theorem jj.geq:∀l,gj (fT Tryz.prog (ay []) Tryz.f236 jj.ann) l (jj.L jj l):=by
 intro l;unfold jj.L;split;exact .inr (by intros;kernel_rfl);exact .inl rfl
theorem jj.good:ai Tryz.prog 236 (WL (jj.L jj)):=.gu mixed .nil Tryz.func236 Tryz.call236 (jj.geq)
def eE(x0:Int)(h:H)(Q:Int->H->Prop):Prop:=
M.join (α:=Bool) (λd5 h6=>
(bif d5 then
Q 0 h6
else
M.jZ x0 (
M.val (shl .i64 1 x0) λz7=>
Q z7 h6))) λJ2=>
(bif(decide (x0<1))then
J2 true h
else
ff 16 h λn3 h4=>
J2 (decide (x0>n3)) h4)
def eE.L(F:type_of% eE):LT
 | [.int .i64 x0]=>λQ h=>F x0 h λn10 h11=>Q (.int .i64 n10) h11
 | _=>λ_ _=>False
def eE.ann:jy:=⟨ah [(1,[(9,.bool)])],ah [],ah []⟩
theorem eE.good:ai Tryz.prog 244 (WL (eE.L eE)):=.gu (ann:=eE.ann) mixed (.cons ff.good .nil) Tryz.func244 Tryz.call244 (by intro l;unfold eE.L;split;exact .inr (by intros;kernel_rfl);exact .inl rfl)
def fZ(x0 x1 x2:Int)(h:H)(Q:Bool->H->Prop):Prop:=
M.val (wrap .i64 (x1-1)) λz2=>
M.val (wrap .i64 (z2-x2)) λz3=>
M.jZ z3 (
M.val (shr .i64 x0 z3) λz4=>
M.val (lS .i64 z4 1) λz5=>
Q (z5 == 1) h)
def fZ.L(F:type_of% fZ):LT
 | [.int .i64 x0,.int .i64 x1,.int .i64 x2]=>λQ h=>F x0 x1 x2 h λb8 h9=>Q (.bool b8) h9
 | _=>λ_ _=>False
theorem fZ.geq:∀l,gj (fT Tryz.prog (ay []) Tryz.f245 lQ) l (fZ.L fZ l):=by
 intro l;unfold fZ.L;split;exact .inr (by intros;kernel_rfl);exact .inl rfl
theorem fZ.good:ai Tryz.prog 245 (WL (fZ.L fZ)):=.gu mixed .nil Tryz.func245 Tryz.call245 (fZ.geq)
def iM(x0:ByteArray)(x1:Bool)(h:H)(Q:ByteArray->H->Prop):Prop:=
(bif x1 then
M.qI x0 32 (ByteArray.size x0:Int) λs2=>
Q s2 h
else
M.qI x0 0 32 λs3=>
Q s3 h)
def iM.L(F:type_of% iM):LT
 | [.string x0,.bool x1]=>λQ h=>F x0 x1 h λs6 h7=>Q (.string s6) h7
 | _=>λ_ _=>False
theorem iM.geq:∀l,gj (fT Tryz.prog (ay []) Tryz.f246 lQ) l (iM.L iM l):=by
 intro l;unfold iM.L;split;exact .inr (by intros;kernel_rfl);exact .inl rfl
theorem iM.good:ai Tryz.prog 246 (WL (iM.L iM)):=.gu mixed .nil Tryz.func246 Tryz.call246 (iM.geq)
def eR(x0 x1:ByteArray)(h:H)(Q:Bool->H->Prop):Prop:=
M.join (α:=Bool) (λd3 h4=>
Q d3 h4) λJ2=>
(bif((ByteArray.size x0:Int) == 32)then
J2 ((ByteArray.size x1:Int) == 12) h
else
J2 false h)
def eR.L(F:type_of% eR):LT
 | [.string x0,.string x1]=>λQ h=>F x0 x1 h λb7 h8=>Q (.bool b7) h8
 | _=>λ_ _=>False
def eR.ann:jy:=⟨ah [(1,[(4,.bool)])],ah [],ah []⟩
theorem eR.geq:∀l,gj (fT Tryz.prog (ay []) Tryz.f251 eR.ann) l (eR.L eR l):=by
 intro l;unfold eR.L;split;exact .inr (by intros;kernel_rfl);exact .inl rfl
theorem eR.good:ai Tryz.prog 251 (WL (eR.L eR)):=.gu mixed .nil Tryz.func251 Tryz.call251 (eR.geq)
def jG(x0:ByteArray)(h:H)(Q:ByteArray->H->Prop):Prop:=
M.nz 16 (
M.val (Int.tmod (ByteArray.size x0:Int) 16) λz2=>
M.val (wrap .i64 (16-z2)) λz3=>
M.nz 16 (
M.val (Int.tmod z3 16) λz4=>
strings_Repeat (⟨#[0]⟩:ByteArray) z4 h λs5 h6=>
M.cat x0 s5 λs7=>
Q s7 h6))
def jG.L(F:type_of% jG):LT
 | [.string x0]=>λQ h=>F x0 h λs10 h11=>Q (.string s10) h11
 | _=>λ_ _=>False
theorem jG.good:ai Tryz.prog 255 (WL (jG.L jG)):=.gu (ann:=lQ) mixed (.cons strings_Repeat.good .nil) Tryz.func255 Tryz.call255 (by intro l;unfold jG.L;split;exact .inr (by intros;kernel_rfl);exact .inl rfl)
def cj(x0:Option Addr)(x1:Int)(h:H)(Q:ByteArray->H->Prop):Prop:=
(bif(Option.isNone x0)then
Q empty h
else
M.join (α:=Unit) (λd15 h16=>
M.nn x0 λa17=>
M.load h16 (Addr.add a17 1) λv18=>
M.int .i64 v18 λn19=>
(bif(n19 != 0)then
Q empty h16
else
M.nn x0 λa20=>
M.load h16 (Addr.add a20 0) λv21=>
M.str v21 λs22=>
M.qI s22 0 x1 λs23=>
M.nn x0 λa24=>
M.load h16 (Addr.add a24 0) λv25=>
M.str v25 λs26=>
M.qI s26 x1 (ByteArray.size s26:Int) λs27=>
M.nn x0 λa28=>
M.put h16 (Addr.add a28 0) (.string s27) λh29=>
Q s23 h29)) λJ2=>
M.join (α:=Bool) (λd11 h12=>
(bif d11 then
M.nn x0 λa13=>
M.put h12 (Addr.add a13 1) (.int .i64 3) λh14=>
J2 () h14
else
J2 () h12)) λJ3=>
M.nn x0 λa4=>
M.load h (Addr.add a4 1) λv5=>
M.int .i64 v5 λn6=>
(bif(n6 == 0)then
M.nn x0 λa7=>
M.load h (Addr.add a7 0) λv8=>
M.str v8 λs9=>
M.val (wrap .u64 (ByteArray.size s9:Int)) λz10=>
J3 (decide (x1>z10)) h
else
J3 false h))
def cj.L(F:type_of% cj):LT
 | [.pointer x0,.int .u64 x1]=>λQ h=>F x0 x1 h λs32 h33=>Q (.string s32) h33
 | _=>λ_ _=>False
def cj.ann:jy:=⟨ah [(3,[(22,.bool)])],ah [(7,[])],ah []⟩
theorem cj.geq:∀l,gj (fT Tryz.prog (ay []) Tryz.f258 cj.ann) l (cj.L cj l):=by
 intro l;unfold cj.L;split;exact .inr (by intros;kernel_rfl);exact .inl rfl
theorem cj.good:ai Tryz.prog 258 (WL (cj.L cj)):=.gu mixed .nil Tryz.func258 Tryz.call258 (cj.geq)
def gw(x0:Option Addr)(x0L x0C:Nat)(x1:Bool)(h:H)(Q:ByteArray->H->Prop):Prop:=
M.join (α:=(Option Addr×Nat×Nat)) (λd46 h47=>
M.xX h47 d46.1 d46.2.1 λs48=>
Q s48 h47) λJ2=>
M.loop (α:=(Option Addr×Nat×Nat)×Int) (λJ3 d4 h5=>
(bif(decide (d4.2<(x0L:Int)))then
M.join (α:=(Option Addr×Nat×Nat)) (λd43 h44=>
M.val (wrap .i64 (d4.2+1)) λz45=>
J3 ((d43.1,d43.2.1,d43.2.2),z45) h44) λJ6=>
M.new h5 (.cells #[.int .u8 0,.int .u8 0,.int .u8 0,.int .u8 0] 423) λb7 h8=>
M.idx x0 x0L d4.2 λa9 j10=>
M.load h8 (Addr.add a9 (j10*1)) λv11=>
M.int .u32 v11 λn12=>
M.join (α:=Unit) (λd27 h28=>
M.loop (α:=(Option Addr×Nat×Nat)×Int) (λJ29 d30 h31=>
(bif(decide (d30.2<4))then
M.fk 4 d30.2 λj32=>
M.load h31 (Addr.add ⟨b7,0,none⟩ (j32*1)) λv33=>
M.int .u8 v33 λn34=>
M.new h31 (.cells #[.int .u8 n34] 5) λb35 h36=>
M.cellsOf h36 (some ⟨b35,0,none⟩) (1*1) λcs41=>
M.app h36 5 1 1 [.int .u8 0] d30.1.1 d30.1.2.1 d30.1.2.2 1 cs41 λa37 l38 c39 h40=>
M.val (wrap .i64 (d30.2+1)) λz42=>
J29 ((a37,l38,c39),z42) h40
else
J6 (d30.1.1,d30.1.2.1,d30.1.2.2) h31)) ((d4.1.1,d4.1.2.1,d4.1.2.2),0) h28) λJ13=>
M.loop (α:=Int×Int) (λJ14 d15 h16=>
(bif(decide (d15.2<4))then
M.join (α:=Int) (λd19 h20=>
M.nz 256 (
M.val (Int.tmod d15.1 256) λz21=>
M.val (wrap .u8 z21) λz22=>
M.fk 4 d19 λj23=>
M.put h20 (Addr.add ⟨b7,0,none⟩ (j23*1)) (.int .u8 z22) λh24=>
M.nz 256 (
M.val (wrap .u32 (Int.tdiv d15.1 256)) λz25=>
M.val (wrap .i64 (d15.2+1)) λz26=>
J14 (z25,z26) h24))) λJ17=>
(bif x1 then
M.val (wrap .i64 (3-d15.2)) λz18=>
J17 z18 h16
else
J17 d15.2 h16)
else
J13 () h16)) (n12,0) h8
else
J2 (d4.1.1,d4.1.2.1,d4.1.2.2) h5)) ((none,0,0),0) h
def gw.L(F:type_of% gw):LT
 | [.slice x0 x0L x0C,.bool x1]=>λQ h=>F x0 x0L x0C x1 h λs51 h52=>Q (.string s51) h52
 | _=>λ_ _=>False
def gw.ann:jy:=⟨ah [],ah [(7,[(5,.slc)]),(233,[(5,.slc)]),(3731,[]),(955209,[(10,.int .i64)])],ah [(58,[(5,.slc),(6,.int .i64)]),(29850,[(8,.int .u32),(9,.int .i64)]),(29854,[(5,.slc),(11,.int .i64)])]⟩
theorem gw.geq:∀l,gj (fT Tryz.prog (ay []) Tryz.f264 gw.ann) l (gw.L gw l):=by
 intro l;unfold gw.L;split;exact .inr (by intros;kernel_rfl);exact .inl rfl
theorem gw.good:ai Tryz.prog 264 (WL (gw.L gw)):=.gu mixed .nil Tryz.func264 Tryz.call264 (gw.geq)
def bE(x0:Option Addr)(x0L x0C:Nat)(h:H)(Q:ByteArray->H->Prop):Prop:=
M.val (wrap .i64 (4*(x0L:Int))) λz2=>
M.mk h 5 [.int .u8 0] 1 0 z2 λa3 l4 c5 h6=>
M.join (α:=(Option Addr×Nat×Nat)) (λd30 h31=>
M.xX h31 d30.1 d30.2.1 λs32=>
Q s32 h31) λJ7=>
M.loop (α:=(Option Addr×Nat×Nat)×Int) (λJ8 d9 h10=>
(bif(decide (d9.2<(x0L:Int)))then
M.idx x0 x0L d9.2 λa11 j12=>
M.load h10 (Addr.add a11 (j12*1)) λv13=>
M.int .u32 v13 λn14=>
M.val (wrap .u8 n14) λz15=>
M.jZ 8 (
M.val (shr .u32 n14 8) λz16=>
M.val (wrap .u8 z16) λz17=>
M.jZ 16 (
M.val (shr .u32 n14 16) λz18=>
M.val (wrap .u8 z18) λz19=>
M.jZ 24 (
M.val (shr .u32 n14 24) λz20=>
M.val (wrap .u8 z20) λz21=>
M.new h10 (.cells #[.int .u8 z15,.int .u8 z17,.int .u8 z19,.int .u8 z21] 5) λb22 h23=>
M.cellsOf h23 (some ⟨b22,0,none⟩) (4*1) λcs28=>
M.app h23 5 1 1 [.int .u8 0] d9.1.1 d9.1.2.1 d9.1.2.2 4 cs28 λa24 l25 c26 h27=>
M.val (wrap .i64 (d9.2+1)) λz29=>
J8 ((a24,l25,c26),z29) h27)))
else
J7 (d9.1.1,d9.1.2.1,d9.1.2.2) h10)) ((a3,l4,c5),0) h6
def bE.L(F:type_of% bE):LT
 | [.slice x0 x0L x0C]=>λQ h=>F x0 x0L x0C h λs35 h36=>Q (.string s35) h36
 | _=>λ_ _=>False
def bE.ann:jy:=⟨ah [],ah [(7,[(3,.slc)])],ah [(58,[(3,.slc),(12,.int .i64)])]⟩
theorem bE.geq:∀l,gj (fT Tryz.prog (ay []) Tryz.f286 bE.ann) l (bE.L bE l):=by
 intro l;unfold bE.L;split;exact .inr (by intros;kernel_rfl);exact .inl rfl
theorem bE.good:ai Tryz.prog 286 (WL (bE.L bE)):=.gu mixed .nil Tryz.func286 Tryz.call286 (bE.geq)
def iP(x0:ByteArray)(h:H)(Q:ByteArray->Int->H->Prop):Prop:=
(bif((ByteArray.size x0:Int) != 16)then
Q empty 7 h
else
M.QA h 5 x0 λa3 l4 c5 h6=>
M.join (α:=Unit) (λd35 h36=>
M.xX h36 a3 l4 λs37=>
Q s37 0 h36) λJ7=>
M.loop (α:=Int) (λJ8 d9 h10=>
(bif(decide (d9<(l4:Int)))then
M.nz 4 (
M.val (Int.tmod d9 4) λz11=>
(bif(z11 == 3)then
M.idx a3 l4 d9 λa12 j13=>
M.load h10 (Addr.add a12 (j13*1)) λv14=>
M.int .u8 v14 λn15=>
M.val (lS .u8 n15 15) λz16=>
M.idx a3 l4 d9 λa17 j18=>
M.put h10 (Addr.add a17 (j18*1)) (.int .u8 z16) λh19=>
M.val (wrap .i64 (d9+1)) λz20=>
J8 z20 h19
else
M.join (α:=Bool) (λd23 h24=>
(bif d23 then
M.idx a3 l4 d9 λa25 j26=>
M.load h24 (Addr.add a25 (j26*1)) λv27=>
M.int .u8 v27 λn28=>
M.val (lS .u8 n28 252) λz29=>
M.idx a3 l4 d9 λa30 j31=>
M.put h24 (Addr.add a30 (j31*1)) (.int .u8 z29) λh32=>
M.val (wrap .i64 (d9+1)) λz33=>
J8 z33 h32
else
M.val (wrap .i64 (d9+1)) λz34=>
J8 z34 h24)) λJ21=>
M.nz 4 (
M.val (Int.tmod d9 4) λz22=>
(bif(z22 == 0)then
J21 (decide (d9>0)) h10
else
J21 false h10))))
else
J7 () h10)) 0 h6)
def iP.L(F:type_of% iP):LT
 | [.string x0]=>λQ h=>F x0 h λs41 n42 h43=>Q (.tuple #[.string s41,.int .i64 n42]) h43
 | _=>λ_ _=>False
def iP.ann:jy:=⟨ah [(9,[(26,.bool)])],ah [(15,[])],ah [(122,[(13,.int .i64)])]⟩
theorem iP.geq:∀l,gj (fT Tryz.prog (ay []) Tryz.f287 iP.ann) l (iP.L iP l):=by
 intro l;unfold iP.L;split;exact .inr (by intros;kernel_rfl);exact .inl rfl
theorem iP.good:ai Tryz.prog 287 (WL (iP.L iP)):=.gu mixed .nil Tryz.func287 Tryz.call287 (iP.geq)
def iB(x0 x1 x2 x3:Int)(h:H)(Q:Int->H->Prop):Prop:=
M.jZ 24 (
M.val (shl .u32 x0 24) λz2=>
M.jZ 16 (
M.val (shl .u32 x1 16) λz3=>
M.val (ye .u32 z2 z3) λz4=>
M.jZ 8 (
M.val (shl .u32 x2 8) λz5=>
M.val (ye .u32 z4 z5) λz6=>
M.val (ye .u32 z6 x3) λz7=>
Q z7 h)))
def iB.L(F:type_of% iB):LT
 | [.int .u32 x0,.int .u32 x1,.int .u32 x2,.int .u32 x3]=>λQ h=>F x0 x1 x2 x3 h λn10 h11=>Q (.int .u32 n10) h11
 | _=>λ_ _=>False
theorem iB.geq:∀l,gj (fT Tryz.prog (ay []) Tryz.f293 lQ) l (iB.L iB l):=by
 intro l;unfold iB.L;split;exact .inr (by intros;kernel_rfl);exact .inl rfl
theorem iB.good:ai Tryz.prog 293 (WL (iB.L iB)):=.gu mixed .nil Tryz.func293 Tryz.call293 (iB.geq)
def gZ(x0:ByteArray)(x1:Bool)(h:H)(Q:Option Addr->Nat->Nat->Int->H->Prop):Prop:=
M.nz 4 (
M.val (Int.tmod (ByteArray.size x0:Int) 4) λz5=>
(bif(z5 != 0)then
Q none 0 0 7 h
else
M.join (α:=(Option Addr×Nat×Nat)) (λd38 h39=>
Q d38.1 d38.2.1 d38.2.2 0 h39) λJ6=>
M.loop (α:=(Option Addr×Nat×Nat)×Int) (λJ7 d8 h9=>
(bif(decide (d8.2<(ByteArray.size x0:Int)))then
M.join (α:=(Option Addr×Nat×Nat)) (λd35 h36=>
M.val (wrap .i64 (d8.2+4)) λz37=>
J7 ((d35.1,d35.2.1,d35.2.2),z37) h36) λJ10=>
M.join (α:=Int) (λd26 h27=>
M.new h27 (.cells #[.int .u32 d26] 230) λb28 h29=>
M.cellsOf h29 (some ⟨b28,0,none⟩) (1*1) λcs34=>
M.app h29 230 1 4 [.int .u32 0] d8.1.1 d8.1.2.1 d8.1.2.2 1 cs34 λa30 l31 c32 h33=>
J10 (a30,l31,c32) h33) λJ11=>
M.loop (α:=Int×Int) (λJ12 d13 h14=>
(bif(decide (d13.2<4))then
M.val (wrap .i64 (d8.2+3)) λz15=>
M.val (wrap .i64 (z15-d13.2)) λz16=>
M.join (α:=Int) (λd19 h20=>
M.val (wrap .u32 (256*d13.1)) λz21=>
M.byte x0 d19 λn22=>
M.val (wrap .u32 n22) λz23=>
M.val (wrap .u32 (z21+z23)) λz24=>
M.val (wrap .i64 (d13.2+1)) λz25=>
J12 (z24,z25) h20) λJ17=>
(bif x1 then
M.val (wrap .i64 (d8.2+d13.2)) λz18=>
J17 z18 h14
else
J17 z16 h14)
else
J11 d13.1 h14)) (0,0) h9
else
J6 (d8.1.1,d8.1.2.1,d8.1.2.2) h9)) ((none,0,0),0) h))
def gZ.L(F:type_of% gZ):LT
 | [.string x0,.bool x1]=>λQ h=>F x0 x1 h λa45 l46 c47 n48 h49=>Q (.tuple #[.slice a45 l46 c47,.int .i64 n48]) h49
 | _=>λ_ _=>False
def gZ.ann:jy:=⟨ah [],ah [(15,[(6,.slc)]),(489,[(6,.slc)]),(3913,[(8,.int .u32)]),(1001801,[(10,.int .i64)])],ah [(122,[(6,.slc),(7,.int .i64)]),(31306,[(8,.int .u32),(9,.int .i64)])]⟩
theorem gZ.geq:∀l,gj (fT Tryz.prog (ay []) Tryz.f296 gZ.ann) l (gZ.L gZ l):=by
 intro l;unfold gZ.L;split;exact .inr (by intros;kernel_rfl);exact .inl rfl
theorem gZ.good:ai Tryz.prog 296 (WL (gZ.L gZ)):=.gu mixed .nil Tryz.func296 Tryz.call296 (gZ.geq)
def jg(x0 x1 x2:Int)(h:H)(Q:Int->H->Prop):Prop:=
M.val (lS .u32 x0 x1) λz2=>
M.val (wrap .u32 (4294967295-x0)) λz3=>
M.val (lS .u32 z3 x2) λz4=>
M.val (mZ .u32 z2 z4) λz5=>
Q z5 h
def jg.L(F:type_of% jg):LT
 | [.int .u32 x0,.int .u32 x1,.int .u32 x2]=>λQ h=>F x0 x1 x2 h λn8 h9=>Q (.int .u32 n8) h9
 | _=>λ_ _=>False
theorem jg.geq:∀l,gj (fT Tryz.prog (ay []) Tryz.f299 lQ) l (jg.L jg l):=by
 intro l;unfold jg.L;split;exact .inr (by intros;kernel_rfl);exact .inl rfl
theorem jg.good:ai Tryz.prog 299 (WL (jg.L jg)):=.gu mixed .nil Tryz.func299 Tryz.call299 (jg.geq)
def jf(x0 x1 x2:Int)(h:H)(Q:Int->H->Prop):Prop:=
M.val (lS .u32 x0 x1) λz2=>
M.val (lS .u32 x0 x2) λz3=>
M.val (mZ .u32 z2 z3) λz4=>
M.val (lS .u32 x1 x2) λz5=>
M.val (mZ .u32 z4 z5) λz6=>
Q z6 h
def jf.L(F:type_of% jf):LT
 | [.int .u32 x0,.int .u32 x1,.int .u32 x2]=>λQ h=>F x0 x1 x2 h λn9 h10=>Q (.int .u32 n9) h10
 | _=>λ_ _=>False
theorem jf.geq:∀l,gj (fT Tryz.prog (ay []) Tryz.f300 lQ) l (jf.L jf l):=by
 intro l;unfold jf.L;split;exact .inr (by intros;kernel_rfl);exact .inl rfl
theorem jf.good:ai Tryz.prog 300 (WL (jf.L jf)):=.gu mixed .nil Tryz.func300 Tryz.call300 (jf.geq)
def gU(x0 x1:Int)(h:H)(Q:Int->H->Prop):Prop:=
M.val (wrap .u64 x1) λz2=>
M.nz 32 (
M.val (Int.tmod z2 32) λz3=>
M.jZ z3 (
M.val (shl .u32 x0 z3) λz4=>
M.val (wrap .u64 (32-z3)) λz5=>
M.jZ z5 (
M.val (shr .u32 x0 z5) λz6=>
M.val (ye .u32 z4 z6) λz7=>
Q z7 h)))
def gU.L(F:type_of% gU):LT
 | [.int .u32 x0,.int .i64 x1]=>λQ h=>F x0 x1 h λn10 h11=>Q (.int .u32 n10) h11
 | _=>λ_ _=>False
theorem gU.geq:∀l,gj (fT Tryz.prog (ay []) Tryz.f314 lQ) l (gU.L gU l):=by
 intro l;unfold gU.L;split;exact .inr (by intros;kernel_rfl);exact .inl rfl
theorem gU.good:ai Tryz.prog 314 (WL (gU.L gU)):=.gu mixed .nil Tryz.func314 Tryz.call314 (gU.geq)
def fR(x0 x1 x2 x3:Int)(h:H)(Q:Int->H->Prop):Prop:=
M.jZ 8 (
M.val (shl .u32 x1 8) λz2=>
M.val (ye .u32 x0 z2) λz3=>
M.jZ 16 (
M.val (shl .u32 x2 16) λz4=>
M.val (ye .u32 z3 z4) λz5=>
M.jZ 24 (
M.val (shl .u32 x3 24) λz6=>
M.val (ye .u32 z5 z6) λz7=>
Q z7 h)))
def fR.L(F:type_of% fR):LT
 | [.int .u32 x0,.int .u32 x1,.int .u32 x2,.int .u32 x3]=>λQ h=>F x0 x1 x2 x3 h λn10 h11=>Q (.int .u32 n10) h11
 | _=>λ_ _=>False
theorem fR.geq:∀l,gj (fT Tryz.prog (ay []) Tryz.f318 lQ) l (fR.L fR l):=by
 intro l;unfold fR.L;split;exact .inr (by intros;kernel_rfl);exact .inl rfl
theorem fR.good:ai Tryz.prog 318 (WL (fR.L fR)):=.gu mixed .nil Tryz.func318 Tryz.call318 (fR.geq)
def dP(x0 x1 x2 x3:Int)(h:H)(Q:Int->Int->Int->Int->H->Prop):Prop:=
M.join (α:=Int×Int×Int×Int) (λd32 h33=>
Q d32.1 d32.2.1 d32.2.2.1 d32.2.2.2 h33) λJ5=>
M.loop (α:=Int×Int×Int×Int×Int) (λJ6 d7 h8=>
(bif(decide (d7.2.2.2.2<2))then
M.fk 2 d7.2.2.2.2 λj9=>
M.at (#[.int .i64 16,.int .i64 12,.int .i64 8,.int .i64 7]:Array Value) (j9*2) λv10=>
M.int .i64 v10 λn11=>
M.at (#[.int .i64 16,.int .i64 12,.int .i64 8,.int .i64 7]:Array Value) (j9*2+1) λv12=>
M.int .i64 v12 λn13=>
M.new h8 (.cells #[.int .i64 0,.int .i64 0] 62) λb14 h15=>
M.req (Array.size (#[.int .i64 n11,.int .i64 n13]:Array Value)=2) (M.ku h15 ⟨b14,0,none⟩ [.int .i64 n11,.int .i64 n13] λh16=>
M.val (wrap .u32 (d7.1+d7.2.1)) λz17=>
M.val (mZ .u32 d7.2.2.2.1 z17) λz18=>
M.fk 2 0 λj19=>
M.load h16 (Addr.add ⟨b14,0,none⟩ (j19*1)) λv20=>
M.int .i64 v20 λn21=>
gU z18 n21 h16 λn22 h23=>
M.val (wrap .u32 (d7.2.2.1+n22)) λz24=>
M.val (mZ .u32 d7.2.1 z24) λz25=>
M.fk 2 1 λj26=>
M.load h23 (Addr.add ⟨b14,0,none⟩ (j26*1)) λv27=>
M.int .i64 v27 λn28=>
gU z25 n28 h23 λn29 h30=>
M.val (wrap .i64 (d7.2.2.2.2+1)) λz31=>
J6 (z17,n29,z24,n22,z31) h30)
else
J5 (d7.1,d7.2.1,d7.2.2.1,d7.2.2.2.1) h8)) (x0,x1,x2,x3,0) h
def dP.L(F:type_of% dP):LT
 | [.int .u32 x0,.int .u32 x1,.int .u32 x2,.int .u32 x3]=>λQ h=>F x0 x1 x2 x3 h λn39 n40 n41 n42 h43=>Q (.tuple #[.int .u32 n39,.int .u32 n40,.int .u32 n41,.int .u32 n42]) h43
 | _=>λ_ _=>False
def dP.ann:jy:=⟨ah [],ah [(3,[(0,.int .u32),(1,.int .u32),(2,.int .u32),(3,.int .u32)])],ah [(26,[(0,.int .u32),(1,.int .u32),(2,.int .u32),(3,.int .u32),(17,.int .i64)])]⟩
theorem dP.good:ai Tryz.prog 319 (WL (dP.L dP)):=.gu (ann:=dP.ann) mixed (.cons gU.good .nil) Tryz.func319 Tryz.call319 (by intro l;unfold dP.L;split;exact .inr (by intros;kernel_rfl);exact .inl rfl)
end Go.Proofs.YtmfcgihgdhfalaaGreatDoor

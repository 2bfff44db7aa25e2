/- The shallow form, 1: the memory as a function of block numbers, and what a run of the model comes to, whatever the tape and the new blocks' numbers. The shallow form, 2: the steps that touch memory, and loads and stores of whole values. The shallow form, 3: what each operation of the model says of its value. The shallow form, 4: regions, joins, loops, code and functions. The shallow form, 5: the operations that write nothing run as the form says. The shallow form, 6: operations without effect, calls, stores, copies and appends. The shallow form, 7: every operation is sound. -/
import Derived.Tactics2
import Derived.Below
import Derived.Orders
import Derived.KernelRfl
import Derived.WalkKit
import Derived.Laws.Sem
import Derived.Laws.Tables
import Derived.Great.BuildSlice
import Derived.Lib.UnsafeStr
set_option linter.unusedSimpArgs false
set_option linter.unusedVariables false
namespace Go.Sh
open Go.RowKit
abbrev H:=Nat->Option Obj
def hp(w:World):H:=λb=>w.heap[b]?
def H.cell(h:H)(a:Addr):Option Value:=
 match h a.block with
 | some (.cells c _ _)=>if a.spot.isSome then none else c[a.off]?
 | _=>none
def H.frozen(h:H)(a:Addr):Bool:=
 match h a.block with
 | some (.cells _ _ (lo,hi))=>lo≤a.off && a.off<hi
 | _=>false
def H.shape(h:H)(r:Nat):Option (TypeId×Nat):=
 match h r with
 | some (.cells c e _)=>some (e,c.size)
 | _=>none
def H.nh(h:H)(b:Nat)(o:Obj):H:=λb'=>if b'=b then some o else h b'
def H.modify(h:H)(b:Nat)(f:Obj->Obj):H:=λb'=>if b'=b then(h b').map f else h b'
def IL(a:Addr)(v:Value):Obj->Obj
 | .cells c elem frozen=>.cells (if a.spot.isSome then c else c.setIfInBounds a.off v) elem frozen
 | o=>o
def H.set(h:H)(a:Addr)(v:Value):H:=h.modify a.block (IL a v)
def Al(a:Addr)(n:Nat):Obj->Obj
 | .cells c elem (lo,hi)=>.cells c elem (if lo == hi then(a.off,a.off+n)else(min lo a.off,max hi (a.off+n)))
 | o=>o
def H.freeze(h:H)(a:Addr)(n:Nat):H:=if n=0 then h else h.modify a.block (Al a n)
theorem xV(w:World)(a:Addr):w.cell? a=(hp w).cell a:=rfl
theorem KC(w:World)(a:Addr):w.frozen? a=(hp w).frozen a:=rfl
theorem NO(w:World)(o:Obj):hp { w with heap:=w.heap.push o } = (hp w).nh w.heap.size o:=by
 funext b;simp only[hp,H.nh,Array.getElem?_push]
theorem MJ(w:World):hp w w.heap.size=none:=by simp[hp]
theorem Dx(w:World)(b:Nat)(f:Obj->Obj):hp { w with heap:=w.heap.modify b f } = (hp w).modify b f:=by
 funext b';simp only[hp,H.modify,Array.getElem?_modify];by_cases e:b'=b
 ·subst e;simp
 ·have:¬b=b':=λx=>e x.symm;simp[this,e]
theorem Qm(w:World)(a:Addr)(v:Value):hp (w.setCell a v)=(hp w).set a v:=Dx w a.block (IL a v)
theorem KS(w:World)(a:Addr)(n:Nat):hp (w.freeze a n)=(hp w).freeze a n:=by
 unfold World.freeze H.freeze;split
 ·rfl
 ·exact Dx w a.block (Al a n)
theorem C6(w:World)(r:Nat)(o:Obj){o':Obj}(h:w.heap[r]? = some o'):hp { w with heap:=w.heap.setIfInBounds r o } = (hp w).nh r o:=by
 funext b;have hlt:r<w.heap.size:=(Array.getElem?_eq_some_iff.1 h).1;simp only[hp,H.nh,Array.getElem?_setIfInBounds];by_cases e:r=b
 ·subst e;simp[hlt]
 ·have:¬b=r:=λx=>e x.symm;simp[e,this]
structure jE (w w':World):Prop where
 os:w'.os=w.os
 tape:w'.tape=w.tape
 output:w'.output=w.output
 size:w.heap.size≤w'.heap.size
theorem jE.refl(w:World):jE w w:=⟨rfl,rfl,rfl,Nat.le_refl _⟩
theorem jE.trans{a b c:World}(h:jE a b)(k:jE b c):jE a c:=
 ⟨k.os.trans h.os,k.tape.trans h.tape,k.output.trans h.output,Nat.le_trans h.size k.size⟩
def ag:Value->Bool
 | .agg _=>false
 | .tuple _=>false
 | _=>true
def sS:Obj->Bool
 | .cells .. => true
 | _=>false
def wpS(P:Program){α:Type}:Sem α -> (α -> H->Prop)->H->Prop
 | .pure a,Q,h=>Q a h
 | .load _ a k,Q,h=>∃v,h.cell a=some v∧wpS P (k v) Q h
 | .store _ a v k,Q,h=>ag v=true∧(h.cell a).isSome=true∧h.frozen a=false∧wpS P k Q (h.set a v)
 | .new o k,Q,h=>∀b,h b=none->wpS P (k b) Q (h.nh b o)
 | .shape r k,Q,h=>wpS P (k (h.shape r)) Q h
 | .freeze a n k,Q,h=>wpS P k Q (h.freeze a n)
 | .frozen a k,Q,h=>wpS P (k (h.frozen a)) Q h
 | .getObj r k,Q,h=>∃o,h r=some o∧sS o=false∧wpS P (k o) Q h
 | .setObj r o k,Q,h=>∃o',h r=some o'∧sS o'=false∧wpS P k Q (h.nh r o)
 | .choose q k,Q,h=>if q.forced then wpS P (k 0) Q h else ∀t,wpS P (k (q.cut t)) Q h
 | .sys _ _,_,_=>False
 | .program k,Q,h=>wpS P (k P) Q h
 | .mark _ k,Q,h=>wpS P k Q h
 | .halt _,_,_=>False
theorem Dr(P:Program){α:Type}(s:Sem α):∀(Q:α -> H->Prop) (w:World),wpS P s Q (hp w)->∃v w',s.run P w = .ok v w'∧Q v (hp w')∧jE w w':=by
 induction s with
 | pure a=>intro Q w h;exact⟨a,w,rfl,h,.refl w⟩
 | load m a k ih=>
  intro Q w ⟨v,hv,h⟩;obtain⟨r,w',e,q,s⟩:=ih v Q w h;refine⟨r,w',?_,q,s⟩;unfold Sem.run;rw[xV,hv];exact e
 | store m a v k ih=>
  intro Q w ⟨hv,hs,hf,h⟩;rw[←Qm]at h;obtain⟨r,w',e,q,s⟩:=ih Q (w.setCell a v) h;have hrun:Sem.run P (.store m a v k) w=k.run P (w.setCell a v):=by
   obtain⟨u,hu⟩:=Option.isSome_iff_exists.1 hs;rw[←xV]at hu;rw[←KC]at hf;cases v<;>first|(simp[ag]at hv;done)|simp[Sem.run,hu,hf]
  exact⟨r,w',by rw[hrun];exact e,q,s.os,s.tape,s.output,Nat.le_trans (by simp) s.size⟩
 | new o k ih=>
  intro Q w h;have h1:=h w.heap.size (MJ w);rw[←NO]at h1;obtain⟨r,w',e,q,s⟩:=ih _ Q _ h1;exact⟨r,w',e,q,s.os,s.tape,s.output,Nat.le_trans (by simp) s.size⟩
 | shape r k ih=>intro Q w h;obtain⟨r,w',e,q,s⟩:=ih _ Q w h;exact⟨r,w',e,q,s⟩
 | freeze a n k ih=>
  intro Q w h;unfold wpS at h;rw[←KS]at h;obtain⟨r,w',e,q,s⟩:=ih Q _ h;refine⟨r,w',e,q,jE.trans ?_ s⟩;unfold World.freeze;split
  ·exact .refl w
  ·exact⟨rfl,rfl,rfl,by simp⟩
 | frozen a k ih=>intro Q w h;obtain⟨r,w',e,q,s⟩:=ih _ Q w h;exact⟨r,w',e,q,s⟩
 | getObj r k ih=>
  intro Q w ⟨o,ho,hc,h⟩;obtain⟨v,w',e,q,s⟩:=ih _ Q w h;refine⟨v,w',?_,q,s⟩;have ho':w.heap[r]? = some o:=ho;cases o<;>first|(simp[sS]at hc;done)|(simp only[Sem.run,ho'];exact e)
 | setObj r o k ih=>
  intro Q w ⟨o',ho,hc,h⟩;have ho':w.heap[r]? = some o':=ho;rw[←C6 w r o ho']at h;obtain⟨v,w',e,q,s⟩:=ih Q _ h;refine⟨v,w',?_,q,s.os,s.tape,s.output,Nat.le_trans (by simp) s.size⟩;cases o' <;>first|(simp[sS]at hc;done)|(simp only[Sem.run,ho'];exact e)
 | choose q k ih=>
  intro Q w h;unfold wpS at h;by_cases hf:q.forced=true
  ·rw[if_pos hf]at h;obtain⟨v,w',e,qq,s⟩:=ih _ Q w h;exact⟨v,w',by simp only[Sem.run,hf,if_true];exact e,qq,s⟩
  ·rw[if_neg hf]at h;obtain⟨v,w',e,qq,s⟩:=ih _ Q { w with drawn:=w.drawn+1 } (h (w.tape w.drawn q))
   refine⟨v,w',?_,qq,s.os,s.tape,s.output,s.size⟩;simp only[Sem.run,hf];exact e
 | sys c k ih=>intro Q w h;exact h.elim
 | program k ih=>intro Q w h;obtain⟨r,w',e,q,s⟩:=ih _ Q w h;exact⟨r,w',e,q,s⟩
 | mark m k ih=>intro Q w h;obtain⟨r,w',e,q,s⟩:=ih Q w h;exact⟨r,w',e,q,s⟩
 | halt h=>intro Q w hh;exact hh.elim
theorem Av(P:Program){α β:Type}(s:Sem α)(f:α -> Sem β):∀(Q:β -> H->Prop) (h:H),wpS P (s.bind f) Q h=wpS P s (λa h'=>wpS P (f a) Q h') h:=by
 induction s with
 | pure a=>intro Q h;rfl
 | load m a k ih=>intro Q h;simp only[Sem.bind,wpS,ih]
 | store m a v k ih=>intro Q h;simp only[Sem.bind,wpS,ih]
 | new o k ih=>intro Q h;simp only[Sem.bind,wpS,ih]
 | shape r k ih=>intro Q h;simp only[Sem.bind,wpS,ih]
 | freeze a n k ih=>intro Q h;simp only[Sem.bind,wpS,ih]
 | frozen a k ih=>intro Q h;simp only[Sem.bind,wpS,ih]
 | getObj r k ih=>intro Q h;simp only[Sem.bind,wpS,ih]
 | setObj r o k ih=>intro Q h;simp only[Sem.bind,wpS,ih]
 | choose q k ih=>intro Q h;simp only[Sem.bind,wpS,ih]
 | sys c k ih=>intro Q h;rfl
 | program k ih=>intro Q h;simp only[Sem.bind,wpS,ih]
 | mark m k ih=>intro Q h;simp only[Sem.bind,wpS,ih]
 | halt h=>intro Q h;rfl
/-! ### The memory's small laws -/
theorem H.jD(h:H)(b:Nat)(o:Obj):(h.nh b o) b=some o:=by simp[H.nh]
theorem H.uw(h:H){b b':Nat}(o:Obj)(e:b'≠b):(h.nh b o) b'=h b':=by simp[H.nh,e]
theorem H.G5(h:H)(p q:Addr)(v:Value):(h.set p v).frozen q=h.frozen q:=by
 unfold H.frozen H.set H.modify;by_cases e:q.block=p.block
 ·rw[if_pos e];cases hq:h q.block with
  | none=>rfl
  | some o=>cases o<;>rfl
 ·rw[if_neg e]
theorem H.zS(h:H)(p q:Addr)(v:Value):((h.set p v).cell q).isSome=(h.cell q).isSome:=by
 unfold H.cell H.set H.modify;by_cases e:q.block=p.block
 ·rw[if_pos e];cases hq:h q.block with
  | none=>rfl
  | some o=>
   cases o<;>try rfl
   rename_i c t f;simp only[Option.map_some,IL];by_cases hs:q.spot.isSome=true
   ·simp[hs]
   ·simp only[hs];have hp:∀x:Nat,((if p.spot.isSome=true then c else c.setIfInBounds p.off v)[x]?).isSome=(c[x]?).isSome:=by
     intro x;split
     ·rfl
     ·by_cases hx:p.off=x
      ·subst hx;by_cases hl:p.off<c.size<;>simp[hl]
      ·simp[Array.getElem?_setIfInBounds_ne hx]
    simpa using hp q.off
 ·rw[if_neg e]
end Go.Sh
namespace Go.Sh
open Go.RowKit
namespace M
def nn(p:Option Addr)(K:Addr->Prop):Prop:=∃a,p=some a∧K a
def load(h:H)(a:Addr)(K:Value->Prop):Prop:=∃v,h.cell a=some v∧K v
def int(k:IntKind)(v:Value)(K:Int->Prop):Prop:=∃n,v = .int k n∧K n
def bool(v:Value)(K:Bool->Prop):Prop:=∃b,v = .bool b∧K b
def str(v:Value)(K:ByteArray->Prop):Prop:=∃s,v = .string s∧K s
def ptr(v:Value)(K:Option Addr->Prop):Prop:=∃p,v = .pointer p∧K p
def slc(v:Value)(K:Option Addr->Nat->Nat->Prop):Prop:=∃a l c,v = .slice a l c∧K a l c
def map(v:Value)(K:Option Nat->Prop):Prop:=∃r,v = .map r∧K r
def agg(v:Value)(K:Array Value->Prop):Prop:=∃cs,v = .agg cs∧K cs
def new(h:H)(o:Obj)(K:Nat->H->Prop):Prop:=∀b,h b=none->K b (h.nh b o)
def put(h:H)(a:Addr)(v:Value)(K:H->Prop):Prop:=ag v=true∧(h.cell a).isSome=true∧h.frozen a=false∧K (h.set a v)
def val(n:Int)(K:Int->Prop):Prop:=K n
def req(p K:Prop):Prop:=p∧K
end M
def H.sets(h:H)(a:Addr):Nat->List Value->H
 | _,[]=>h
 | i,v::r=>H.sets (h.set (a.add i) v) a (i+1) r
def M.ku(h:H)(a:Addr)(vs:List Value)(K:H->Prop):Prop:=
 (∀v∈vs,ag v=true)∧(∀i,i<vs.length->(h.cell (a.add i)).isSome=true∧h.frozen (a.add i)=false)∧K (h.sets a 0 vs)
def rowAt(h:H)(a:Addr)(cs:List Value):Prop:=∀i,i<cs.length->h.cell (a.add i)=cs[i]?
def M.row(h:H)(a:Addr)(n:Nat)(K:List Value->Prop):Prop:=∃cs:List Value,cs.length=n∧rowAt h a cs∧K cs
inductive Sh where
 | int (k:IntKind)|bool|str|ptr|slc|map|agg|raw|adr|agt (l:List Sh)
def typ:Sh->Value->(Value->Prop)->Prop
 | .int k,v,K=>M.int k v λn=>K (.int k n)
 | .bool,v,K=>M.bool v λb=>K (.bool b)
 | .str,v,K=>M.str v λs=>K (.string s)
 | .ptr,v,K=>M.ptr v λp=>K (.pointer p)
 | .slc,v,K=>M.slc v λa l c=>K (.slice a l c)
 | .map,v,K=>M.map v λr=>K (.map r)
 | .agg,v,K=>M.agg v λcs=>K (.agg cs)
 | .adr,v,K=>∃a,v = .pointer (some a)∧K (.pointer (some a))
 | .agt _,v,K=>K v
 | .raw,v,K=>K v
theorem qR{s:Sh}{v:Value}{K:Value->Prop}(h:typ s v K):K v:=by
 cases s<;>simp only[typ]at h<;>first|exact h|(obtain⟨_,rfl,h⟩:=h;exact h)|(obtain⟨_,_,_,rfl,h⟩:=h;exact h)
inductive LK where
 | one (s:Sh)|agg|bad
def tu:Option TypeDesc->LK
 | some .bool=>.one .bool
 | some (.int k)=>.one (.int k)
 | some .string=>.one .str
 | some (.pointer _)=>.one .ptr
 | some (.slice _)=>.one .slc
 | some (.map _ _)=>.one .map
 | some (.struct _)=>.agg
 | some (.array _ _)=>.agg
 | some _=>.one .raw
 | none=>.bad
def Q6{α:Type}:List (Option (List α))->Option (List α)
 | []=>some []
 | none::_=>none
 | some l::r=>match Q6 r with|some m=>some (l++m)|none=>none
def En(P:Program):Nat->TypeId->Option (List Sh)
 | 0,_=>none
 | d+1,t=>
  match P.underlying t with
  | some (.struct fs)=>Q6 (fs.toList.map λf=>En P d f.type)
  | some (.array n e)=>match En P d e with|some l=>some (List.flatten (List.replicate n l))|none=>none
  | d=>match tu d with | .one s=>some [s]|_=>none
def xy(h:H)(a:Addr):Nat->List Sh->List Value->(List Value->Prop)->Prop
 | _,[],acc,K=>K acc.reverse
 | i,s::r,acc,K=>M.load h (a.add i) λv=>typ s v λv'=>xy h a (i+1) r (v'::acc) K
def qy:Nat:=12
def M.at(cs:Array Value)(i:Nat)(K:Value->Prop):Prop:=∃v,cs[i]? = some v∧K v
def xR(cs:Array Value):Nat->List Sh->List Value->(List Value->Prop)->Prop
 | _,[],acc,K=>K acc.reverse
 | i,s::r,acc,K=>M.at cs i λv=>typ s v λv'=>xR cs (i+1) r (v'::acc) K
def r6(P:Program)(small:Bool)(t:TypeId)(cs:Array Value)(off:Nat)(K:Value->Prop):Prop:=
 match tu (P.underlying t)with
 | .one s=>bif small then(match cs.toList[off]? with|some v=>K v|none=>False)else M.at cs off λv=>typ s v K
 | .agg=>
  bif small then K (.agg ((cs.toList.drop off).take (P.cellsOf t)).toArray)
  else bif Nat.ble (P.cellsOf t) qy then
   (match En P 20 t with
   | some l=>bif Nat.beq l.length (P.cellsOf t)then xR cs off l [] λvs=>K (.agg vs.toArray)else False
   | none=>False)
  else K (.agg (cs.extract off (off+P.cellsOf t)))
 | .bad=>False
def vL(P:Program)(t:TypeId)(a:Addr)(K:Value->Prop)(h:H):Prop:=
 match tu (P.underlying t)with
 | .one s=>bif Nat.beq (P.cellsOf t) 1 then M.load h a λv=>typ s v K else False
 | .agg=>
  match P.info? t with
  | some i=>
   bif Nat.ble i.size qy then
    match En P 20 t with
    | some l=>bif Nat.beq l.length i.size then xy h a 0 l [] λvs=>K (.agg vs.toArray)else False
    | none=>False
   else M.row h a i.size λcs=>K (.agg cs.toArray)
  | none=>False
 | .bad=>False
def uL(P:Program)(t:TypeId)(a:Addr)(v:Value)(K:H->Prop)(h:H):Prop:=
 match P.info? t with
 | some i=>
  match tu (P.underlying t)with
  | .one _=>bif Nat.beq i.size 1 then M.put h a v K else False
  | .agg=>match v with | .agg cs=>M.req (cs.size=i.size) (M.ku h a cs.toList K)|_=>False
  | .bad=>False
 | none=>False
section
variable {P:Program}
theorem E7{d:Option TypeDesc}{s:Sh}(h:tu d = .one s):∃d',d=some d'∧(match d' with | .struct _ | .array _ _=>False|_=>True):=by
 unfold tu at h;split at h<;>first|(simp at h;done)|exact⟨_,rfl,trivial⟩|skip
 rename_i d' h1 h2 h3 h4 h5 h6 h7 h8;refine⟨d',rfl,?_⟩;split<;>simp_all
theorem Bg{d:Option TypeDesc}(h:tu d = .agg):(∃fs,d=some (.struct fs))∨(∃n e,d=some (.array n e)):=by
 unfold tu at h;split at h<;>first|(simp at h;done)|exact .inl ⟨_,rfl⟩|exact .inr ⟨_,_,rfl⟩
theorem yY{h:H}{a:Addr}{K:List Value->Prop}:∀(l:List Sh) (i:Nat) (acc:List Value),xy h a i l acc K ->
  ∃cs,cs.length=l.length∧(∀j,j<cs.length->h.cell (a.add (i+j))=cs[j]?)∧K (acc.reverse++cs)
 | [],i,acc,hh=>⟨[],rfl,λj hj=>by simp at hj,by rw[List.append_nil];exact hh⟩
 | s::r,i,acc,hh=>by
  obtain⟨v,hv,hh⟩:=hh;obtain⟨cs,hl,hc,hk⟩:=yY r (i+1) (v::acc) (qR hh);refine⟨v::cs,by simp[hl],λj hj=>?_,by simpa using hk⟩;cases j with
  | zero=>simpa using hv
  | succ j=>have:=hc j (by simpa using hj);rw[show i+(j+1)=i+1+j by omega];simpa using this
theorem oJ{h:H}{a:Addr}{Q:Array Value->H->Prop}:∀(cs:List Value) (i:Nat) (acc:Array Value),(∀j,j<cs.length->h.cell (a.add (i+j))=cs[j]?)->Q (acc++cs.toArray) h ->
  wpS P (loadCellsFrom a i cs.length acc) Q h
 | [],i,acc,_,hq=>by simpa [loadCellsFrom,wpS,pure] using hq
 | v::r,i,acc,hc,hq=>by
  have h0:=hc 0 (by simp);simp only[List.length_cons,loadCellsFrom];rw[show(do let v ←load (a.add i);loadCellsFrom a (i+1) r.length (acc.push v):Sem (Array Value))=Sem.bind (load (a.add i)) λv=>loadCellsFrom a (i+1) r.length (acc.push v)from rfl,Av];refine⟨v,by simpa using h0,?_⟩;refine oJ r (i+1) (acc.push v) (λj hj=>?_) ?_
  ·have:=hc (j+1) (by simpa using hj);rw[show i+1+j=i+(j+1) by omega];simpa using this
  ·simpa using hq
theorem kI{a:Addr}{Q:Unit->H->Prop}:∀(vs:List Value) (i:Nat) (h:H),(∀v∈vs,ag v=true) ->
  (∀j,j<vs.length->(h.cell (a.add (i+j))).isSome=true∧h.frozen (a.add (i+j))=false)->Q () (h.sets a i vs)->wpS P (storeCells a vs i) Q h
 | [],i,h,_,_,hq=>hq
 | v::r,i,h,hp,hc,hq=>by
  have h0:=hc 0 (by simp);rw[Nat.add_zero]at h0;rw[show storeCells a (v::r) i=Sem.bind (store (a.add i) v) λ_=>storeCells a r (i+1)from rfl,Av];refine⟨hp v (by simp),h0.1,h0.2,?_⟩;refine kI r (i+1) (h.set (a.add i) v) (λu hu=>hp u (by simp[hu])) (λj hj=>?_) hq;rw[H.zS,H.G5];have:=hc (j+1) (by simpa using hj);rw[show i+1+j=i+(j+1) by omega];exact this
end
end Go.Sh
namespace Go.Sh
open Go.RowKit
abbrev W:=Array Value->(Value->H->Prop)->H->Prop
abbrev Env:=FuncId->W
abbrev Tm:=Nat->Option Value
def Tm.put(t:Tm)(d:Option Nat)(v:Option Value):Tm:=
 match d with
 | none=>t
 | some d=>λi=>bif Nat.beq i d then v else t i
def Tm.get(t:Tm):Operand->Option Value
 | .tmp i=>t i
 | .const v=>some v
 | .global g=>some (.pointer (some ⟨g,0,none⟩))
 | .func f=>some (.func (.func f) #[] #[])
def Tm.all(t:Tm):List Operand->Option (List Value)
 | []=>some []
 | x::r=>match t.get x with|some v=>(match Tm.all t r with|some l=>some (v::l)|none=>none)|none=>none
def Tm.val(t:Tm)(x:Operand):Value:=match t.get x with|some v=>v|none=>undef
def Md(k k':IntKind):Bool:=decide (k=k')
def lS(k:IntKind)(a b:Int):Int:=k.wrap ((BitVec.ofInt k.bits a &&& BitVec.ofInt k.bits b).toNat)
def ye(k:IntKind)(a b:Int):Int:=k.wrap ((BitVec.ofInt k.bits a ||| BitVec.ofInt k.bits b).toNat)
def mZ(k:IntKind)(a b:Int):Int:=k.wrap ((BitVec.ofInt k.bits a ^^^ BitVec.ofInt k.bits b).toNat)
def IE(k:IntKind)(a b:Int):Int:=k.wrap ((BitVec.ofInt k.bits a &&& ~~~(BitVec.ofInt k.bits b)).toNat)
def NA(k:IntKind)(a:Int):Int:=mZ k (if k.signed then -1 else k.max) a
def shl(k:IntKind)(a b:Int):Int:=k.wrap (a*2^(min b.toNat k.bits))
def shr(k:IntKind)(a b:Int):Int:=a.fdiv (2^(min b.toNat k.bits))
def mX(x y:ByteArray):Bool:=x.toList == y.toList
def strLt(x y:ByteArray):Bool:=Op.bytesLess x.toList y.toList
def aF(s:ByteArray)(i:Nat):Int:=((s.data.toList.getD i 0).toNat:Int)
def mh(a:Option Addr)(m l size:Nat):Option Addr:=if m=l then a else a.map (·.add (l*size))
def ofBytes(zs:List Int):ByteArray:=⟨(zs.map λz=>UInt8.ofNat z.toNat).toArray⟩
def bytesOf(s:ByteArray):List Value:=s.data.toList.map λb=>.int .u8 b.toNat
def gx(zero:List Value)(n:Nat):List Value:=List.flatten (List.replicate n zero)
def mn(x y:Int):Int:=if y<x then y else x
def mx(x y:Int):Int:=if y>x then y else x
namespace M
def jZ(b:Int)(K:Prop):Prop:=0≤b∧K
def nz(b:Int)(K:Prop):Prop:=b≠0∧K
def cat(x y:ByteArray)(K:ByteArray->Prop):Prop:=((x.size+y.size:Nat):Int)≤IntKind.i64.max∧K (x++y)
def byte(s:ByteArray)(i:Int)(K:Int->Prop):Prop:=0≤i∧i<s.size∧K (aF s i.toNat)
def idx(a:Option Addr)(len:Nat)(i:Int)(K:Addr->Nat->Prop):Prop:=∃b,a=some b∧0≤i∧i<len∧K b i.toNat
def fk(len:Nat)(i:Int)(K:Nat->Prop):Prop:=0≤i∧i<len∧K i.toNat
def SE(lo:Int)(hi:Int)(m:Nat)(K:Nat->Nat->Prop):Prop:=0≤lo∧lo≤hi∧hi≤m∧K lo.toNat hi.toNat
def qI(s:ByteArray)(lo hi:Int)(K:ByteArray->Prop):Prop:=SE lo hi s.size λl h=>K (s.extract l h)
def sub(a:Option Addr)(cap:Nat)(size:Nat)(lo hi:Int)(K:Option Addr->Nat->Nat->Prop):Prop:=
 SE lo hi cap λl h=>K (mh a cap l size) (h-l) (cap-l)
def mk(h:H)(e:TypeId)(zero:List Value)(bytes:Nat)(l c:Int)(K:Option Addr->Nat->Nat->H->Prop):Prop:=
 0≤l∧l≤c∧(bytes:Int)*c≤281474976710656∧c≤9223372036854775807 ∧
  ∀b,h b=none->K (some ⟨b,0,none⟩) l.toNat c.toNat (h.nh b (.cells (gx zero c.toNat).toArray e))
def xX(h:H)(a:Option Addr)(n:Nat)(K:ByteArray->Prop):Prop:=
 (a=none->K .empty)∧∀b,a=some b->∃zs:List Int,zs.length=n∧rowAt h b (zs.map (Value.int .u8))∧K (ofBytes zs)
def QA(h:H)(e:TypeId)(s:ByteArray)(K:Option Addr->Nat->Nat->H->Prop):Prop:=
 ∀c,s.size≤c->∀b,h b=none->K (some ⟨b,0,none⟩) s.size c (h.nh b (.cells (bytesOf s++List.replicate (c-s.size) (Value.int .u8 0)).toArray e (c,c+1)))
def cellsOf(h:H)(a:Option Addr)(n:Nat)(K:List Value->Prop):Prop:=
 (a=none->K [])∧∀b,a=some b->row h b n K
def app(h:H)(e:TypeId)(size bytes:Nat)(zero:List Value)(base:Option Addr)(len cap n:Nat)(new:List Value)(K:Option Addr->Nat->Nat->H->Prop):Prop:=
 (len+n≤cap->(base=none->K base (len+n) cap h)∧∀a,base=some a->ku h (a.add (len*size)) new λh'=>K base (len+n) cap h') ∧
 (cap<len+n->((len+n:Nat):Int)≤IntKind.i64.max∧Builtin.nextslicecap (len+n) cap*bytes≤281474976710656 ∧
  cellsOf h base (len*size) λold=>∀c,len+n≤c->∀b,h b=none->K (some ⟨b,0,none⟩) (len+n) c (h.nh b (.cells (old++new++gx zero (c-(len+n))).toArray e)))
def copy(h:H)(dst:Option Addr)(new:List Value)(K:H->Prop):Prop:=
 (dst=none->K h)∧∀a,dst=some a->ku h a new K
def RV(a:Option Addr)(cap size:Nat)(lo hi m:Int)(K:Option Addr->Nat->Nat->Prop):Prop:=
 0≤lo∧lo≤hi∧hi≤m∧m≤cap∧K (mh a m.toNat lo.toNat size) (hi.toNat-lo.toNat) (m.toNat-lo.toNat)
def Rp(h:H)(e:TypeId)(size bytes:Nat)(zero:List Value)(base:Option Addr)(len cap:Nat)(n:Int)(K:Option Addr->Nat->Nat->H->Prop):Prop:=
 0≤n∧(bytes:Int)*n≤281474976710656∧n≤9223372036854775807∧app h e size bytes zero base len cap n.toNat (gx zero n.toNat) K
def Sg(h:H)(r:Option Nat)(K:Int->Prop):Prop:=(r=none->K 0)∧∀b,r=some b->∃es c,h b=some (.map es c)∧K es.size
end M
def CS(op:BinOp)(k:IntKind)(a:Int)(k':IntKind)(b:Int)(K:Value->Prop):Prop:=
 match op with
 | .shl=>M.jZ b (M.val (shl k a b) λz=>K (.int k z))
 | .shr=>M.jZ b (M.val (shr k a b) λz=>K (.int k z))
 | op=>bif Md k k' then
   match op with
   | .add=>M.val (k.wrap (a+b)) λz=>K (.int k z)
   | .sub=>M.val (k.wrap (a-b)) λz=>K (.int k z)
   | .mul=>M.val (k.wrap (a*b)) λz=>K (.int k z)
   | .quo=>M.nz b (M.val (k.wrap (a.tdiv b)) λz=>K (.int k z))
   | .rem=>M.nz b (M.val (a.tmod b) λz=>K (.int k z))
   | .and=>M.val (lS k a b) λz=>K (.int k z)
   | .or=>M.val (ye k a b) λz=>K (.int k z)
   | .xor=>M.val (mZ k a b) λz=>K (.int k z)
   | .andNot=>M.val (IE k a b) λz=>K (.int k z)
   | .eql=>K (.bool (a == b))
   | .neq=>K (.bool (a != b))
   | .lss=>K (.bool (decide (a<b)))
   | .leq=>K (.bool (decide (a≤b)))
   | .gtr=>K (.bool (decide (a>b)))
   | .geq=>K (.bool (decide (a≥b)))
   | _=>False
  else False
def C2(op:BinOp)(x y:ByteArray)(K:Value->Prop):Prop:=
 match op with
 | .add=>M.cat x y λs=>K (.string s)
 | .eql=>K (.bool (mX x y))
 | .neq=>K (.bool (!mX x y))
 | .lss=>K (.bool (strLt x y))
 | .leq=>K (.bool (strLt x y || mX x y))
 | .gtr=>K (.bool (!(strLt x y || mX x y)))
 | .geq=>K (.bool (!strLt x y))
 | _=>False
def DV(d:Option TypeDesc)(y:Operand)(a b:Value)(K:Bool->Prop):Prop:=
 match d with
 | some .bool=>match a,b with | .bool p,.bool q=>K (p == q)|_,_=>False
 | some (.pointer _)=>match y with
  | .const (.pointer none)=>(match a with | .pointer p=>K p.isNone|_=>False)
  | _=>False
 | some (.slice _)=>match y with | .const (.slice none _ _)=>(match a with | .slice p _ _=>K p.isNone|_=>False)|_=>False
 | some (.map _ _)=>match y with | .const (.map none)=>(match a with | .map p=>K p.isNone|_=>False)|_=>False
 | _=>False
def Cs(P:Program)(op:BinOp)(ty:TypeId)(y:Operand)(a b:Value)(K:Value->Prop):Prop:=
 match P.underlying ty with
 | some (.int _)=>match a,b with | .int k m,.int k' n=>CS op k m k' n K|_,_=>False
 | some .string=>match a,b with | .string s,.string s'=>C2 op s s' K|_,_=>False
 | d=>match op with
  | .eql=>DV d y a b (λc=>K (.bool c))
  | .neq=>DV d y a b (λc=>K (.bool (!c)))
  | _=>False
def yJ(P:Program)(s d:TypeId)(x:Value)(K:Value->H->Prop)(h:H):Prop:=
 match P.underlying d with
 | some (.int k)=>(match P.underlying s,x with|some _,.int _ n=>M.val (k.wrap n) λz=>K (.int k z) h|_,_=>False)
 | some .string=>(match P.underlying s with
  | some .string=>(match x with | .string _=>K x h|_=>False)
  | some (.slice e)=>(match P.underlying e with
   | some (.int .u8)=>(match x with | .slice a n _=>M.xX h a n λs=>K (.string s) h|_=>False)
   | _=>False)
  | _=>False)
 | some (.slice e)=>(match P.underlying s with
  | some .string=>(match P.underlying e with
   | some (.int .u8)=>(match x with | .string s=>M.QA h e s λa n c h'=>K (.slice a n c) h'|_=>False)
   | _=>False)
  | _=>False)
 | _=>False
def vg(d:Int):Option Value->Option Int
 | none=>some d
 | some (.int _ n)=>some n
 | _=>none
def uQ(P:Program)(t:TypeId)(x:Value)(lo hi:Option Value)(K:Value->Prop):Prop:=
 match P.underlying t with
 | some .string=>(match x with
  | .string s=>(match vg 0 lo,vg s.size hi with|some l,some u=>M.qI s l u λr=>K (.string r)|_,_=>False)
  | _=>False)
 | some (.slice e)=>(match x,P.info? e with
  | .slice a n c,some i=>(match vg 0 lo,vg n hi with|some l,some u=>M.sub a c i.size l u λa' n' c'=>K (.slice a' n' c')|_,_=>False)
  | _,_=>False)
 | some (.array n e)=>(match x,P.info? e with
  | .pointer (some a),some i=>(match vg 0 lo,vg n hi with|some l,some u=>M.sub (some a) n i.size l u λa' n' c'=>K (.slice a' n' c')|_,_=>False)
  | _,_=>False)
 | _=>False
def rT(P:Program)(t:TypeId)(x lo hi m:Value)(K:Value->Prop):Prop:=
 match P.underlying t with
 | some (.slice e)=>(match x,P.info? e,lo,hi,m with
  | .slice a _ c,some i,.int _ l,.int _ u,.int _ m=>M.RV a c i.size l u m λa' n' c'=>K (.slice a' n' c')
  | _,_,_,_,_=>False)
 | _=>False
def nJ(P:Program)(t:TypeId)(x i:Value)(K:Value->Prop):Prop:=
 match i with
 | .int _ i=>
  match P.underlying t with
  | some (.slice e)=>(match x,P.info? e with | .slice a n _,some d=>M.idx a n i λb j=>K (.pointer (some (b.add (j*d.size))))|_,_=>False)
  | some (.array n e)=>(match x,P.info? e with | .pointer (some a),some d=>M.fk n i λj=>K (.pointer (some (a.add (j*d.size))))|_,_=>False)
  | _=>False
 | _=>False
def uP(P:Program)(t:TypeId)(x i:Value)(K:Value->Prop):Prop:=
 match i with
 | .int _ i=>
  match P.underlying t with
  | some .string=>(match x with | .string s=>M.byte s i λz=>K (.int .u8 z)|_=>False)
  | some (.array n e)=>(match x with
   | .agg cs=>M.fk n i λj=>r6 P false e cs (j*P.cellsOf e) K
   | _=>False)
  | _=>False
 | _=>False
def uF(P:Program)(t:TypeId)(x:Value)(f:Nat)(K:Value->Prop):Prop:=
 match P.underlying t with
 | some (.struct fs)=>(match fs[f]?,x with
  | some fd,.agg cs=>r6 P (Nat.ble (P.cellsOf t) qy) fd.type cs fd.offset K
  | _,_=>False)
 | _=>False
def nM(P:Program)(t:TypeId)(x:Value)(f:Nat)(K:Value->Prop):Prop:=
 match P.underlying t with
 | some (.struct fs)=>(match fs[f]? with
  | some fd=>bif Nat.beq (P.cellsOf fd.type) 0 then False else(match x with | .pointer (some a)=>K (.pointer (some (a.add fd.offset)))|_=>False)
  | none=>False)
 | _=>False
def zB(P:Program)(t:TypeId)(x:Value)(K:Value->H->Prop)(h:H):Prop:=
 match P.underlying t with
 | some .string=>(match x with | .string s=>K (.int .i64 s.size) h|_=>False)
 | some (.slice _)=>(match x with | .slice _ n _=>K (.int .i64 n) h|_=>False)
 | some (.array n _)=>K (.int .i64 n) h
 | some (.pointer a)=>(match P.underlying a with|some (.array n _)=>K (.int .i64 n) h|_=>False)
 | some (.map _ _)=>(match x with | .map r=>M.Sg h r λn=>K (.int .i64 n) h|_=>False)
 | _=>False
def xo(f:Int->Int->Int)(k:IntKind):List Value->Int->Option Int
 | [],x=>some x
 | .int _ y::r,x=>xo f k r (f x y)
 | _ :: _,_=>none
def nY(f:Int->Int->Int)(args:List Value)(K:Value->Prop):Prop:=
 match args with
 | .int k x::r=>(match xo f k r x with|some z=>K (.int k z)|none=>False)
 | _=>False
def rD(P:Program)(ts:Array TypeId)(args:List Value)(K:Value->H->Prop)(h:H):Prop:=
 match ts.toList,args with
 | [st,xt],[s,x]=>
  match P.underlying st,s with
  | some (.slice e),.slice base len cap=>
   match P.info? e with
   | some i=>
    match i.zero,P.underlying xt with
    | some z,some (.slice _)=>(match x with
     | .slice xa n _=>M.cellsOf h xa (n*i.size) λnew=>M.app h e i.size i.bytes z.cells.toList base len cap n new λa l c h'=>K (.slice a l c) h'
     | _=>False)
    | some z,some .string=>(match x with
     | .string s=>M.app h e i.size i.bytes z.cells.toList base len cap s.size (bytesOf s) λa l c h'=>K (.slice a l c) h'
     | _=>False)
    | some z,some (.int _)=>(match x with
     | .int _ n=>bif Nat.beq z.cells.size i.size then M.Rp h e i.size i.bytes z.cells.toList base len cap n λa l c h'=>K (.slice a l c) h' else False
     | _=>False)
    | _,_=>False
   | none=>False
  | _,_=>False
 | _,_=>False
def yt(P:Program)(ts:Array TypeId)(args:List Value)(K:Value->H->Prop)(h:H):Prop:=
 match ts.toList,args with
 | [dt,_],[.slice dst dl _,x]=>
  match P.underlying dt with
  | some (.slice e)=>
   match P.info? e with
   | some i=>(match x with
    | .slice xa n _=>M.cellsOf h xa (min n dl*i.size) λnew=>M.copy h dst new λh'=>K (.int .i64 (min n dl:Nat)) h'
    | .string s=>M.copy h dst (bytesOf (s.extract 0 (min s.size dl))) λh'=>K (.int .i64 (min s.size dl:Nat)) h'
    | _=>False)
   | none=>False
  | _=>False
 | _,_=>False
def uX(P:Program)(ts:Array TypeId)(args:List Value)(K:Value->H->Prop)(h:H):Prop:=
 match ts.toList,args with
 | [t],[.slice a n _]=>
  match P.underlying t with
  | some (.slice e)=>
   match P.info? e with
   | some i=>(match i.zero with
    | some z=>M.copy h a (gx z.cells.toList n) λh'=>K (.tuple #[]) h'
    | none=>False)
   | none=>False
  | _=>False
 | _,_=>False
def rP(env:Env)(f:Value)(args:List Value)(K:Value->H->Prop)(h:H):Prop:=
 match f with
 | .func (.func g) first captured=>env g (first.toList++args++captured.toList).toArray K h
 | _=>False
def sg(env:Env)(f:Value)(args:List Value)(K:Value->H->Prop)(h:H):Prop:=
 rP env f args K h
def yX(P:Program)(kt:TypeId)(es:Array MapEntry)(k:Value)(r:Option (Nat×Value)):Prop:=
 (∀e w,(Instr.checkKey e 10000 kt k).run P w = .ok () w)∧∀w,(Instr.findKey kt k es.toList).run P w = .ok r w
def I1(h:H)(m:Value)(es:Array MapEntry):Prop:=(m = .map none∧es = #[])∨∃b c,m = .map (some b)∧h b=some (.map es c)
def M.lk(P:Program)(ty:TypeId)(m k:Value)(h:H)(K:Value->H->Prop):Prop:=
 ∃kt et es r,P.underlying ty=some (.map kt et)∧I1 h m es∧yX P kt es k r ∧
  match r with|some (_,v)=>K v h|none=>∃z,(∀w,(zeroValue et).run P w = .ok z w)∧K z h
def M.Nz(P:Program)(ty:TypeId)(m k:Value)(h:H)(K:Value->Bool->H->Prop):Prop:=
 ∃kt et es r,P.underlying ty=some (.map kt et)∧I1 h m es∧yX P kt es k r ∧
  match r with|some (_,v)=>K v true h|none=>∃z,(∀w,(zeroValue et).run P w = .ok z w)∧K z false h
def M.An(P:Program)(ty:TypeId)(m k v:Value)(h:H)(K:H->Prop):Prop:=
 ∃kt et b es c r,P.underlying ty=some (.map kt et)∧m = .map (some b)∧h b=some (.map es c)∧yX P kt es k r ∧
  match r with
  | some (i,_)=>Instr.sameBits 10000 (((es[i]?).map (·.key)).getD k) k=true∧K (h.nh b (.map (es.modify i λe=>{ e with key:=k,val:=v }) c))
  | none=>K (h.nh b (.map (es.push { key:=k,val:=v,born:=c }) (c+1)))
def M.ID(P:Program)(ty:TypeId)(m k:Value)(h:H)(K:Value->Int->H->Prop):Prop:=
 ∃kt et b es c r,P.underlying ty=some (.map kt et)∧m = .map (some b)∧h b=some (.map es c)∧yX P kt es k r ∧
  match r with
  | some (i,v)=>Instr.sameBits 10000 (((es[i]?).map (·.key)).getD k) k=true∧K v (((es[i]?).map λe=>(e.born:Int)).getD 0) (h.nh b (.map (es.modify i λe=>{ e with key:=k }) c))
  | none=>∃z,(∀w,(zeroValue et).run P w = .ok z w)∧K z (c:Int) (h.nh b (.map (es.push { key:=k,val:=z,born:=c }) (c+1)))
def M.Iz(m s x:Value)(h:H)(K:H->Prop):Prop:=
 ∃(b:Nat) (es:Array MapEntry) (c:Nat) (n:Int) (i:Nat),m=Value.map (some b)∧h b=some (.map es c)∧s=Value.int .i64 n∧es.findIdx? (λe=>(e.born:Int) == n)=some i∧K (h.nh b (.map (es.modify i λe=>{ e with val:=x }) c))
def IK(es:Array MapEntry):Option (Nat×Value)->Array MapEntry
 | some (i,_)=>es.eraseIdxIfInBounds i
 | none=>es
def M.P8(P:Program)(ty:TypeId)(m k:Value)(h:H)(K:H->Prop):Prop:=
 ∃kt et b es c r,P.underlying ty=some (.map kt et)∧m = .map (some b)∧h b=some (.map es c)∧yX P kt es k r ∧
  K (h.nh b (.map (IK es r) c))
def ry(P:Program)(ts:Array TypeId)(args:List Value)(K:Value->H->Prop)(h:H):Prop:=
 match ts.toList,args with
 | ty::_,[m,k]=>M.P8 P ty m k h λh'=>K (.tuple #[]) h'
 | _,_=>False
def M.SF(a:Option Addr)(c:Nat)(K:Addr->Prop):Prop:=∃b,a=some b∧c≠0∧K b
def M.SA(P:Program)(pt:TypeId)(h:H)(p:Option Addr)(n:Int)(K:ByteArray->H->Prop):Prop:=
 ∃(e:TypeId) (g:Nat) (cur:Array Value) (f:Nat×Nat) (l:List UInt8),P.underlying pt=some (.pointer e)∧P.cellsOf e=1∧p=some ⟨g,0,none⟩∧h g=some (.cells cur e f)∧l≠[]∧n=l.length∧l.length≤cur.size∧l.length≤9223372036854775807 ∧
  (∀(j:Nat) (x:UInt8),l[j]? = some x->cur[j]? = some (Value.int .u8 x.toNat))∧∀f':Nat×Nat,K ⟨l.toArray⟩ (h.nh g (.cells cur e f'))
def yF(P:Program)(ts:Array TypeId)(args:List Value)(K:Value->H->Prop)(h:H):Prop:=
 match ts.toList,args with
 | [pt,_],[.pointer p,.int .i64 n]=>M.SA P pt h p n λs h'=>K (.string s) h'
 | _,_=>False
def Fs(args:List Value)(K:Value->Prop):Prop:=
 match args with
 | [.slice a _ c]=>M.SF a c λb=>K (.pointer (some b))
 | _=>False
def M.L9(k:IntKind)(v:Value)(K:Int->Prop):Prop:=
 match v with
 | .int k' n=>bif Md k' k then K n else False
 | _=>False
def M.Fb(v:Value)(K:Bool->Prop):Prop:=
 match v with
 | .bool b=>K b
 | _=>False
def Cu(P:Program)(rt:TypeId)(v:Value)(K:Value->Prop):Prop:=
 match tu (P.underlying rt)with
 | .one (.int k)=>M.L9 k v λn=>K (.int k n)
 | .one .bool=>M.Fb v λb=>K (.bool b)
 | _=>K v
def M.eqv(P:Program)(op:BinOp)(ty:TypeId)(x y:Operand)(a b:Value)(h:H)(K:Bool->H->Prop):Prop:=
 ∃c,(∀w,(do eqGuard op ty x y a b;binOp op ty a b:Sem Value).run P w = .ok (.bool c) w)∧K c h
def tH(P:Program)(ty:TypeId)(m k:Value)(ok:Bool)(K:Value->H->Prop)(h:H):Prop:=
 match P.underlying ty with
 | some (.map _ e)=>(match tu (P.underlying e)with
  | .one s=>bif ok then M.Nz P ty m k h λv b h'=>typ s v λv'=>K (.tuple #[v',.bool b]) h' else M.lk P ty m k h λv h'=>typ s v λv'=>K v' h'
  | _=>False)
 | _=>False
def xz(P:Program)(op:BinOp)(ty:TypeId):Bool:=
 match tu (P.underlying ty)with
 | .agg=>(match op with | .eql | .neq=>true|_=>false)
 | _=>false
def tR(P:Program)(env:Env)(op:Op)(rt:TypeId)(t:Tm)(K:Option Value->H->Prop)(h:H):Prop:=
 match op with
 | .move x=>match t.get x with|some v=>K (some v) h|none=>K none h
 | .assign x=>match t.get x with|some v=>K (some v) h|none=>K none h
 | .pick c a b=>match t.get c with
  | some (.bool p)=>bif p then(match t.get a with|some v=>K (some v) h|none=>K none h)else(match t.get b with|some v=>K (some v) h|none=>K none h)
  | _=>False
 | .alloc e=>match (P.info? e).bind (·.zero)with|some z=>M.new h (.cells z.cells e) λb h'=>K (some (.pointer (some ⟨b,0,none⟩))) h'|none=>False
 | .box e x=>match t.get x with|some v=>M.new h (.cells v.cells e) λb h'=>K (some (.pointer (some ⟨b,0,none⟩))) h'|none=>False
 | .build ty ps=>match t.all (ps.toList.map (·.2))with
  | some _=>(match P.built ty (ps.toList.map λp=>(p.1,t.val p.2))with|some cs=>K (some (.agg cs)) h|none=>False)
  | none=>False
 | .buildSlice ty len ps=>match t.all (ps.toList.map (·.2)),P.underlying ty with
  | some _,some (.slice e)=>(match P.info? e with
   | some i=>(match i.zero with
    | some z=>(match Instr.fill (λj=>some (j*i.size,i.size)) (gx z.cells.toList len).toArray (ps.toList.map λp=>(p.1,t.val p.2))with
     | some cs=>bif Nat.ble (len*i.size) 16777216 && Nat.beq z.cells.size i.size then M.new h (.cells cs e) λb h'=>K (some (.slice (some ⟨b,0,none⟩) len len)) h' else False
     | none=>False)
    | none=>False)
   | none=>False)
  | _,_=>False
 | .load ty x=>match t.get x with|some (.pointer (some a))=>vL P ty a (λv=>K (some v) h) h|_=>False
 | .store ty x v=>match t.get x,t.get v with|some (.pointer (some a)),some v=>uL P ty a v (λh'=>K (some undef) h') h|_,_=>False
 | .nilCheck x=>match t.get x with|some (.pointer p)=>M.nn p λa=>K (some (.pointer (some a))) h|_=>False
 | .binOp op ty x y _=>match t.get x,t.get y with
  | some a,some b=>bif xz P op ty then M.eqv P op ty x y a b h (λc h'=>K (some (.bool c)) h')else Cs P op ty y a b λv=>K (some v) h
  | _,_=>False
 | .lookup ty m k ok=>match t.get m,t.get k with|some a,some b=>tH P ty a b ok (λv h'=>K (some v) h') h|_,_=>False
 | .mapUpdate ty m k v=>match t.get m,t.get k,t.get v with|some a,some b,some c=>M.An P ty a b c h λh'=>K (some undef) h'|_,_,_=>False
 | .mapEntry ty m k=>match t.get m,t.get k with|some a,some b=>M.ID P ty a b h λv n h'=>K (some (.tuple #[v,.int .i64 n])) h'|_,_=>False
 | .entryStore _ m s v=>match t.get m,t.get s,t.get v with|some a,some b,some c=>M.Iz a b c h λh'=>K (some undef) h'|_,_,_=>False
 | .insert ty m k v=>match t.get m,t.get k,t.get v with|some a,some b,some c=>M.An P ty a b c h λh'=>K (some undef) h'|_,_,_=>False
 | .unOp op _ x=>match op,t.get x with
  | .not,some (.bool b)=>K (some (.bool (!b))) h
  | .neg,some (.int k n)=>M.val (k.wrap (0-n)) λz=>K (some (.int k z)) h
  | .xor,some (.int k n)=>M.val (NA k n) λz=>K (some (.int k z)) h
  | _,_=>False
 | .convert s d x=>match t.get x with|some v=>yJ P s d v (λv h'=>K (some v) h') h|none=>False
 | .makeInterface ty x=>match t.get x,P.underlying ty with|some _,some (.interface _)=>False|some v,some _=>K (some (.iface ty v)) h|_,_=>False
 | .makeFunc fn first cap=>match t.all first.toList,t.all cap.toList with|some a,some b=>K (some (.func fn a.toArray b.toArray)) h|_,_=>False
 | .makeMap _ r=>match r with
  | none=>M.new h (.map #[] 0) λb h'=>K (some (.map (some b))) h'
  | some _=>False
 | .makeSlice ty l c=>match P.underlying ty,t.get l,t.get c with
  | some (.slice e),some (.int _ l),some (.int _ c)=>(match P.info? e with
   | some i=>(match i.zero with|some z=>bif Nat.beq z.cells.size i.size then M.mk h e z.cells.toList i.bytes l c λa n m h'=>K (some (.slice a n m)) h' else False|none=>False)
   | none=>False)
  | _,_,_=>False
 | .slice ty x lo hi none=>match t.get x,t.all lo.toList,t.all hi.toList with
  | some v,some _,some _=>uQ P ty v (lo.map t.val) (hi.map t.val) λv=>K (some v) h
  | _,_,_=>False
 | .slice ty x (some lo) (some hi) (some m)=>match t.get x,t.get lo,t.get hi,t.get m with
  | some v,some l,some u,some m=>rT P ty v l u m λv=>K (some v) h
  | _,_,_,_=>False
 | .sliceToArrayPointer ty x=>match t.get x,P.underlying ty with
  | some (.slice a n _),some (.array k _)=>M.req (k≤n) (M.nn a λb=>K (some (.pointer (some b))) h)
  | _,_=>False
 | .fieldAddr s x f=>match t.get x with|some v=>nM P s v f λv=>K (some v) h|none=>False
 | .field s x f=>match t.get x with|some v=>uF P s v f λv=>K (some v) h|none=>False
 | .indexAddr s x i=>match t.get x,t.get i with|some v,some j=>nJ P s v j λv=>K (some v) h|_,_=>False
 | .index s x i=>match t.get x,t.get i with|some v,some j=>uP P s v j λv=>K (some v) h|_,_=>False
 | .extract x i=>match t.get x with|some (.tuple vs)=>(match vs.toList[i]? with|some v=>K (some v) h|none=>False)|_=>False
 | .call c=>match t.all c.args.toList with
  | some args=>(match c.callee with
   | .builtin .len=>(match c.argTypes.toList,args with | [ty],[x]=>zB P ty x (λv h'=>K (some v) h') h|_,_=>False)
   | .builtin .min=>nY mn args λv=>K (some v) h
   | .builtin .max=>nY mx args λv=>K (some v) h
   | .builtin .append=>rD P c.argTypes args (λv h'=>K (some v) h') h
   | .builtin .copy=>yt P c.argTypes args (λv h'=>K (some v) h') h
   | .builtin .clear=>uX P c.argTypes args (λv h'=>K (some v) h') h
   | .builtin .delete=>ry P c.argTypes args (λv h'=>K (some v) h') h
   | .builtin .unsafeSliceData=>Fs args λv=>K (some v) h
   | .builtin .unsafeString=>yF P c.argTypes args (λv h'=>K (some v) h') h
   | .value (.func g)=>env g args.toArray (λv h'=>K (some v) h') h
   | .value (.tmp i)=>(match t i with|some f=>sg env f args (λv h'=>Cu P rt v λv'=>K (some v') h') h|none=>False)
   | _=>False)
  | none=>False
 | _=>False
end Go.Sh
namespace Go.Sh
open Go.RowKit
/-! ### Shapes carried over a join or a loop -/
abbrev Sh.Ng:Sh->Type
 | .int _=>Int
 | .bool=>Bool
 | .str=>ByteArray
 | .ptr=>Option Addr
 | .adr=>Addr
 | .slc=>Option Addr×Nat×Nat
 | .map=>Option Nat
 | .agg=>Array Value
 | .agt _=>Value
 | .raw=>Value
def Sh.Nr:(s:Sh)->s.Ng->Value
 | .int k,n=>.int k n
 | .bool,b=>.bool b
 | .str,s=>.string s
 | .ptr,p=>.pointer p
 | .adr,a=>.pointer (some a)
 | .slc,d=>.slice d.1 d.2.1 d.2.2
 | .map,r=>.map r
 | .agg,cs=>.agg cs
 | .agt _,v=>v
 | .raw,v=>v
def Sh.JR:(s:Sh)->Value->Option s.Ng
 | .int k,.int k' n=>bif Md k k' then some n else none
 | .bool,.bool b=>some b
 | .str,.string s=>some s
 | .ptr,.pointer p=>some p
 | .adr,.pointer p=>(match p with|some a=>some a|none=>none)
 | .slc,.slice a l c=>some (a,l,c)
 | .map,.map r=>some r
 | .agg,.agg cs=>some cs
 | .agt _,v=>some v
 | .raw,v=>some v
 | _,_=>none
abbrev Np:List Sh->Type
 | []=>Unit
 | [x]=>x.Ng
 | x::y::r=>x.Ng×Np (y::r)
def Mq:(l:List Sh)->Np l->List Value
 | [],_=>[]
 | [x],d=>[x.Nr d]
 | x::y::r,d=>x.Nr d.1::Mq (y::r) d.2
def FZ:(l:List Sh)->List Value->Option (Np l)
 | [],[]=>some ()
 | [x],[v]=>x.JR v
 | x::y::r,v::vs=>(match x.JR v,FZ (y::r) vs with|some d,some e=>some (d,e)|_,_=>none)
 | _,_=>none
abbrev Sh.den:Sh->Type
 | .agt l=>Np l
 | .int _=>Int
 | .bool=>Bool
 | .str=>ByteArray
 | .ptr=>Option Addr
 | .adr=>Addr
 | .slc=>Option Addr×Nat×Nat
 | .map=>Option Nat
 | .agg=>Array Value
 | .raw=>Value
def Sh.inj:(s:Sh)->s.den->Value
 | .agt l,d=>.agg (Mq l d).toArray
 | .int k,n=>.int k n
 | .bool,b=>.bool b
 | .str,s=>.string s
 | .ptr,p=>.pointer p
 | .adr,a=>.pointer (some a)
 | .slc,d=>.slice d.1 d.2.1 d.2.2
 | .map,r=>.map r
 | .agg,cs=>.agg cs
 | .raw,v=>v
def Sh.Qu:(s:Sh)->Value->Option s.den
 | .agt l,.agg cs=>FZ l cs.toList
 | .int k,.int k' n=>bif Md k k' then some n else none
 | .bool,.bool b=>some b
 | .str,.string s=>some s
 | .ptr,.pointer p=>some p
 | .adr,.pointer p=>(match p with|some a=>some a|none=>none)
 | .slc,.slice a l c=>some (a,l,c)
 | .map,.map r=>some r
 | .agg,.agg cs=>some cs
 | .raw,v=>some v
 | _,_=>none
abbrev AJ:List (Nat×Sh)->Type
 | []=>Unit
 | [x]=>x.2.den
 | x::y::r=>x.2.den×AJ (y::r)
def u9(t:Tm):(l:List (Nat×Sh))->AJ l->Tm
 | [],_=>t
 | [x],d=>t.put (some x.1) (some (x.2.inj d))
 | x::y::r,d=>u9 (t.put (some x.1) (some (x.2.inj d.1))) (y::r) d.2
def uC(t:Tm):(l:List (Nat×Sh))->Option (AJ l)
 | []=>some ()
 | [x]=>match t x.1 with|some v=>x.2.Qu v|none=>none
 | x::y::r=>match t x.1 with
  | some v=>(match x.2.Qu v,uC t (y::r)with|some d,some e=>some (d,e)|_,_=>none)
  | none=>none
def tj(i:Nat):List Nat->Bool
 | []=>false
 | j::r=>bif Nat.beq j i then true else tj i r
def Tm.mask(t:Tm)(ws:List Nat):Tm:=λi=>bif tj i ws then none else t i
def o9:List Oper->List Nat
 | []=>[]
 | o::r=>match o.dst with|some d=>d::o9 r|none=>o9 r
def writes:Code->List Nat
 | .region _ ops _=>o9 ops.toList
 | .seq a b=>writes a++writes b
 | .cond _ a b=>writes a++writes b
 | .block _ b=>writes b
 | .loop b=>writes b
 | .scope b=>writes b
 | .rangeFunc _ ps a b=>ps.toList++writes a++writes b
 | _=>[]
def Bv:List (Nat×Sh)->List Nat->Bool
 | [],_=>true
 | x::r,ws=>bif tj x.1 ws then Bv r ws else false
namespace M
def join{α:Type}(J:α -> H->Prop)(B:(α -> H->Prop)->Prop):Prop:=B J
def iter{α:Type}(step:(α -> H->Prop)->α -> H->Prop):Nat->α -> H->Prop
 | 0=>λ_ _=>False
 | n+1=>step (iter step n)
def loop{α:Type}(step:(α -> H->Prop)->α -> H->Prop)(d:α)(h:H):Prop:=∃n,iter step n d h
def still(h:H)(a:Addr)(n:Nat)(h':H)(K:Prop):Prop:=(∀i,i<n->h'.cell (a.add i)=h.cell (a.add i))∧K
end M
def vV(sl:List (Nat×Sh))(ws:List Nat)(t:Tm)(KK:Tm->H->Prop)(B:(Tm->H->Prop)->Prop):Prop:=
 bif Bv sl ws then
  M.join (α:=AJ sl) (λd h=>KK (u9 (t.mask ws) sl d) h) λJ=>B λt' h'=>match uC t' sl with|some d=>J d h'|none=>False
 else False
/-! ### Regions -/
inductive Sn where
 | run|skip|ask (d:Nat) (b want:Bool)|bad
def guardOf(ops:Array Oper)(o:Oper)(t:Tm):Sn:=
 match o.guard with
 | none=>.run
 | some (j,want)=>match (ops.toList[j]?).bind (·.dst)with
  | some d=>(match t d with|some (.bool b)=>.ask d b want|some (.tuple _)=>.skip|_=>.bad)
  | none=>.skip
def qA(n:Nat)(o:Oper)(t:Tm)(K:Tm->H->Prop)(v:Option Value)(h:H):Prop:=
 match o.dst with
 | none=>K t h
 | some d=>bif Nat.blt d n then K (t.put (some d) v) h else False
def sF(P:Program)(env:Env)(n:Nat)(ops:Array Oper)(o:Oper)(t:Tm)(K:Tm->H->Prop)(h:H):Prop:=
 match guardOf ops o t with
 | .run=>tR P env o.op o.type t (qA n o t K) h
 | .skip=>qA n o t K (some undef) h
 | .ask d b want=>
  bif b then
   (bif want then tR P env o.op o.type (t.put (some d) (some (.bool true))) (qA n o (t.put (some d) (some (.bool true))) K) h
    else qA n o (t.put (some d) (some (.bool true))) K (some undef) h)
  else
   (bif want then qA n o (t.put (some d) (some (.bool false))) K (some undef) h
    else tR P env o.op o.type (t.put (some d) (some (.bool false))) (qA n o (t.put (some d) (some (.bool false))) K) h)
 | .bad=>False
def yS(P:Program)(env:Env)(n:Nat)(ops:Array Oper):List Oper->Tm->(Tm->H->Prop)->H->Prop
 | [],t,K,h=>K t h
 | o::r,t,K,h=>sF P env n ops o t (λt' h'=>yS P env n ops r t' K h') h
def ug(P:Program):Op->Bool
 | .move _ | .assign _ | .pick .. | .nilCheck _ | .unOp .. | .fieldAddr .. | .field .. | .indexAddr .. | .index .. | .slice .. | .extract .. | .makeInterface .. | .makeFunc .. | .build .. | .load .. | .sliceToArrayPointer .. => true
 | .binOp op ty _ _ _=>!xz P op ty
 | .call { callee:=.builtin .len,argTypes,.. }=>match argTypes.toList with | [ty]=>(match P.underlying ty with|some (.map _ _)=>false|_=>true)|_=>false
 | .call { callee:=.builtin .min,.. } | .call { callee:=.builtin .max,.. }=>true
 | _=>false
def bitsOf(acc:List Nat):List Edge->Nat->Nat
 | [],s=>s
 | e::r,s=>bitsOf acc r (bif Region.binds .any e then Nat.lor (Nat.lor s (Nat.shiftLeft 1 e.on)) (acc.getD e.on 0)else s)
def FK:List Oper->List Nat->List Nat
 | [],acc=>acc
 | o::r,acc=>FK r (acc++[bitsOf acc o.after.toList 0])
structure tI where
 op:Nat
 mem:H
 addr:Addr
 cells:Nat
def qw(bs:List Nat)(j:Nat)(h':H)(K:Prop):List tI->Prop
 | []=>K
 | x::r=>bif Nat.testBit (bs.getD j 0) x.op then qw bs j h' K r else M.still x.mem x.addr x.cells h' (qw bs j h' K r)
def HB(P:Program)(i:Nat)(o:Oper)(t:Tm)(h:H)(L:List tI):List tI:=
 match o.op with
 | .load ty x=>(match t.get x with|some (.pointer (some a))=>⟨i,h,a,P.cellsOf ty⟩::L|_=>L)
 | _=>L
def LW:List Prop->Prop
 | []=>True
 | [p]=>p
 | p::q::r=>p∧LW (q::r)
def vz(P:Program)(env:Env)(n:Nat)(ops:Array Oper)(bs:List Nat):Nat->Array Bool->List tI->Tm->(Tm->H->Prop)->H->Prop
 | 0,listed,_,t,K,h=>match Region.ready .any ops listed with | []=>K t h|_=>False
 | f+1,listed,L,t,K,h=>
  match Region.ready .any ops listed with
  | []=>K t h
  | j::js=>
   match (j::js).find? λi=>(match ops.toList[i]? with|some o=>ug P o.op && Region.free .any ops listed i|none=>false)with
   | some i=>(match ops.toList[i]? with
    | some o=>sF P env n ops o t (λt' h'=>vz P env n ops bs f (listed.setIfInBounds i true) (HB P i o t h L) t' K h') h
    | none=>False)
   | none=>LW ((j::js).map λi=>match ops.toList[i]? with
    | some o=>sF P env n ops o t (λt' h'=>qw bs i h' (vz P env n ops bs f (listed.setIfInBounds i true) L t' K h') L) h
    | none=>False)
def Bj(P:Program)(env:Env)(n:Nat)(ops:Array Oper)(draw:Bool)(t:Tm)(K:Tm->H->Prop)(h:H):Prop:=
 bif draw then(bif Region.noSelect ops then vz P env n ops (FK ops.toList []) ops.size (Array.replicate ops.size false) [] t K h else False)
 else yS P env n ops ops.toList t K h
/-! ### Code -/
structure jy where
 SQ:Nat->Option (List (Nat×Sh))
 seq:Nat->Option (List (Nat×Sh))
 loop:Nat->Option (List (Nat×Sh))
def ah{α:Type}:List (Nat×α)->Nat->Option α
 | [],_=>none
 | x::r,i=>bif Nat.beq x.1 i then some x.2 else ah r i
def xW(P:Program)(env:Env)(n:Nat)(ann:jy):Code->Nat->(Exit->Tm->H->Prop)->Tm->H->Prop
 | .skip,_,K,t,h=>K .normal t h
 | .label _,_,K,t,h=>K .normal t h
 | .region id ops draw,_,K,t,h=>
  match ann.SQ id with
  | none=>Bj P env n ops draw t (λt' h'=>K .normal t' h') h
  | some sl=>vV sl (o9 ops.toList) t (λt' h'=>K .normal t' h') λK'=>Bj P env n ops draw t K' h
 | .seq a b,p,K,t,h=>
  match ann.seq p with
  | none=>xW P env n ann a (2*p) (λe t' h'=>match e with | .normal=>xW P env n ann b (2*p+1) K t' h'|e=>K e t' h') t h
  | some sl=>vV sl (writes a) t (λt' h'=>xW P env n ann b (2*p+1) K t' h') λK'=>
    xW P env n ann a (2*p) (λe t' h'=>match e with | .normal=>K' t' h'|e=>K e t' h') t h
 | .cond c a b,p,K,t,h=>
  match t.get c with
  | some (.bool v)=>bif v then xW P env n ann a (2*p) K t h else xW P env n ann b (2*p+1) K t h
  | _=>False
 | .block id b,p,K,t,h=>
  xW P env n ann b (2*p) (λe t' h'=>match e with | .exit i=>(bif Nat.beq i id then K .normal t' h' else K (.exit i) t' h')|e=>K e t' h') t h
 | .loop b,p,K,t,h=>
  match ann.loop p with
  | some sl=>
   bif Bv sl (writes b)then
    match uC t sl with
    | some d0=>M.loop (α:=AJ sl) (λJ d h=>xW P env n ann b (2*p) (λe t' h'=>match e with
      | .normal=>(match uC t' sl with|some d'=>J d' h'|none=>False)
      | e=>K e t' h') (u9 (t.mask (writes b)) sl d) h) d0 h
    | none=>False
   else False
  | none=>False
 | .scope b,p,K,t,h=>xW P env n ann b (2*p) (λe t' h'=>match e with | .goto _=>False|e=>K e t' h') t h
 | .exit i,_,K,t,h=>K (.exit i) t h
 | .ret,_,K,t,h=>K .ret t h
 | _,_,_,_,_=>False
/-! ### A function -/
def kR(P:Program)(t:Tm)(h:H):List ResultVar->List Value->(List Value->Prop)->Prop
 | [],acc,K=>K acc.reverse
 | .tmp i::r,acc,K=>match t i with|some v=>kR P t h r (v::acc) K|none=>False
 | .cell a ty::r,acc,K=>match t a with
  | some (.pointer (some p))=>vL P ty p (λv=>kR P t h r (v::acc) K) h
  | _=>False
def oneOf:List Value->Value
 | [v]=>v
 | vs=>.tuple vs.toArray
def CK(P:Program)(fn:Func)(Q:Value->H->Prop):Exit->Tm->H->Prop
 | .normal,t,h | .ret,t,h=>kR P t h fn.results.toList [] λvs=>Q (oneOf vs) h
 | _,_,_=>False
def SD(args:List Value):Tm:=λi=>args[i]?
def fT(P:Program)(env:Env)(fn:Func)(ann:jy)(args:List Value)(Q:Value->H->Prop)(h:H):Prop:=
 match fn.body with
 | some c=>bif Nat.ble args.length fn.ntmps then xW P env fn.ntmps ann c 1 (CK P fn Q) (SD args) h else False
 | none=>False
def ay:List (Nat×W)->Env
 | []=>λ_ _ _ _=>False
 | x::r=>λf=>bif Nat.beq x.1 f then x.2 else ay r f
end Go.Sh
namespace Go.Sh
open Go.RowKit
section
variable {P:Program}
theorem info_of_underlying{t:TypeId}{d:TypeDesc}(h:P.underlying t=some d):∃i,P.info? t=some i:=by
 unfold Program.underlying at h;cases hi:P.info? t with
 | none=>simp[hi]at h
 | some i=>exact⟨i,rfl⟩
theorem zz{t:TypeId}{d:TypeDesc}(h:P.underlying t=some d)(w:World):(sizeOf t).run P w = .ok (P.cellsOf t) w:=by
 obtain⟨i,hi⟩:=info_of_underlying h;simp[sizeOf,typeInfo,hi,Program.cellsOf]
theorem kY{t:TypeId}{i:TypeInfo}(hi:P.info? t=some i)(w:World):(sizeOf t).run P w = .ok i.size w:=by
 simp[sizeOf,typeInfo,hi]
/-! ### What reads alone -/
theorem run_loadCells{w:World}{a:Addr}:∀(cs:List Value) (i:Nat) (acc:Array Value),(∀j,j<cs.length->w.cell? (a.add (i+j))=cs[j]?) ->
  (loadCellsFrom a i cs.length acc).run P w = .ok (acc++cs.toArray) w
 | [],i,acc,_=>by simp[loadCellsFrom]
 | v::r,i,acc,hc=>by
  have h0:=hc 0 (by simp);simp only[Nat.add_zero,List.getElem?_cons_zero]at h0
  have hr:=run_loadCells (w:=w) (a:=a) r (i+1) (acc.push v) (λj hj=>by
   have:=hc (j+1) (by simpa using hj)
   rw[show i+1+j=i+(j+1) by omega];simpa using this)
  simp only[List.length_cons,loadCellsFrom,Sem.run_bind];have hl:(load (a.add i)).run P w = .ok v w:=by simp[load,Sem.run,h0]
  rw[hl];simp only[Result.andThen_ok,hr];simp
theorem A2{ty:TypeId}{a:Addr}{K:Value->Prop}{m:H}(h:vL P ty a K m):
  ∃v,K v∧∀w,(∀i,i<P.cellsOf ty->(hp w).cell (a.add i)=m.cell (a.add i))->(loadVar ty a).run P w = .ok v w:=by
 unfold vL at h;split at h
 ·rename_i s hs;obtain⟨d,hd,hn⟩:=E7 hs;cases hb:Nat.beq (P.cellsOf ty) 1 with
  | false=>simp[hb]at h
  | true=>
  simp only[hb,cond_true]at h;obtain⟨v,hv,hk⟩:=h;have h1:P.cellsOf ty=1:=Nat.eq_of_beq_eq_true hb;refine⟨v,qR hk,λw hw=>?_⟩;have ha:(isAgg ty).run P w = .ok false w:=by
   unfold isAgg;rw[Sem.run_bind,run_underlying hd,Result.andThen_ok];split<;>simp_all
  have hl:(load a).run P w = .ok v w:=by
   have:=hw 0 (by omega);rw[Addr.add_zero',hv,←xV]at this;simp[load,Sem.run,this]
  unfold loadVar;rw[Sem.run_bind,ha,Result.andThen_ok];simpa using hl
 ·rename_i hs;split at h
  ·rename_i i hi;have hsz:P.cellsOf ty=i.size:=by simp[Program.cellsOf,hi]
   have key:∀cs:List Value,cs.length=i.size->rowAt m a cs->∀w,(∀j,j<P.cellsOf ty->(hp w).cell (a.add j)=m.cell (a.add j))->(loadVar ty a).run P w = .ok (.agg cs.toArray) w:=by
    intro cs hl hr w hw;have ha:(isAgg ty).run P w = .ok true w:=by
     unfold isAgg;rw[Sem.run_bind];rcases Bg hs with ⟨fs,hu⟩|⟨n,e,hu⟩ <;>rw[run_underlying hu] <;>rfl
    have hc:=run_loadCells (P:=P) (w:=w) (a:=a) cs 0 #[] (λj hj=>by
     rw[Nat.zero_add,xV,hw j (by omega)];exact hr j hj)
    unfold loadVar;rw[Sem.run_bind,ha,Result.andThen_ok];simp only[if_true,Sem.run_bind,kY hi,Result.andThen_ok,loadCells,←hl,hc];simp
   cases hb:Nat.ble i.size qy with
   | true=>
    simp only[hb,cond_true]at h;split at h
    ·rename_i l hl;cases hb2:Nat.beq l.length i.size with
     | true=>
      simp only[hb2,cond_true]at h;obtain⟨cs,hcl,hcc,hk⟩:=yY l 0 [] h;simp only[List.reverse_nil,List.nil_append]at hk;refine⟨_,hk,key cs (by rw[hcl];exact Nat.eq_of_beq_eq_true hb2) (λj hj=>by have:=hcc j hj;rwa [Nat.zero_add]at this)⟩
     | false=>simp[hb2]at h
    ·exact h.elim
   | false=>
    simp only[hb,cond_false]at h;obtain⟨cs,hl,hr,hk⟩:=h;exact⟨_,hk,key cs hl hr⟩
  ·exact h.elim
 ·exact h.elim
/-! ### One operation that writes nothing and makes nothing -/
def Sub(t:Tm)(a:Act):Prop:=∀i v,t i=some v->a.tmps[i]? = some v
theorem Sub.get{t:Tm}{a:Act}(hs:Sub t a){x:Operand}{v:Value}(h:t.get x=some v):a.eval x=v:=by
 cases x with
 | tmp i=>simp only[Tm.get]at h;simp[Act.eval,hs i v h]
 | const c=>simpa [Tm.get,Act.eval] using h
 | global g=>simpa [Tm.get,Act.eval] using h
 | func f=>simpa [Tm.get,Act.eval] using h
theorem Sub.all{t:Tm}{a:Act}(hs:Sub t a):∀{xs:List Operand} {vs:List Value},t.all xs=some vs->xs.map a.eval=vs
 | [],vs,h=>by simp[Tm.all]at h;simp[h]
 | x::r,vs,h=>by
  simp only[Tm.all]at h;split at h
  ·rename_i v hv;split at h
   ·rename_i l hl;simp only[Option.some.injEq]at h;subst h;simp[hs.get hv,hs.all hl]
   ·simp at h
  ·simp at h
theorem Sub.val{t:Tm}{a:Act}(hs:Sub t a){x:Operand}{v:Value}(h:t.get x=some v):t.val x=a.eval x:=by
 rw[hs.get h];simp[Tm.val,h]
theorem Tm.xw{t:Tm}:∀{xs:List Operand} {vs:List Value},t.all xs=some vs->∀x∈xs,∃v,t.get x=some v
 | [],_,_,x,hx=>by simp at hx
 | y::r,vs,h,x,hx=>by
  simp only[Tm.all]at h;split at h
  ·rename_i v hv;split at h
   ·rename_i l hl;rcases List.mem_cons.1 hx with rfl|hx
    ·exact⟨v,hv⟩
    ·exact Tm.xw hl x hx
   ·simp at h
  ·simp at h
theorem Nk{k k':IntKind}(h:Md k k'=true):k=k':=of_decide_eq_true h
theorem Lh{op:BinOp}{k k':IntKind}{a b:Int}{K:Value->Prop}(ty:TypeId)(x y:Operand)(h:CS op k a k' b K):
  ∃v,K v∧∀w,(do eqGuard op ty x y (.int k a) (.int k' b);binOp op ty (.int k a) (.int k' b):Sem Value).run P w = .ok v w:=by
 unfold CS at h;have hg:eqGuard op ty x y (.int k a) (.int k' b)=pure ():=by cases op<;>rfl
 rw[hg];split at h
 ·obtain⟨h0,hk⟩:=h;exact⟨_,hk,λw=>by simp[binOp,Op.shift,show ¬b<0 by omega,shl]⟩
 ·obtain⟨h0,hk⟩:=h;exact⟨_,hk,λw=>by simp[binOp,Op.shift,show ¬b<0 by omega,shr]⟩
 ·rename_i h1 h2;cases hkk:Md k k' with
  | false=>simp[hkk]at h
  | true=>
   have:=Nk hkk;subst this;simp only[hkk,cond_true]at h;split at h<;>first
    | exact h.elim
    | exact⟨_,h,λw=>by simp[binOp,Op.intArith,Op.intCmp,Op.intBits,lS,ye,mZ,IE]⟩
    | exact⟨_,h.2,λw=>by have h0:=h.1;simp[binOp,Op.intDiv,h0]⟩
theorem JA{op:BinOp}{a b:ByteArray}{K:Value->Prop}(ty:TypeId)(x y:Operand)(h:C2 op a b K):
  ∃v,K v∧∀w,(do eqGuard op ty x y (.string a) (.string b);binOp op ty (.string a) (.string b):Sem Value).run P w = .ok v w:=by
 unfold C2 at h;have hg:eqGuard op ty x y (.string a) (.string b)=pure ():=by cases op<;>rfl
 rw[hg];split at h<;>first
  | exact h.elim
  | exact⟨_,h,λw=>by simp[binOp,Op.stringOp,mX,strLt]⟩
  | exact⟨_,h.2,λw=>by
    have h0:=Int.not_lt.2 h.1;show(Op.stringOp .add a b).run P w=_;simp only[Op.stringOp]
    rw[if_neg h0];rfl⟩
theorem Gj{d:Option TypeDesc}{y:Operand}{a b:Value}{K:Bool->Prop}{ty:TypeId}(hu:P.underlying ty=d)(h:DV d y a b K)(hy:∀v,y = .const v->b=v):
  ∃c,K c∧(∀op x,eqGuard op ty x y a b=pure ())∧∀w,(Op.equal ty a b).run P w = .ok c w:=by
 unfold DV at h;split at h
 ·split at h
  ·exact⟨_,h,λop x=>by cases op<;>rfl,λw=>by rw[show Op.equal ty _ _ = Op.equalIn (9999+1) ty _ _ from rfl,Op.equalIn,Sem.run_bind,run_underlying hu,Result.andThen_ok];rfl⟩
  ·exact h.elim
 ·split at h
  ·split at h
   ·rename_i p;have hb:=hy _ rfl;subst hb;refine⟨_,h,λop x=>by cases op<;>rfl,λw=>?_⟩;rw[show Op.equal ty _ _ = Op.equalIn (9999+1) ty _ _ from rfl,Op.equalIn,Sem.run_bind,run_underlying hu,Result.andThen_ok];cases p<;>rfl
   ·exact h.elim
  ·exact h.elim
 ·split at h
  ·split at h
   ·rename_i p _ _;have hb:=hy _ rfl;subst hb;refine⟨_,h,λop x=>by cases op<;>rfl,λw=>?_⟩;rw[show Op.equal ty _ _ = Op.equalIn (9999+1) ty _ _ from rfl,Op.equalIn,Sem.run_bind,run_underlying hu,Result.andThen_ok];cases p<;>rfl
   ·exact h.elim
  ·exact h.elim
 ·split at h
  ·split at h
   ·rename_i p;have hb:=hy _ rfl;subst hb;refine⟨_,h,λop x=>by cases op<;>rfl,λw=>?_⟩;rw[show Op.equal ty _ _ = Op.equalIn (9999+1) ty _ _ from rfl,Op.equalIn,Sem.run_bind,run_underlying hu,Result.andThen_ok];cases p<;>rfl
   ·exact h.elim
  ·exact h.elim
 ·exact h.elim
theorem zQ{ty:TypeId}{a b:Value}(hi:∀k m,a ≠ .int k m)(hs:∀s,a ≠ .string s)(hf:∀k m,a ≠ .float k m)(hc:∀k m n,a ≠ .complex k m n):binOp .eql ty a b=(do pure (.bool (←Op.equal ty a b))):=by
 unfold binOp;split<;>simp_all
theorem zR{ty:TypeId}{a b:Value}(hi:∀k m,a ≠ .int k m)(hs:∀s,a ≠ .string s)(hf:∀k m,a ≠ .float k m)(hc:∀k m n,a ≠ .complex k m n):binOp .neq ty a b=(do pure (.bool (!(←Op.equal ty a b)))):=by
 unfold binOp;split<;>simp_all
theorem CR{d:Option TypeDesc}{y:Operand}{a b:Value}{K:Bool->Prop}(h:DV d y a b K):(∀k m,a ≠ .int k m)∧(∀s,a ≠ .string s)∧(∀k m,a ≠ .float k m)∧(∀k m n,a ≠ .complex k m n):=by
 unfold DV at h
 repeat' split at h
 all_goals first|exact h.elim|simp
theorem Kf{op:BinOp}{ty:TypeId}{y:Operand}{a b:Value}{K:Value->Prop}(x:Operand)(h:Cs P op ty y a b K)(hy:∀v,y = .const v->b=v):
  ∃v,K v∧∀w,(do eqGuard op ty x y a b;binOp op ty a b:Sem Value).run P w = .ok v w:=by
 unfold Cs at h;split at h
 ·split at h
  ·exact Lh ty x y h
  ·exact h.elim
 ·split at h
  ·exact JA ty x y h
  ·exact h.elim
 ·split at h
  ·obtain⟨c,hk,hg,hr⟩:=Gj (P:=P) (ty:=ty) rfl h hy;obtain⟨h1,h2,h3,h4⟩:=CR h;refine⟨_,hk,λw=>?_⟩;rw[hg,zQ h1 h2 h3 h4];simp[hr w]
  ·obtain⟨c,hk,hg,hr⟩:=Gj (P:=P) (ty:=ty) rfl h hy;obtain⟨h1,h2,h3,h4⟩:=CR h;refine⟨_,hk,λw=>?_⟩;rw[hg,zR h1 h2 h3 h4];simp[hr w]
  ·exact h.elim
theorem Ci{t:TypeId}{s:Sh}(hs:tu (P.underlying t) = .one s)(w:World):(isAgg t).run P w = .ok false w:=by
 obtain⟨d,hd,hn⟩:=E7 hs;unfold isAgg;rw[Sem.run_bind,run_underlying hd,Result.andThen_ok];split<;>simp_all
theorem B9{t:TypeId}(hs:tu (P.underlying t) = .agg)(w:World):(isAgg t).run P w = .ok true w:=by
 unfold isAgg;rw[Sem.run_bind];rcases Bg hs with ⟨fs,hu⟩|⟨n,e,hu⟩ <;>rw[run_underlying hu] <;>rfl
theorem ow{t:TypeId}{l:LK}(hs:tu (P.underlying t)=l)(hb:l ≠ .bad):∃d,P.underlying t=some d:=by
 cases h:P.underlying t with
 | none=>simp[h,tu]at hs;exact absurd hs.symm hb
 | some d=>exact⟨d,rfl⟩
theorem wZ{t:TypeId}{s:Sh}(hs:tu (P.underlying t) = .one s){cs:Array Value}{off:Nat}{v:Value}(hv:cs[off]? = some v)(w:World):
  (part t cs off).run P w = .ok v w:=by
 unfold part;rw[Sem.run_bind,Ci hs,Result.andThen_ok];simp[hv]
theorem si{t:TypeId}(hs:tu (P.underlying t) = .agg){cs:Array Value}{off:Nat}(w:World):
  (part t cs off).run P w = .ok (.agg (cs.extract off (off+P.cellsOf t))) w:=by
 obtain⟨d,hd⟩:=ow hs (by simp);unfold part;rw[Sem.run_bind,B9 hs,Result.andThen_ok];simp[zz hd]
theorem zf{cs:Array Value}{K:List Value->Prop}:∀(l:List Sh) (i:Nat) (acc:List Value),xR cs i l acc K ->
  ∃vs,vs.length=l.length∧(∀j,j<vs.length->cs[i+j]? = vs[j]?)∧K (acc.reverse++vs)
 | [],i,acc,hh=>⟨[],rfl,λj hj=>by simp at hj,by rw[List.append_nil];exact hh⟩
 | s::r,i,acc,hh=>by
  obtain⟨v,hv,hh⟩:=hh;obtain⟨vs,hl,hc,hk⟩:=zf r (i+1) (v::acc) (qR hh);refine⟨v::vs,by simp[hl],λj hj=>?_,by simpa using hk⟩;cases j with
  | zero=>simpa using hv
  | succ j=>have:=hc j (by simpa using hj);rw[show i+(j+1)=i+1+j by omega];simpa using this
theorem extract_eq{cs:Array Value}{i n:Nat}{vs:List Value}(hl:vs.length=n)(hc:∀j,j<vs.length->cs[i+j]? = vs[j]?):cs.extract i (i+n)=vs.toArray:=by
 apply Array.ext_getElem?;intro j;rw[Array.getElem?_extract];by_cases hj:j<n
 ·have h1:=hc j (by omega);have h2:i+j<cs.size:=by
   rcases Nat.lt_or_ge (i+j) cs.size with h|h
   ·exact h
   ·rw[Array.getElem?_eq_none h,List.getElem?_eq_getElem (by omega)]at h1;simp at h1
  rw[if_pos (by omega),h1];simp
 ·rw[if_neg (by omega),Array.getElem?_eq_none (by simpa using by omega)]
theorem DX{small:Bool}{t:TypeId}{cs:Array Value}{off:Nat}{K:Value->Prop}(h:r6 P small t cs off K):∃d,P.underlying t=some d:=by
 unfold r6 at h;split at h
 ·rename_i s hs;exact ow hs (by simp)
 ·rename_i hs;exact ow hs (by simp)
 ·exact h.elim
theorem Br{small:Bool}{t:TypeId}{cs:Array Value}{off:Nat}{K:Value->Prop}(h:r6 P small t cs off K):∃v,K v∧∀w,(part t cs off).run P w = .ok v w:=by
 unfold r6 at h;split at h
 ·rename_i s hs;cases small with
  | true=>
   simp only[cond_true]at h;split at h
   ·rename_i v hv;exact⟨v,h,λw=>wZ hs (by simpa using hv) w⟩
   ·exact h.elim
  | false=>
   simp only[cond_false]at h;obtain⟨v,hv,hk⟩:=h;exact⟨v,qR hk,λw=>wZ hs hv w⟩
 ·rename_i hs;cases small with
  | true=>
   simp only[cond_true]at h;refine⟨_,h,λw=>?_⟩;rw[si hs];congr 2;rw[←Array.toList_inj];simp[List.extract_eq_take_drop]
  | false=>
   simp only[cond_false]at h;cases hb:Nat.ble (P.cellsOf t) qy with
   | true=>
    simp only[hb,cond_true]at h;split at h
    ·rename_i l hl;cases hb2:Nat.beq l.length (P.cellsOf t)with
     | true=>
      simp only[hb2,cond_true]at h;obtain⟨vs,h1,h2,hk⟩:=zf l off [] h;refine⟨_,hk,λw=>?_⟩;rw[si hs,extract_eq (vs:=vs) (by rw[h1];exact Nat.eq_of_beq_eq_true hb2) h2];rfl
     | false=>simp[hb2]at h
    ·exact h.elim
   | false=>
    simp only[hb,cond_false]at h;exact⟨_,h,λw=>si hs w⟩
 ·exact h.elim
theorem Fa{t:TypeId}{x:Value}{f:Nat}{K:Value->Prop}(h:uF P t x f K):∃v,K v∧∀w,(Instr.field t x f).run P w = .ok v w:=by
 unfold uF at h;split at h
 ·rename_i fs hu;split at h
  ·rename_i fd cs hf;obtain⟨v,hk,hr⟩:=Br h;exact⟨v,hk,λw=>by unfold Instr.field;simp[run_underlying hu,hf,asAgg,hr]⟩
  ·exact h.elim
 ·exact h.elim
theorem zK{t:TypeId}{x:Value}{f:Nat}{K:Value->Prop}(h:nM P t x f K):∃v,K v∧∀w,(Instr.fieldAt t x f).run P w = .ok v w:=by
 unfold nM at h;split at h
 ·rename_i fs hu;split at h
  ·rename_i fd hf;cases hb:Nat.beq (P.cellsOf fd.type) 0 with
   | true=>simp[hb]at h
   | false=>
    simp only[hb,cond_false]at h;have h0:P.cellsOf fd.type≠0:=Nat.ne_of_beq_eq_false hb;have hi:∃i,P.info? fd.type=some i:=by
     cases hi:P.info? fd.type with
     | none=>simp[Program.cellsOf,hi]at h0
     | some i=>exact⟨i,rfl⟩
    obtain⟨i,hi⟩:=hi;have hi0:i.size≠0:=by simpa [Program.cellsOf,hi] using h0
    split at h
    ·rename_i a;exact⟨_,h,λw=>by unfold Instr.fieldAt;simp[run_underlying hu,hf,Instr.sureAddr,fieldPlace,kY hi,hi0]⟩
    ·exact h.elim
  ·exact h.elim
 ·exact h.elim
theorem zT{t:TypeId}{x i:Value}{K:Value->Prop}(h:nJ P t x i K):∃v,K v∧∀w,(Instr.indexAt t x i).run P w = .ok v w:=by
 unfold nJ at h;split at h
 ·rename_i k i;split at h
  ·rename_i e hu;split at h
   ·rename_i a n c d hd;obtain⟨b,rfl,h0,h1,hk⟩:=h;exact⟨_,hk,λw=>by unfold Instr.indexAt;simp[run_underlying hu,asIntOf,h0,h1,kY hd]⟩
   ·exact h.elim
  ·rename_i n e hu;split at h
   ·rename_i a d hd;obtain⟨h0,h1,hk⟩:=h;exact⟨_,hk,λw=>by unfold Instr.indexAt;simp[run_underlying hu,asIntOf,Instr.sureAddr,h0,h1,kY hd]⟩
   ·exact h.elim
  ·exact h.elim
 ·exact h.elim
theorem FP{t:TypeId}{x i:Value}{K:Value->Prop}(h:uP P t x i K):∃v,K v∧∀w,(Instr.index t x i).run P w = .ok v w:=by
 unfold uP at h;split at h
 ·rename_i k i;split at h
  ·rename_i hu;split at h
   ·rename_i s;obtain⟨h0,h1,hk⟩:=h;refine⟨_,hk,λw=>?_⟩;have hlt:i.toNat<s.size:=by omega
    have hg:s[i.toNat]? = some s[i.toNat]:=by simp[hlt]
    have hb:aF s i.toNat=(s[i.toNat].toNat:Int):=by
     unfold aF;have:s.data.toList.getD i.toNat 0=s[i.toNat]:=by
      rw[List.getD_eq_getElem?_getD,List.getElem?_eq_getElem (by simpa using hlt)];rfl
     rw[this]
    unfold Instr.index;simp[run_underlying hu,asIntOf,h0,hg,hb]
   ·exact h.elim
  ·rename_i n e hu;split at h
   ·rename_i cs;obtain⟨h0,h1,hp⟩:=h;obtain⟨d,hd⟩:=DX hp;obtain⟨v,hk,hr⟩:=Br hp;exact⟨v,hk,λw=>by unfold Instr.index;simp[run_underlying hu,asIntOf,h0,h1,zz hd,hr]⟩
   ·exact h.elim
  ·exact h.elim
 ·exact h.elim
theorem A4{d l:Int}{v:Option Value}(h:vg d v=some l):(v=none∧l=d)∨∃k,v=some (.int k l):=by
 unfold vg at h;split at h
 ·simp only[Option.some.injEq]at h;exact .inl ⟨rfl,h.symm⟩
 ·simp only[Option.some.injEq]at h;subst h;exact .inr ⟨_,rfl⟩
 ·simp at h
theorem pz{isSlice:Bool}{len cap:Nat}{lo hi:Option Value}{l u:Int}(hl:vg 0 lo=some l)(hu:vg len hi=some u)(h0:0≤l)(h1:l≤u)(h2:u≤cap)(w:World):
  (Instr.sliceBounds isSlice len cap lo hi none).run P w = .ok (l.toNat,u.toNat,cap) w:=by
 unfold Instr.sliceBounds;have hc:(0:Int)≤u:=by omega
 have e:((u.toNat:Nat):Int)=u:=Int.toNat_of_nonneg hc;rcases A4 hl with ⟨rfl,rfl⟩|⟨k,rfl⟩ <;>rcases A4 hu with ⟨rfl,rfl⟩|⟨k',rfl⟩
 ·simp
 ·simp[Instr.sliceBound,asIntOf,hc,h2]
 ·simp[Instr.sliceBound,asIntOf,h0,h1]
 ·simp[Instr.sliceBound,asIntOf,hc,h2,h0,e,h1]
theorem FI{t:TypeId}{x:Value}{lo hi:Option Value}{K:Value->Prop}(h:uQ P t x lo hi K):∃v,K v∧∀w,(Instr.sliceAt t x lo hi none).run P w = .ok v w:=by
 unfold uQ at h;split at h
 ·rename_i hu;split at h
  ·rename_i s;split at h
   ·rename_i l u hl hh;obtain⟨h0,h1,h2,hk⟩:=h;exact⟨_,hk,λw=>by unfold Instr.sliceAt Instr.slice;simp[run_underlying hu,pz hl hh h0 h1 h2]⟩
   ·exact h.elim
  ·exact h.elim
 ·rename_i e hu;split at h
  ·rename_i a n c i hi;split at h
   ·rename_i l u hl hh;obtain⟨h0,h1,h2,hk⟩:=h;exact⟨_,hk,λw=>by unfold Instr.sliceAt Instr.slice;simp[run_underlying hu,pz hl hh h0 h1 h2,kY hi,mh]⟩
   ·exact h.elim
  ·exact h.elim
 ·rename_i n e hu;split at h
  ·rename_i a i hi;split at h
   ·rename_i l u hl hh;obtain⟨h0,h1,h2,hk⟩:=h;refine⟨_,hk,λw=>?_⟩;unfold Instr.sliceAt;simp only[Sem.run_bind,run_underlying hu,Result.andThen_ok,Instr.sureAddr,Sem.run_pure,pz hl hh h0 h1 h2,kY hi,mh];split<;>simp_all
   ·exact h.elim
  ·exact h.elim
 ·exact h.elim
theorem Ei{t:TypeId}{x lo hi m:Value}{K:Value->Prop}(h:rT P t x lo hi m K):∃v,K v∧∀w,(Instr.sliceAt t x (some lo) (some hi) (some m)).run P w = .ok v w:=by
 unfold rT at h;split at h
 ·rename_i e hu;split at h
  ·rename_i a n c i k1 l k2 u k3 m hi;obtain⟨h0,h1,h2,h3,hk⟩:=h;refine⟨_,hk,λw=>?_⟩;have e1:((m.toNat:Nat):Int)=m:=Int.toNat_of_nonneg (by omega);have e2:((u.toNat:Nat):Int)=u:=Int.toNat_of_nonneg (by omega);have g0:(0:Int)≤m:=by omega
   have g1:(0:Int)≤u:=by omega
   unfold Instr.sliceAt Instr.slice;simp[run_underlying hu,Instr.sliceBounds,Instr.sliceBound,asIntOf,g0,h3,g1,e1,h2,h0,e2,h1,kY hi,mh]
  ·exact h.elim
 ·exact h.elim
theorem uu{f:Int->Int->Int}{g:Value->Value->Sem Value}(hg:∀k k' x y,g (.int k x) (.int k' y)=pure (.int k (f x y))){k:IntKind}:
  ∀(l:List Value) (x z:Int),xo f k l x=some z->∀w,(l.foldlM g (.int k x)).run P w = .ok (.int k z) w
 | [],x,z,h,w=>by simp[xo]at h;simp[h]
 | v::r,x,z,h,w=>by
  cases v<;>simp only[xo]at h<;>try (simp at h;done)
  rename_i k' y;simp only[List.foldlM_cons,hg,pure_bind];exact uu hg r _ _ h w
theorem JF{args:List Value}{K:Value->Prop}(h:nY mn args K):∃v,K v∧∀ts ty w,(Builtin.min_ ts ty args.toArray).run P w = .ok v w:=by
 unfold nY at h;split at h
 ·rename_i k x r;split at h
  ·rename_i z hz;exact⟨_,h,λts ty w=>by unfold Builtin.min_;simpa using uu (P:=P) (g:=Builtin.min2) (f:=mn) (λk k' x y=>by simp[Builtin.min2,mn]) r x z hz w⟩
  ·exact h.elim
 ·exact h.elim
theorem Ln{args:List Value}{K:Value->Prop}(h:nY mx args K):∃v,K v∧∀ts ty w,(Builtin.max_ ts ty args.toArray).run P w = .ok v w:=by
 unfold nY at h;split at h
 ·rename_i k x r;split at h
  ·rename_i z hz;exact⟨_,h,λts ty w=>by unfold Builtin.max_;simpa using uu (P:=P) (g:=Builtin.max2) (f:=mx) (λk k' x y=>by simp[Builtin.max2,mx]) r x z hz w⟩
  ·exact h.elim
 ·exact h.elim
theorem Li{t:TypeId}{x:Value}{K:Value->H->Prop}{m:H}(hm:∀k e,P.underlying t≠some (.map k e))(h:zB P t x K m):
  ∃v,K v m∧∀ty w,(Builtin.len_ #[t] ty #[x]).run P w = .ok v w:=by
 unfold zB at h;split at h
 ·rename_i hu;split at h
  ·exact⟨_,h,λty w=>by unfold Builtin.len_;simp[run_underlying hu,goInt]⟩
  ·exact h.elim
 ·rename_i e hu;split at h
  ·exact⟨_,h,λty w=>by unfold Builtin.len_;simp[run_underlying hu,goInt]⟩
  ·exact h.elim
 ·rename_i n e hu;exact⟨_,h,λty w=>by unfold Builtin.len_;simp[run_underlying hu,goInt]⟩
 ·rename_i a hu;split at h
  ·rename_i n e hu2;exact⟨_,h,λty w=>by unfold Builtin.len_;simp[run_underlying hu,run_underlying hu2,goInt]⟩
  ·exact h.elim
 ·rename_i k e hu;exact absurd hu (hm k e)
 ·exact h.elim
end
end Go.Sh
namespace Go.Sh
open Go.RowKit
section
variable {P:Program}{env:Env}
def ue(P:Program)(op:Op)(t:Tm)(m:H)(w:World):Prop:=
 match op with
 | .load ty x=>match t.get x with
  | some (.pointer (some a))=>∀i,i<P.cellsOf ty->(hp w).cell (a.add i)=m.cell (a.add i)
  | _=>True
 | _=>True
theorem ue.refl(op:Op)(t:Tm)(w:World):ue P op t (hp w) w:=by
 unfold ue;split
 ·split
  ·exact λ_ _=>rfl
  ·trivial
 ·trivial
theorem nH{s:Sem Value}{v:Value}{w:World}(h:s.run P w = .ok v w):(do pure (Next.value (←s)):Sem Next).run P w = .ok (.value v) w:=by
 simp[h]
set_option maxHeartbeats 1000000 in
theorem AQ{o:Oper}{t:Tm}{a:Act}{K:Option Value->H->Prop}{m:H}(hf:ug P o.op=true)(hs:Sub t a)(h:tR P env o.op o.type t K m):
  ∃kv v,K kv m∧(kv=none∨kv=some v)∧∀w,ue P o.op t m w->(execOp a.eval o).run P w = .ok (.value v) w:=by
 obtain⟨dst,op,ty,pos,after,guard⟩:=o;have plain:∀{s:Sem Value} {v:Value},(∀w,s.run P w = .ok v w)->∀w,ue P op t m w->(do pure (Next.value (←s)):Sem Next).run P w = .ok (.value v) w:=λhr w _=>nH (hr w);simp only at hf h;cases op<;>simp only[ug,Bool.false_eq_true]at hf<;>simp only[tR]at h
 case move x=>
  cases hx:t.get x with
  | none=>rw[hx]at h;exact⟨_,a.eval x,h,.inl rfl,λw _=>by simp[execOp]⟩
  | some v=>rw[hx]at h;exact⟨_,a.eval x,h,.inr (by rw[hs.get hx]),λw _=>by simp[execOp]⟩
 case assign x=>
  cases hx:t.get x with
  | none=>rw[hx]at h;exact⟨_,a.eval x,h,.inl rfl,λw _=>by simp[execOp]⟩
  | some v=>rw[hx]at h;exact⟨_,a.eval x,h,.inr (by rw[hs.get hx]),λw _=>by simp[execOp]⟩
 case pick c x y=>
  split at h
  ·rename_i p hc;have ec:=hs.get hc;cases p
   ·simp only[cond_false]at h;cases hx:t.get y with
    | none=>rw[hx]at h;exact⟨_,a.eval y,h,.inl rfl,λw _=>by simp[execOp,ec,asBool]⟩
    | some v=>rw[hx]at h;exact⟨_,a.eval y,h,.inr (by rw[hs.get hx]),λw _=>by simp[execOp,ec,asBool]⟩
   ·simp only[cond_true]at h;cases hx:t.get x with
    | none=>rw[hx]at h;exact⟨_,a.eval x,h,.inl rfl,λw _=>by simp[execOp,ec,asBool]⟩
    | some v=>rw[hx]at h;exact⟨_,a.eval x,h,.inr (by rw[hs.get hx]),λw _=>by simp[execOp,ec,asBool]⟩
  ·exact h.elim
 case build tb ps=>
  split at h
  ·rename_i vs hvs;split at h
   ·rename_i cs hcs;refine⟨_,_,h,.inr rfl,plain λw=>?_⟩;refine run_build w tb _ cs ?_;rw[←hcs];congr 1;rw[Array.toList_map];refine List.map_congr_left λp hp=>?_;obtain⟨v,hv⟩:=Tm.xw hvs p.2 (List.mem_map.2 ⟨p,hp,rfl⟩);simp[hs.val hv]
   ·exact h.elim
  ·exact h.elim
 case load tl x=>
  split at h
  ·rename_i p hx;obtain⟨v,hk,hr⟩:=A2 h;refine⟨_,v,hk,.inr rfl,λw hw=>?_⟩;have:=hr w (by simpa only [ue,hx] using hw);simp only[execOp];refine nH ?_;unfold Instr.loadAt;rw[hs.get hx];simpa [Instr.sureAddr] using this
  ·exact h.elim
 case nilCheck x=>
  split at h
  ·rename_i p hx;obtain⟨b,rfl,hk⟩:=h;exact⟨_,_,hk,.inr rfl,λw _=>by simp[execOp,hs.get hx]⟩
  ·exact h.elim
 case binOp op tb x y ty2=>
  split at h
  ·rename_i u v hx hy;have hne:xz P op tb=false:=by simpa using hf
   rw[hne,cond_false]at h;obtain⟨r,hk,hr⟩:=Kf x h (λc hc=>by subst hc;simpa [Tm.get] using hy.symm);refine⟨_,r,hk,.inr rfl,λw _=>?_⟩;have:=hr w;simp only[execOp,hs.get hx,hs.get hy];exact nH this
  ·exact h.elim
 case unOp op tb x=>
  split at h
  ·rename_i b hx;exact⟨_,_,h,.inr rfl,λw _=>by simp[execOp,hs.get hx,Op.unary]⟩
  ·rename_i k n hx;exact⟨_,_,h,.inr rfl,λw _=>by simp[execOp,hs.get hx,Op.unary,Op.intArith]⟩
  ·rename_i k n hx;exact⟨_,_,h,.inr rfl,λw _=>by simp[execOp,hs.get hx,Op.unary,Op.intBits,NA,mZ]⟩
  ·exact h.elim
 case makeInterface tb x=>
  split at h
  ·exact h.elim
  ·rename_i v d hn hx hd;refine⟨_,_,h,.inr rfl,plain λw=>?_⟩;simp only[hs.get hx];unfold Instr.makeInterface;rw[Sem.run_bind,run_underlying hd,Result.andThen_ok];split
   ·exact absurd rfl (hn _)
   ·rfl
  ·exact h.elim
 case makeFunc fn first cap=>
  split at h
  ·rename_i u v hu hv;refine⟨_,_,h,.inr rfl,plain λw=>?_⟩;have e1:first.map a.eval=u.toArray:=by rw[←Array.toList_inj];simpa using hs.all hu
   have e2:cap.map a.eval=v.toArray:=by rw[←Array.toList_inj];simpa using hs.all hv
   simp[Instr.makeFunc,e1,e2]
  ·exact h.elim
 case slice ts x lo hi mx=>
  cases mx with
  | some m=>
   cases lo with
   | none=>simp only at h
   | some lo=>
   cases hi with
   | none=>simp only at h
   | some hi=>
    simp only at h;split at h
    ·rename_i v l u m' hx hl hu hm;obtain⟨r,hk,hr⟩:=Ei h;refine⟨_,r,hk,.inr rfl,plain λw=>?_⟩;simp only[Option.map_some];rw[hs.get hx,hs.get hl,hs.get hu,hs.get hm];exact hr w
    ·exact h.elim
  | none=>
   simp only at h;split at h
   ·rename_i v l u hx hl hu;obtain⟨r,hk,hr⟩:=FI h;refine⟨_,r,hk,.inr rfl,plain λw=>?_⟩;have e1:lo.map a.eval=lo.map t.val:=by
     cases lo with
     | none=>rfl
     | some y=>obtain⟨v,hv⟩:=Tm.xw hl y (by simp);simp[hs.val hv]
    have e2:hi.map a.eval=hi.map t.val:=by
     cases hi with
     | none=>rfl
     | some y=>obtain⟨v,hv⟩:=Tm.xw hu y (by simp);simp[hs.val hv]
    rw[hs.get hx,e1,e2];exact hr w
   ·exact h.elim
 case sliceToArrayPointer ty x=>
  split at h
  ·rename_i p n c k e hx hu;obtain⟨hle,b,rfl,hk⟩:=h;refine⟨_,_,hk,.inr rfl,plain λw=>?_⟩;rw[hs.get hx];unfold Instr.arrayAt;simp only[Sem.run_bind,run_underlying hu,Result.andThen_ok];rw[if_neg (by omega)];rfl
  ·exact h.elim
 case fieldAddr tf x f=>
  split at h
  ·rename_i v hx;obtain⟨r,hk,hr⟩:=zK h;exact⟨_,r,hk,.inr rfl,plain λw=>by rw[hs.get hx];exact hr w⟩
  ·exact h.elim
 case field tf x f=>
  split at h
  ·rename_i v hx;obtain⟨r,hk,hr⟩:=Fa h;exact⟨_,r,hk,.inr rfl,plain λw=>by rw[hs.get hx];exact hr w⟩
  ·exact h.elim
 case indexAddr ti x i=>
  split at h
  ·rename_i v j hx hj;obtain⟨r,hk,hr⟩:=zT h;exact⟨_,r,hk,.inr rfl,plain λw=>by rw[hs.get hx,hs.get hj];exact hr w⟩
  ·exact h.elim
 case index ti x i=>
  split at h
  ·rename_i v j hx hj;obtain⟨r,hk,hr⟩:=FP h;exact⟨_,r,hk,.inr rfl,plain λw=>by rw[hs.get hx,hs.get hj];exact hr w⟩
  ·exact h.elim
 case extract x i=>
  split at h
  ·rename_i vs hx;split at h
   ·rename_i v hv;refine⟨_,v,h,.inr rfl,plain λw=>?_⟩;rw[hs.get hx];have:vs[i]? = some v:=by simpa using hv
    simp[Instr.extract,this]
   ·exact h.elim
  ·exact h.elim
 case call c=>
  obtain⟨callee,args,argTypes⟩:=c;split at h
  ·rename_i vs hvs;have ea:args.map a.eval=vs.toArray:=by rw[←Array.toList_inj];simpa using hs.all hvs
   cases callee<;>first|(simp at hf;done)|skip
   rename_i b;cases b<;>first|(simp at hf;done)|(simp only at h)
   case len=>
    split at h
    ·rename_i ty' x hty;have hm:∀k e,P.underlying ty'≠some (.map k e):=by
      intro k e he;simp[hty,he]at hf
     obtain⟨r,hk,hr⟩:=Li hm h;refine⟨_,r,hk,.inr rfl,λw _=>?_⟩;have et:argTypes = #[ty']:=by rw[←Array.toList_inj];simpa using hty
     subst et;simp[execOp,resolve,ea,invoke,builtin,hr]
    ·exact h.elim
   case min=>
    obtain⟨r,hk,hr⟩:=JF (P:=P) h;exact⟨_,r,hk,.inr rfl,λw _=>by simp[execOp,resolve,ea,invoke,builtin,hr]⟩
   case max=>
    obtain⟨r,hk,hr⟩:=Ln (P:=P) h;exact⟨_,r,hk,.inr rfl,λw _=>by simp[execOp,resolve,ea,invoke,builtin,hr]⟩
  ·exact h.elim
/-! ### Every operation -/
def Ra(P:Program)(f:FuncId)(F:W):Prop:=
 ∀args (Q:Value->H->Prop) w,F args Q (hp w) ->
  (∃g args',(callFunc f args).run P w = .ok (.enter g args') w∧Calls P g args' w λe w'=>∃v,e = .returned v∧Q v (hp w')∧jE w w') ∨
  (∃v w',(callFunc f args).run P w = .ok (.value v) w'∧Q v (hp w')∧jE w w')
def vA(P:Program)(env:Env):Prop:=∀f,Ra P f (env f)
def Post(o:Oper)(a:Act)(w:World)(K:Option Value->H->Prop)(a':Act)(w':World):Prop:=
 ∃kv v,K kv (hp w')∧(kv=none∨kv=some v)∧a'=a.put o.dst v∧jE w w'
theorem mB{o:Oper}{a:Act}{w w':World}{K:Option Value->H->Prop}{Q:Exit->Act->World->Prop}{v:Value}
  (hr:(execOp a.eval o).run P w = .ok (.value v) w') (hk:K (some v) (hp w')) (hst:jE w w'):o.wp P a w (Post o a w K) Q:=by
 unfold Oper.wp;rw[hr];exact⟨_,v,hk,.inr rfl,rfl,hst⟩
theorem BN{o:Oper}{a:Act}{w:World}{K:Option Value->H->Prop}{Q:Exit->Act->World->Prop}{f:FuncId}{args:Array Value}{K':Value->H->Prop}
  (he:vA P env) (ho:execOp a.eval o=callFunc f args) (hk:∀v h',K' v h'->K (some v) h') (h:env f args K' (hp w)):o.wp P a w (Post o a w K) Q:=by
 unfold Oper.wp;rw[ho];rcases he f args _ w h with ⟨g,args',hr,hc⟩|⟨v,w',hr,hkk,hst⟩
 ·rw[hr];show Calls P g args' w _;exact hc.mono λe w' ⟨v,hv,hkk,hst⟩=>by subst hv;exact⟨_,v,hk _ _ hkk,.inr rfl,rfl,hst⟩
 ·rw[hr];exact⟨_,v,hk _ _ hkk,.inr rfl,rfl,hst⟩
theorem FV{ty:TypeId}{a:Addr}{v:Value}{K:H->Prop}{w:World}(h:uL P ty a v K (hp w)):
  ∃w',(Instr.storeAt ty (.pointer (some a)) v).run P w = .ok () w'∧K (hp w')∧jE w w':=by
 have key:∀cs:Array Value,v.cells=cs->(∃i,P.info? ty=some i∧cs.size=i.size)->(∀v∈cs.toList,ag v=true) ->
   (∀i,i<cs.toList.length->((hp w).cell (a.add i)).isSome=true∧(hp w).frozen (a.add i)=false)->K ((hp w).sets a 0 cs.toList) ->
   ∃w',(Instr.storeAt ty (.pointer (some a)) v).run P w = .ok () w'∧K (hp w')∧jE w w':=by
  intro cs hcs ⟨i,hi,hsz⟩ hp1 hp2 hk;have:=Dr P (storeCells a cs.toList) (λ_ h=>K h) w (kI cs.toList 0 (hp w) hp1 (λj hj=>by rw[Nat.zero_add];exact hp2 j hj) hk);obtain⟨u,w',hr,hk',hst⟩:=this;refine⟨w',?_,hk',hst⟩;unfold Instr.storeAt storeVar;simp[Instr.sureAddr,hcs,kY hi,hsz,hr]
 unfold uL at h;split at h
 ·rename_i i hi;split at h
  ·rename_i s hs;cases hb:Nat.beq i.size 1 with
   | false=>simp[hb]at h
   | true=>
    simp only[hb,cond_true]at h;obtain⟨h1,h2,h3,hk⟩:=h;have hc:v.cells = #[v]:=by cases v<;>first|(simp[ag]at h1;done)|rfl
    refine key #[v] hc ⟨i,hi,by simpa using(Nat.eq_of_beq_eq_true hb).symm⟩ (by simpa using h1) ?_ (by rw[show(hp w).sets a 0 (#[v]:Array Value).toList=(hp w).set a v from by simp[H.sets,Addr.add_zero']];exact hk);intro j hj;have:j=0:=by simpa using hj
    subst this;simpa using⟨h2,h3⟩
  ·split at h
   ·rename_i cs;obtain⟨hsz,h1,h2,hk⟩:=h;exact key cs rfl ⟨i,hi,hsz⟩ h1 h2 hk
   ·exact h.elim
  ·exact h.elim
 ·exact h.elim
theorem kS(z:Array Value)(n:Nat):Builtin.zeroCells z n=(gx z.toList n).toArray:=by
 rw[←Array.toList_inj];unfold Builtin.zeroCells gx;simp only[Array.toList_map,Array.toList_range];by_cases hz:z.size=0
 ·have:z = #[]:=Array.eq_empty_of_size_eq_zero hz;subst this;simp
 ·apply List.ext_getElem
  ·simp
  ·intro i h1 h2;have hi:i<n*z.size:=by simpa using h1
   have hm:i%z.size<z.size:=Nat.mod_lt _ (by omega);have hf:∀(m:Nat) (l:List Value) (j:Nat) (hj:j<(List.flatten (List.replicate m l)).length),(List.flatten (List.replicate m l))[j]? = l[j%l.length]?:=by
    intro m l;induction m with
    | zero=>intro j hj;simp at hj
    | succ m ih=>
     intro j hj;rw[List.replicate_succ,List.flatten_cons];by_cases hlt:j<l.length
     ·rw[List.getElem?_append_left hlt,Nat.mod_eq_of_lt hlt]
     ·have hge:l.length≤j:=by omega
      rw[List.getElem?_append_right hge,ih (j-l.length) (by simp[List.replicate_succ]at hj ⊢;omega)];rw[Nat.mod_eq_sub_mod hge]
   have:=hf n z.toList i h2;rw[List.getElem?_eq_getElem h2]at this;have h3:z.toList[i%z.toList.length]? = some z[i%z.size]! := by
    simp[hm]
   rw[h3]at this;simpa using(Option.some.inj this).symm
theorem aG{α β:Type}(s:Sem α)(f:α -> Sem β)(Q:β -> H->Prop)(h:H):wpS P (s >>= f) Q h=wpS P s (λa h'=>wpS P (f a) Q h') h:=Av P s f Q h
theorem lG{α:Type}(x:α)(Q:α -> H->Prop)(h:H):wpS P (pure x) Q h=Q x h:=rfl
theorem cQ{t:TypeId}{d:TypeDesc}(hu:P.underlying t=some d)(Q:TypeDesc->H->Prop)(h:H):wpS P (underlying t) Q h=Q d h:=by
 unfold underlying;rw[aG];show wpS P (match P.underlying t with|some d=>pure d|none=>stuck "no such type") Q h=_
 rw[hu];rfl
theorem jM{t:TypeId}{i:TypeInfo}(hi:P.info? t=some i)(Q:TypeInfo->H->Prop)(h:H):wpS P (typeInfo t) Q h=Q i h:=by
 unfold typeInfo;rw[aG];show wpS P (match P.info? t with|some i=>pure i|none=>stuck "no such type") Q h=_
 rw[hi];rfl
theorem nv{t:TypeId}{i:TypeInfo}(hi:P.info? t=some i)(Q:Nat->H->Prop)(h:H):wpS P (sizeOf t) Q h=Q i.size h:=by
 unfold sizeOf;rw[aG,jM hi];rfl
theorem lu{t:TypeId}{i:TypeInfo}{z:Value}(hi:P.info? t=some i)(hz:i.zero=some z)(Q:Value->H->Prop)(h:H):wpS P (zeroValue t) Q h=Q z h:=by
 unfold zeroValue;rw[aG,jM hi,hz];rfl
theorem qp(e:TypeId)(cs:Array Value)(Q:Addr->H->Prop)(h:H):wpS P (newRow e cs) Q h = ∀b,h b=none->Q ⟨b,0,none⟩ (h.nh b (.cells cs e)):=rfl
theorem vS{q:Question}(hq:q.forced=false)(Q:Nat->H->Prop)(h:H):wpS P (choose q) Q h = ∀t,Q (q.cut t) h:=by
 show(if q.forced then _ else _)=_
 rw[hq];rfl
theorem tD{x:Option Addr}{n:Nat}{h:H}{K:List Value->Prop}{Q:Array Value->H->Prop}(size len cap:Nat)(hc:M.cellsOf h x (n*size) K)(hk:∀cs,K cs->Q cs.toArray h):
  wpS P (Builtin.firstCells size n (.slice x len cap)) Q h:=by
 cases x with
 | none=>exact hk [] (hc.1 rfl)
 | some a=>
  obtain⟨cs,hl,hr,hkk⟩:=hc.2 a rfl;show wpS P (loadCellsFrom a 0 (n*size) #[]) Q h;rw[←hl];exact oJ cs 0 #[] (λj hj=>by rw[Nat.zero_add];exact hr j hj) (by simpa using hk cs hkk)
theorem qY(need old:Nat)(e:TypeId)(t:Nat):need≤(Question.appendCap need old e).cut t:=by simp[Question.cut]
theorem vG{st xt e:TypeId}{i:TypeInfo}{z x:Value}{base:Option Addr}{len cap n:Nat}{new:List Value}{ty:TypeId}{K:Value->H->Prop}{h:H}
  (hst:P.underlying st=some (.slice e)) (hi:P.info? e=some i) (hz:i.zero=some z)
  (hd:P.underlying xt=some .string∨∃e2,P.underlying xt=some (.slice e2)) (hn:Builtin.lenOf x=pure n)
  (hnew:∀(Q:Array Value->H->Prop),Q new.toArray h->wpS P (Builtin.firstCells i.size n x) Q h)
  (ha:M.app h e i.size i.bytes z.cells.toList base len cap n new (λa l c h'=>K (.slice a l c) h')):
  wpS P (Builtin.append_ #[st,xt] ty #[.slice base len cap,x]) K h:=by
 have key:wpS P (do
   let need:=len+n
   if need≤cap then
    let new ←Builtin.firstCells i.size n x
    if let some a:=base then storeCells (a.add (len*i.size)) new.toList
    pure (.slice base need cap)
   else
    if(need:Int)>IntKind.i64.max∧(false=true∨(←typeInfo e).bytes=0)then runtimePanic (.error "growslice: len out of range")
    if Builtin.nextslicecap need cap*(←typeInfo e).bytes>2^48 then(if false=true then runtimePanic (.error "growslice: len out of range")else do
     if !(←Builtin.mayShare i.size len n base x)then mark .noRoom
     unsupported (.resourceLimit "append: a slice or a string whose bytes no memory bears"))
    let newCap ←choose (.appendCap need cap e)
    askRoom (newCap*(←typeInfo e).bytes)
    let old ←Builtin.firstCells i.size len (.slice base len cap)
    let new ←Builtin.firstCells i.size n x
    let rest:=Builtin.zeroCells (←zeroValue e).cells (newCap-need)
    pure (.slice (some (←newRow e (old++new++rest))) need newCap):Sem Value) K h:=by
  obtain⟨hfit,hgrow⟩:=ha;by_cases hle:len+n≤cap
  ·simp only[];rw[if_pos hle,aG];refine hnew _ ?_;obtain⟨h1,h2⟩:=hfit hle;cases base with
   | none=>exact h1 rfl
   | some a=>
    obtain⟨p1,p2,p3⟩:=h2 a rfl;simp only[];rw[aG];exact kI new 0 h p1 (λj hj=>by rw[Nat.zero_add];exact p2 j hj) p3
  ·obtain⟨g1,g2,g3⟩:=hgrow (by omega);simp only[];rw[if_neg hle,aG,jM hi,if_neg (by omega),aG,jM hi,if_neg (by omega),aG,vS rfl];intro t;generalize hc:(Question.appendCap (len+n) cap e).cut t=c;have hcc:len+n≤c:=by rw[←hc];exact qY _ _ _ _
   rw[aG,jM hi,aG];have hask:∀(Q:Unit->H->Prop),Q () h->wpS P (askRoom (c*i.bytes)) Q h:=by
    intro Q hq;unfold askRoom;split<;>exact hq
   refine hask _ ?_;rw[aG];refine tD i.size len cap g3 λold hold=>?_;rw[aG];refine hnew _ ?_;rw[aG,lu hi hz,aG,qp];intro b hb;have:=hold c hcc b hb;rw[kS];simpa [lG] using this
 unfold Builtin.append_;rcases hd with hd|⟨e2,hd⟩
 ·simp only[List.getElem?_toArray,List.getElem?_cons_zero,List.getElem?_cons_succ,aG,cQ hst,nv hi,cQ hd,lG,hn];exact key
 ·simp only[List.getElem?_toArray,List.getElem?_cons_zero,List.getElem?_cons_succ,aG,cQ hst,nv hi,cQ hd,lG,hn];exact key
theorem FL{st xt e:TypeId}{k k':IntKind}{i:TypeInfo}{z:Value}{base:Option Addr}{len cap:Nat}{n:Int}{ty:TypeId}{K:Value->H->Prop}{h:H}
  (hst:P.underlying st=some (.slice e)) (hi:P.info? e=some i) (hz:i.zero=some z) (hzs:z.cells.size=i.size) (hd:P.underlying xt=some (.int k))
  (ha:M.Rp h e i.size i.bytes z.cells.toList base len cap n (λa l c h'=>K (.slice a l c) h')):
  wpS P (Builtin.append_ #[st,xt] ty #[.slice base len cap,.int k' n]) K h:=by
 obtain⟨hn0,hnb,hnm,ha⟩:=ha;have hw:IntKind.i64.wrap n=n:=by rw[IntKind.wrap_i64];omega
 have hnew:∀(Q:Array Value->H->Prop),Q (gx z.cells.toList n.toNat).toArray h->wpS P (if n.toNat * i.size=0 then pure #[] else do pure (Builtin.zeroCells (←zeroValue e).cells n.toNat):Sem (Array Value)) Q h:=by
  intro Q hq;split
  ·rename_i h0;have:gx z.cells.toList n.toNat=[]:=by
    apply List.length_eq_zero_iff.1;unfold gx;have:∀m,(List.flatten (List.replicate m z.cells.toList)).length=m*i.size:=by
     intro m;induction m with
     | zero=>simp
     | succ m ih=>rw[List.replicate_succ,List.flatten_cons,List.length_append,ih,Nat.succ_mul];simp[hzs];omega
    rw[this,h0]
   rw[this]at hq;exact hq
  ·rw[aG,lu hi hz,kS];exact hq
 unfold Builtin.append_;simp only[List.getElem?_toArray,List.getElem?_cons_zero,List.getElem?_cons_succ,aG,cQ hst,nv hi,cQ hd,lG];simp only[if_true,asInt,asIntOf,aG,lG,hw,jM hi];rw[if_neg (by omega),aG,jM hi,if_neg (by rw[Int.mul_comm];omega),aG,lG];simp only[Bool.not_true,Bool.false_eq_true,if_false];obtain⟨hfit,hgrow⟩:=ha;by_cases hle:len+n.toNat≤cap
 ·rw[if_pos hle,aG];refine hnew _ ?_;obtain⟨h1,h2⟩:=hfit hle;cases base with
  | none=>exact h1 rfl
  | some a=>
   obtain⟨p1,p2,p3⟩:=h2 a rfl;simp only[];rw[aG];exact kI _ 0 h p1 (λj hj=>by rw[Nat.zero_add];exact p2 j hj) p3
 ·obtain⟨g1,g2,g3⟩:=hgrow (by omega);rw[if_neg hle,aG,jM hi,if_neg (λhh=>absurd hh.1 (by omega)),aG,jM hi,if_neg (by omega),aG,vS rfl];intro t;generalize hc:(Question.appendCap (len+n.toNat) cap e).cut t=c;have hcc:len+n.toNat≤c:=by rw[←hc];exact qY _ _ _ _
  rw[aG,jM hi,aG];have hask:∀(Q:Unit->H->Prop),Q () h->wpS P (askRoom (c*i.bytes)) Q h:=by
   intro Q hq;unfold askRoom;split<;>exact hq
  refine hask _ ?_;rw[aG];refine tD i.size len cap g3 λold hold=>?_;rw[aG];refine hnew _ ?_;rw[aG,lu hi hz,aG,qp];intro b hb;have:=hold c hcc b hb;rw[kS];simpa [lG] using this
end
end Go.Sh
namespace Go.Sh
open Go.RowKit
section
variable {P:Program}{env:Env}
theorem mg{o:Oper}{a:Act}{w:World}{K:Option Value->H->Prop}{Q:Exit->Act->World->Prop}{s:Sem Value}
  (ho:execOp a.eval o=(do pure (Next.value (←s)))) (h:wpS P s (λv h'=>K (some v) h') (hp w)):o.wp P a w (Post o a w K) Q:=by
 obtain⟨v,w',hr,hk,hst⟩:=Dr P s _ w h;exact mB (v:=v) (by rw[ho];simp[hr]) hk hst
theorem vX{o:Oper}{a:Act}{w w':World}{K:Option Value->H->Prop}{Q:Exit->Act->World->Prop}{s:Sem Unit}
  (ho:execOp a.eval o=(do s;pure Next.skip)) (hr:s.run P w = .ok () w') (hk:K (some undef) (hp w')) (hst:jE w w'):o.wp P a w (Post o a w K) Q:=by
 unfold Oper.wp;have:(execOp a.eval o).run P w = .ok .skip w':=by rw[ho];simp[hr]
 rw[this];exact⟨_,undef,hk,.inr rfl,rfl,hst⟩
theorem lV{w:World}{b:Nat}{es:Array MapEntry}{c:Nat}(h:hp w b=some (.map es c)):(getObj b).run P w = .ok (.map es c) w:=by
 have h':w.heap[b]? = some (.map es c):=h;simp[getObj,Sem.run,h']
theorem oF{w:World}{b:Nat}{o:Obj}{es:Array MapEntry}{c:Nat}(h:hp w b=some (.map es c)):∃w',(setObj b o).run P w = .ok () w'∧hp w'=(hp w).nh b o∧jE w w':=by
 have h':w.heap[b]? = some (.map es c):=h;refine⟨{ w with heap:=w.heap.setIfInBounds b o },by simp[setObj,Sem.run,h'],C6 w b o h',⟨rfl,rfl,rfl,by simp⟩⟩
theorem sU{w:World}{tm kt et:TypeId}{m k:Value}{es:Array MapEntry}{p:Nat×Value}{ok:Bool}(hu:P.underlying tm=some (.map kt et))(hm:I1 (hp w) m es)(hk:yX P kt es k (some p)):
  (Instr.lookup tm m k ok).run P w = .ok (if ok then .tuple #[p.2,.bool true] else p.2) w:=by
 unfold Instr.lookup;rcases hm with ⟨rfl,rfl⟩|⟨b,c,rfl,hb⟩
 ·simp[run_underlying hu,hk.1,hk.2]
 ·simp[run_underlying hu,lV hb,hk.1,hk.2]
theorem th{w:World}{tm kt et:TypeId}{m k z:Value}{es:Array MapEntry}{ok:Bool}(hu:P.underlying tm=some (.map kt et))(hm:I1 (hp w) m es)(hk:yX P kt es k none)
  (hz:∀w,(zeroValue et).run P w = .ok z w):(Instr.lookup tm m k ok).run P w = .ok (if ok then .tuple #[z,.bool false] else z) w:=by
 unfold Instr.lookup;rcases hm with ⟨rfl,rfl⟩|⟨b,c,rfl,hb⟩
 ·simp[run_underlying hu,hk.1,hk.2,hz]
 ·simp[run_underlying hu,lV hb,hk.1,hk.2,hz]
theorem vB{w:World}{tm:TypeId}{m k v:Value}{K:H->Prop}(h:M.An P tm m k v (hp w) K):∃w',(Instr.mapUpdate tm m k v).run P w = .ok () w'∧K (hp w')∧jE w w':=by
 obtain⟨kt,et,b,es,c,r,hu,rfl,hb,hk,h⟩:=h;cases r with
 | none=>
  obtain⟨w',hr,hw,hst⟩:=oF (P:=P) (o:=.map (es.push { key:=k,val:=v,born:=c }) (c+1)) hb;refine⟨w',?_,by rw[hw];exact h,hst⟩;unfold Instr.mapUpdate;simp[run_underlying hu,lV hb,hk.1,hk.2,hr]
 | some p=>
  obtain⟨i,u⟩:=p;obtain⟨hsb,h⟩:=h;obtain⟨w',hr,hw,hst⟩:=oF (P:=P) (o:=.map (es.modify i λe=>{ e with key:=k,val:=v }) c) hb
  refine⟨w',?_,by rw[hw];exact h,hst⟩;have hkeep:(Instr.keyThatStays (((es[i]?).map (·.key)).getD k) k).run P w = .ok k w:=by
   unfold Instr.keyThatStays;rw[if_pos hsb];rfl
  unfold Instr.mapUpdate;simp only[Sem.run_bind,run_underlying hu,Result.andThen_ok,lV hb,hk.1,hk.2,hkeep,hr]
theorem HS{s:Sem Value}{v:Value}{w w':World}(h:s.run P w = .ok v w'):(do pure (Next.value (←s)):Sem Next).run P w = .ok (.value v) w':=by simp[h]
theorem pK{o:Oper}{a:Act}{w w':World}{v:Value}{K:Option Value->H->Prop}{Q:Exit->Act->World->Prop}{s:Sem Value}
  (ho:execOp a.eval o=(do pure (Next.value (←s)))) (hr:s.run P w = .ok v w') (hk:K (some v) (hp w')) (hst:jE w w'):o.wp P a w (Post o a w K) Q:=
 mB (v:=v) (by rw[ho];exact HS hr) hk hst
theorem D3{w:World}{tm:TypeId}{m k:Value}{K:Value->Int->H->Prop}(h:M.ID P tm m k (hp w) K):∃w' v n,(Instr.mapEntry tm m k).run P w = .ok (.tuple #[v,.int .i64 n]) w'∧K v n (hp w')∧jE w w':=by
 obtain⟨kt,et,b,es,c,r,hu,rfl,hb,hk,h⟩:=h;cases r with
 | none=>
  obtain⟨z,hz,h⟩:=h;obtain⟨w',hr,hw,hst⟩:=oF (P:=P) (o:=.map (es.push { key:=k,val:=z,born:=c }) (c+1)) hb;refine⟨w',z,c,?_,by rw[hw];exact h,hst⟩;unfold Instr.mapEntry;simp[run_underlying hu,lV hb,hk.1,hk.2,hr,hz,goInt]
 | some p=>
  obtain⟨i,u⟩:=p;obtain⟨hsb,h⟩:=h;obtain⟨w',hr,hw,hst⟩:=oF (P:=P) (o:=.map (es.modify i λe=>{ e with key:=k }) c) hb
  refine⟨w',u,_,?_,by rw[hw];exact h,hst⟩;have hkeep:(Instr.keyThatStays (((es[i]?).map (·.key)).getD k) k).run P w = .ok k w:=by
   unfold Instr.keyThatStays;rw[if_pos hsb];rfl
  unfold Instr.mapEntry;simp only[Sem.run_bind,run_underlying hu,Result.andThen_ok,lV hb,hk.1,hk.2,hkeep,hr];rfl
theorem Bb{w:World}{tm:TypeId}{m s x:Value}{K:H->Prop}(h:M.Iz m s x (hp w) K):∃w',(Instr.entryStore tm m s x).run P w = .ok () w'∧K (hp w')∧jE w w':=by
 obtain⟨b,es,c,n,i,rfl,hb,rfl,hi,h⟩:=h;obtain⟨w',hr,hw,hst⟩:=oF (P:=P) (o:=.map (es.modify i λe=>{ e with val:=x }) c) hb
 refine⟨w',?_,by rw[hw];exact h,hst⟩;unfold Instr.entryStore;simp only[Sem.run_bind,Result.andThen_ok,lV hb,asInt,asIntOf,Sem.run_pure,hi,hr]
theorem Hi{ts:Array TypeId}{rt:TypeId}{args:List Value}{w:World}{K:Value->H->Prop}(h:ry P ts args K (hp w)):∃w',(Builtin.delete_ ts rt args.toArray).run P w = .ok (.tuple #[]) w'∧K (.tuple #[]) (hp w')∧jE w w':=by
 unfold ry at h;split at h
 ·rename_i ty r m k hts;have et:ts=(ty::r).toArray:=by rw[←Array.toList_inj];simpa using hts
  subst et;obtain⟨kt,et,b,es,c,r,hu,rfl,hb,hk,h⟩:=h;obtain⟨w',hr,hw,hst⟩:=oF (P:=P) (o:=.map (IK es r) c) hb;refine⟨w',?_,by rw[hw];exact h,hst⟩;unfold Builtin.delete_;cases r with
  | none=>
   simp only[List.getElem?_toArray,List.getElem?_cons_zero,List.getElem?_cons_succ,Sem.run_bind,run_underlying hu,Result.andThen_ok,lV hb,hk.1,hk.2];simp only[IK]at hr;rw[hr];rfl
  | some p=>
   simp only[List.getElem?_toArray,List.getElem?_cons_zero,List.getElem?_cons_succ,Sem.run_bind,run_underlying hu,Result.andThen_ok,lV hb,hk.1,hk.2];simp only[IK]at hr;rw[hr];rfl
 ·exact h.elim
theorem PU(w:World){g n:Nat}{cur:Array Value}{e:TypeId}{f:Nat×Nat}(hg:hp w g=some (.cells cur e f)):∃f':Nat×Nat,hp (w.freeze ⟨g,0,none⟩ n)=(hp w).nh g (.cells cur e f'):=by
 have hg':w.heap[g]? = some (.cells cur e f):=hg;unfold World.freeze;by_cases h0:n=0
 ·refine⟨f,?_⟩;rw[if_pos h0];funext x;by_cases hx:x=g
  ·subst hx;rw[H.jD];exact hg
  ·rw[H.uw _ _ hx]
 ·refine⟨if f.1 == f.2 then(0,0+n)else(min f.1 0,max f.2 (0+n)),?_⟩
  rw[if_neg h0];funext x;show(w.heap.modify g _)[x]? = _;rw[Array.getElem?_modify];by_cases hx:x=g
  ·subst hx;rw[H.jD,if_pos rfl,hg'];rfl
  ·rw[H.uw _ _ hx,if_neg (λe=>hx e.symm)];rfl
theorem K1(w:World)(a:Addr)(n:Nat):jE w (w.freeze a n):=by
 unfold World.freeze;split
 ·exact .refl w
 ·exact⟨rfl,rfl,rfl,by simp⟩
theorem M8{ts:Array TypeId}{rt:TypeId}{args:List Value}{w:World}{K:Value->H->Prop}(h:yF P ts args K (hp w)):∃w' v,(Builtin.unsafeString_ ts rt args.toArray).run P w = .ok v w'∧K v (hp w')∧jE w w':=by
 unfold yF at h;split at h
 ·rename_i pt it p n hts;have et:ts = #[pt,it]:=by rw[←Array.toList_inj];simpa using hts
  subst et;obtain⟨e,g,cur,f,l,hu,hc,rfl,hg,h0,rfl,h1,h2,h3,hk⟩:=h;obtain⟨f',hf⟩:=PU w (n:=l.length) hg;have hg':w.heap[g]? = some (.cells cur e f):=hg;refine⟨w.freeze ⟨g,0,none⟩ l.length,.string ⟨l.toArray⟩,?_,by rw[hf];exact hk f',K1 _ _ _⟩;refine Lib.run_unsafeString_row w pt it rt e hu hc g cur.size (by simp[World.shape?,hg']) l h0 h1 h2 λj x hx=>?_;have:=h3 j x hx;by_cases hj:j=0
  ·subst hj;simpa [World.cell?,hg',Addr.add] using this
  ·simpa [World.cell?,hg',Addr.add,hj] using this
 ·exact h.elim
theorem Kj{rt:TypeId}{v:Value}{K:Value->Prop}(h:Cu P rt v K):K v:=by
 unfold Cu at h;split at h
 ·rename_i k _;unfold M.L9 at h;split at h
  ·rename_i k' n;cases e:Md k' k with
   | false=>rw[e]at h;exact h.elim
   | true=>
    rw[e]at h;have:=Nk e;subst this;exact h
  ·exact h.elim
 ·unfold M.Fb at h;split at h
  ·exact h
  ·exact h.elim
 ·exact h
theorem Kh{x:Option Addr}{n c:Nat}{h:H}{K:ByteArray->Prop}{Q:Value->H->Prop}(hb:M.xX h x n K)(hk:∀s,K s->Q (.string s) h):
  wpS P (Conv.bytesToString (.slice x n c)) Q h:=by
 unfold Conv.bytesToString;cases x with
 | none=>exact hk _ (hb.1 rfl)
 | some a=>
  obtain⟨zs,hl,hr,hkk⟩:=hb.2 a rfl;simp only[];rw[aG];have hl2:(zs.map (Value.int .u8)).length=n:=by simpa using hl
  show wpS P (loadCellsFrom a 0 n #[]) _ h;rw[←hl2];refine oJ _ 0 #[] (λj hj=>by rw[Nat.zero_add];exact hr j hj) ?_;have key:∀(l:List Int) (s0:ByteArray) (K2:ByteArray->H->Prop),K2 ⟨s0.data++(ofBytes l).data⟩ h ->
    wpS P (forIn (l.map (Value.int .u8)) s0 λc s=>do
     let .int .u8 n:=c|stuck "bytesToString: byte expected"
     pure (.yield (s.push (UInt8.ofNat n.toNat)))) K2 h:=by
   intro l;induction l with
   | nil=>intro s0 K2 hk2;simpa [ofBytes,lG] using hk2
   | cons z r ih=>
    intro s0 K2 hk2;simp only[List.map_cons,List.forIn_cons,aG,lG];refine ih (s0.push (UInt8.ofNat z.toNat)) K2 ?_;have:(⟨(s0.push (UInt8.ofNat z.toNat)).data++(ofBytes r).data⟩:ByteArray)=⟨s0.data++(ofBytes (z::r)).data⟩:=by
     congr 1;simp[ofBytes,ByteArray.push]
    rw[this];exact hk2
  have:=key zs ByteArray.empty (λs h'=>Q (.string s) h') (by simpa using hk _ hkk);simp only[List.nil_append,List.append_toArray,List.forIn_toArray,aG,lG]at this ⊢;exact this
theorem Oz{e:TypeId}{s:ByteArray}{h:H}{K:Option Addr->Nat->Nat->H->Prop}{Q:Value->H->Prop}(hb:M.QA h e s K)(hk:∀a n c h',K a n c h'->Q (.slice a n c) h'):
  wpS P (Conv.stringToBytes e s) Q h:=by
 unfold Conv.stringToBytes;rw[aG,vS rfl];intro t;generalize hc:(Question.appendCap s.size 0 e).cut t=c;have hcc:s.size≤c:=by rw[←hc];exact qY _ _ _ _
 simp only[];rw[aG,qp];intro b hbn;have hh:=hk _ _ _ _ (hb c hcc b hbn);rw[aG];have hcells:(Array.map (λb=>Value.int IntKind.u8 ↑b.toNat) s.data++Array.replicate (c-s.size) (Value.int .u8 0))=(bytesOf s++List.replicate (c-s.size) (Value.int .u8 0)).toArray:=by
  rw[←Array.toList_inj];simp[bytesOf]
 rw[hcells];generalize hcs:(bytesOf s++List.replicate (c-s.size) (Value.int .u8 0))=cs at hh ⊢;have hsz:cs.length=c:=by
  rw[←hcs];have:s.data.toList.length=s.size:=by simp
  simp only[List.length_append,bytesOf,List.length_map,List.length_replicate,this];omega
 unfold markStringish;rw[aG];show wpS P _ _ _;have hsh:(h.nh b (.cells cs.toArray e)).shape b=some (e,c):=by simp[H.shape,H.jD,hsz]
 show wpS P (match (h.nh b (.cells cs.toArray e)).shape b with|some (_,n)=>freeze ⟨b,n,none⟩ 1|_=>pure ()) _ _
 rw[hsh];show Q (.slice (some ⟨b,0,none⟩) s.size c) ((h.nh b (.cells cs.toArray e)).freeze ⟨b,c,none⟩ 1);have hfz:(h.nh b (.cells cs.toArray e)).freeze ⟨b,c,none⟩ 1=h.nh b (.cells cs.toArray e (c,c+1)):=by
  funext x;unfold H.freeze H.modify;rw[if_neg (by decide)];by_cases hx:x=b
  ·subst hx;simp[Al,H.nh]
  ·simp[hx,H.nh]
 rw[hfz];exact hh
theorem Cj{t e:TypeId}{i:TypeInfo}{z:Value}{kl kc:IntKind}{l c:Int}{h:H}{K:Option Addr->Nat->Nat->H->Prop}{Q:Value->H->Prop}
  (ht:P.underlying t=some (.slice e)) (hi:P.info? e=some i) (hz:i.zero=some z) (hzs:z.cells.size=i.size)
  (hm:M.mk h e z.cells.toList i.bytes l c K) (hk:∀a n c h',K a n c h'->Q (.slice a n c) h'):wpS P (Instr.makeSlice t (.int kl l) (.int kc c)) Q h:=by
 obtain⟨h0,h1,h2,h3,hb⟩:=hm;have wl:IntKind.i64.wrap l=l:=by rw[IntKind.wrap_i64];omega
 have wc:IntKind.i64.wrap c=c:=by rw[IntKind.wrap_i64];omega
 unfold Instr.makeSlice;rw[aG,cQ ht];simp only[asInt,asIntOf,aG,lG,jM hi,wl,wc];have n1:(decide (c<0) || decide ((i.bytes:Int)*c>2^48))=false:=by simp;omega
 rw[n1];simp only[Bool.false_or];rw[if_neg (by simp;omega)];have hask:∀(Q:Unit->H->Prop),Q () h->wpS P (askRoom (c.toNat * i.bytes)) Q h:=by
  intro Q hq;unfold askRoom;split<;>exact hq
 rw[aG];refine hask _ ?_;rw[aG,nv hi];have hfin:∀(z':Array Value),(Array.map (λx=>z'[x%z'.size]!) (Array.range (c.toNat * i.size)))=(gx z.cells.toList c.toNat).toArray ->
   wpS P (do
     let a ←newRow e (Array.map (λx=>z'[x%z'.size]!) (Array.range (c.toNat * i.size)))
     pure (Value.slice (some a) l.toNat c.toNat)) Q h:=by
  intro z' hz';rw[aG,qp,hz'];exact λb hbn=>hk _ _ _ _ (hb b hbn)
 split
 ·rename_i h0;rw[aG];refine hfin #[] ?_;rw[h0,←kS];unfold Builtin.zeroCells;rw[hzs,h0];simp
 ·rw[aG,lu hi hz,aG];refine hfin z.cells ?_;rw[←kS];unfold Builtin.zeroCells;rw[hzs]
theorem Fp{s d:TypeId}{x:Value}{h:H}{K:Value->H->Prop}(hc:yJ P s d x K h):wpS P (convert s d x) K h:=by
 unfold yJ at hc;split at hc
 ·rename_i k hd;split at hc
  ·rename_i e _ _ hs;unfold convert;rw[aG,cQ hs,aG,cQ hd];exact hc
  ·exact hc.elim
 ·rename_i hd;split at hc
  ·rename_i hs;split at hc
   ·unfold convert;rw[aG,cQ hs,aG,cQ hd];exact hc
   ·exact hc.elim
  ·rename_i e hs;split at hc
   ·rename_i he;split at hc
    ·unfold convert;rw[aG,cQ hs,aG,cQ hd];simp only[];rw[aG,cQ he];exact Kh hc λs hs=>hs
    ·exact hc.elim
   ·exact hc.elim
  ·exact hc.elim
 ·rename_i e hd;split at hc
  ·rename_i hs;split at hc
   ·rename_i he;split at hc
    ·unfold convert;rw[aG,cQ hs,aG,cQ hd];simp only[];rw[aG,cQ he];exact Oz hc λ_ _ _ _ h=>h
    ·exact hc.elim
   ·exact hc.elim
  ·exact hc.elim
 ·exact hc.elim
theorem NU{t ty:TypeId}{x:Value}{h:H}{K:Value->H->Prop}(hl:zB P t x K h):wpS P (Builtin.len_ #[t] ty #[x]) K h:=by
 unfold zB at hl;unfold Builtin.len_;simp only[List.getElem?_toArray,List.getElem?_cons_zero];split at hl
 ·rename_i hu;split at hl
  ·rw[aG,cQ hu];exact hl
  ·exact hl.elim
 ·rename_i e hu;split at hl
  ·rw[aG,cQ hu];exact hl
  ·exact hl.elim
 ·rename_i n e hu;rw[aG,cQ hu];exact hl
 ·rename_i a hu;split at hl
  ·rename_i n e hu2;rw[aG,cQ hu];simp only[];rw[aG,cQ hu2];exact hl
  ·exact hl.elim
 ·rename_i k e hu;split at hl
  ·rename_i r;rw[aG,cQ hu];cases r with
   | none=>exact hl.1 rfl
   | some b=>
    obtain⟨es,c,hb,hk⟩:=hl.2 b rfl;exact⟨_,hb,rfl,hk⟩
  ·exact hl.elim
 ·exact hl.elim
theorem Mj{ts:Array TypeId}{ty:TypeId}{args:List Value}{h:H}{K:Value->H->Prop}(hc:yt P ts args K h):wpS P (Builtin.copy_ ts ty args.toArray) K h:=by
 unfold yt at hc;split at hc
 ·rename_i dt xt dst dl cap x hts;have et:ts = #[dt,xt]:=by rw[←Array.toList_inj];simpa using hts
  subst et;split at hc
  ·rename_i e hu;split at hc
   ·rename_i i hi;unfold Builtin.copy_;simp only[List.getElem?_toArray,List.getElem?_cons_zero,List.getElem?_cons_succ];rw[aG,cQ hu];simp only[];split at hc
    ·rename_i xa n c;simp only[Builtin.lenOf,aG,lG,nv hi];exact tD i.size n c hc λcs hcs=>by
      cases dst with
      | none=>exact hcs.1 rfl
      | some a=>
       obtain⟨p1,p2,p3⟩:=hcs.2 a rfl;simp only[];rw[aG];exact kI (Q:=λ_ h'=>K (.int .i64 (min n dl:Nat)) h') cs 0 h p1 (λj hj=>by rw[Nat.zero_add];exact p2 j hj) p3
    ·rename_i s;simp only[Builtin.lenOf,aG,lG,nv hi,Builtin.firstCells];have e:(Array.map (λb=>Value.int IntKind.u8 ↑b.toNat) (s.extract 0 (Nat.min s.size dl)).data)=(bytesOf (s.extract 0 (min s.size dl))).toArray:=by
      rw[←Array.toList_inj];simp[bytesOf]
     rw[e];generalize bytesOf (s.extract 0 (min s.size dl))=cs at hc ⊢;cases dst with
     | none=>exact hc.1 rfl
     | some a=>
      obtain⟨p1,p2,p3⟩:=hc.2 a rfl;simp only[];rw[aG];exact kI (Q:=λ_ h'=>K (.int .i64 (min s.size dl:Nat)) h') cs 0 h p1 (λj hj=>by rw[Nat.zero_add];exact p2 j hj) p3
    ·exact hc.elim
   ·exact hc.elim
  ·exact hc.elim
 ·exact hc.elim
theorem Jz{ts:Array TypeId}{ty:TypeId}{args:List Value}{h:H}{K:Value->H->Prop}(hc:uX P ts args K h):wpS P (Builtin.clear_ ts ty args.toArray) K h:=by
 unfold uX at hc;split at hc
 ·rename_i t a n cap hts;have et:ts = #[t]:=by rw[←Array.toList_inj];simpa using hts
  subst et;split at hc
  ·rename_i e hu;split at hc
   ·rename_i i hi;split at hc
    ·rename_i z hz;unfold Builtin.clear_;simp only[List.getElem?_toArray,List.getElem?_cons_zero];rw[aG,cQ hu];cases a with
     | none=>exact hc.1 rfl
     | some a=>
      obtain⟨p1,p2,p3⟩:=hc.2 a rfl;cases n with
      | zero=>exact p3
      | succ n=>
       simp only[aG];rw[lu hi hz,kS];exact kI (Q:=λ_ h'=>K (.tuple #[]) h') _ 0 h p1 (λj hj=>by rw[Nat.zero_add];exact p2 j hj) p3
    ·exact hc.elim
   ·exact hc.elim
  ·exact hc.elim
 ·exact hc.elim
theorem ET{ts:Array TypeId}{ty:TypeId}{args:List Value}{h:H}{K:Value->H->Prop}(hc:rD P ts args K h):wpS P (Builtin.append_ ts ty args.toArray) K h:=by
 unfold rD at hc;split at hc
 ·rename_i st xt s x hts;have et:ts = #[st,xt]:=by rw[←Array.toList_inj];simpa using hts
  subst et;split at hc
  ·rename_i e base len cap hst;split at hc
   ·rename_i i hi;split at hc
    ·rename_i z e2 hz hx;split at hc
     ·rename_i xa n c;cases xa with
      | none=>
       exact vG hst hi hz (.inr ⟨e2,hx⟩) rfl (λQ hq=>hq) (hc.1 rfl)
      | some a=>
       obtain⟨cs,hl,hr,hk⟩:=hc.2 a rfl;refine vG hst hi hz (.inr ⟨e2,hx⟩) rfl (λQ hq=>?_) hk;show wpS P (loadCellsFrom a 0 (n*i.size) #[]) Q h;rw[←hl];exact oJ cs 0 #[] (λj hj=>by rw[Nat.zero_add];exact hr j hj) (by simpa using hq)
     ·exact hc.elim
    ·rename_i z hz hx;split at hc
     ·rename_i s;refine vG hst hi hz (.inl hx) rfl (λQ hq=>?_) hc;show Q _ h;have e:(Array.map (λb=>Value.int IntKind.u8 ↑b.toNat) (s.extract 0 s.size).data)=(bytesOf s).toArray:=by
       rw[←Array.toList_inj];simp[bytesOf]
      rw[e];exact hq
     ·exact hc.elim
    ·rename_i z k hz hx;split at hc
     ·rename_i k' n;cases hb:Nat.beq z.cells.size i.size with
      | false=>simp[hb]at hc
      | true=>
       simp only[hb,cond_true]at hc;exact FL hst hi hz (Nat.eq_of_beq_eq_true hb) hx hc
     ·exact hc.elim
    ·exact hc.elim
   ·exact hc.elim
  ·exact hc.elim
 ·exact hc.elim
theorem FB{o:Oper}{a:Act}{w:World}{K:Option Value->H->Prop}{Q:Exit->Act->World->Prop}{f:Value}{args:List Value}{K':Value->H->Prop}(ct:Array TypeId)(fo:Operand)(ao:Array Operand)
  (he:vA P env) (ho:o.op = .call ⟨.value fo,ao,ct⟩) (hf:a.eval fo=f) (ha:(ao.map a.eval)=args.toArray) (hk:∀v h',K' v h'->K (some v) h') (h:rP env f args K' (hp w)):o.wp P a w (Post o a w K) Q:=by
 unfold rP at h;split at h
 ·rename_i g first captured
  refine BN he (f:=g) (args:=(first.toList++args++captured.toList).toArray) ?_ hk h
  unfold execOp;simp only[ho,resolve,hf,ha,Deferred.ofValue];simp only[pure_bind,invoke];congr 1;rw[←Array.toList_inj];simp
 ·exact h.elim
set_option maxHeartbeats 1000000 in
theorem GD{o:Oper}{t:Tm}{a:Act}{K:Option Value->H->Prop}{w:World}{Q:Exit->Act->World->Prop}(he:vA P env)(hs:Sub t a)(h:tR P env o.op o.type t K (hp w)):
  o.wp P a w (Post o a w K) Q:=by
 cases hf:ug P o.op with
 | true=>
  obtain⟨kv,v,hk,hv,hr⟩:=AQ hf hs h;unfold Oper.wp;rw[hr w (ue.refl _ _ _)];exact⟨kv,v,hk,hv,rfl,.refl w⟩
 | false=>
  obtain⟨dst,op,ty,pos,after,guard⟩:=o;simp only at hf h;cases op<;>first|(simp[ug]at hf;done)|(simp only[tR]at h)<;>try (exact h.elim)
  case alloc e=>
   split at h
   ·rename_i z hz;obtain⟨i,hi,hz⟩:=Option.bind_eq_some_iff.1 hz;refine mg (s:=Instr.alloc e true (.tuple #[])) rfl ?_;unfold Instr.alloc;rw[aG,lu hi hz];show wpS P (do pure (Value.pointer (some (←newVar e z)))) _ _;rw[aG];exact λb hb=>h b hb
   ·exact h.elim
  case box e x=>
   split at h
   ·rename_i v hx;refine mg (s:=Instr.box e (a.eval x)) rfl ?_;unfold Instr.box;rw[aG,hs.get hx];exact λb hb=>h b hb
   ·exact h.elim
  case buildSlice tb len ps=>
   split at h
   ·rename_i vs e hvs hu;split at h
    ·rename_i i hi;split at h
     ·rename_i z hz;split at h
      ·rename_i cs hcs;cases hb:(Nat.ble (len*i.size) 16777216 && Nat.beq z.cells.size i.size)with
       | false=>simp[hb]at h
       | true=>
        simp only[hb,cond_true]at h;simp only[Bool.and_eq_true]at hb;have h1:len*i.size≤16777216:=Nat.le_of_ble_eq_true hb.1;have h2:z.cells.size=i.size:=Nat.eq_of_beq_eq_true hb.2;refine mg (s:=Instr.buildSlice tb len (ps.map λ(i,x)=>(i,a.eval x))) rfl ?_;unfold Instr.buildSlice;rw[aG,cQ hu];simp only[];rw[aG,nv hi,if_neg (by omega)];have hps:(ps.map λ(i,x)=>(i,a.eval x)).toList=ps.toList.map λp=>(p.1,t.val p.2):=by
         rw[Array.toList_map];refine List.map_congr_left λp hp=>?_;obtain⟨v,hv⟩:=Tm.xw hvs p.2 (List.mem_map.2 ⟨p,hp,rfl⟩);simp[hs.val hv]
        have hz0:∀z':Array Value,(Array.map (λx=>z'[x%z'.size]!) (Array.range (len*i.size)))=(gx z.cells.toList len).toArray ->
          wpS P (do
           let some cells:=Instr.fill (λj=>some (j*i.size,i.size)) (Array.map (λx=>z'[x%z'.size]!) (Array.range (len*i.size))) (ps.map λ(i,x)=>(i,a.eval x)).toList
            | stuck "buildSlice: a part of the wrong size"
           pure (Value.slice (some (←newRow e cells)) len len)) (λv h'=>K (some v) h') (hp w):=by
         intro z' hz';rw[hz',hps,hcs];simp only[];rw[aG,qp];exact λb hbn=>h b hbn
        split
        ·rename_i h0;rw[aG];refine hz0 #[] ?_;rw[h0,←kS];unfold Builtin.zeroCells;rw[h2,h0];simp
        ·rw[aG,lu hi hz,aG];refine hz0 z.cells ?_;rw[←kS];unfold Builtin.zeroCells;rw[h2]
      ·exact h.elim
     ·exact h.elim
    ·exact h.elim
   ·exact h.elim
  case store ts x v=>
   split at h
   ·rename_i p u hx hv;obtain⟨w',hr,hk,hst⟩:=FV h;unfold Oper.wp;have:(execOp a.eval ⟨dst,.store ts x v,ty,pos,after,guard⟩).run P w = .ok .skip w':=by
     simp[execOp,hs.get hx,hs.get hv,hr]
    rw[this];exact⟨_,undef,hk,.inr rfl,rfl,hst⟩
   ·exact h.elim
  case binOp op tb x y ty2=>
   have hne:xz P op tb=true:=by simpa [ug] using hf
   split at h
   ·rename_i u v hx hy;rw[hne,cond_true]at h;obtain⟨c,hr,hk⟩:=h;refine mB (v:=.bool c) ?_ hk (.refl w);have hr':=hr w;rw[←hs.get hx,←hs.get hy]at hr';show(do pure (Next.value (←(do eqGuard op tb x y (a.eval x) (a.eval y);binOp op tb (a.eval x) (a.eval y):Sem Value))):Sem Next).run P w=_;exact nH hr'
   ·exact h.elim
  case lookup tm m k ok=>
   split at h
   ·rename_i u v hx hy;unfold tH at h;split at h
    ·split at h
     ·cases ok with
      | true=>
       simp only[cond_true]at h;obtain⟨kt,et,es,r,hu,hm,hkk,hr⟩:=h;cases r with
       | some p=>
        refine mB (v:=.tuple #[p.2,.bool true]) ?_ (qR hr) (.refl w);show(do pure (Next.value (←Instr.lookup tm (a.eval m) (a.eval k) true)):Sem Next).run P w=_;rw[hs.get hx,hs.get hy];exact nH (by simpa using sU (ok:=true) hu hm hkk)
       | none=>
        obtain⟨z,hz,hr⟩:=hr;refine mB (v:=.tuple #[z,.bool false]) ?_ (qR hr) (.refl w);show(do pure (Next.value (←Instr.lookup tm (a.eval m) (a.eval k) true)):Sem Next).run P w=_;rw[hs.get hx,hs.get hy];exact nH (by simpa using th (ok:=true) hu hm hkk hz)
      | false=>
       simp only[cond_false]at h;obtain⟨kt,et,es,r,hu,hm,hkk,hr⟩:=h;cases r with
       | some p=>
        refine mB (v:=p.2) ?_ (qR hr) (.refl w);show(do pure (Next.value (←Instr.lookup tm (a.eval m) (a.eval k) false)):Sem Next).run P w=_;rw[hs.get hx,hs.get hy];exact nH (by simpa using sU (ok:=false) hu hm hkk)
       | none=>
        obtain⟨z,hz,hr⟩:=hr;refine mB (v:=z) ?_ (qR hr) (.refl w);show(do pure (Next.value (←Instr.lookup tm (a.eval m) (a.eval k) false)):Sem Next).run P w=_;rw[hs.get hx,hs.get hy];exact nH (by simpa using th (ok:=false) hu hm hkk hz)
     ·exact h.elim
    ·exact h.elim
   ·exact h.elim
  case mapUpdate tm m k x=>
   split at h
   ·rename_i u v r hm hk hx;obtain⟨w',hr,hkk,hst⟩:=vB h;refine vX (s:=Instr.mapUpdate tm (a.eval m) (a.eval k) (a.eval x)) rfl ?_ hkk hst;rw[hs.get hm,hs.get hk,hs.get hx];exact hr
   ·exact h.elim
  case mapEntry tm m k=>
   split at h
   ·rename_i u v hm hk;obtain⟨w',v,n,hr,hkk,hst⟩:=D3 h;refine pK (s:=Instr.mapEntry tm (a.eval m) (a.eval k)) rfl ?_ hkk hst;rw[hs.get hm,hs.get hk];exact hr
   ·exact h.elim
  case entryStore tm m s x=>
   split at h
   ·rename_i u v r hm hk hx;obtain⟨w',hr,hkk,hst⟩:=Bb (tm:=tm) h;refine vX (s:=Instr.entryStore tm (a.eval m) (a.eval s) (a.eval x)) rfl ?_ hkk hst;rw[hs.get hm,hs.get hk,hs.get hx];exact hr
   ·exact h.elim
  case insert tm m k x=>
   split at h
   ·rename_i u v r hm hk hx;obtain⟨w',hr,hkk,hst⟩:=vB h;refine vX (s:=Instr.mapUpdate tm (a.eval m) (a.eval k) (a.eval x)) rfl ?_ hkk hst;rw[hs.get hm,hs.get hk,hs.get hx];exact hr
   ·exact h.elim
  case convert s d x=>
   split at h
   ·rename_i v hx;refine mg (s:=convert s d (a.eval x)) rfl ?_;rw[hs.get hx];exact Fp h
   ·exact h.elim
  case makeMap tm r=>
   split at h
   ·refine mg (s:=Instr.makeMap tm none) rfl ?_;exact λb hb=>h b hb
   ·exact h.elim
  case makeSlice ts l c=>
   split at h
   ·rename_i e kl l' kc c' hu hl hc;split at h
    ·rename_i i hi;split at h
     ·rename_i z hz;cases hb:Nat.beq z.cells.size i.size with
      | false=>simp[hb]at h
      | true=>
       simp only[hb,cond_true]at h;refine mg (s:=Instr.makeSlice ts (a.eval l) (a.eval c)) rfl ?_;rw[hs.get hl,hs.get hc];exact Cj hu hi hz (Nat.eq_of_beq_eq_true hb) h λ_ _ _ _ h=>h
     ·exact h.elim
    ·exact h.elim
   ·exact h.elim
  case call c=>
   obtain⟨callee,args,argTypes⟩:=c;split at h
   ·rename_i vs hvs;have ea:args.map a.eval=vs.toArray:=by rw[←Array.toList_inj];simpa using hs.all hvs
    simp only at h;split at h
    ·split at h
     ·rename_i ty' x hty;have et:argTypes = #[ty']:=by rw[←Array.toList_inj];simpa using hty
      subst et;refine mg (s:=Builtin.len_ #[ty'] ty #[x]) ?_ (NU h);simp[execOp,resolve,ea,invoke,builtin]
     ·exact h.elim
    ·simp[ug]at hf
    ·simp[ug]at hf
    ·refine mg (s:=Builtin.append_ argTypes ty vs.toArray) ?_ (ET h);simp[execOp,resolve,ea,invoke,builtin]
    ·refine mg (s:=Builtin.copy_ argTypes ty vs.toArray) ?_ (Mj h);simp[execOp,resolve,ea,invoke,builtin]
    ·refine mg (s:=Builtin.clear_ argTypes ty vs.toArray) ?_ (Jz h);simp[execOp,resolve,ea,invoke,builtin]
    ·obtain⟨w',hr,hkk,hst⟩:=Hi (rt:=ty) h;exact pK (s:=Builtin.delete_ argTypes ty vs.toArray) (by simp[execOp,resolve,ea,invoke,builtin]) hr hkk hst
    ·unfold Fs at h;split at h
     ·obtain⟨b,rfl,hc,hk⟩:=h;refine pK (s:=Builtin.unsafeSliceData_ argTypes ty #[.slice (some b) _ _]) (by simp[execOp,resolve,ea,invoke,builtin];rfl) ?_ hk (.refl w);show Sem.run P (ite (_ ≠ 0) (pure (Value.pointer (some b))) _) w=_;rw[if_pos hc];rfl
     ·exact h.elim
    ·obtain⟨w',v,hr,hkk,hst⟩:=M8 (rt:=ty) h;exact pK (s:=Builtin.unsafeString_ argTypes ty vs.toArray) (by simp[execOp,resolve,ea,invoke,builtin]) hr hkk hst
    ·rename_i g;refine BN he (f:=g) (args:=vs.toArray) ?_ (λ_ _ h=>h) h;simp[execOp,resolve,ea,Act.eval,Deferred.ofValue,invoke]
    ·rename_i i;split at h
     ·rename_i f hf';exact FB argTypes (.tmp i) args he rfl (hs.get (x:=.tmp i) hf') ea (λv h' hv=>Kj hv) h
     ·exact h.elim
    ·exact h.elim
   ·exact h.elim
end
end Go.Sh

/- The shallow form, 1: the memory as a function of block numbers, and what a run of the model comes to, whatever the tape and the new blocks' numbers. The shallow form, 2: the steps that touch memory, and loads and stores of whole values. The shallow form, 3: what each operation of the model says of its value. The shallow form, 4: regions, joins, loops, code and functions. The shallow form, 5: the operations that write nothing run as the form says. The shallow form, 6: operations without effect, calls, stores, copies and appends. The shallow form, 7: every operation is sound. -/
import Derived.Tactics2
import Derived.Below
import Derived.Orders
import Derived.KernelRfl
import Derived.WalkKit
import Derived.Laws.Sem
import Derived.Laws.Tables
import Derived.Great.BuildSlice
set_option linter.unusedSimpArgs false
set_option linter.unusedVariables false
namespace Go.Sh
open Go.RowKit
abbrev H:=Nat→Option Obj
def hp (w:World):H:=fun b=>w.heap[b]?
def H.cell (h:H) (a:Addr):Option Value:=
 match h a.block with
 | some (.cells c _ _)=>if a.spot.isSome then none else c[a.off]?
 | _=>none
def H.frozen (h:H) (a:Addr):Bool:=
 match h a.block with
 | some (.cells _ _ (lo,hi))=>lo≤a.off && a.off<hi
 | _=>false
def H.shape (h:H) (r:Nat):Option (TypeId × Nat):=
 match h r with
 | some (.cells c e _)=>some (e,c.size)
 | _=>none
def H.upd (h:H) (b:Nat) (o:Obj):H:=fun b'=>if b'=b then some o else h b'
def H.modify (h:H) (b:Nat) (f:Obj→Obj):H:=fun b'=>if b'=b then (h b').map f else h b'
def setIn (a:Addr) (v:Value):Obj→Obj
 | .cells c elem frozen=>.cells (if a.spot.isSome then c else c.setIfInBounds a.off v) elem frozen
 | o=>o
def H.set (h:H) (a:Addr) (v:Value):H:=h.modify a.block (setIn a v)
def freezeIn (a:Addr) (n:Nat):Obj→Obj
 | .cells c elem (lo,hi)=>.cells c elem (if lo == hi then (a.off,a.off+n) else (min lo a.off,max hi (a.off+n)))
 | o=>o
def H.freeze (h:H) (a:Addr) (n:Nat):H:=if n=0 then h else h.modify a.block (freezeIn a n)
theorem hp_cell (w:World) (a:Addr):w.cell? a=(hp w).cell a:=rfl
theorem hp_frozen (w:World) (a:Addr):w.frozen? a=(hp w).frozen a:=rfl
theorem hp_push (w:World) (o:Obj):hp { w with heap:=w.heap.push o } = (hp w).upd w.heap.size o:=by
 funext b
 simp only [hp,H.upd,Array.getElem?_push]
theorem hp_fresh (w:World):hp w w.heap.size=none:=by simp [hp]
theorem hp_modify (w:World) (b:Nat) (f:Obj→Obj):hp { w with heap:=w.heap.modify b f } = (hp w).modify b f:=by
 funext b'
 simp only [hp,H.modify,Array.getElem?_modify]
 by_cases e:b'=b
 ·subst e; simp
 ·have:¬ b=b':=fun x=>e x.symm
  simp [this,e]
theorem hp_set (w:World) (a:Addr) (v:Value):hp (w.setCell a v)=(hp w).set a v:=hp_modify w a.block (setIn a v)
theorem hp_freeze (w:World) (a:Addr) (n:Nat):hp (w.freeze a n)=(hp w).freeze a n:=by
 unfold World.freeze H.freeze
 split
 ·rfl
 ·exact hp_modify w a.block (freezeIn a n)
theorem hp_setObj (w:World) (r:Nat) (o:Obj) {o':Obj} (h:w.heap[r]? = some o'):hp { w with heap:=w.heap.setIfInBounds r o } = (hp w).upd r o:=by
 funext b
 have hlt:r<w.heap.size:=(Array.getElem?_eq_some_iff.1 h).1
 simp only [hp,H.upd,Array.getElem?_setIfInBounds]
 by_cases e:r=b
 ·subst e; simp [hlt]
 ·have:¬ b=r:=fun x=>e x.symm
  simp [e,this]
structure Stays (w w':World):Prop where
 os:w'.os=w.os
 tape:w'.tape=w.tape
 output:w'.output=w.output
 size:w.heap.size≤w'.heap.size
theorem Stays.refl (w:World):Stays w w:=⟨rfl,rfl,rfl,Nat.le_refl _⟩
theorem Stays.trans {a b c:World} (h:Stays a b) (k:Stays b c):Stays a c:=
 ⟨k.os.trans h.os,k.tape.trans h.tape,k.output.trans h.output,Nat.le_trans h.size k.size⟩
def isPlainCell:Value→Bool
 | .agg _=>false
 | .tuple _=>false
 | _=>true
def isCellsObj:Obj→Bool
 | .cells .. => true
 | _=>false
def wpS (P:Program) {α:Type}:Sem α → (α → H→Prop)→H→Prop
 | .pure a,Q,h=>Q a h
 | .load _ a k,Q,h=>∃ v,h.cell a=some v∧wpS P (k v) Q h
 | .store _ a v k,Q,h=>isPlainCell v=true∧(h.cell a).isSome=true∧h.frozen a=false∧wpS P k Q (h.set a v)
 | .new o k,Q,h=>∀ b,h b=none→wpS P (k b) Q (h.upd b o)
 | .shape r k,Q,h=>wpS P (k (h.shape r)) Q h
 | .freeze a n k,Q,h=>wpS P k Q (h.freeze a n)
 | .frozen a k,Q,h=>wpS P (k (h.frozen a)) Q h
 | .getObj r k,Q,h=>∃ o,h r=some o∧isCellsObj o=false∧wpS P (k o) Q h
 | .setObj r o k,Q,h=>∃ o',h r=some o'∧isCellsObj o'=false∧wpS P k Q (h.upd r o)
 | .choose q k,Q,h=>if q.forced then wpS P (k 0) Q h else ∀ t,wpS P (k (q.cut t)) Q h
 | .sys _ _,_,_=>False
 | .program k,Q,h=>wpS P (k P) Q h
 | .mark _ k,Q,h=>wpS P k Q h
 | .halt _,_,_=>False
theorem wpS_sound (P:Program) {α:Type} (s:Sem α):∀ (Q:α → H→Prop) (w:World),wpS P s Q (hp w)→∃ v w',s.run P w = .ok v w'∧Q v (hp w')∧Stays w w':=by
 induction s with
 | pure a=>intro Q w h; exact ⟨a,w,rfl,h,.refl w⟩
 | load m a k ih=>
  intro Q w ⟨v,hv,h⟩
  obtain ⟨r,w',e,q,s⟩:=ih v Q w h
  refine ⟨r,w',?_,q,s⟩
  unfold Sem.run
  rw [hp_cell,hv]; exact e
 | store m a v k ih=>
  intro Q w ⟨hv,hs,hf,h⟩
  rw [←hp_set] at h
  obtain ⟨r,w',e,q,s⟩:=ih Q (w.setCell a v) h
  have hrun:Sem.run P (.store m a v k) w=k.run P (w.setCell a v):=by
   obtain ⟨u,hu⟩:=Option.isSome_iff_exists.1 hs
   rw [←hp_cell] at hu
   rw [←hp_frozen] at hf
   cases v <;> first | (simp [isPlainCell] at hv; done) | simp [Sem.run,hu,hf]
  exact ⟨r,w',by rw [hrun]; exact e,q,s.os,s.tape,s.output,Nat.le_trans (by simp) s.size⟩
 | new o k ih=>
  intro Q w h
  have h1:=h w.heap.size (hp_fresh w)
  rw [←hp_push] at h1
  obtain ⟨r,w',e,q,s⟩:=ih _ Q _ h1
  exact ⟨r,w',e,q,s.os,s.tape,s.output,Nat.le_trans (by simp) s.size⟩
 | shape r k ih=>intro Q w h; obtain ⟨r,w',e,q,s⟩:=ih _ Q w h; exact ⟨r,w',e,q,s⟩
 | freeze a n k ih=>
  intro Q w h
  unfold wpS at h
  rw [←hp_freeze] at h
  obtain ⟨r,w',e,q,s⟩:=ih Q _ h
  refine ⟨r,w',e,q,Stays.trans ?_ s⟩
  unfold World.freeze
  split
  ·exact .refl w
  ·exact ⟨rfl,rfl,rfl,by simp⟩
 | frozen a k ih=>intro Q w h; obtain ⟨r,w',e,q,s⟩:=ih _ Q w h; exact ⟨r,w',e,q,s⟩
 | getObj r k ih=>
  intro Q w ⟨o,ho,hc,h⟩
  obtain ⟨v,w',e,q,s⟩:=ih _ Q w h
  refine ⟨v,w',?_,q,s⟩
  have ho':w.heap[r]? = some o:=ho
  cases o <;> first | (simp [isCellsObj] at hc; done) | (simp only [Sem.run,ho']; exact e)
 | setObj r o k ih=>
  intro Q w ⟨o',ho,hc,h⟩
  have ho':w.heap[r]? = some o':=ho
  rw [←hp_setObj w r o ho'] at h
  obtain ⟨v,w',e,q,s⟩:=ih Q _ h
  refine ⟨v,w',?_,q,s.os,s.tape,s.output,Nat.le_trans (by simp) s.size⟩
  cases o' <;> first | (simp [isCellsObj] at hc; done) | (simp only [Sem.run,ho']; exact e)
 | choose q k ih=>
  intro Q w h
  unfold wpS at h
  by_cases hf:q.forced=true
  ·rw [if_pos hf] at h
   obtain ⟨v,w',e,qq,s⟩:=ih _ Q w h
   exact ⟨v,w',by simp only [Sem.run,hf,if_true]; exact e,qq,s⟩
  ·rw [if_neg hf] at h
   obtain ⟨v,w',e,qq,s⟩:=ih _ Q { w with drawn:=w.drawn+1 } (h (w.tape w.drawn q))
   refine ⟨v,w',?_,qq,s.os,s.tape,s.output,s.size⟩
   simp only [Sem.run,hf]
   exact e
 | sys c k ih=>intro Q w h; exact h.elim
 | program k ih=>intro Q w h; obtain ⟨r,w',e,q,s⟩:=ih _ Q w h; exact ⟨r,w',e,q,s⟩
 | mark m k ih=>intro Q w h; obtain ⟨r,w',e,q,s⟩:=ih Q w h; exact ⟨r,w',e,q,s⟩
 | halt h=>intro Q w hh; exact hh.elim
theorem wpS_bind (P:Program) {α β:Type} (s:Sem α) (f:α → Sem β):∀ (Q:β → H→Prop) (h:H),wpS P (s.bind f) Q h=wpS P s (fun a h'=>wpS P (f a) Q h') h:=by
 induction s with
 | pure a=>intro Q h; rfl
 | load m a k ih=>intro Q h; simp only [Sem.bind,wpS,ih]
 | store m a v k ih=>intro Q h; simp only [Sem.bind,wpS,ih]
 | new o k ih=>intro Q h; simp only [Sem.bind,wpS,ih]
 | shape r k ih=>intro Q h; simp only [Sem.bind,wpS,ih]
 | freeze a n k ih=>intro Q h; simp only [Sem.bind,wpS,ih]
 | frozen a k ih=>intro Q h; simp only [Sem.bind,wpS,ih]
 | getObj r k ih=>intro Q h; simp only [Sem.bind,wpS,ih]
 | setObj r o k ih=>intro Q h; simp only [Sem.bind,wpS,ih]
 | choose q k ih=>intro Q h; simp only [Sem.bind,wpS,ih]
 | sys c k ih=>intro Q h; rfl
 | program k ih=>intro Q h; simp only [Sem.bind,wpS,ih]
 | mark m k ih=>intro Q h; simp only [Sem.bind,wpS,ih]
 | halt h=>intro Q h; rfl
/-! ### The memory's small laws -/
theorem H.upd_self (h:H) (b:Nat) (o:Obj):(h.upd b o) b=some o:=by simp [H.upd]
theorem H.upd_ne (h:H) {b b':Nat} (o:Obj) (e:b'≠b):(h.upd b o) b'=h b':=by simp [H.upd,e]
theorem H.frozen_set (h:H) (p q:Addr) (v:Value):(h.set p v).frozen q=h.frozen q:=by
 unfold H.frozen H.set H.modify
 by_cases e:q.block=p.block
 ·rw [if_pos e]
  cases hq:h q.block with
  | none=>rfl
  | some o=>cases o <;> rfl
 ·rw [if_neg e]
theorem H.cell_set_isSome (h:H) (p q:Addr) (v:Value):((h.set p v).cell q).isSome=(h.cell q).isSome:=by
 unfold H.cell H.set H.modify
 by_cases e:q.block=p.block
 ·rw [if_pos e]
  cases hq:h q.block with
  | none=>rfl
  | some o=>
   cases o <;> try rfl
   rename_i c t f
   simp only [Option.map_some,setIn]
   by_cases hs:q.spot.isSome=true
   ·simp [hs]
   ·simp only [hs]
    have hp:∀ x:Nat,((if p.spot.isSome=true then c else c.setIfInBounds p.off v)[x]?).isSome=(c[x]?).isSome:=by
     intro x
     split
     ·rfl
     ·by_cases hx:p.off=x
      ·subst hx; by_cases hl:p.off<c.size <;> simp [hl]
      ·simp [Array.getElem?_setIfInBounds_ne hx]
    simpa using hp q.off
 ·rw [if_neg e]
end Go.Sh
namespace Go.Sh
open Go.RowKit
namespace M
def nn (p:Option Addr) (K:Addr→Prop):Prop:=∃ a,p=some a∧K a
def load (h:H) (a:Addr) (K:Value→Prop):Prop:=∃ v,h.cell a=some v∧K v
def int (k:IntKind) (v:Value) (K:Int→Prop):Prop:=∃ n,v = .int k n∧K n
def bool (v:Value) (K:Bool→Prop):Prop:=∃ b,v = .bool b∧K b
def str (v:Value) (K:ByteArray→Prop):Prop:=∃ s,v = .string s∧K s
def ptr (v:Value) (K:Option Addr→Prop):Prop:=∃ p,v = .pointer p∧K p
def slc (v:Value) (K:Option Addr→Nat→Nat→Prop):Prop:=∃ a l c,v = .slice a l c∧K a l c
def map (v:Value) (K:Option Nat→Prop):Prop:=∃ r,v = .map r∧K r
def agg (v:Value) (K:Array Value→Prop):Prop:=∃ cs,v = .agg cs∧K cs
def new (h:H) (o:Obj) (K:Nat→H→Prop):Prop:=∀ b,h b=none→K b (h.upd b o)
def put (h:H) (a:Addr) (v:Value) (K:H→Prop):Prop:=isPlainCell v=true∧(h.cell a).isSome=true∧h.frozen a=false∧K (h.set a v)
def val (n:Int) (K:Int→Prop):Prop:=K n
def req (p K:Prop):Prop:=p∧K
end M
def H.sets (h:H) (a:Addr):Nat→List Value→H
 | _,[]=>h
 | i,v::r=>H.sets (h.set (a.add i) v) a (i+1) r
def M.puts (h:H) (a:Addr) (vs:List Value) (K:H→Prop):Prop:=
 (∀ v ∈ vs,isPlainCell v=true)∧(∀ i,i<vs.length→(h.cell (a.add i)).isSome=true∧h.frozen (a.add i)=false)∧K (h.sets a 0 vs)
def rowAt (h:H) (a:Addr) (cs:List Value):Prop:=∀ i,i<cs.length→h.cell (a.add i)=cs[i]?
def M.row (h:H) (a:Addr) (n:Nat) (K:List Value→Prop):Prop:=∃ cs:List Value,cs.length=n∧rowAt h a cs∧K cs
inductive Sh where
 | int (k:IntKind) | bool | str | ptr | slc | map | agg | raw | adr | agt (l:List Sh)
def typ:Sh→Value→(Value→Prop)→Prop
 | .int k,v,K=>M.int k v fun n=>K (.int k n)
 | .bool,v,K=>M.bool v fun b=>K (.bool b)
 | .str,v,K=>M.str v fun s=>K (.string s)
 | .ptr,v,K=>M.ptr v fun p=>K (.pointer p)
 | .slc,v,K=>M.slc v fun a l c=>K (.slice a l c)
 | .map,v,K=>M.map v fun r=>K (.map r)
 | .agg,v,K=>M.agg v fun cs=>K (.agg cs)
 | .adr,v,K=>∃ a,v = .pointer (some a)∧K (.pointer (some a))
 | .agt _,v,K=>K v
 | .raw,v,K=>K v
theorem typ_out {s:Sh} {v:Value} {K:Value→Prop} (h:typ s v K):K v:=by
 cases s <;> simp only [typ] at h <;> first | exact h | (obtain ⟨_,rfl,h⟩:=h; exact h) | (obtain ⟨_,_,_,rfl,h⟩:=h; exact h)
inductive LK where
 | one (s:Sh) | agg | bad
def lkOf:Option TypeDesc→LK
 | some .bool=>.one .bool
 | some (.int k)=>.one (.int k)
 | some .string=>.one .str
 | some (.pointer _)=>.one .ptr
 | some (.slice _)=>.one .slc
 | some (.map _ _)=>.one .map
 | some (.struct _)=>.agg
 | some (.array _ _)=>.agg
 | some _=>.one .raw
 | none=>.bad
def catO {α:Type}:List (Option (List α))→Option (List α)
 | []=>some []
 | none::_=>none
 | some l::r=>match catO r with | some m=>some (l++m) | none=>none
def flatSh (P:Program):Nat→TypeId→Option (List Sh)
 | 0,_=>none
 | d+1,t=>
  match P.underlying t with
  | some (.struct fs)=>catO (fs.toList.map fun f=>flatSh P d f.type)
  | some (.array n e)=>match flatSh P d e with | some l=>some (List.flatten (List.replicate n l)) | none=>none
  | d=>match lkOf d with | .one s=>some [s] | _=>none
def evCells (h:H) (a:Addr):Nat→List Sh→List Value→(List Value→Prop)→Prop
 | _,[],acc,K=>K acc.reverse
 | i,s::r,acc,K=>M.load h (a.add i) fun v=>typ s v fun v'=>evCells h a (i+1) r (v'::acc) K
def smallAgg:Nat:=12
def M.at (cs:Array Value) (i:Nat) (K:Value→Prop):Prop:=∃ v,cs[i]? = some v∧K v
def evParts (cs:Array Value):Nat→List Sh→List Value→(List Value→Prop)→Prop
 | _,[],acc,K=>K acc.reverse
 | i,s::r,acc,K=>M.at cs i fun v=>typ s v fun v'=>evParts cs (i+1) r (v'::acc) K
def evPart (P:Program) (small:Bool) (t:TypeId) (cs:Array Value) (off:Nat) (K:Value→Prop):Prop:=
 match lkOf (P.underlying t) with
 | .one s=>bif small then (match cs.toList[off]? with | some v=>K v | none=>False) else M.at cs off fun v=>typ s v K
 | .agg=>
  bif small then K (.agg ((cs.toList.drop off).take (P.cellsOf t)).toArray)
  else bif Nat.ble (P.cellsOf t) smallAgg then
   (match flatSh P 20 t with
   | some l=>bif Nat.beq l.length (P.cellsOf t) then evParts cs off l [] fun vs=>K (.agg vs.toArray) else False
   | none=>False)
  else K (.agg (cs.extract off (off+P.cellsOf t)))
 | .bad=>False
def evLoad (P:Program) (t:TypeId) (a:Addr) (K:Value→Prop) (h:H):Prop:=
 match lkOf (P.underlying t) with
 | .one s=>bif Nat.beq (P.cellsOf t) 1 then M.load h a fun v=>typ s v K else False
 | .agg=>
  match P.info? t with
  | some i=>
   bif Nat.ble i.size smallAgg then
    match flatSh P 20 t with
    | some l=>bif Nat.beq l.length i.size then evCells h a 0 l [] fun vs=>K (.agg vs.toArray) else False
    | none=>False
   else M.row h a i.size fun cs=>K (.agg cs.toArray)
  | none=>False
 | .bad=>False
def evStore (P:Program) (t:TypeId) (a:Addr) (v:Value) (K:H→Prop) (h:H):Prop:=
 match P.info? t with
 | some i=>
  match lkOf (P.underlying t) with
  | .one _=>bif Nat.beq i.size 1 then M.put h a v K else False
  | .agg=>match v with | .agg cs=>M.req (cs.size=i.size) (M.puts h a cs.toList K) | _=>False
  | .bad=>False
 | none=>False
section
variable {P:Program}
theorem lkOf_one {d:Option TypeDesc} {s:Sh} (h:lkOf d = .one s):∃ d',d=some d'∧(match d' with | .struct _ | .array _ _=>False | _=>True):=by
 unfold lkOf at h
 split at h <;> first | (simp at h; done) | exact ⟨_,rfl,trivial⟩ | skip
 rename_i d' h1 h2 h3 h4 h5 h6 h7 h8
 refine ⟨d',rfl,?_⟩
 split <;> simp_all
theorem lkOf_agg {d:Option TypeDesc} (h:lkOf d = .agg):(∃ fs,d=some (.struct fs))∨(∃ n e,d=some (.array n e)):=by
 unfold lkOf at h
 split at h <;> first | (simp at h; done) | exact .inl ⟨_,rfl⟩ | exact .inr ⟨_,_,rfl⟩
theorem evCells_out {h:H} {a:Addr} {K:List Value→Prop}:∀ (l:List Sh) (i:Nat) (acc:List Value),evCells h a i l acc K →
  ∃ cs,cs.length=l.length∧(∀ j,j<cs.length→h.cell (a.add (i+j))=cs[j]?)∧K (acc.reverse++cs)
 | [],i,acc,hh=>⟨[],rfl,fun j hj=>by simp at hj,by rw [List.append_nil]; exact hh⟩
 | s::r,i,acc,hh=>by
  obtain ⟨v,hv,hh⟩:=hh
  obtain ⟨cs,hl,hc,hk⟩:=evCells_out r (i+1) (v::acc) (typ_out hh)
  refine ⟨v::cs,by simp [hl],fun j hj=>?_,by simpa using hk⟩
  cases j with
  | zero=>simpa using hv
  | succ j=>have:=hc j (by simpa using hj); rw [show i+(j+1)=i+1+j by omega]; simpa using this
theorem wpS_loadCells {h:H} {a:Addr} {Q:Array Value→H→Prop}:∀ (cs:List Value) (i:Nat) (acc:Array Value),(∀ j,j<cs.length→h.cell (a.add (i+j))=cs[j]?)→Q (acc++cs.toArray) h →
  wpS P (loadCellsFrom a i cs.length acc) Q h
 | [],i,acc,_,hq=>by simpa [loadCellsFrom,wpS,pure] using hq
 | v::r,i,acc,hc,hq=>by
  have h0:=hc 0 (by simp)
  simp only [List.length_cons,loadCellsFrom]
  rw [show (do let v ←load (a.add i); loadCellsFrom a (i+1) r.length (acc.push v):Sem (Array Value))=Sem.bind (load (a.add i)) fun v=>loadCellsFrom a (i+1) r.length (acc.push v) from rfl,wpS_bind]
  refine ⟨v,by simpa using h0,?_⟩
  refine wpS_loadCells r (i+1) (acc.push v) (fun j hj=>?_) ?_
  ·have:=hc (j+1) (by simpa using hj)
   rw [show i+1+j=i+(j+1) by omega]; simpa using this
  ·simpa using hq
theorem wpS_storeCells {a:Addr} {Q:Unit→H→Prop}:∀ (vs:List Value) (i:Nat) (h:H),(∀ v ∈ vs,isPlainCell v=true) →
  (∀ j,j<vs.length→(h.cell (a.add (i+j))).isSome=true∧h.frozen (a.add (i+j))=false)→Q () (h.sets a i vs)→wpS P (storeCells a vs i) Q h
 | [],i,h,_,_,hq=>hq
 | v::r,i,h,hp,hc,hq=>by
  have h0:=hc 0 (by simp)
  rw [Nat.add_zero] at h0
  rw [show storeCells a (v::r) i=Sem.bind (store (a.add i) v) fun _=>storeCells a r (i+1) from rfl,wpS_bind]
  refine ⟨hp v (by simp),h0.1,h0.2,?_⟩
  refine wpS_storeCells r (i+1) (h.set (a.add i) v) (fun u hu=>hp u (by simp [hu])) (fun j hj=>?_) hq
  rw [H.cell_set_isSome,H.frozen_set]
  have:=hc (j+1) (by simpa using hj)
  rw [show i+1+j=i+(j+1) by omega]; exact this
end
end Go.Sh
namespace Go.Sh
open Go.RowKit
abbrev W:=Array Value→(Value→H→Prop)→H→Prop
abbrev Env:=FuncId→W
abbrev Tm:=Nat→Option Value
def Tm.put (t:Tm) (d:Option Nat) (v:Option Value):Tm:=
 match d with
 | none=>t
 | some d=>fun i=>bif Nat.beq i d then v else t i
def Tm.get (t:Tm):Operand→Option Value
 | .tmp i=>t i
 | .const v=>some v
 | .global g=>some (.pointer (some ⟨g,0,none⟩))
 | .func f=>some (.func (.func f) #[] #[])
def Tm.all (t:Tm):List Operand→Option (List Value)
 | []=>some []
 | x::r=>match t.get x with | some v=>(match Tm.all t r with | some l=>some (v::l) | none=>none) | none=>none
def Tm.val (t:Tm) (x:Operand):Value:=match t.get x with | some v=>v | none=>undef
def kEq (k k':IntKind):Bool:=decide (k=k')
def bAnd (k:IntKind) (a b:Int):Int:=k.wrap ((BitVec.ofInt k.bits a &&& BitVec.ofInt k.bits b).toNat)
def bOr (k:IntKind) (a b:Int):Int:=k.wrap ((BitVec.ofInt k.bits a ||| BitVec.ofInt k.bits b).toNat)
def bXor (k:IntKind) (a b:Int):Int:=k.wrap ((BitVec.ofInt k.bits a ^^^ BitVec.ofInt k.bits b).toNat)
def bAndNot (k:IntKind) (a b:Int):Int:=k.wrap ((BitVec.ofInt k.bits a &&& ~~~(BitVec.ofInt k.bits b)).toNat)
def bNot (k:IntKind) (a:Int):Int:=bXor k (if k.signed then -1 else k.max) a
def shl (k:IntKind) (a b:Int):Int:=k.wrap (a*2 ^ (min b.toNat k.bits))
def shr (k:IntKind) (a b:Int):Int:=a.fdiv (2 ^ (min b.toNat k.bits))
def strEq (x y:ByteArray):Bool:=x.toList == y.toList
def strLt (x y:ByteArray):Bool:=Op.bytesLess x.toList y.toList
def byteAt (s:ByteArray) (i:Nat):Int:=((s.data.toList.getD i 0).toNat:Int)
def sliceAddr (a:Option Addr) (m l size:Nat):Option Addr:=if m=l then a else a.map (·.add (l*size))
def ofBytes (zs:List Int):ByteArray:=⟨(zs.map fun z=>UInt8.ofNat z.toNat).toArray⟩
def bytesOf (s:ByteArray):List Value:=s.data.toList.map fun b=>.int .u8 b.toNat
def zerosOf (zero:List Value) (n:Nat):List Value:=List.flatten (List.replicate n zero)
def mn (x y:Int):Int:=if y<x then y else x
def mx (x y:Int):Int:=if y > x then y else x
namespace M
def shr0 (b:Int) (K:Prop):Prop:=0≤b∧K
def nz (b:Int) (K:Prop):Prop:=b≠0∧K
def cat (x y:ByteArray) (K:ByteArray→Prop):Prop:=((x.size+y.size:Nat):Int)≤IntKind.i64.max∧K (x++y)
def byte (s:ByteArray) (i:Int) (K:Int→Prop):Prop:=0≤i∧i<s.size∧K (byteAt s i.toNat)
def idx (a:Option Addr) (len:Nat) (i:Int) (K:Addr→Nat→Prop):Prop:=∃ b,a=some b∧0≤i∧i<len∧K b i.toNat
def aidx (len:Nat) (i:Int) (K:Nat→Prop):Prop:=0≤i∧i<len∧K i.toNat
def bnd (lo:Int) (hi:Int) (m:Nat) (K:Nat→Nat→Prop):Prop:=0≤lo∧lo≤hi∧hi≤m∧K lo.toNat hi.toNat
def ssub (s:ByteArray) (lo hi:Int) (K:ByteArray→Prop):Prop:=bnd lo hi s.size fun l h=>K (s.extract l h)
def sub (a:Option Addr) (cap:Nat) (size:Nat) (lo hi:Int) (K:Option Addr→Nat→Nat→Prop):Prop:=
 bnd lo hi cap fun l h=>K (sliceAddr a cap l size) (h-l) (cap-l)
def mk (h:H) (e:TypeId) (zero:List Value) (bytes:Nat) (l c:Int) (K:Option Addr→Nat→Nat→H→Prop):Prop:=
 0≤l∧l≤c∧(bytes:Int)*c≤281474976710656∧c≤9223372036854775807 ∧
  ∀ b,h b=none→K (some ⟨b,0,none⟩) l.toNat c.toNat (h.upd b (.cells (zerosOf zero c.toNat).toArray e))
def b2s (h:H) (a:Option Addr) (n:Nat) (K:ByteArray→Prop):Prop:=
 (a=none→K .empty)∧∀ b,a=some b→∃ zs:List Int,zs.length=n∧rowAt h b (zs.map (Value.int .u8))∧K (ofBytes zs)
def s2b (h:H) (e:TypeId) (s:ByteArray) (K:Option Addr→Nat→Nat→H→Prop):Prop:=
 ∀ c,s.size≤c→∀ b,h b=none→K (some ⟨b,0,none⟩) s.size c (h.upd b (.cells (bytesOf s++List.replicate (c-s.size) (Value.int .u8 0)).toArray e (c,c+1)))
def cellsOf (h:H) (a:Option Addr) (n:Nat) (K:List Value→Prop):Prop:=
 (a=none→K [])∧∀ b,a=some b→row h b n K
def app (h:H) (e:TypeId) (size bytes:Nat) (zero:List Value) (base:Option Addr) (len cap n:Nat) (new:List Value) (K:Option Addr→Nat→Nat→H→Prop):Prop:=
 (len+n≤cap→(base=none→K base (len+n) cap h)∧∀ a,base=some a→puts h (a.add (len*size)) new fun h'=>K base (len+n) cap h') ∧
 (cap<len+n→((len+n:Nat):Int)≤IntKind.i64.max∧Builtin.nextslicecap (len+n) cap*bytes≤281474976710656 ∧
  cellsOf h base (len*size) fun old=>∀ c,len+n≤c→∀ b,h b=none→K (some ⟨b,0,none⟩) (len+n) c (h.upd b (.cells (old++new++zerosOf zero (c-(len+n))).toArray e)))
def copy (h:H) (dst:Option Addr) (new:List Value) (K:H→Prop):Prop:=
 (dst=none→K h)∧∀ a,dst=some a→puts h a new K
def sub3 (a:Option Addr) (cap size:Nat) (lo hi m:Int) (K:Option Addr→Nat→Nat→Prop):Prop:=
 0≤lo∧lo≤hi∧hi≤m∧m≤cap∧K (sliceAddr a m.toNat lo.toNat size) (hi.toNat-lo.toNat) (m.toNat-lo.toNat)
def appz (h:H) (e:TypeId) (size bytes:Nat) (zero:List Value) (base:Option Addr) (len cap:Nat) (n:Int) (K:Option Addr→Nat→Nat→H→Prop):Prop:=
 0≤n∧(bytes:Int)*n≤281474976710656∧n≤9223372036854775807∧app h e size bytes zero base len cap n.toNat (zerosOf zero n.toNat) K
def mlen (h:H) (r:Option Nat) (K:Int→Prop):Prop:=(r=none→K 0)∧∀ b,r=some b→∃ es c,h b=some (.map es c)∧K es.size
end M
def evInt (op:BinOp) (k:IntKind) (a:Int) (k':IntKind) (b:Int) (K:Value→Prop):Prop:=
 match op with
 | .shl=>M.shr0 b (M.val (shl k a b) fun z=>K (.int k z))
 | .shr=>M.shr0 b (M.val (shr k a b) fun z=>K (.int k z))
 | op=>bif kEq k k' then
   match op with
   | .add=>M.val (k.wrap (a+b)) fun z=>K (.int k z)
   | .sub=>M.val (k.wrap (a-b)) fun z=>K (.int k z)
   | .mul=>M.val (k.wrap (a*b)) fun z=>K (.int k z)
   | .quo=>M.nz b (M.val (k.wrap (a.tdiv b)) fun z=>K (.int k z))
   | .rem=>M.nz b (M.val (a.tmod b) fun z=>K (.int k z))
   | .and=>M.val (bAnd k a b) fun z=>K (.int k z)
   | .or=>M.val (bOr k a b) fun z=>K (.int k z)
   | .xor=>M.val (bXor k a b) fun z=>K (.int k z)
   | .andNot=>M.val (bAndNot k a b) fun z=>K (.int k z)
   | .eql=>K (.bool (a == b))
   | .neq=>K (.bool (a != b))
   | .lss=>K (.bool (decide (a<b)))
   | .leq=>K (.bool (decide (a≤b)))
   | .gtr=>K (.bool (decide (a > b)))
   | .geq=>K (.bool (decide (a ≥ b)))
   | _=>False
  else False
def evStr (op:BinOp) (x y:ByteArray) (K:Value→Prop):Prop:=
 match op with
 | .add=>M.cat x y fun s=>K (.string s)
 | .eql=>K (.bool (strEq x y))
 | .neq=>K (.bool (!strEq x y))
 | .lss=>K (.bool (strLt x y))
 | .leq=>K (.bool (strLt x y || strEq x y))
 | .gtr=>K (.bool (!(strLt x y || strEq x y)))
 | .geq=>K (.bool (!strLt x y))
 | _=>False
def evEq (d:Option TypeDesc) (y:Operand) (a b:Value) (K:Bool→Prop):Prop:=
 match d with
 | some .bool=>match a,b with | .bool p,.bool q=>K (p == q) | _,_=>False
 | some (.pointer _)=>match y with
  | .const (.pointer none)=>(match a with | .pointer p=>K p.isNone | _=>False)
  | _=>False
 | some (.slice _)=>match y with | .const (.slice none _ _)=>(match a with | .slice p _ _=>K p.isNone | _=>False) | _=>False
 | some (.map _ _)=>match y with | .const (.map none)=>(match a with | .map p=>K p.isNone | _=>False) | _=>False
 | _=>False
def evBin (P:Program) (op:BinOp) (ty:TypeId) (y:Operand) (a b:Value) (K:Value→Prop):Prop:=
 match P.underlying ty with
 | some (.int _)=>match a,b with | .int k m,.int k' n=>evInt op k m k' n K | _,_=>False
 | some .string=>match a,b with | .string s,.string s'=>evStr op s s' K | _,_=>False
 | d=>match op with
  | .eql=>evEq d y a b (fun c=>K (.bool c))
  | .neq=>evEq d y a b (fun c=>K (.bool (!c)))
  | _=>False
def evConv (P:Program) (s d:TypeId) (x:Value) (K:Value→H→Prop) (h:H):Prop:=
 match P.underlying d with
 | some (.int k)=>(match P.underlying s,x with | some _,.int _ n=>M.val (k.wrap n) fun z=>K (.int k z) h | _,_=>False)
 | some .string=>(match P.underlying s with
  | some .string=>(match x with | .string _=>K x h | _=>False)
  | some (.slice e)=>(match P.underlying e with
   | some (.int .u8)=>(match x with | .slice a n _=>M.b2s h a n fun s=>K (.string s) h | _=>False)
   | _=>False)
  | _=>False)
 | some (.slice e)=>(match P.underlying s with
  | some .string=>(match P.underlying e with
   | some (.int .u8)=>(match x with | .string s=>M.s2b h e s fun a n c h'=>K (.slice a n c) h' | _=>False)
   | _=>False)
  | _=>False)
 | _=>False
def intOr (d:Int):Option Value→Option Int
 | none=>some d
 | some (.int _ n)=>some n
 | _=>none
def evSlice (P:Program) (t:TypeId) (x:Value) (lo hi:Option Value) (K:Value→Prop):Prop:=
 match P.underlying t with
 | some .string=>(match x with
  | .string s=>(match intOr 0 lo,intOr s.size hi with | some l,some u=>M.ssub s l u fun r=>K (.string r) | _,_=>False)
  | _=>False)
 | some (.slice e)=>(match x,P.info? e with
  | .slice a n c,some i=>(match intOr 0 lo,intOr n hi with | some l,some u=>M.sub a c i.size l u fun a' n' c'=>K (.slice a' n' c') | _,_=>False)
  | _,_=>False)
 | some (.array n e)=>(match x,P.info? e with
  | .pointer (some a),some i=>(match intOr 0 lo,intOr n hi with | some l,some u=>M.sub (some a) n i.size l u fun a' n' c'=>K (.slice a' n' c') | _,_=>False)
  | _,_=>False)
 | _=>False
def evSlice3 (P:Program) (t:TypeId) (x lo hi m:Value) (K:Value→Prop):Prop:=
 match P.underlying t with
 | some (.slice e)=>(match x,P.info? e,lo,hi,m with
  | .slice a _ c,some i,.int _ l,.int _ u,.int _ m=>M.sub3 a c i.size l u m fun a' n' c'=>K (.slice a' n' c')
  | _,_,_,_,_=>False)
 | _=>False
def evIndexAddr (P:Program) (t:TypeId) (x i:Value) (K:Value→Prop):Prop:=
 match i with
 | .int _ i=>
  match P.underlying t with
  | some (.slice e)=>(match x,P.info? e with | .slice a n _,some d=>M.idx a n i fun b j=>K (.pointer (some (b.add (j*d.size)))) | _,_=>False)
  | some (.array n e)=>(match x,P.info? e with | .pointer (some a),some d=>M.aidx n i fun j=>K (.pointer (some (a.add (j*d.size)))) | _,_=>False)
  | _=>False
 | _=>False
def evIndex (P:Program) (t:TypeId) (x i:Value) (K:Value→Prop):Prop:=
 match i with
 | .int _ i=>
  match P.underlying t with
  | some .string=>(match x with | .string s=>M.byte s i fun z=>K (.int .u8 z) | _=>False)
  | some (.array n e)=>(match x with
   | .agg cs=>M.aidx n i fun j=>evPart P false e cs (j*P.cellsOf e) K
   | _=>False)
  | _=>False
 | _=>False
def evField (P:Program) (t:TypeId) (x:Value) (f:Nat) (K:Value→Prop):Prop:=
 match P.underlying t with
 | some (.struct fs)=>(match fs[f]?,x with
  | some fd,.agg cs=>evPart P (Nat.ble (P.cellsOf t) smallAgg) fd.type cs fd.offset K
  | _,_=>False)
 | _=>False
def evFieldAddr (P:Program) (t:TypeId) (x:Value) (f:Nat) (K:Value→Prop):Prop:=
 match P.underlying t with
 | some (.struct fs)=>(match fs[f]? with
  | some fd=>bif Nat.beq (P.cellsOf fd.type) 0 then False else (match x with | .pointer (some a)=>K (.pointer (some (a.add fd.offset))) | _=>False)
  | none=>False)
 | _=>False
def evLen (P:Program) (t:TypeId) (x:Value) (K:Value→H→Prop) (h:H):Prop:=
 match P.underlying t with
 | some .string=>(match x with | .string s=>K (.int .i64 s.size) h | _=>False)
 | some (.slice _)=>(match x with | .slice _ n _=>K (.int .i64 n) h | _=>False)
 | some (.array n _)=>K (.int .i64 n) h
 | some (.pointer a)=>(match P.underlying a with | some (.array n _)=>K (.int .i64 n) h | _=>False)
 | some (.map _ _)=>(match x with | .map r=>M.mlen h r fun n=>K (.int .i64 n) h | _=>False)
 | _=>False
def foldInt (f:Int→Int→Int) (k:IntKind):List Value→Int→Option Int
 | [],x=>some x
 | .int _ y::r,x=>foldInt f k r (f x y)
 | _ :: _,_=>none
def evMinMax (f:Int→Int→Int) (args:List Value) (K:Value→Prop):Prop:=
 match args with
 | .int k x::r=>(match foldInt f k r x with | some z=>K (.int k z) | none=>False)
 | _=>False
def evAppend (P:Program) (ts:Array TypeId) (args:List Value) (K:Value→H→Prop) (h:H):Prop:=
 match ts.toList,args with
 | [st,xt],[s,x]=>
  match P.underlying st,s with
  | some (.slice e),.slice base len cap=>
   match P.info? e with
   | some i=>
    match i.zero,P.underlying xt with
    | some z,some (.slice _)=>(match x with
     | .slice xa n _=>M.cellsOf h xa (n*i.size) fun new=>M.app h e i.size i.bytes z.cells.toList base len cap n new fun a l c h'=>K (.slice a l c) h'
     | _=>False)
    | some z,some .string=>(match x with
     | .string s=>M.app h e i.size i.bytes z.cells.toList base len cap s.size (bytesOf s) fun a l c h'=>K (.slice a l c) h'
     | _=>False)
    | some z,some (.int _)=>(match x with
     | .int _ n=>bif Nat.beq z.cells.size i.size then M.appz h e i.size i.bytes z.cells.toList base len cap n fun a l c h'=>K (.slice a l c) h' else False
     | _=>False)
    | _,_=>False
   | none=>False
  | _,_=>False
 | _,_=>False
def evCopy (P:Program) (ts:Array TypeId) (args:List Value) (K:Value→H→Prop) (h:H):Prop:=
 match ts.toList,args with
 | [dt,_],[.slice dst dl _,x]=>
  match P.underlying dt with
  | some (.slice e)=>
   match P.info? e with
   | some i=>(match x with
    | .slice xa n _=>M.cellsOf h xa (min n dl*i.size) fun new=>M.copy h dst new fun h'=>K (.int .i64 (min n dl:Nat)) h'
    | .string s=>M.copy h dst (bytesOf (s.extract 0 (min s.size dl))) fun h'=>K (.int .i64 (min s.size dl:Nat)) h'
    | _=>False)
   | none=>False
  | _=>False
 | _,_=>False
def evClear (P:Program) (ts:Array TypeId) (args:List Value) (K:Value→H→Prop) (h:H):Prop:=
 match ts.toList,args with
 | [t],[.slice a n _]=>
  match P.underlying t with
  | some (.slice e)=>
   match P.info? e with
   | some i=>(match i.zero with
    | some z=>M.copy h a (zerosOf z.cells.toList n) fun h'=>K (.tuple #[]) h'
    | none=>False)
   | none=>False
  | _=>False
 | _,_=>False
def evCallee (env:Env) (f:Value) (args:List Value) (K:Value→H→Prop) (h:H):Prop:=
 match f with
 | .func (.func g) first captured=>env g (first.toList++args++captured.toList).toArray K h
 | _=>False
def evCallV (env:Env) (f:Value) (args:List Value) (K:Value→H→Prop) (h:H):Prop:=
 evCallee env f args K h
def KeyAt (P:Program) (kt:TypeId) (es:Array MapEntry) (k:Value) (r:Option (Nat × Value)):Prop:=
 (∀ e w,(Instr.checkKey e 10000 kt k).run P w = .ok () w)∧∀ w,(Instr.findKey kt k es.toList).run P w = .ok r w
def MapAt (h:H) (m:Value) (es:Array MapEntry):Prop:=(m = .map none∧es = #[])∨∃ b c,m = .map (some b)∧h b=some (.map es c)
def M.lk (P:Program) (ty:TypeId) (m k:Value) (h:H) (K:Value→H→Prop):Prop:=
 ∃ kt et es r,P.underlying ty=some (.map kt et)∧MapAt h m es∧KeyAt P kt es k r ∧
  match r with | some (_,v)=>K v h | none=>∃ z,(∀ w,(zeroValue et).run P w = .ok z w)∧K z h
def M.lk2 (P:Program) (ty:TypeId) (m k:Value) (h:H) (K:Value→Bool→H→Prop):Prop:=
 ∃ kt et es r,P.underlying ty=some (.map kt et)∧MapAt h m es∧KeyAt P kt es k r ∧
  match r with | some (_,v)=>K v true h | none=>∃ z,(∀ w,(zeroValue et).run P w = .ok z w)∧K z false h
def M.mput (P:Program) (ty:TypeId) (m k v:Value) (h:H) (K:H→Prop):Prop:=
 ∃ kt et b es c r,P.underlying ty=some (.map kt et)∧m = .map (some b)∧h b=some (.map es c)∧KeyAt P kt es k r ∧
  match r with
  | some (i,_)=>Instr.sameBits 10000 (((es[i]?).map (·.key)).getD k) k=true∧K (h.upd b (.map (es.modify i fun e=>{ e with key:=k,val:=v }) c))
  | none=>K (h.upd b (.map (es.push { key:=k,val:=v,born:=c }) (c+1)))
def M.eqv (P:Program) (op:BinOp) (ty:TypeId) (x y:Operand) (a b:Value) (h:H) (K:Bool→H→Prop):Prop:=
 ∃ c,(∀ w,(do eqGuard op ty x y a b; binOp op ty a b:Sem Value).run P w = .ok (.bool c) w)∧K c h
def evLookup (P:Program) (ty:TypeId) (m k:Value) (ok:Bool) (K:Value→H→Prop) (h:H):Prop:=
 match P.underlying ty with
 | some (.map _ e)=>(match lkOf (P.underlying e) with
  | .one s=>bif ok then M.lk2 P ty m k h fun v b h'=>typ s v fun v'=>K (.tuple #[v',.bool b]) h' else M.lk P ty m k h fun v h'=>typ s v fun v'=>K v' h'
  | _=>False)
 | _=>False
def isAggEq (P:Program) (op:BinOp) (ty:TypeId):Bool:=
 match lkOf (P.underlying ty) with
 | .agg=>(match op with | .eql | .neq=>true | _=>false)
 | _=>false
def evVal (P:Program) (env:Env) (op:Op) (_rt:TypeId) (t:Tm) (K:Option Value→H→Prop) (h:H):Prop:=
 match op with
 | .move x=>match t.get x with | some v=>K (some v) h | none=>K none h
 | .assign x=>match t.get x with | some v=>K (some v) h | none=>K none h
 | .pick c a b=>match t.get c with
  | some (.bool p)=>bif p then (match t.get a with | some v=>K (some v) h | none=>K none h) else (match t.get b with | some v=>K (some v) h | none=>K none h)
  | _=>False
 | .alloc e=>match (P.info? e).bind (·.zero) with | some z=>M.new h (.cells z.cells e) fun b h'=>K (some (.pointer (some ⟨b,0,none⟩))) h' | none=>False
 | .box e x=>match t.get x with | some v=>M.new h (.cells v.cells e) fun b h'=>K (some (.pointer (some ⟨b,0,none⟩))) h' | none=>False
 | .build ty ps=>match t.all (ps.toList.map (·.2)) with
  | some _=>(match P.built ty (ps.toList.map fun p=>(p.1,t.val p.2)) with | some cs=>K (some (.agg cs)) h | none=>False)
  | none=>False
 | .buildSlice ty len ps=>match t.all (ps.toList.map (·.2)),P.underlying ty with
  | some _,some (.slice e)=>(match P.info? e with
   | some i=>(match i.zero with
    | some z=>(match Instr.fill (fun j=>some (j*i.size,i.size)) (zerosOf z.cells.toList len).toArray (ps.toList.map fun p=>(p.1,t.val p.2)) with
     | some cs=>bif Nat.ble (len*i.size) 16777216 && Nat.beq z.cells.size i.size then M.new h (.cells cs e) fun b h'=>K (some (.slice (some ⟨b,0,none⟩) len len)) h' else False
     | none=>False)
    | none=>False)
   | none=>False)
  | _,_=>False
 | .load ty x=>match t.get x with | some (.pointer (some a))=>evLoad P ty a (fun v=>K (some v) h) h | _=>False
 | .store ty x v=>match t.get x,t.get v with | some (.pointer (some a)),some v=>evStore P ty a v (fun h'=>K (some undef) h') h | _,_=>False
 | .nilCheck x=>match t.get x with | some (.pointer p)=>M.nn p fun a=>K (some (.pointer (some a))) h | _=>False
 | .binOp op ty x y _=>match t.get x,t.get y with
  | some a,some b=>bif isAggEq P op ty then M.eqv P op ty x y a b h (fun c h'=>K (some (.bool c)) h') else evBin P op ty y a b fun v=>K (some v) h
  | _,_=>False
 | .lookup ty m k ok=>match t.get m,t.get k with | some a,some b=>evLookup P ty a b ok (fun v h'=>K (some v) h') h | _,_=>False
 | .mapUpdate ty m k v=>match t.get m,t.get k,t.get v with | some a,some b,some c=>M.mput P ty a b c h fun h'=>K (some undef) h' | _,_,_=>False
 | .insert ty m k v=>match t.get m,t.get k,t.get v with | some a,some b,some c=>M.mput P ty a b c h fun h'=>K (some undef) h' | _,_,_=>False
 | .unOp op _ x=>match op,t.get x with
  | .not,some (.bool b)=>K (some (.bool (!b))) h
  | .neg,some (.int k n)=>M.val (k.wrap (0-n)) fun z=>K (some (.int k z)) h
  | .xor,some (.int k n)=>M.val (bNot k n) fun z=>K (some (.int k z)) h
  | _,_=>False
 | .convert s d x=>match t.get x with | some v=>evConv P s d v (fun v h'=>K (some v) h') h | none=>False
 | .makeInterface ty x=>match t.get x,P.underlying ty with | some _,some (.interface _)=>False | some v,some _=>K (some (.iface ty v)) h | _,_=>False
 | .makeFunc fn first cap=>match t.all first.toList,t.all cap.toList with | some a,some b=>K (some (.func fn a.toArray b.toArray)) h | _,_=>False
 | .makeMap _ r=>match r with
  | none=>M.new h (.map #[] 0) fun b h'=>K (some (.map (some b))) h'
  | some _=>False
 | .makeSlice ty l c=>match P.underlying ty,t.get l,t.get c with
  | some (.slice e),some (.int _ l),some (.int _ c)=>(match P.info? e with
   | some i=>(match i.zero with | some z=>bif Nat.beq z.cells.size i.size then M.mk h e z.cells.toList i.bytes l c fun a n m h'=>K (some (.slice a n m)) h' else False | none=>False)
   | none=>False)
  | _,_,_=>False
 | .slice ty x lo hi none=>match t.get x,t.all lo.toList,t.all hi.toList with
  | some v,some _,some _=>evSlice P ty v (lo.map t.val) (hi.map t.val) fun v=>K (some v) h
  | _,_,_=>False
 | .slice ty x (some lo) (some hi) (some m)=>match t.get x,t.get lo,t.get hi,t.get m with
  | some v,some l,some u,some m=>evSlice3 P ty v l u m fun v=>K (some v) h
  | _,_,_,_=>False
 | .sliceToArrayPointer ty x=>match t.get x,P.underlying ty with
  | some (.slice a n _),some (.array k _)=>M.req (k≤n) (M.nn a fun b=>K (some (.pointer (some b))) h)
  | _,_=>False
 | .fieldAddr s x f=>match t.get x with | some v=>evFieldAddr P s v f fun v=>K (some v) h | none=>False
 | .field s x f=>match t.get x with | some v=>evField P s v f fun v=>K (some v) h | none=>False
 | .indexAddr s x i=>match t.get x,t.get i with | some v,some j=>evIndexAddr P s v j fun v=>K (some v) h | _,_=>False
 | .index s x i=>match t.get x,t.get i with | some v,some j=>evIndex P s v j fun v=>K (some v) h | _,_=>False
 | .extract x i=>match t.get x with | some (.tuple vs)=>(match vs.toList[i]? with | some v=>K (some v) h | none=>False) | _=>False
 | .call c=>match t.all c.args.toList with
  | some args=>(match c.callee with
   | .builtin .len=>(match c.argTypes.toList,args with | [ty],[x]=>evLen P ty x (fun v h'=>K (some v) h') h | _,_=>False)
   | .builtin .min=>evMinMax mn args fun v=>K (some v) h
   | .builtin .max=>evMinMax mx args fun v=>K (some v) h
   | .builtin .append=>evAppend P c.argTypes args (fun v h'=>K (some v) h') h
   | .builtin .copy=>evCopy P c.argTypes args (fun v h'=>K (some v) h') h
   | .builtin .clear=>evClear P c.argTypes args (fun v h'=>K (some v) h') h
   | .value (.func g)=>env g args.toArray (fun v h'=>K (some v) h') h
   | .value (.tmp i)=>(match t i with | some f=>evCallV env f args (fun v h'=>K (some v) h') h | none=>False)
   | _=>False)
  | none=>False
 | _=>False
end Go.Sh
namespace Go.Sh
open Go.RowKit
/-! ### Shapes carried over a join or a loop -/
abbrev Sh.den1:Sh→Type
 | .int _=>Int
 | .bool=>Bool
 | .str=>ByteArray
 | .ptr=>Option Addr
 | .adr=>Addr
 | .slc=>Option Addr × Nat × Nat
 | .map=>Option Nat
 | .agg=>Array Value
 | .agt _=>Value
 | .raw=>Value
def Sh.inj1:(s:Sh)→s.den1→Value
 | .int k,n=>.int k n
 | .bool,b=>.bool b
 | .str,s=>.string s
 | .ptr,p=>.pointer p
 | .adr,a=>.pointer (some a)
 | .slc,d=>.slice d.1 d.2.1 d.2.2
 | .map,r=>.map r
 | .agg,cs=>.agg cs
 | .agt _,v=>v
 | .raw,v=>v
def Sh.prj1:(s:Sh)→Value→Option s.den1
 | .int k,.int k' n=>bif kEq k k' then some n else none
 | .bool,.bool b=>some b
 | .str,.string s=>some s
 | .ptr,.pointer p=>some p
 | .adr,.pointer p=>(match p with | some a=>some a | none=>none)
 | .slc,.slice a l c=>some (a,l,c)
 | .map,.map r=>some r
 | .agg,.agg cs=>some cs
 | .agt _,v=>some v
 | .raw,v=>some v
 | _,_=>none
abbrev denS:List Sh→Type
 | []=>Unit
 | [x]=>x.den1
 | x::y::r=>x.den1 × denS (y::r)
def injS:(l:List Sh)→denS l→List Value
 | [],_=>[]
 | [x],d=>[x.inj1 d]
 | x::y::r,d=>x.inj1 d.1::injS (y::r) d.2
def prjS:(l:List Sh)→List Value→Option (denS l)
 | [],[]=>some ()
 | [x],[v]=>x.prj1 v
 | x::y::r,v::vs=>(match x.prj1 v,prjS (y::r) vs with | some d,some e=>some (d,e) | _,_=>none)
 | _,_=>none
abbrev Sh.den:Sh→Type
 | .agt l=>denS l
 | .int _=>Int
 | .bool=>Bool
 | .str=>ByteArray
 | .ptr=>Option Addr
 | .adr=>Addr
 | .slc=>Option Addr × Nat × Nat
 | .map=>Option Nat
 | .agg=>Array Value
 | .raw=>Value
def Sh.inj:(s:Sh)→s.den→Value
 | .agt l,d=>.agg (injS l d).toArray
 | .int k,n=>.int k n
 | .bool,b=>.bool b
 | .str,s=>.string s
 | .ptr,p=>.pointer p
 | .adr,a=>.pointer (some a)
 | .slc,d=>.slice d.1 d.2.1 d.2.2
 | .map,r=>.map r
 | .agg,cs=>.agg cs
 | .raw,v=>v
def Sh.prj:(s:Sh)→Value→Option s.den
 | .agt l,.agg cs=>prjS l cs.toList
 | .int k,.int k' n=>bif kEq k k' then some n else none
 | .bool,.bool b=>some b
 | .str,.string s=>some s
 | .ptr,.pointer p=>some p
 | .adr,.pointer p=>(match p with | some a=>some a | none=>none)
 | .slc,.slice a l c=>some (a,l,c)
 | .map,.map r=>some r
 | .agg,.agg cs=>some cs
 | .raw,v=>some v
 | _,_=>none
abbrev denL:List (Nat × Sh)→Type
 | []=>Unit
 | [x]=>x.2.den
 | x::y::r=>x.2.den × denL (y::r)
def setL (t:Tm):(l:List (Nat × Sh))→denL l→Tm
 | [],_=>t
 | [x],d=>t.put (some x.1) (some (x.2.inj d))
 | x::y::r,d=>setL (t.put (some x.1) (some (x.2.inj d.1))) (y::r) d.2
def prjL (t:Tm):(l:List (Nat × Sh))→Option (denL l)
 | []=>some ()
 | [x]=>match t x.1 with | some v=>x.2.prj v | none=>none
 | x::y::r=>match t x.1 with
  | some v=>(match x.2.prj v,prjL t (y::r) with | some d,some e=>some (d,e) | _,_=>none)
  | none=>none
def memN (i:Nat):List Nat→Bool
 | []=>false
 | j::r=>bif Nat.beq j i then true else memN i r
def Tm.mask (t:Tm) (ws:List Nat):Tm:=fun i=>bif memN i ws then none else t i
def opDsts:List Oper→List Nat
 | []=>[]
 | o::r=>match o.dst with | some d=>d::opDsts r | none=>opDsts r
def writes:Code→List Nat
 | .region _ ops _=>opDsts ops.toList
 | .seq a b=>writes a++writes b
 | .cond _ a b=>writes a++writes b
 | .block _ b=>writes b
 | .loop b=>writes b
 | .scope b=>writes b
 | .rangeFunc _ ps a b=>ps.toList++writes a++writes b
 | _=>[]
def subN:List (Nat × Sh)→List Nat→Bool
 | [],_=>true
 | x::r,ws=>bif memN x.1 ws then subN r ws else false
namespace M
def join {α:Type} (J:α → H→Prop) (B:(α → H→Prop)→Prop):Prop:=B J
def iter {α:Type} (step:(α → H→Prop)→α → H→Prop):Nat→α → H→Prop
 | 0=>fun _ _=>False
 | n+1=>step (iter step n)
def loop {α:Type} (step:(α → H→Prop)→α → H→Prop) (d:α) (h:H):Prop:=∃ n,iter step n d h
def still (h:H) (a:Addr) (n:Nat) (h':H) (K:Prop):Prop:=(∀ i,i<n→h'.cell (a.add i)=h.cell (a.add i))∧K
end M
def evJoin (sl:List (Nat × Sh)) (ws:List Nat) (t:Tm) (KK:Tm→H→Prop) (B:(Tm→H→Prop)→Prop):Prop:=
 bif subN sl ws then
  M.join (α:=denL sl) (fun d h=>KK (setL (t.mask ws) sl d) h) fun J=>B fun t' h'=>match prjL t' sl with | some d=>J d h' | none=>False
 else False
/-! ### Regions -/
inductive Go1 where
 | run | skip | ask (d:Nat) (b want:Bool) | bad
def guardOf (ops:Array Oper) (o:Oper) (t:Tm):Go1:=
 match o.guard with
 | none=>.run
 | some (j,want)=>match (ops.toList[j]?).bind (·.dst) with
  | some d=>(match t d with | some (.bool b)=>.ask d b want | some (.tuple _)=>.skip | _=>.bad)
  | none=>.skip
def evPut (n:Nat) (o:Oper) (t:Tm) (K:Tm→H→Prop) (v:Option Value) (h:H):Prop:=
 match o.dst with
 | none=>K t h
 | some d=>bif Nat.blt d n then K (t.put (some d) v) h else False
def evOper (P:Program) (env:Env) (n:Nat) (ops:Array Oper) (o:Oper) (t:Tm) (K:Tm→H→Prop) (h:H):Prop:=
 match guardOf ops o t with
 | .run=>evVal P env o.op o.type t (evPut n o t K) h
 | .skip=>evPut n o t K (some undef) h
 | .ask d b want=>
  bif b then
   (bif want then evVal P env o.op o.type (t.put (some d) (some (.bool true))) (evPut n o (t.put (some d) (some (.bool true))) K) h
    else evPut n o (t.put (some d) (some (.bool true))) K (some undef) h)
  else
   (bif want then evPut n o (t.put (some d) (some (.bool false))) K (some undef) h
    else evVal P env o.op o.type (t.put (some d) (some (.bool false))) (evPut n o (t.put (some d) (some (.bool false))) K) h)
 | .bad=>False
def evList (P:Program) (env:Env) (n:Nat) (ops:Array Oper):List Oper→Tm→(Tm→H→Prop)→H→Prop
 | [],t,K,h=>K t h
 | o::r,t,K,h=>evOper P env n ops o t (fun t' h'=>evList P env n ops r t' K h') h
def isFree (P:Program):Op→Bool
 | .move _ | .assign _ | .pick .. | .nilCheck _ | .unOp .. | .fieldAddr .. | .field .. | .indexAddr .. | .index .. | .slice .. | .extract .. | .makeInterface .. | .makeFunc .. | .build .. | .load .. | .sliceToArrayPointer .. => true
 | .binOp op ty _ _ _=>!isAggEq P op ty
 | .call { callee:=.builtin .len,argTypes,.. }=>match argTypes.toList with | [ty]=>(match P.underlying ty with | some (.map _ _)=>false | _=>true) | _=>false
 | .call { callee:=.builtin .min,.. } | .call { callee:=.builtin .max,.. }=>true
 | _=>false
def bitsOf (acc:List Nat):List Edge→Nat→Nat
 | [],s=>s
 | e::r,s=>bitsOf acc r (bif Region.binds .any e then Nat.lor (Nat.lor s (Nat.shiftLeft 1 e.on)) (acc.getD e.on 0) else s)
def befs:List Oper→List Nat→List Nat
 | [],acc=>acc
 | o::r,acc=>befs r (acc++[bitsOf acc o.after.toList 0])
structure Held where
 op:Nat
 mem:H
 addr:Addr
 cells:Nat
def heldOk (bs:List Nat) (j:Nat) (h':H) (K:Prop):List Held→Prop
 | []=>K
 | x::r=>bif Nat.testBit (bs.getD j 0) x.op then heldOk bs j h' K r else M.still x.mem x.addr x.cells h' (heldOk bs j h' K r)
def heldOf (P:Program) (i:Nat) (o:Oper) (t:Tm) (h:H) (L:List Held):List Held:=
 match o.op with
 | .load ty x=>(match t.get x with | some (.pointer (some a))=>⟨i,h,a,P.cellsOf ty⟩::L | _=>L)
 | _=>L
def allP:List Prop→Prop
 | []=>True
 | [p]=>p
 | p::q::r=>p∧allP (q::r)
def evAny (P:Program) (env:Env) (n:Nat) (ops:Array Oper) (bs:List Nat):Nat→Array Bool→List Held→Tm→(Tm→H→Prop)→H→Prop
 | 0,listed,_,t,K,h=>match Region.ready .any ops listed with | []=>K t h | _=>False
 | f+1,listed,L,t,K,h=>
  match Region.ready .any ops listed with
  | []=>K t h
  | j::js=>
   match (j::js).find? fun i=>(match ops.toList[i]? with | some o=>isFree P o.op && Region.free .any ops listed i | none=>false) with
   | some i=>(match ops.toList[i]? with
    | some o=>evOper P env n ops o t (fun t' h'=>evAny P env n ops bs f (listed.setIfInBounds i true) (heldOf P i o t h L) t' K h') h
    | none=>False)
   | none=>allP ((j::js).map fun i=>match ops.toList[i]? with
    | some o=>evOper P env n ops o t (fun t' h'=>heldOk bs i h' (evAny P env n ops bs f (listed.setIfInBounds i true) L t' K h') L) h
    | none=>False)
def evReg (P:Program) (env:Env) (n:Nat) (ops:Array Oper) (draw:Bool) (t:Tm) (K:Tm→H→Prop) (h:H):Prop:=
 bif draw then (bif Region.noSelect ops then evAny P env n ops (befs ops.toList []) ops.size (Array.replicate ops.size false) [] t K h else False)
 else evList P env n ops ops.toList t K h
/-! ### Code -/
structure Ann where
 reg:Nat→Option (List (Nat × Sh))
 seq:Nat→Option (List (Nat × Sh))
 loop:Nat→Option (List (Nat × Sh))
def lookN {α:Type}:List (Nat × α)→Nat→Option α
 | [],_=>none
 | x::r,i=>bif Nat.beq x.1 i then some x.2 else lookN r i
def evC (P:Program) (env:Env) (n:Nat) (ann:Ann):Code→Nat→(Exit→Tm→H→Prop)→Tm→H→Prop
 | .skip,_,K,t,h=>K .normal t h
 | .label _,_,K,t,h=>K .normal t h
 | .region id ops draw,_,K,t,h=>
  match ann.reg id with
  | none=>evReg P env n ops draw t (fun t' h'=>K .normal t' h') h
  | some sl=>evJoin sl (opDsts ops.toList) t (fun t' h'=>K .normal t' h') fun K'=>evReg P env n ops draw t K' h
 | .seq a b,p,K,t,h=>
  match ann.seq p with
  | none=>evC P env n ann a (2*p) (fun e t' h'=>match e with | .normal=>evC P env n ann b (2*p+1) K t' h' | e=>K e t' h') t h
  | some sl=>evJoin sl (writes a) t (fun t' h'=>evC P env n ann b (2*p+1) K t' h') fun K'=>
    evC P env n ann a (2*p) (fun e t' h'=>match e with | .normal=>K' t' h' | e=>K e t' h') t h
 | .cond c a b,p,K,t,h=>
  match t.get c with
  | some (.bool v)=>bif v then evC P env n ann a (2*p) K t h else evC P env n ann b (2*p+1) K t h
  | _=>False
 | .block id b,p,K,t,h=>
  evC P env n ann b (2*p) (fun e t' h'=>match e with | .exit i=>(bif Nat.beq i id then K .normal t' h' else K (.exit i) t' h') | e=>K e t' h') t h
 | .loop b,p,K,t,h=>
  match ann.loop p with
  | some sl=>
   bif subN sl (writes b) then
    match prjL t sl with
    | some d0=>M.loop (α:=denL sl) (fun J d h=>evC P env n ann b (2*p) (fun e t' h'=>match e with
      | .normal=>(match prjL t' sl with | some d'=>J d' h' | none=>False)
      | e=>K e t' h') (setL (t.mask (writes b)) sl d) h) d0 h
    | none=>False
   else False
  | none=>False
 | .scope b,p,K,t,h=>evC P env n ann b (2*p) (fun e t' h'=>match e with | .goto _=>False | e=>K e t' h') t h
 | .exit i,_,K,t,h=>K (.exit i) t h
 | .ret,_,K,t,h=>K .ret t h
 | _,_,_,_,_=>False
/-! ### A function -/
def evResults (P:Program) (t:Tm) (h:H):List ResultVar→List Value→(List Value→Prop)→Prop
 | [],acc,K=>K acc.reverse
 | .tmp i::r,acc,K=>match t i with | some v=>evResults P t h r (v::acc) K | none=>False
 | .cell a ty::r,acc,K=>match t a with
  | some (.pointer (some p))=>evLoad P ty p (fun v=>evResults P t h r (v::acc) K) h
  | _=>False
def oneOf:List Value→Value
 | [v]=>v
 | vs=>.tuple vs.toArray
def evRet (P:Program) (fn:Func) (Q:Value→H→Prop):Exit→Tm→H→Prop
 | .normal,t,h | .ret,t,h=>evResults P t h fn.results.toList [] fun vs=>Q (oneOf vs) h
 | _,_,_=>False
def tm0 (args:List Value):Tm:=fun i=>args[i]?
def evF (P:Program) (env:Env) (fn:Func) (ann:Ann) (args:List Value) (Q:Value→H→Prop) (h:H):Prop:=
 match fn.body with
 | some c=>bif Nat.ble args.length fn.ntmps then evC P env fn.ntmps ann c 1 (evRet P fn Q) (tm0 args) h else False
 | none=>False
def envOf:List (Nat × W)→Env
 | []=>fun _ _ _ _=>False
 | x::r=>fun f=>bif Nat.beq x.1 f then x.2 else envOf r f
end Go.Sh
namespace Go.Sh
open Go.RowKit
section
variable {P:Program}
theorem info_of_underlying {t:TypeId} {d:TypeDesc} (h:P.underlying t=some d):∃ i,P.info? t=some i:=by
 unfold Program.underlying at h
 cases hi:P.info? t with
 | none=>simp [hi] at h
 | some i=>exact ⟨i,rfl⟩
theorem run_sizeOf' {t:TypeId} {d:TypeDesc} (h:P.underlying t=some d) (w:World):(sizeOf t).run P w = .ok (P.cellsOf t) w:=by
 obtain ⟨i,hi⟩:=info_of_underlying h
 simp [sizeOf,typeInfo,hi,Program.cellsOf]
theorem run_sizeOf_i {t:TypeId} {i:TypeInfo} (hi:P.info? t=some i) (w:World):(sizeOf t).run P w = .ok i.size w:=by
 simp [sizeOf,typeInfo,hi]
/-! ### What reads alone -/
theorem run_loadCells {w:World} {a:Addr}:∀ (cs:List Value) (i:Nat) (acc:Array Value),(∀ j,j<cs.length→w.cell? (a.add (i+j))=cs[j]?) →
  (loadCellsFrom a i cs.length acc).run P w = .ok (acc++cs.toArray) w
 | [],i,acc,_=>by simp [loadCellsFrom]
 | v::r,i,acc,hc=>by
  have h0:=hc 0 (by simp)
  simp only [Nat.add_zero,List.getElem?_cons_zero] at h0
  have hr:=run_loadCells (w:=w) (a:=a) r (i+1) (acc.push v) (fun j hj=>by
   have:=hc (j+1) (by simpa using hj)
   rw [show i+1+j=i+(j+1) by omega]; simpa using this)
  simp only [List.length_cons,loadCellsFrom,Sem.run_bind]
  have hl:(load (a.add i)).run P w = .ok v w:=by simp [load,Sem.run,h0]
  rw [hl]
  simp only [Result.andThen_ok,hr]
  simp
theorem evLoad_run {ty:TypeId} {a:Addr} {K:Value→Prop} {m:H} (h:evLoad P ty a K m):
  ∃ v,K v∧∀ w,(∀ i,i<P.cellsOf ty→(hp w).cell (a.add i)=m.cell (a.add i))→(loadVar ty a).run P w = .ok v w:=by
 unfold evLoad at h
 split at h
 ·rename_i s hs
  obtain ⟨d,hd,hn⟩:=lkOf_one hs
  cases hb:Nat.beq (P.cellsOf ty) 1 with
  | false=>simp [hb] at h
  | true=>
  simp only [hb,cond_true] at h
  obtain ⟨v,hv,hk⟩:=h
  have h1:P.cellsOf ty=1:=Nat.eq_of_beq_eq_true hb
  refine ⟨v,typ_out hk,fun w hw=>?_⟩
  have ha:(isAgg ty).run P w = .ok false w:=by
   unfold isAgg
   rw [Sem.run_bind,run_underlying hd,Result.andThen_ok]
   split <;> simp_all
  have hl:(load a).run P w = .ok v w:=by
   have:=hw 0 (by omega)
   rw [Addr.add_zero',hv,←hp_cell] at this
   simp [load,Sem.run,this]
  unfold loadVar
  rw [Sem.run_bind,ha,Result.andThen_ok]
  simpa using hl
 ·rename_i hs
  split at h
  ·rename_i i hi
   have hsz:P.cellsOf ty=i.size:=by simp [Program.cellsOf,hi]
   have key:∀ cs:List Value,cs.length=i.size→rowAt m a cs→∀ w,(∀ j,j<P.cellsOf ty→(hp w).cell (a.add j)=m.cell (a.add j))→(loadVar ty a).run P w = .ok (.agg cs.toArray) w:=by
    intro cs hl hr w hw
    have ha:(isAgg ty).run P w = .ok true w:=by
     unfold isAgg
     rw [Sem.run_bind]
     rcases lkOf_agg hs with ⟨fs,hu⟩ | ⟨n,e,hu⟩ <;> rw [run_underlying hu] <;> rfl
    have hc:=run_loadCells (P:=P) (w:=w) (a:=a) cs 0 #[] (fun j hj=>by
     rw [Nat.zero_add,hp_cell,hw j (by omega)]; exact hr j hj)
    unfold loadVar
    rw [Sem.run_bind,ha,Result.andThen_ok]
    simp only [if_true,Sem.run_bind,run_sizeOf_i hi,Result.andThen_ok,loadCells,←hl,hc]
    simp
   cases hb:Nat.ble i.size smallAgg with
   | true=>
    simp only [hb,cond_true] at h
    split at h
    ·rename_i l hl
     cases hb2:Nat.beq l.length i.size with
     | true=>
      simp only [hb2,cond_true] at h
      obtain ⟨cs,hcl,hcc,hk⟩:=evCells_out l 0 [] h
      simp only [List.reverse_nil,List.nil_append] at hk
      refine ⟨_,hk,key cs (by rw [hcl]; exact Nat.eq_of_beq_eq_true hb2) (fun j hj=>by have:=hcc j hj; rwa [Nat.zero_add] at this)⟩
     | false=>simp [hb2] at h
    ·exact h.elim
   | false=>
    simp only [hb,cond_false] at h
    obtain ⟨cs,hl,hr,hk⟩:=h
    exact ⟨_,hk,key cs hl hr⟩
  ·exact h.elim
 ·exact h.elim
/-! ### One operation that writes nothing and makes nothing -/
def Sub (t:Tm) (a:Act):Prop:=∀ i v,t i=some v→a.tmps[i]? = some v
theorem Sub.get {t:Tm} {a:Act} (hs:Sub t a) {x:Operand} {v:Value} (h:t.get x=some v):a.eval x=v:=by
 cases x with
 | tmp i=>simp only [Tm.get] at h; simp [Act.eval,hs i v h]
 | const c=>simpa [Tm.get,Act.eval] using h
 | global g=>simpa [Tm.get,Act.eval] using h
 | func f=>simpa [Tm.get,Act.eval] using h
theorem Sub.all {t:Tm} {a:Act} (hs:Sub t a):∀ {xs:List Operand} {vs:List Value},t.all xs=some vs→xs.map a.eval=vs
 | [],vs,h=>by simp [Tm.all] at h; simp [h]
 | x::r,vs,h=>by
  simp only [Tm.all] at h
  split at h
  ·rename_i v hv
   split at h
   ·rename_i l hl
    simp only [Option.some.injEq] at h
    subst h
    simp [hs.get hv,hs.all hl]
   ·simp at h
  ·simp at h
theorem Sub.val {t:Tm} {a:Act} (hs:Sub t a) {x:Operand} {v:Value} (h:t.get x=some v):t.val x=a.eval x:=by
 rw [hs.get h]; simp [Tm.val,h]
theorem Tm.all_mem {t:Tm}:∀ {xs:List Operand} {vs:List Value},t.all xs=some vs→∀ x ∈ xs,∃ v,t.get x=some v
 | [],_,_,x,hx=>by simp at hx
 | y::r,vs,h,x,hx=>by
  simp only [Tm.all] at h
  split at h
  ·rename_i v hv
   split at h
   ·rename_i l hl
    rcases List.mem_cons.1 hx with rfl | hx
    ·exact ⟨v,hv⟩
    ·exact Tm.all_mem hl x hx
   ·simp at h
  ·simp at h
theorem kEq_eq {k k':IntKind} (h:kEq k k'=true):k=k':=of_decide_eq_true h
theorem evInt_run {op:BinOp} {k k':IntKind} {a b:Int} {K:Value→Prop} (ty:TypeId) (x y:Operand) (h:evInt op k a k' b K):
  ∃ v,K v∧∀ w,(do eqGuard op ty x y (.int k a) (.int k' b); binOp op ty (.int k a) (.int k' b):Sem Value).run P w = .ok v w:=by
 unfold evInt at h
 have hg:eqGuard op ty x y (.int k a) (.int k' b)=pure ():=by cases op <;> rfl
 rw [hg]
 split at h
 ·obtain ⟨h0,hk⟩:=h
  exact ⟨_,hk,fun w=>by simp [binOp,Op.shift,show ¬ b<0 by omega,shl]⟩
 ·obtain ⟨h0,hk⟩:=h
  exact ⟨_,hk,fun w=>by simp [binOp,Op.shift,show ¬ b<0 by omega,shr]⟩
 ·rename_i h1 h2
  cases hkk:kEq k k' with
  | false=>simp [hkk] at h
  | true=>
   have:=kEq_eq hkk
   subst this
   simp only [hkk,cond_true] at h
   split at h <;> first
    | exact h.elim
    | exact ⟨_,h,fun w=>by simp [binOp,Op.intArith,Op.intCmp,Op.intBits,bAnd,bOr,bXor,bAndNot]⟩
    | exact ⟨_,h.2,fun w=>by have h0:=h.1; simp [binOp,Op.intDiv,h0]⟩
theorem evStr_run {op:BinOp} {a b:ByteArray} {K:Value→Prop} (ty:TypeId) (x y:Operand) (h:evStr op a b K):
  ∃ v,K v∧∀ w,(do eqGuard op ty x y (.string a) (.string b); binOp op ty (.string a) (.string b):Sem Value).run P w = .ok v w:=by
 unfold evStr at h
 have hg:eqGuard op ty x y (.string a) (.string b)=pure ():=by cases op <;> rfl
 rw [hg]
 split at h <;> first
  | exact h.elim
  | exact ⟨_,h,fun w=>by simp [binOp,Op.stringOp,strEq,strLt]⟩
  | exact ⟨_,h.2,fun w=>by
    have h0:=Int.not_lt.2 h.1
    show (Op.stringOp .add a b).run P w=_
    simp only [Op.stringOp]
    rw [if_neg h0]; rfl⟩
theorem evEq_run {d:Option TypeDesc} {y:Operand} {a b:Value} {K:Bool→Prop} {ty:TypeId} (hu:P.underlying ty=d) (h:evEq d y a b K) (hy:∀ v,y = .const v→b=v):
  ∃ c,K c∧(∀ op x,eqGuard op ty x y a b=pure ())∧∀ w,(Op.equal ty a b).run P w = .ok c w:=by
 unfold evEq at h
 split at h
 ·split at h
  ·exact ⟨_,h,fun op x=>by cases op <;> rfl,fun w=>by rw [show Op.equal ty _ _ = Op.equalIn (9999+1) ty _ _ from rfl,Op.equalIn,Sem.run_bind,run_underlying hu,Result.andThen_ok]; rfl⟩
  ·exact h.elim
 ·split at h
  ·split at h
   ·rename_i p
    have hb:=hy _ rfl
    subst hb
    refine ⟨_,h,fun op x=>by cases op <;> rfl,fun w=>?_⟩
    rw [show Op.equal ty _ _ = Op.equalIn (9999+1) ty _ _ from rfl,Op.equalIn,Sem.run_bind,run_underlying hu,Result.andThen_ok]
    cases p <;> rfl
   ·exact h.elim
  ·exact h.elim
 ·split at h
  ·split at h
   ·rename_i p _ _
    have hb:=hy _ rfl
    subst hb
    refine ⟨_,h,fun op x=>by cases op <;> rfl,fun w=>?_⟩
    rw [show Op.equal ty _ _ = Op.equalIn (9999+1) ty _ _ from rfl,Op.equalIn,Sem.run_bind,run_underlying hu,Result.andThen_ok]
    cases p <;> rfl
   ·exact h.elim
  ·exact h.elim
 ·split at h
  ·split at h
   ·rename_i p
    have hb:=hy _ rfl
    subst hb
    refine ⟨_,h,fun op x=>by cases op <;> rfl,fun w=>?_⟩
    rw [show Op.equal ty _ _ = Op.equalIn (9999+1) ty _ _ from rfl,Op.equalIn,Sem.run_bind,run_underlying hu,Result.andThen_ok]
    cases p <;> rfl
   ·exact h.elim
  ·exact h.elim
 ·exact h.elim
theorem binOp_eql_other {ty:TypeId} {a b:Value} (hi:∀ k m,a ≠ .int k m) (hs:∀ s,a ≠ .string s) (hf:∀ k m,a ≠ .float k m) (hc:∀ k m n,a ≠ .complex k m n):binOp .eql ty a b=(do pure (.bool (←Op.equal ty a b))):=by
 unfold binOp
 split <;> simp_all
theorem binOp_neq_other {ty:TypeId} {a b:Value} (hi:∀ k m,a ≠ .int k m) (hs:∀ s,a ≠ .string s) (hf:∀ k m,a ≠ .float k m) (hc:∀ k m n,a ≠ .complex k m n):binOp .neq ty a b=(do pure (.bool (!(←Op.equal ty a b)))):=by
 unfold binOp
 split <;> simp_all
theorem evEq_head {d:Option TypeDesc} {y:Operand} {a b:Value} {K:Bool→Prop} (h:evEq d y a b K):(∀ k m,a ≠ .int k m)∧(∀ s,a ≠ .string s)∧(∀ k m,a ≠ .float k m)∧(∀ k m n,a ≠ .complex k m n):=by
 unfold evEq at h
 repeat' split at h
 all_goals first | exact h.elim | simp
theorem evBin_run {op:BinOp} {ty:TypeId} {y:Operand} {a b:Value} {K:Value→Prop} (x:Operand) (h:evBin P op ty y a b K) (hy:∀ v,y = .const v→b=v):
  ∃ v,K v∧∀ w,(do eqGuard op ty x y a b; binOp op ty a b:Sem Value).run P w = .ok v w:=by
 unfold evBin at h
 split at h
 ·split at h
  ·exact evInt_run ty x y h
  ·exact h.elim
 ·split at h
  ·exact evStr_run ty x y h
  ·exact h.elim
 ·split at h
  ·obtain ⟨c,hk,hg,hr⟩:=evEq_run (P:=P) (ty:=ty) rfl h hy
   obtain ⟨h1,h2,h3,h4⟩:=evEq_head h
   refine ⟨_,hk,fun w=>?_⟩
   rw [hg,binOp_eql_other h1 h2 h3 h4]
   simp [hr w]
  ·obtain ⟨c,hk,hg,hr⟩:=evEq_run (P:=P) (ty:=ty) rfl h hy
   obtain ⟨h1,h2,h3,h4⟩:=evEq_head h
   refine ⟨_,hk,fun w=>?_⟩
   rw [hg,binOp_neq_other h1 h2 h3 h4]
   simp [hr w]
  ·exact h.elim
theorem run_isAgg_one {t:TypeId} {s:Sh} (hs:lkOf (P.underlying t) = .one s) (w:World):(isAgg t).run P w = .ok false w:=by
 obtain ⟨d,hd,hn⟩:=lkOf_one hs
 unfold isAgg
 rw [Sem.run_bind,run_underlying hd,Result.andThen_ok]
 split <;> simp_all
theorem run_isAgg_agg {t:TypeId} (hs:lkOf (P.underlying t) = .agg) (w:World):(isAgg t).run P w = .ok true w:=by
 unfold isAgg
 rw [Sem.run_bind]
 rcases lkOf_agg hs with ⟨fs,hu⟩ | ⟨n,e,hu⟩ <;> rw [run_underlying hu] <;> rfl
theorem underlying_of_lk {t:TypeId} {l:LK} (hs:lkOf (P.underlying t)=l) (hb:l ≠ .bad):∃ d,P.underlying t=some d:=by
 cases h:P.underlying t with
 | none=>simp [h,lkOf] at hs; exact absurd hs.symm hb
 | some d=>exact ⟨d,rfl⟩
theorem run_part_one {t:TypeId} {s:Sh} (hs:lkOf (P.underlying t) = .one s) {cs:Array Value} {off:Nat} {v:Value} (hv:cs[off]? = some v) (w:World):
  (part t cs off).run P w = .ok v w:=by
 unfold part
 rw [Sem.run_bind,run_isAgg_one hs,Result.andThen_ok]
 simp [hv]
theorem run_part_agg {t:TypeId} (hs:lkOf (P.underlying t) = .agg) {cs:Array Value} {off:Nat} (w:World):
  (part t cs off).run P w = .ok (.agg (cs.extract off (off+P.cellsOf t))) w:=by
 obtain ⟨d,hd⟩:=underlying_of_lk hs (by simp)
 unfold part
 rw [Sem.run_bind,run_isAgg_agg hs,Result.andThen_ok]
 simp [run_sizeOf' hd]
theorem evParts_out {cs:Array Value} {K:List Value→Prop}:∀ (l:List Sh) (i:Nat) (acc:List Value),evParts cs i l acc K →
  ∃ vs,vs.length=l.length∧(∀ j,j<vs.length→cs[i+j]? = vs[j]?)∧K (acc.reverse++vs)
 | [],i,acc,hh=>⟨[],rfl,fun j hj=>by simp at hj,by rw [List.append_nil]; exact hh⟩
 | s::r,i,acc,hh=>by
  obtain ⟨v,hv,hh⟩:=hh
  obtain ⟨vs,hl,hc,hk⟩:=evParts_out r (i+1) (v::acc) (typ_out hh)
  refine ⟨v::vs,by simp [hl],fun j hj=>?_,by simpa using hk⟩
  cases j with
  | zero=>simpa using hv
  | succ j=>have:=hc j (by simpa using hj); rw [show i+(j+1)=i+1+j by omega]; simpa using this
theorem extract_eq {cs:Array Value} {i n:Nat} {vs:List Value} (hl:vs.length=n) (hc:∀ j,j<vs.length→cs[i+j]? = vs[j]?):cs.extract i (i+n)=vs.toArray:=by
 apply Array.ext_getElem?
 intro j
 rw [Array.getElem?_extract]
 by_cases hj:j<n
 ·have h1:=hc j (by omega)
  have h2:i+j<cs.size:=by
   rcases Nat.lt_or_ge (i+j) cs.size with h | h
   ·exact h
   ·rw [Array.getElem?_eq_none h,List.getElem?_eq_getElem (by omega)] at h1; simp at h1
  rw [if_pos (by omega),h1]; simp
 ·rw [if_neg (by omega),Array.getElem?_eq_none (by simpa using by omega)]
theorem evPart_under {small:Bool} {t:TypeId} {cs:Array Value} {off:Nat} {K:Value→Prop} (h:evPart P small t cs off K):∃ d,P.underlying t=some d:=by
 unfold evPart at h
 split at h
 ·rename_i s hs; exact underlying_of_lk hs (by simp)
 ·rename_i hs; exact underlying_of_lk hs (by simp)
 ·exact h.elim
theorem evPart_run {small:Bool} {t:TypeId} {cs:Array Value} {off:Nat} {K:Value→Prop} (h:evPart P small t cs off K):∃ v,K v∧∀ w,(part t cs off).run P w = .ok v w:=by
 unfold evPart at h
 split at h
 ·rename_i s hs
  cases small with
  | true=>
   simp only [cond_true] at h
   split at h
   ·rename_i v hv
    exact ⟨v,h,fun w=>run_part_one hs (by simpa using hv) w⟩
   ·exact h.elim
  | false=>
   simp only [cond_false] at h
   obtain ⟨v,hv,hk⟩:=h
   exact ⟨v,typ_out hk,fun w=>run_part_one hs hv w⟩
 ·rename_i hs
  cases small with
  | true=>
   simp only [cond_true] at h
   refine ⟨_,h,fun w=>?_⟩
   rw [run_part_agg hs]
   congr 2
   rw [←Array.toList_inj]
   simp [List.extract_eq_take_drop]
  | false=>
   simp only [cond_false] at h
   cases hb:Nat.ble (P.cellsOf t) smallAgg with
   | true=>
    simp only [hb,cond_true] at h
    split at h
    ·rename_i l hl
     cases hb2:Nat.beq l.length (P.cellsOf t) with
     | true=>
      simp only [hb2,cond_true] at h
      obtain ⟨vs,h1,h2,hk⟩:=evParts_out l off [] h
      refine ⟨_,hk,fun w=>?_⟩
      rw [run_part_agg hs,extract_eq (vs:=vs) (by rw [h1]; exact Nat.eq_of_beq_eq_true hb2) h2]
      rfl
     | false=>simp [hb2] at h
    ·exact h.elim
   | false=>
    simp only [hb,cond_false] at h
    exact ⟨_,h,fun w=>run_part_agg hs w⟩
 ·exact h.elim
theorem evField_run {t:TypeId} {x:Value} {f:Nat} {K:Value→Prop} (h:evField P t x f K):∃ v,K v∧∀ w,(Instr.field t x f).run P w = .ok v w:=by
 unfold evField at h
 split at h
 ·rename_i fs hu
  split at h
  ·rename_i fd cs hf
   obtain ⟨v,hk,hr⟩:=evPart_run h
   exact ⟨v,hk,fun w=>by unfold Instr.field; simp [run_underlying hu,hf,asAgg,hr]⟩
  ·exact h.elim
 ·exact h.elim
theorem evFieldAddr_run {t:TypeId} {x:Value} {f:Nat} {K:Value→Prop} (h:evFieldAddr P t x f K):∃ v,K v∧∀ w,(Instr.fieldAt t x f).run P w = .ok v w:=by
 unfold evFieldAddr at h
 split at h
 ·rename_i fs hu
  split at h
  ·rename_i fd hf
   cases hb:Nat.beq (P.cellsOf fd.type) 0 with
   | true=>simp [hb] at h
   | false=>
    simp only [hb,cond_false] at h
    have h0:P.cellsOf fd.type≠0:=Nat.ne_of_beq_eq_false hb
    have hi:∃ i,P.info? fd.type=some i:=by
     cases hi:P.info? fd.type with
     | none=>simp [Program.cellsOf,hi] at h0
     | some i=>exact ⟨i,rfl⟩
    obtain ⟨i,hi⟩:=hi
    have hi0:i.size≠0:=by simpa [Program.cellsOf,hi] using h0
    split at h
    ·rename_i a
     exact ⟨_,h,fun w=>by unfold Instr.fieldAt; simp [run_underlying hu,hf,Instr.sureAddr,fieldPlace,run_sizeOf_i hi,hi0]⟩
    ·exact h.elim
  ·exact h.elim
 ·exact h.elim
theorem evIndexAddr_run {t:TypeId} {x i:Value} {K:Value→Prop} (h:evIndexAddr P t x i K):∃ v,K v∧∀ w,(Instr.indexAt t x i).run P w = .ok v w:=by
 unfold evIndexAddr at h
 split at h
 ·rename_i k i
  split at h
  ·rename_i e hu
   split at h
   ·rename_i a n c d hd
    obtain ⟨b,rfl,h0,h1,hk⟩:=h
    exact ⟨_,hk,fun w=>by unfold Instr.indexAt; simp [run_underlying hu,asIntOf,h0,h1,run_sizeOf_i hd]⟩
   ·exact h.elim
  ·rename_i n e hu
   split at h
   ·rename_i a d hd
    obtain ⟨h0,h1,hk⟩:=h
    exact ⟨_,hk,fun w=>by unfold Instr.indexAt; simp [run_underlying hu,asIntOf,Instr.sureAddr,h0,h1,run_sizeOf_i hd]⟩
   ·exact h.elim
  ·exact h.elim
 ·exact h.elim
theorem evIndex_run {t:TypeId} {x i:Value} {K:Value→Prop} (h:evIndex P t x i K):∃ v,K v∧∀ w,(Instr.index t x i).run P w = .ok v w:=by
 unfold evIndex at h
 split at h
 ·rename_i k i
  split at h
  ·rename_i hu
   split at h
   ·rename_i s
    obtain ⟨h0,h1,hk⟩:=h
    refine ⟨_,hk,fun w=>?_⟩
    have hlt:i.toNat<s.size:=by omega
    have hg:s[i.toNat]? = some s[i.toNat]:=by simp [hlt]
    have hb:byteAt s i.toNat=(s[i.toNat].toNat:Int):=by
     unfold byteAt
     have:s.data.toList.getD i.toNat 0=s[i.toNat]:=by
      rw [List.getD_eq_getElem?_getD,List.getElem?_eq_getElem (by simpa using hlt)]; rfl
     rw [this]
    unfold Instr.index
    simp [run_underlying hu,asIntOf,h0,hg,hb]
   ·exact h.elim
  ·rename_i n e hu
   split at h
   ·rename_i cs
    obtain ⟨h0,h1,hp⟩:=h
    obtain ⟨d,hd⟩:=evPart_under hp
    obtain ⟨v,hk,hr⟩:=evPart_run hp
    exact ⟨v,hk,fun w=>by unfold Instr.index; simp [run_underlying hu,asIntOf,h0,h1,run_sizeOf' hd,hr]⟩
   ·exact h.elim
  ·exact h.elim
 ·exact h.elim
theorem intOr_some {d l:Int} {v:Option Value} (h:intOr d v=some l):(v=none∧l=d)∨∃ k,v=some (.int k l):=by
 unfold intOr at h
 split at h
 ·simp only [Option.some.injEq] at h; exact .inl ⟨rfl,h.symm⟩
 ·simp only [Option.some.injEq] at h; subst h; exact .inr ⟨_,rfl⟩
 ·simp at h
theorem run_sliceBounds {isSlice:Bool} {len cap:Nat} {lo hi:Option Value} {l u:Int} (hl:intOr 0 lo=some l) (hu:intOr len hi=some u) (h0:0≤l) (h1:l≤u) (h2:u≤cap) (w:World):
  (Instr.sliceBounds isSlice len cap lo hi none).run P w = .ok (l.toNat,u.toNat,cap) w:=by
 unfold Instr.sliceBounds
 have hc:(0:Int)≤u:=by omega
 have e:((u.toNat:Nat):Int)=u:=Int.toNat_of_nonneg hc
 rcases intOr_some hl with ⟨rfl,rfl⟩ | ⟨k,rfl⟩ <;> rcases intOr_some hu with ⟨rfl,rfl⟩ | ⟨k',rfl⟩
 ·simp
 ·simp [Instr.sliceBound,asIntOf,hc,h2]
 ·simp [Instr.sliceBound,asIntOf,h0,h1]
 ·simp [Instr.sliceBound,asIntOf,hc,h2,h0,e,h1]
theorem evSlice_run {t:TypeId} {x:Value} {lo hi:Option Value} {K:Value→Prop} (h:evSlice P t x lo hi K):∃ v,K v∧∀ w,(Instr.sliceAt t x lo hi none).run P w = .ok v w:=by
 unfold evSlice at h
 split at h
 ·rename_i hu
  split at h
  ·rename_i s
   split at h
   ·rename_i l u hl hh
    obtain ⟨h0,h1,h2,hk⟩:=h
    exact ⟨_,hk,fun w=>by unfold Instr.sliceAt Instr.slice; simp [run_underlying hu,run_sliceBounds hl hh h0 h1 h2]⟩
   ·exact h.elim
  ·exact h.elim
 ·rename_i e hu
  split at h
  ·rename_i a n c i hi
   split at h
   ·rename_i l u hl hh
    obtain ⟨h0,h1,h2,hk⟩:=h
    exact ⟨_,hk,fun w=>by unfold Instr.sliceAt Instr.slice; simp [run_underlying hu,run_sliceBounds hl hh h0 h1 h2,run_sizeOf_i hi,sliceAddr]⟩
   ·exact h.elim
  ·exact h.elim
 ·rename_i n e hu
  split at h
  ·rename_i a i hi
   split at h
   ·rename_i l u hl hh
    obtain ⟨h0,h1,h2,hk⟩:=h
    refine ⟨_,hk,fun w=>?_⟩
    unfold Instr.sliceAt
    simp only [Sem.run_bind,run_underlying hu,Result.andThen_ok,Instr.sureAddr,Sem.run_pure,run_sliceBounds hl hh h0 h1 h2,run_sizeOf_i hi,sliceAddr]
    split <;> simp_all
   ·exact h.elim
  ·exact h.elim
 ·exact h.elim
theorem evSlice3_run {t:TypeId} {x lo hi m:Value} {K:Value→Prop} (h:evSlice3 P t x lo hi m K):∃ v,K v∧∀ w,(Instr.sliceAt t x (some lo) (some hi) (some m)).run P w = .ok v w:=by
 unfold evSlice3 at h
 split at h
 ·rename_i e hu
  split at h
  ·rename_i a n c i k1 l k2 u k3 m hi
   obtain ⟨h0,h1,h2,h3,hk⟩:=h
   refine ⟨_,hk,fun w=>?_⟩
   have e1:((m.toNat:Nat):Int)=m:=Int.toNat_of_nonneg (by omega)
   have e2:((u.toNat:Nat):Int)=u:=Int.toNat_of_nonneg (by omega)
   have g0:(0:Int)≤m:=by omega
   have g1:(0:Int)≤u:=by omega
   unfold Instr.sliceAt Instr.slice
   simp [run_underlying hu,Instr.sliceBounds,Instr.sliceBound,asIntOf,g0,h3,g1,e1,h2,h0,e2,h1,run_sizeOf_i hi,sliceAddr]
  ·exact h.elim
 ·exact h.elim
theorem foldInt_run {f:Int→Int→Int} {g:Value→Value→Sem Value} (hg:∀ k k' x y,g (.int k x) (.int k' y)=pure (.int k (f x y))) {k:IntKind}:
  ∀ (l:List Value) (x z:Int),foldInt f k l x=some z→∀ w,(l.foldlM g (.int k x)).run P w = .ok (.int k z) w
 | [],x,z,h,w=>by simp [foldInt] at h; simp [h]
 | v::r,x,z,h,w=>by
  cases v <;> simp only [foldInt] at h <;> try (simp at h; done)
  rename_i k' y
  simp only [List.foldlM_cons,hg,pure_bind]
  exact foldInt_run hg r _ _ h w
theorem evMin_run {args:List Value} {K:Value→Prop} (h:evMinMax mn args K):∃ v,K v∧∀ ts ty w,(Builtin.min_ ts ty args.toArray).run P w = .ok v w:=by
 unfold evMinMax at h
 split at h
 ·rename_i k x r
  split at h
  ·rename_i z hz
   exact ⟨_,h,fun ts ty w=>by unfold Builtin.min_; simpa using foldInt_run (P:=P) (g:=Builtin.min2) (f:=mn) (fun k k' x y=>by simp [Builtin.min2,mn]) r x z hz w⟩
  ·exact h.elim
 ·exact h.elim
theorem evMax_run {args:List Value} {K:Value→Prop} (h:evMinMax mx args K):∃ v,K v∧∀ ts ty w,(Builtin.max_ ts ty args.toArray).run P w = .ok v w:=by
 unfold evMinMax at h
 split at h
 ·rename_i k x r
  split at h
  ·rename_i z hz
   exact ⟨_,h,fun ts ty w=>by unfold Builtin.max_; simpa using foldInt_run (P:=P) (g:=Builtin.max2) (f:=mx) (fun k k' x y=>by simp [Builtin.max2,mx]) r x z hz w⟩
  ·exact h.elim
 ·exact h.elim
theorem evLen_run {t:TypeId} {x:Value} {K:Value→H→Prop} {m:H} (hm:∀ k e,P.underlying t≠some (.map k e)) (h:evLen P t x K m):
  ∃ v,K v m∧∀ ty w,(Builtin.len_ #[t] ty #[x]).run P w = .ok v w:=by
 unfold evLen at h
 split at h
 ·rename_i hu
  split at h
  ·exact ⟨_,h,fun ty w=>by unfold Builtin.len_; simp [run_underlying hu,goInt]⟩
  ·exact h.elim
 ·rename_i e hu
  split at h
  ·exact ⟨_,h,fun ty w=>by unfold Builtin.len_; simp [run_underlying hu,goInt]⟩
  ·exact h.elim
 ·rename_i n e hu
  exact ⟨_,h,fun ty w=>by unfold Builtin.len_; simp [run_underlying hu,goInt]⟩
 ·rename_i a hu
  split at h
  ·rename_i n e hu2
   exact ⟨_,h,fun ty w=>by unfold Builtin.len_; simp [run_underlying hu,run_underlying hu2,goInt]⟩
  ·exact h.elim
 ·rename_i k e hu
  exact absurd hu (hm k e)
 ·exact h.elim
end
end Go.Sh
namespace Go.Sh
open Go.RowKit
section
variable {P:Program} {env:Env}
def HeldAt (P:Program) (op:Op) (t:Tm) (m:H) (w:World):Prop:=
 match op with
 | .load ty x=>match t.get x with
  | some (.pointer (some a))=>∀ i,i<P.cellsOf ty→(hp w).cell (a.add i)=m.cell (a.add i)
  | _=>True
 | _=>True
theorem HeldAt.refl (op:Op) (t:Tm) (w:World):HeldAt P op t (hp w) w:=by
 unfold HeldAt
 split
 ·split
  ·exact fun _ _=>rfl
  ·trivial
 ·trivial
theorem run_value {s:Sem Value} {v:Value} {w:World} (h:s.run P w = .ok v w):(do pure (Next.value (←s)):Sem Next).run P w = .ok (.value v) w:=by
 simp [h]
set_option maxHeartbeats 1000000 in
theorem evVal_free {o:Oper} {t:Tm} {a:Act} {K:Option Value→H→Prop} {m:H} (hf:isFree P o.op=true) (hs:Sub t a) (h:evVal P env o.op o.type t K m):
  ∃ kv v,K kv m∧(kv=none∨kv=some v)∧∀ w,HeldAt P o.op t m w→(execOp a.eval o).run P w = .ok (.value v) w:=by
 obtain ⟨dst,op,ty,pos,after,guard⟩:=o
 have plain:∀ {s:Sem Value} {v:Value},(∀ w,s.run P w = .ok v w)→∀ w,HeldAt P op t m w→(do pure (Next.value (←s)):Sem Next).run P w = .ok (.value v) w:=fun hr w _=>run_value (hr w)
 simp only at hf h
 cases op <;> simp only [isFree,Bool.false_eq_true] at hf <;> simp only [evVal] at h
 case move x=>
  cases hx:t.get x with
  | none=>rw [hx] at h; exact ⟨_,a.eval x,h,.inl rfl,fun w _=>by simp [execOp]⟩
  | some v=>rw [hx] at h; exact ⟨_,a.eval x,h,.inr (by rw [hs.get hx]),fun w _=>by simp [execOp]⟩
 case assign x=>
  cases hx:t.get x with
  | none=>rw [hx] at h; exact ⟨_,a.eval x,h,.inl rfl,fun w _=>by simp [execOp]⟩
  | some v=>rw [hx] at h; exact ⟨_,a.eval x,h,.inr (by rw [hs.get hx]),fun w _=>by simp [execOp]⟩
 case pick c x y=>
  split at h
  ·rename_i p hc
   have ec:=hs.get hc
   cases p
   ·simp only [cond_false] at h
    cases hx:t.get y with
    | none=>rw [hx] at h; exact ⟨_,a.eval y,h,.inl rfl,fun w _=>by simp [execOp,ec,asBool]⟩
    | some v=>rw [hx] at h; exact ⟨_,a.eval y,h,.inr (by rw [hs.get hx]),fun w _=>by simp [execOp,ec,asBool]⟩
   ·simp only [cond_true] at h
    cases hx:t.get x with
    | none=>rw [hx] at h; exact ⟨_,a.eval x,h,.inl rfl,fun w _=>by simp [execOp,ec,asBool]⟩
    | some v=>rw [hx] at h; exact ⟨_,a.eval x,h,.inr (by rw [hs.get hx]),fun w _=>by simp [execOp,ec,asBool]⟩
  ·exact h.elim
 case build tb ps=>
  split at h
  ·rename_i vs hvs
   split at h
   ·rename_i cs hcs
    refine ⟨_,_,h,.inr rfl,plain fun w=>?_⟩
    refine run_build w tb _ cs ?_
    rw [←hcs]
    congr 1
    rw [Array.toList_map]
    refine List.map_congr_left fun p hp=>?_
    obtain ⟨v,hv⟩:=Tm.all_mem hvs p.2 (List.mem_map.2 ⟨p,hp,rfl⟩)
    simp [hs.val hv]
   ·exact h.elim
  ·exact h.elim
 case load tl x=>
  split at h
  ·rename_i p hx
   obtain ⟨v,hk,hr⟩:=evLoad_run h
   refine ⟨_,v,hk,.inr rfl,fun w hw=>?_⟩
   have:=hr w (by simpa only [HeldAt,hx] using hw)
   simp only [execOp]
   refine run_value ?_
   unfold Instr.loadAt
   rw [hs.get hx]
   simpa [Instr.sureAddr] using this
  ·exact h.elim
 case nilCheck x=>
  split at h
  ·rename_i p hx
   obtain ⟨b,rfl,hk⟩:=h
   exact ⟨_,_,hk,.inr rfl,fun w _=>by simp [execOp,hs.get hx]⟩
  ·exact h.elim
 case binOp op tb x y ty2=>
  split at h
  ·rename_i u v hx hy
   have hne:isAggEq P op tb=false:=by simpa using hf
   rw [hne,cond_false] at h
   obtain ⟨r,hk,hr⟩:=evBin_run x h (fun c hc=>by subst hc; simpa [Tm.get] using hy.symm)
   refine ⟨_,r,hk,.inr rfl,fun w _=>?_⟩
   have:=hr w
   simp only [execOp,hs.get hx,hs.get hy]
   exact run_value this
  ·exact h.elim
 case unOp op tb x=>
  split at h
  ·rename_i b hx
   exact ⟨_,_,h,.inr rfl,fun w _=>by simp [execOp,hs.get hx,Op.unary]⟩
  ·rename_i k n hx
   exact ⟨_,_,h,.inr rfl,fun w _=>by simp [execOp,hs.get hx,Op.unary,Op.intArith]⟩
  ·rename_i k n hx
   exact ⟨_,_,h,.inr rfl,fun w _=>by simp [execOp,hs.get hx,Op.unary,Op.intBits,bNot,bXor]⟩
  ·exact h.elim
 case makeInterface tb x=>
  split at h
  ·exact h.elim
  ·rename_i v d hn hx hd
   refine ⟨_,_,h,.inr rfl,plain fun w=>?_⟩
   simp only [hs.get hx]
   unfold Instr.makeInterface
   rw [Sem.run_bind,run_underlying hd,Result.andThen_ok]
   split
   ·exact absurd rfl (hn _)
   ·rfl
  ·exact h.elim
 case makeFunc fn first cap=>
  split at h
  ·rename_i u v hu hv
   refine ⟨_,_,h,.inr rfl,plain fun w=>?_⟩
   have e1:first.map a.eval=u.toArray:=by rw [←Array.toList_inj]; simpa using hs.all hu
   have e2:cap.map a.eval=v.toArray:=by rw [←Array.toList_inj]; simpa using hs.all hv
   simp [Instr.makeFunc,e1,e2]
  ·exact h.elim
 case slice ts x lo hi mx=>
  cases mx with
  | some m=>
   cases lo with
   | none=>simp only at h
   | some lo=>
   cases hi with
   | none=>simp only at h
   | some hi=>
    simp only at h
    split at h
    ·rename_i v l u m' hx hl hu hm
     obtain ⟨r,hk,hr⟩:=evSlice3_run h
     refine ⟨_,r,hk,.inr rfl,plain fun w=>?_⟩
     simp only [Option.map_some]
     rw [hs.get hx,hs.get hl,hs.get hu,hs.get hm]
     exact hr w
    ·exact h.elim
  | none=>
   simp only at h
   split at h
   ·rename_i v l u hx hl hu
    obtain ⟨r,hk,hr⟩:=evSlice_run h
    refine ⟨_,r,hk,.inr rfl,plain fun w=>?_⟩
    have e1:lo.map a.eval=lo.map t.val:=by
     cases lo with
     | none=>rfl
     | some y=>obtain ⟨v,hv⟩:=Tm.all_mem hl y (by simp); simp [hs.val hv]
    have e2:hi.map a.eval=hi.map t.val:=by
     cases hi with
     | none=>rfl
     | some y=>obtain ⟨v,hv⟩:=Tm.all_mem hu y (by simp); simp [hs.val hv]
    rw [hs.get hx,e1,e2]
    exact hr w
   ·exact h.elim
 case sliceToArrayPointer ty x=>
  split at h
  ·rename_i p n c k e hx hu
   obtain ⟨hle,b,rfl,hk⟩:=h
   refine ⟨_,_,hk,.inr rfl,plain fun w=>?_⟩
   rw [hs.get hx]
   unfold Instr.arrayAt
   simp only [Sem.run_bind,run_underlying hu,Result.andThen_ok]
   rw [if_neg (by omega)]; rfl
  ·exact h.elim
 case fieldAddr tf x f=>
  split at h
  ·rename_i v hx
   obtain ⟨r,hk,hr⟩:=evFieldAddr_run h
   exact ⟨_,r,hk,.inr rfl,plain fun w=>by rw [hs.get hx]; exact hr w⟩
  ·exact h.elim
 case field tf x f=>
  split at h
  ·rename_i v hx
   obtain ⟨r,hk,hr⟩:=evField_run h
   exact ⟨_,r,hk,.inr rfl,plain fun w=>by rw [hs.get hx]; exact hr w⟩
  ·exact h.elim
 case indexAddr ti x i=>
  split at h
  ·rename_i v j hx hj
   obtain ⟨r,hk,hr⟩:=evIndexAddr_run h
   exact ⟨_,r,hk,.inr rfl,plain fun w=>by rw [hs.get hx,hs.get hj]; exact hr w⟩
  ·exact h.elim
 case index ti x i=>
  split at h
  ·rename_i v j hx hj
   obtain ⟨r,hk,hr⟩:=evIndex_run h
   exact ⟨_,r,hk,.inr rfl,plain fun w=>by rw [hs.get hx,hs.get hj]; exact hr w⟩
  ·exact h.elim
 case extract x i=>
  split at h
  ·rename_i vs hx
   split at h
   ·rename_i v hv
    refine ⟨_,v,h,.inr rfl,plain fun w=>?_⟩
    rw [hs.get hx]
    have:vs[i]? = some v:=by simpa using hv
    simp [Instr.extract,this]
   ·exact h.elim
  ·exact h.elim
 case call c=>
  obtain ⟨callee,args,argTypes⟩:=c
  split at h
  ·rename_i vs hvs
   have ea:args.map a.eval=vs.toArray:=by rw [←Array.toList_inj]; simpa using hs.all hvs
   cases callee <;> first | (simp at hf; done) | skip
   rename_i b
   cases b <;> first | (simp at hf; done) | (simp only at h)
   case len=>
    split at h
    ·rename_i ty' x hty
     have hm:∀ k e,P.underlying ty'≠some (.map k e):=by
      intro k e he
      simp [hty,he] at hf
     obtain ⟨r,hk,hr⟩:=evLen_run hm h
     refine ⟨_,r,hk,.inr rfl,fun w _=>?_⟩
     have et:argTypes = #[ty']:=by rw [←Array.toList_inj]; simpa using hty
     subst et
     simp [execOp,resolve,ea,invoke,builtin,hr]
    ·exact h.elim
   case min=>
    obtain ⟨r,hk,hr⟩:=evMin_run (P:=P) h
    exact ⟨_,r,hk,.inr rfl,fun w _=>by simp [execOp,resolve,ea,invoke,builtin,hr]⟩
   case max=>
    obtain ⟨r,hk,hr⟩:=evMax_run (P:=P) h
    exact ⟨_,r,hk,.inr rfl,fun w _=>by simp [execOp,resolve,ea,invoke,builtin,hr]⟩
  ·exact h.elim
/-! ### Every operation -/
def FnOk (P:Program) (f:FuncId) (F:W):Prop:=
 ∀ args (Q:Value→H→Prop) w,F args Q (hp w) →
  (∃ g args',(callFunc f args).run P w = .ok (.enter g args') w∧Calls P g args' w fun e w'=>∃ v,e = .returned v∧Q v (hp w')∧Stays w w') ∨
  (∃ v w',(callFunc f args).run P w = .ok (.value v) w'∧Q v (hp w')∧Stays w w')
def EnvOk (P:Program) (env:Env):Prop:=∀ f,FnOk P f (env f)
def Post (o:Oper) (a:Act) (w:World) (K:Option Value→H→Prop) (a':Act) (w':World):Prop:=
 ∃ kv v,K kv (hp w')∧(kv=none∨kv=some v)∧a'=a.put o.dst v∧Stays w w'
theorem wp_of_value {o:Oper} {a:Act} {w w':World} {K:Option Value→H→Prop} {Q:Exit→Act→World→Prop} {v:Value}
  (hr:(execOp a.eval o).run P w = .ok (.value v) w') (hk:K (some v) (hp w')) (hst:Stays w w'):o.wp P a w (Post o a w K) Q:=by
 unfold Oper.wp
 rw [hr]
 exact ⟨_,v,hk,.inr rfl,rfl,hst⟩
theorem wp_of_call {o:Oper} {a:Act} {w:World} {K:Option Value→H→Prop} {Q:Exit→Act→World→Prop} {f:FuncId} {args:Array Value} {K':Value→H→Prop}
  (he:EnvOk P env) (ho:execOp a.eval o=callFunc f args) (hk:∀ v h',K' v h'→K (some v) h') (h:env f args K' (hp w)):o.wp P a w (Post o a w K) Q:=by
 unfold Oper.wp
 rw [ho]
 rcases he f args _ w h with ⟨g,args',hr,hc⟩ | ⟨v,w',hr,hkk,hst⟩
 ·rw [hr]
  show Calls P g args' w _
  exact hc.mono fun e w' ⟨v,hv,hkk,hst⟩=>by subst hv; exact ⟨_,v,hk _ _ hkk,.inr rfl,rfl,hst⟩
 ·rw [hr]
  exact ⟨_,v,hk _ _ hkk,.inr rfl,rfl,hst⟩
theorem evStore_run {ty:TypeId} {a:Addr} {v:Value} {K:H→Prop} {w:World} (h:evStore P ty a v K (hp w)):
  ∃ w',(Instr.storeAt ty (.pointer (some a)) v).run P w = .ok () w'∧K (hp w')∧Stays w w':=by
 have key:∀ cs:Array Value,v.cells=cs→(∃ i,P.info? ty=some i∧cs.size=i.size)→(∀ v ∈ cs.toList,isPlainCell v=true) →
   (∀ i,i<cs.toList.length→((hp w).cell (a.add i)).isSome=true∧(hp w).frozen (a.add i)=false)→K ((hp w).sets a 0 cs.toList) →
   ∃ w',(Instr.storeAt ty (.pointer (some a)) v).run P w = .ok () w'∧K (hp w')∧Stays w w':=by
  intro cs hcs ⟨i,hi,hsz⟩ hp1 hp2 hk
  have:=wpS_sound P (storeCells a cs.toList) (fun _ h=>K h) w (wpS_storeCells cs.toList 0 (hp w) hp1 (fun j hj=>by rw [Nat.zero_add]; exact hp2 j hj) hk)
  obtain ⟨u,w',hr,hk',hst⟩:=this
  refine ⟨w',?_,hk',hst⟩
  unfold Instr.storeAt storeVar
  simp [Instr.sureAddr,hcs,run_sizeOf_i hi,hsz,hr]
 unfold evStore at h
 split at h
 ·rename_i i hi
  split at h
  ·rename_i s hs
   cases hb:Nat.beq i.size 1 with
   | false=>simp [hb] at h
   | true=>
    simp only [hb,cond_true] at h
    obtain ⟨h1,h2,h3,hk⟩:=h
    have hc:v.cells = #[v]:=by cases v <;> first | (simp [isPlainCell] at h1; done) | rfl
    refine key #[v] hc ⟨i,hi,by simpa using (Nat.eq_of_beq_eq_true hb).symm⟩ (by simpa using h1) ?_ (by rw [show (hp w).sets a 0 (#[v]:Array Value).toList=(hp w).set a v from by simp [H.sets,Addr.add_zero']]; exact hk)
    intro j hj
    have:j=0:=by simpa using hj
    subst this
    simpa using ⟨h2,h3⟩
  ·split at h
   ·rename_i cs
    obtain ⟨hsz,h1,h2,hk⟩:=h
    exact key cs rfl ⟨i,hi,hsz⟩ h1 h2 hk
   ·exact h.elim
  ·exact h.elim
 ·exact h.elim
theorem zeroCells_eq (z:Array Value) (n:Nat):Builtin.zeroCells z n=(zerosOf z.toList n).toArray:=by
 rw [←Array.toList_inj]
 unfold Builtin.zeroCells zerosOf
 simp only [Array.toList_map,Array.toList_range]
 by_cases hz:z.size=0
 ·have:z = #[]:=Array.eq_empty_of_size_eq_zero hz
  subst this
  simp
 ·apply List.ext_getElem
  ·simp
  ·intro i h1 h2
   have hi:i<n*z.size:=by simpa using h1
   have hm:i % z.size<z.size:=Nat.mod_lt _ (by omega)
   have hf:∀ (m:Nat) (l:List Value) (j:Nat) (hj:j<(List.flatten (List.replicate m l)).length),(List.flatten (List.replicate m l))[j]? = l[j % l.length]?:=by
    intro m l
    induction m with
    | zero=>intro j hj; simp at hj
    | succ m ih=>
     intro j hj
     rw [List.replicate_succ,List.flatten_cons]
     by_cases hlt:j<l.length
     ·rw [List.getElem?_append_left hlt,Nat.mod_eq_of_lt hlt]
     ·have hge:l.length≤j:=by omega
      rw [List.getElem?_append_right hge,ih (j-l.length) (by simp [List.replicate_succ] at hj ⊢; omega)]
      rw [Nat.mod_eq_sub_mod hge]
   have:=hf n z.toList i h2
   rw [List.getElem?_eq_getElem h2] at this
   have h3:z.toList[i % z.toList.length]? = some z[i % z.size]! := by
    simp [hm]
   rw [h3] at this
   simpa using (Option.some.inj this).symm
theorem wpS_bind2 {α β:Type} (s:Sem α) (f:α → Sem β) (Q:β → H→Prop) (h:H):wpS P (s >>= f) Q h=wpS P s (fun a h'=>wpS P (f a) Q h') h:=wpS_bind P s f Q h
theorem wpS_pure {α:Type} (x:α) (Q:α → H→Prop) (h:H):wpS P (pure x) Q h=Q x h:=rfl
theorem wpS_underlying {t:TypeId} {d:TypeDesc} (hu:P.underlying t=some d) (Q:TypeDesc→H→Prop) (h:H):wpS P (underlying t) Q h=Q d h:=by
 unfold underlying
 rw [wpS_bind2]
 show wpS P (match P.underlying t with | some d=>pure d | none=>stuck "no such type") Q h=_
 rw [hu]; rfl
theorem wpS_typeInfo {t:TypeId} {i:TypeInfo} (hi:P.info? t=some i) (Q:TypeInfo→H→Prop) (h:H):wpS P (typeInfo t) Q h=Q i h:=by
 unfold typeInfo
 rw [wpS_bind2]
 show wpS P (match P.info? t with | some i=>pure i | none=>stuck "no such type") Q h=_
 rw [hi]; rfl
theorem wpS_sizeOf {t:TypeId} {i:TypeInfo} (hi:P.info? t=some i) (Q:Nat→H→Prop) (h:H):wpS P (sizeOf t) Q h=Q i.size h:=by
 unfold sizeOf
 rw [wpS_bind2,wpS_typeInfo hi]; rfl
theorem wpS_zeroValue {t:TypeId} {i:TypeInfo} {z:Value} (hi:P.info? t=some i) (hz:i.zero=some z) (Q:Value→H→Prop) (h:H):wpS P (zeroValue t) Q h=Q z h:=by
 unfold zeroValue
 rw [wpS_bind2,wpS_typeInfo hi,hz]; rfl
theorem wpS_newRow (e:TypeId) (cs:Array Value) (Q:Addr→H→Prop) (h:H):wpS P (newRow e cs) Q h = ∀ b,h b=none→Q ⟨b,0,none⟩ (h.upd b (.cells cs e)):=rfl
theorem wpS_choose {q:Question} (hq:q.forced=false) (Q:Nat→H→Prop) (h:H):wpS P (choose q) Q h = ∀ t,Q (q.cut t) h:=by
 show (if q.forced then _ else _)=_
 rw [hq]; rfl
theorem wpS_cellsOf {x:Option Addr} {n:Nat} {h:H} {K:List Value→Prop} {Q:Array Value→H→Prop} (size len cap:Nat) (hc:M.cellsOf h x (n*size) K) (hk:∀ cs,K cs→Q cs.toArray h):
  wpS P (Builtin.firstCells size n (.slice x len cap)) Q h:=by
 cases x with
 | none=>exact hk [] (hc.1 rfl)
 | some a=>
  obtain ⟨cs,hl,hr,hkk⟩:=hc.2 a rfl
  show wpS P (loadCellsFrom a 0 (n*size) #[]) Q h
  rw [←hl]
  exact wpS_loadCells cs 0 #[] (fun j hj=>by rw [Nat.zero_add]; exact hr j hj) (by simpa using hk cs hkk)
theorem cut_appendCap (need old:Nat) (e:TypeId) (t:Nat):need≤(Question.appendCap need old e).cut t:=by simp [Question.cut]
theorem wpS_append {st xt e:TypeId} {i:TypeInfo} {z x:Value} {base:Option Addr} {len cap n:Nat} {new:List Value} {ty:TypeId} {K:Value→H→Prop} {h:H}
  (hst:P.underlying st=some (.slice e)) (hi:P.info? e=some i) (hz:i.zero=some z)
  (hd:P.underlying xt=some .string∨∃ e2,P.underlying xt=some (.slice e2)) (hn:Builtin.lenOf x=pure n)
  (hnew:∀ (Q:Array Value→H→Prop),Q new.toArray h→wpS P (Builtin.firstCells i.size n x) Q h)
  (ha:M.app h e i.size i.bytes z.cells.toList base len cap n new (fun a l c h'=>K (.slice a l c) h')):
  wpS P (Builtin.append_ #[st,xt] ty #[.slice base len cap,x]) K h:=by
 have key:wpS P (do
   let need:=len+n
   if need≤cap then
    let new ←Builtin.firstCells i.size n x
    if let some a:=base then storeCells (a.add (len*i.size)) new.toList
    pure (.slice base need cap)
   else
    if (need:Int) > IntKind.i64.max∧(false=true∨(←typeInfo e).bytes=0) then runtimePanic (.error "growslice: len out of range")
    if Builtin.nextslicecap need cap*(←typeInfo e).bytes > 2 ^ 48 then (if false=true then runtimePanic (.error "growslice: len out of range") else do
     if !(←Builtin.mayShare i.size len n base x) then mark .noRoom
     unsupported (.resourceLimit "append: a slice or a string whose bytes no memory bears"))
    let newCap ←choose (.appendCap need cap e)
    askRoom (newCap*(←typeInfo e).bytes)
    let old ←Builtin.firstCells i.size len (.slice base len cap)
    let new ←Builtin.firstCells i.size n x
    let rest:=Builtin.zeroCells (←zeroValue e).cells (newCap-need)
    pure (.slice (some (←newRow e (old++new++rest))) need newCap):Sem Value) K h:=by
  obtain ⟨hfit,hgrow⟩:=ha
  by_cases hle:len+n≤cap
  ·simp only []
   rw [if_pos hle,wpS_bind2]
   refine hnew _ ?_
   obtain ⟨h1,h2⟩:=hfit hle
   cases base with
   | none=>exact h1 rfl
   | some a=>
    obtain ⟨p1,p2,p3⟩:=h2 a rfl
    simp only []
    rw [wpS_bind2]
    exact wpS_storeCells new 0 h p1 (fun j hj=>by rw [Nat.zero_add]; exact p2 j hj) p3
  ·obtain ⟨g1,g2,g3⟩:=hgrow (by omega)
   simp only []
   rw [if_neg hle,wpS_bind2,wpS_typeInfo hi,if_neg (by omega),wpS_bind2,wpS_typeInfo hi,if_neg (by omega),wpS_bind2,wpS_choose rfl]
   intro t
   generalize hc:(Question.appendCap (len+n) cap e).cut t=c
   have hcc:len+n≤c:=by rw [←hc]; exact cut_appendCap _ _ _ _
   rw [wpS_bind2,wpS_typeInfo hi,wpS_bind2]
   have hask:∀ (Q:Unit→H→Prop),Q () h→wpS P (askRoom (c*i.bytes)) Q h:=by
    intro Q hq
    unfold askRoom
    split <;> exact hq
   refine hask _ ?_
   rw [wpS_bind2]
   refine wpS_cellsOf i.size len cap g3 fun old hold=>?_
   rw [wpS_bind2]
   refine hnew _ ?_
   rw [wpS_bind2,wpS_zeroValue hi hz,wpS_bind2,wpS_newRow]
   intro b hb
   have:=hold c hcc b hb
   rw [zeroCells_eq]
   simpa [wpS_pure] using this
 unfold Builtin.append_
 rcases hd with hd | ⟨e2,hd⟩
 ·simp only [List.getElem?_toArray,List.getElem?_cons_zero,List.getElem?_cons_succ,wpS_bind2,wpS_underlying hst,wpS_sizeOf hi,wpS_underlying hd,wpS_pure,hn]
  exact key
 ·simp only [List.getElem?_toArray,List.getElem?_cons_zero,List.getElem?_cons_succ,wpS_bind2,wpS_underlying hst,wpS_sizeOf hi,wpS_underlying hd,wpS_pure,hn]
  exact key
theorem wpS_appendZ {st xt e:TypeId} {k k':IntKind} {i:TypeInfo} {z:Value} {base:Option Addr} {len cap:Nat} {n:Int} {ty:TypeId} {K:Value→H→Prop} {h:H}
  (hst:P.underlying st=some (.slice e)) (hi:P.info? e=some i) (hz:i.zero=some z) (hzs:z.cells.size=i.size) (hd:P.underlying xt=some (.int k))
  (ha:M.appz h e i.size i.bytes z.cells.toList base len cap n (fun a l c h'=>K (.slice a l c) h')):
  wpS P (Builtin.append_ #[st,xt] ty #[.slice base len cap,.int k' n]) K h:=by
 obtain ⟨hn0,hnb,hnm,ha⟩:=ha
 have hw:IntKind.i64.wrap n=n:=by rw [IntKind.wrap_i64]; omega
 have hnew:∀ (Q:Array Value→H→Prop),Q (zerosOf z.cells.toList n.toNat).toArray h→wpS P (if n.toNat * i.size=0 then pure #[] else do pure (Builtin.zeroCells (←zeroValue e).cells n.toNat):Sem (Array Value)) Q h:=by
  intro Q hq
  split
  ·rename_i h0
   have:zerosOf z.cells.toList n.toNat=[]:=by
    apply List.length_eq_zero_iff.1
    unfold zerosOf
    have:∀ m,(List.flatten (List.replicate m z.cells.toList)).length=m*i.size:=by
     intro m
     induction m with
     | zero=>simp
     | succ m ih=>rw [List.replicate_succ,List.flatten_cons,List.length_append,ih,Nat.succ_mul]; simp [hzs]; omega
    rw [this,h0]
   rw [this] at hq
   exact hq
  ·rw [wpS_bind2,wpS_zeroValue hi hz,zeroCells_eq]
   exact hq
 unfold Builtin.append_
 simp only [List.getElem?_toArray,List.getElem?_cons_zero,List.getElem?_cons_succ,wpS_bind2,wpS_underlying hst,wpS_sizeOf hi,wpS_underlying hd,wpS_pure]
 simp only [if_true,asInt,asIntOf,wpS_bind2,wpS_pure,hw,wpS_typeInfo hi]
 rw [if_neg (by omega),wpS_bind2,wpS_typeInfo hi,if_neg (by rw [Int.mul_comm]; omega),wpS_bind2,wpS_pure]
 simp only [Bool.not_true,Bool.false_eq_true,if_false]
 obtain ⟨hfit,hgrow⟩:=ha
 by_cases hle:len+n.toNat≤cap
 ·rw [if_pos hle,wpS_bind2]
  refine hnew _ ?_
  obtain ⟨h1,h2⟩:=hfit hle
  cases base with
  | none=>exact h1 rfl
  | some a=>
   obtain ⟨p1,p2,p3⟩:=h2 a rfl
   simp only []
   rw [wpS_bind2]
   exact wpS_storeCells _ 0 h p1 (fun j hj=>by rw [Nat.zero_add]; exact p2 j hj) p3
 ·obtain ⟨g1,g2,g3⟩:=hgrow (by omega)
  rw [if_neg hle,wpS_bind2,wpS_typeInfo hi,if_neg (fun hh=>absurd hh.1 (by omega)),wpS_bind2,wpS_typeInfo hi,if_neg (by omega),wpS_bind2,wpS_choose rfl]
  intro t
  generalize hc:(Question.appendCap (len+n.toNat) cap e).cut t=c
  have hcc:len+n.toNat≤c:=by rw [←hc]; exact cut_appendCap _ _ _ _
  rw [wpS_bind2,wpS_typeInfo hi,wpS_bind2]
  have hask:∀ (Q:Unit→H→Prop),Q () h→wpS P (askRoom (c*i.bytes)) Q h:=by
   intro Q hq
   unfold askRoom
   split <;> exact hq
  refine hask _ ?_
  rw [wpS_bind2]
  refine wpS_cellsOf i.size len cap g3 fun old hold=>?_
  rw [wpS_bind2]
  refine hnew _ ?_
  rw [wpS_bind2,wpS_zeroValue hi hz,wpS_bind2,wpS_newRow]
  intro b hb
  have:=hold c hcc b hb
  rw [zeroCells_eq]
  simpa [wpS_pure] using this
end
end Go.Sh
namespace Go.Sh
open Go.RowKit
section
variable {P:Program} {env:Env}
theorem wp_of_wpS {o:Oper} {a:Act} {w:World} {K:Option Value→H→Prop} {Q:Exit→Act→World→Prop} {s:Sem Value}
  (ho:execOp a.eval o=(do pure (Next.value (←s)))) (h:wpS P s (fun v h'=>K (some v) h') (hp w)):o.wp P a w (Post o a w K) Q:=by
 obtain ⟨v,w',hr,hk,hst⟩:=wpS_sound P s _ w h
 exact wp_of_value (v:=v) (by rw [ho]; simp [hr]) hk hst
theorem wp_of_unit {o:Oper} {a:Act} {w w':World} {K:Option Value→H→Prop} {Q:Exit→Act→World→Prop} {s:Sem Unit}
  (ho:execOp a.eval o=(do s; pure Next.skip)) (hr:s.run P w = .ok () w') (hk:K (some undef) (hp w')) (hst:Stays w w'):o.wp P a w (Post o a w K) Q:=by
 unfold Oper.wp
 have:(execOp a.eval o).run P w = .ok .skip w':=by rw [ho]; simp [hr]
 rw [this]
 exact ⟨_,undef,hk,.inr rfl,rfl,hst⟩
theorem run_getObj {w:World} {b:Nat} {es:Array MapEntry} {c:Nat} (h:hp w b=some (.map es c)):(getObj b).run P w = .ok (.map es c) w:=by
 have h':w.heap[b]? = some (.map es c):=h
 simp [getObj,Sem.run,h']
theorem run_setObj {w:World} {b:Nat} {o:Obj} {es:Array MapEntry} {c:Nat} (h:hp w b=some (.map es c)):∃ w',(setObj b o).run P w = .ok () w'∧hp w'=(hp w).upd b o∧Stays w w':=by
 have h':w.heap[b]? = some (.map es c):=h
 refine ⟨{ w with heap:=w.heap.setIfInBounds b o },by simp [setObj,Sem.run,h'],hp_setObj w b o h',⟨rfl,rfl,rfl,by simp⟩⟩
theorem run_lookup_some {w:World} {tm kt et:TypeId} {m k:Value} {es:Array MapEntry} {p:Nat × Value} {ok:Bool} (hu:P.underlying tm=some (.map kt et)) (hm:MapAt (hp w) m es) (hk:KeyAt P kt es k (some p)):
  (Instr.lookup tm m k ok).run P w = .ok (if ok then .tuple #[p.2,.bool true] else p.2) w:=by
 unfold Instr.lookup
 rcases hm with ⟨rfl,rfl⟩ | ⟨b,c,rfl,hb⟩
 ·simp [run_underlying hu,hk.1,hk.2]
 ·simp [run_underlying hu,run_getObj hb,hk.1,hk.2]
theorem run_lookup_none {w:World} {tm kt et:TypeId} {m k z:Value} {es:Array MapEntry} {ok:Bool} (hu:P.underlying tm=some (.map kt et)) (hm:MapAt (hp w) m es) (hk:KeyAt P kt es k none)
  (hz:∀ w,(zeroValue et).run P w = .ok z w):(Instr.lookup tm m k ok).run P w = .ok (if ok then .tuple #[z,.bool false] else z) w:=by
 unfold Instr.lookup
 rcases hm with ⟨rfl,rfl⟩ | ⟨b,c,rfl,hb⟩
 ·simp [run_underlying hu,hk.1,hk.2,hz]
 ·simp [run_underlying hu,run_getObj hb,hk.1,hk.2,hz]
theorem run_mapUpdate {w:World} {tm:TypeId} {m k v:Value} {K:H→Prop} (h:M.mput P tm m k v (hp w) K):∃ w',(Instr.mapUpdate tm m k v).run P w = .ok () w'∧K (hp w')∧Stays w w':=by
 obtain ⟨kt,et,b,es,c,r,hu,rfl,hb,hk,h⟩:=h
 cases r with
 | none=>
  obtain ⟨w',hr,hw,hst⟩:=run_setObj (P:=P) (o:=.map (es.push { key:=k,val:=v,born:=c }) (c+1)) hb
  refine ⟨w',?_,by rw [hw]; exact h,hst⟩
  unfold Instr.mapUpdate
  simp [run_underlying hu,run_getObj hb,hk.1,hk.2,hr]
 | some p=>
  obtain ⟨i,u⟩:=p
  obtain ⟨hsb,h⟩:=h
  obtain ⟨w',hr,hw,hst⟩:=run_setObj (P:=P) (o:=.map (es.modify i fun e=>{ e with key:=k,val:=v }) c) hb
  refine ⟨w',?_,by rw [hw]; exact h,hst⟩
  have hkeep:(Instr.keyThatStays (((es[i]?).map (·.key)).getD k) k).run P w = .ok k w:=by
   unfold Instr.keyThatStays
   rw [if_pos hsb]; rfl
  unfold Instr.mapUpdate
  simp only [Sem.run_bind,run_underlying hu,Result.andThen_ok,run_getObj hb,hk.1,hk.2,hkeep,hr]
theorem wpS_bytes {x:Option Addr} {n c:Nat} {h:H} {K:ByteArray→Prop} {Q:Value→H→Prop} (hb:M.b2s h x n K) (hk:∀ s,K s→Q (.string s) h):
  wpS P (Conv.bytesToString (.slice x n c)) Q h:=by
 unfold Conv.bytesToString
 cases x with
 | none=>exact hk _ (hb.1 rfl)
 | some a=>
  obtain ⟨zs,hl,hr,hkk⟩:=hb.2 a rfl
  simp only []
  rw [wpS_bind2]
  have hl2:(zs.map (Value.int .u8)).length=n:=by simpa using hl
  show wpS P (loadCellsFrom a 0 n #[]) _ h
  rw [←hl2]
  refine wpS_loadCells _ 0 #[] (fun j hj=>by rw [Nat.zero_add]; exact hr j hj) ?_
  have key:∀ (l:List Int) (s0:ByteArray) (K2:ByteArray→H→Prop),K2 ⟨s0.data++(ofBytes l).data⟩ h →
    wpS P (forIn (l.map (Value.int .u8)) s0 fun c s=>do
     let .int .u8 n:=c | stuck "bytesToString: byte expected"
     pure (.yield (s.push (UInt8.ofNat n.toNat)))) K2 h:=by
   intro l
   induction l with
   | nil=>intro s0 K2 hk2; simpa [ofBytes,wpS_pure] using hk2
   | cons z r ih=>
    intro s0 K2 hk2
    simp only [List.map_cons,List.forIn_cons,wpS_bind2,wpS_pure]
    refine ih (s0.push (UInt8.ofNat z.toNat)) K2 ?_
    have:(⟨(s0.push (UInt8.ofNat z.toNat)).data++(ofBytes r).data⟩:ByteArray)=⟨s0.data++(ofBytes (z::r)).data⟩:=by
     congr 1
     simp [ofBytes,ByteArray.push]
    rw [this]; exact hk2
  have:=key zs ByteArray.empty (fun s h'=>Q (.string s) h') (by simpa using hk _ hkk)
  simp only [List.nil_append,List.append_toArray,List.forIn_toArray,wpS_bind2,wpS_pure] at this ⊢
  exact this
theorem wpS_s2b {e:TypeId} {s:ByteArray} {h:H} {K:Option Addr→Nat→Nat→H→Prop} {Q:Value→H→Prop} (hb:M.s2b h e s K) (hk:∀ a n c h',K a n c h'→Q (.slice a n c) h'):
  wpS P (Conv.stringToBytes e s) Q h:=by
 unfold Conv.stringToBytes
 rw [wpS_bind2,wpS_choose rfl]
 intro t
 generalize hc:(Question.appendCap s.size 0 e).cut t=c
 have hcc:s.size≤c:=by rw [←hc]; exact cut_appendCap _ _ _ _
 simp only []
 rw [wpS_bind2,wpS_newRow]
 intro b hbn
 have hh:=hk _ _ _ _ (hb c hcc b hbn)
 rw [wpS_bind2]
 have hcells:(Array.map (fun b=>Value.int IntKind.u8 ↑b.toNat) s.data++Array.replicate (c-s.size) (Value.int .u8 0))=(bytesOf s++List.replicate (c-s.size) (Value.int .u8 0)).toArray:=by
  rw [←Array.toList_inj]
  simp [bytesOf]
 rw [hcells]
 generalize hcs:(bytesOf s++List.replicate (c-s.size) (Value.int .u8 0))=cs at hh ⊢
 have hsz:cs.length=c:=by
  rw [←hcs]
  have:s.data.toList.length=s.size:=by simp
  simp only [List.length_append,bytesOf,List.length_map,List.length_replicate,this]; omega
 unfold markStringish
 rw [wpS_bind2]
 show wpS P _ _ _
 have hsh:(h.upd b (.cells cs.toArray e)).shape b=some (e,c):=by simp [H.shape,H.upd_self,hsz]
 show wpS P (match (h.upd b (.cells cs.toArray e)).shape b with | some (_,n)=>freeze ⟨b,n,none⟩ 1 | _=>pure ()) _ _
 rw [hsh]
 show Q (.slice (some ⟨b,0,none⟩) s.size c) ((h.upd b (.cells cs.toArray e)).freeze ⟨b,c,none⟩ 1)
 have hfz:(h.upd b (.cells cs.toArray e)).freeze ⟨b,c,none⟩ 1=h.upd b (.cells cs.toArray e (c,c+1)):=by
  funext x
  unfold H.freeze H.modify
  rw [if_neg (by decide)]
  by_cases hx:x=b
  ·subst hx; simp [freezeIn,H.upd]
  ·simp [hx,H.upd]
 rw [hfz]
 exact hh
theorem wpS_makeSlice {t e:TypeId} {i:TypeInfo} {z:Value} {kl kc:IntKind} {l c:Int} {h:H} {K:Option Addr→Nat→Nat→H→Prop} {Q:Value→H→Prop}
  (ht:P.underlying t=some (.slice e)) (hi:P.info? e=some i) (hz:i.zero=some z) (hzs:z.cells.size=i.size)
  (hm:M.mk h e z.cells.toList i.bytes l c K) (hk:∀ a n c h',K a n c h'→Q (.slice a n c) h'):wpS P (Instr.makeSlice t (.int kl l) (.int kc c)) Q h:=by
 obtain ⟨h0,h1,h2,h3,hb⟩:=hm
 have wl:IntKind.i64.wrap l=l:=by rw [IntKind.wrap_i64]; omega
 have wc:IntKind.i64.wrap c=c:=by rw [IntKind.wrap_i64]; omega
 unfold Instr.makeSlice
 rw [wpS_bind2,wpS_underlying ht]
 simp only [asInt,asIntOf,wpS_bind2,wpS_pure,wpS_typeInfo hi,wl,wc]
 have n1:(decide (c<0) || decide ((i.bytes:Int)*c > 2 ^ 48))=false:=by simp; omega
 rw [n1]
 simp only [Bool.false_or]
 rw [if_neg (by simp; omega)]
 have hask:∀ (Q:Unit→H→Prop),Q () h→wpS P (askRoom (c.toNat * i.bytes)) Q h:=by
  intro Q hq
  unfold askRoom
  split <;> exact hq
 rw [wpS_bind2]
 refine hask _ ?_
 rw [wpS_bind2,wpS_sizeOf hi]
 have hfin:∀ (z':Array Value),(Array.map (fun x=>z'[x % z'.size]!) (Array.range (c.toNat * i.size)))=(zerosOf z.cells.toList c.toNat).toArray →
   wpS P (do
     let a ←newRow e (Array.map (fun x=>z'[x % z'.size]!) (Array.range (c.toNat * i.size)))
     pure (Value.slice (some a) l.toNat c.toNat)) Q h:=by
  intro z' hz'
  rw [wpS_bind2,wpS_newRow,hz']
  exact fun b hbn=>hk _ _ _ _ (hb b hbn)
 split
 ·rename_i h0
  rw [wpS_bind2]
  refine hfin #[] ?_
  rw [h0,←zeroCells_eq]
  unfold Builtin.zeroCells
  rw [hzs,h0]
  simp
 ·rw [wpS_bind2,wpS_zeroValue hi hz,wpS_bind2]
  refine hfin z.cells ?_
  rw [←zeroCells_eq]
  unfold Builtin.zeroCells
  rw [hzs]
theorem wpS_convert {s d:TypeId} {x:Value} {h:H} {K:Value→H→Prop} (hc:evConv P s d x K h):wpS P (convert s d x) K h:=by
 unfold evConv at hc
 split at hc
 ·rename_i k hd
  split at hc
  ·rename_i e _ _ hs
   unfold convert
   rw [wpS_bind2,wpS_underlying hs,wpS_bind2,wpS_underlying hd]
   exact hc
  ·exact hc.elim
 ·rename_i hd
  split at hc
  ·rename_i hs
   split at hc
   ·unfold convert
    rw [wpS_bind2,wpS_underlying hs,wpS_bind2,wpS_underlying hd]
    exact hc
   ·exact hc.elim
  ·rename_i e hs
   split at hc
   ·rename_i he
    split at hc
    ·unfold convert
     rw [wpS_bind2,wpS_underlying hs,wpS_bind2,wpS_underlying hd]
     simp only []
     rw [wpS_bind2,wpS_underlying he]
     exact wpS_bytes hc fun s hs=>hs
    ·exact hc.elim
   ·exact hc.elim
  ·exact hc.elim
 ·rename_i e hd
  split at hc
  ·rename_i hs
   split at hc
   ·rename_i he
    split at hc
    ·unfold convert
     rw [wpS_bind2,wpS_underlying hs,wpS_bind2,wpS_underlying hd]
     simp only []
     rw [wpS_bind2,wpS_underlying he]
     exact wpS_s2b hc fun _ _ _ _ h=>h
    ·exact hc.elim
   ·exact hc.elim
  ·exact hc.elim
 ·exact hc.elim
theorem wpS_len {t ty:TypeId} {x:Value} {h:H} {K:Value→H→Prop} (hl:evLen P t x K h):wpS P (Builtin.len_ #[t] ty #[x]) K h:=by
 unfold evLen at hl
 unfold Builtin.len_
 simp only [List.getElem?_toArray,List.getElem?_cons_zero]
 split at hl
 ·rename_i hu
  split at hl
  ·rw [wpS_bind2,wpS_underlying hu]; exact hl
  ·exact hl.elim
 ·rename_i e hu
  split at hl
  ·rw [wpS_bind2,wpS_underlying hu]; exact hl
  ·exact hl.elim
 ·rename_i n e hu
  rw [wpS_bind2,wpS_underlying hu]; exact hl
 ·rename_i a hu
  split at hl
  ·rename_i n e hu2
   rw [wpS_bind2,wpS_underlying hu]
   simp only []
   rw [wpS_bind2,wpS_underlying hu2]; exact hl
  ·exact hl.elim
 ·rename_i k e hu
  split at hl
  ·rename_i r
   rw [wpS_bind2,wpS_underlying hu]
   cases r with
   | none=>exact hl.1 rfl
   | some b=>
    obtain ⟨es,c,hb,hk⟩:=hl.2 b rfl
    exact ⟨_,hb,rfl,hk⟩
  ·exact hl.elim
 ·exact hl.elim
theorem wpS_copy {ts:Array TypeId} {ty:TypeId} {args:List Value} {h:H} {K:Value→H→Prop} (hc:evCopy P ts args K h):wpS P (Builtin.copy_ ts ty args.toArray) K h:=by
 unfold evCopy at hc
 split at hc
 ·rename_i dt xt dst dl cap x hts
  have et:ts = #[dt,xt]:=by rw [←Array.toList_inj]; simpa using hts
  subst et
  split at hc
  ·rename_i e hu
   split at hc
   ·rename_i i hi
    unfold Builtin.copy_
    simp only [List.getElem?_toArray,List.getElem?_cons_zero,List.getElem?_cons_succ]
    rw [wpS_bind2,wpS_underlying hu]
    simp only []
    split at hc
    ·rename_i xa n c
     simp only [Builtin.lenOf,wpS_bind2,wpS_pure,wpS_sizeOf hi]
     exact wpS_cellsOf i.size n c hc fun cs hcs=>by
      cases dst with
      | none=>exact hcs.1 rfl
      | some a=>
       obtain ⟨p1,p2,p3⟩:=hcs.2 a rfl
       simp only []
       rw [wpS_bind2]
       exact wpS_storeCells (Q:=fun _ h'=>K (.int .i64 (min n dl:Nat)) h') cs 0 h p1 (fun j hj=>by rw [Nat.zero_add]; exact p2 j hj) p3
    ·rename_i s
     simp only [Builtin.lenOf,wpS_bind2,wpS_pure,wpS_sizeOf hi,Builtin.firstCells]
     have e:(Array.map (fun b=>Value.int IntKind.u8 ↑b.toNat) (s.extract 0 (Nat.min s.size dl)).data)=(bytesOf (s.extract 0 (min s.size dl))).toArray:=by
      rw [←Array.toList_inj]; simp [bytesOf]
     rw [e]
     generalize bytesOf (s.extract 0 (min s.size dl))=cs at hc ⊢
     cases dst with
     | none=>exact hc.1 rfl
     | some a=>
      obtain ⟨p1,p2,p3⟩:=hc.2 a rfl
      simp only []
      rw [wpS_bind2]
      exact wpS_storeCells (Q:=fun _ h'=>K (.int .i64 (min s.size dl:Nat)) h') cs 0 h p1 (fun j hj=>by rw [Nat.zero_add]; exact p2 j hj) p3
    ·exact hc.elim
   ·exact hc.elim
  ·exact hc.elim
 ·exact hc.elim
theorem wpS_clear {ts:Array TypeId} {ty:TypeId} {args:List Value} {h:H} {K:Value→H→Prop} (hc:evClear P ts args K h):wpS P (Builtin.clear_ ts ty args.toArray) K h:=by
 unfold evClear at hc
 split at hc
 ·rename_i t a n cap hts
  have et:ts = #[t]:=by rw [←Array.toList_inj]; simpa using hts
  subst et
  split at hc
  ·rename_i e hu
   split at hc
   ·rename_i i hi
    split at hc
    ·rename_i z hz
     unfold Builtin.clear_
     simp only [List.getElem?_toArray,List.getElem?_cons_zero]
     rw [wpS_bind2,wpS_underlying hu]
     cases a with
     | none=>exact hc.1 rfl
     | some a=>
      obtain ⟨p1,p2,p3⟩:=hc.2 a rfl
      cases n with
      | zero=>exact p3
      | succ n=>
       simp only [wpS_bind2]
       rw [wpS_zeroValue hi hz,zeroCells_eq]
       exact wpS_storeCells (Q:=fun _ h'=>K (.tuple #[]) h') _ 0 h p1 (fun j hj=>by rw [Nat.zero_add]; exact p2 j hj) p3
    ·exact hc.elim
   ·exact hc.elim
  ·exact hc.elim
 ·exact hc.elim
theorem wpS_appendE {ts:Array TypeId} {ty:TypeId} {args:List Value} {h:H} {K:Value→H→Prop} (hc:evAppend P ts args K h):wpS P (Builtin.append_ ts ty args.toArray) K h:=by
 unfold evAppend at hc
 split at hc
 ·rename_i st xt s x hts
  have et:ts = #[st,xt]:=by rw [←Array.toList_inj]; simpa using hts
  subst et
  split at hc
  ·rename_i e base len cap hst
   split at hc
   ·rename_i i hi
    split at hc
    ·rename_i z e2 hz hx
     split at hc
     ·rename_i xa n c
      cases xa with
      | none=>
       exact wpS_append hst hi hz (.inr ⟨e2,hx⟩) rfl (fun Q hq=>hq) (hc.1 rfl)
      | some a=>
       obtain ⟨cs,hl,hr,hk⟩:=hc.2 a rfl
       refine wpS_append hst hi hz (.inr ⟨e2,hx⟩) rfl (fun Q hq=>?_) hk
       show wpS P (loadCellsFrom a 0 (n*i.size) #[]) Q h
       rw [←hl]
       exact wpS_loadCells cs 0 #[] (fun j hj=>by rw [Nat.zero_add]; exact hr j hj) (by simpa using hq)
     ·exact hc.elim
    ·rename_i z hz hx
     split at hc
     ·rename_i s
      refine wpS_append hst hi hz (.inl hx) rfl (fun Q hq=>?_) hc
      show Q _ h
      have e:(Array.map (fun b=>Value.int IntKind.u8 ↑b.toNat) (s.extract 0 s.size).data)=(bytesOf s).toArray:=by
       rw [←Array.toList_inj]; simp [bytesOf]
      rw [e]; exact hq
     ·exact hc.elim
    ·rename_i z k hz hx
     split at hc
     ·rename_i k' n
      cases hb:Nat.beq z.cells.size i.size with
      | false=>simp [hb] at hc
      | true=>
       simp only [hb,cond_true] at hc
       exact wpS_appendZ hst hi hz (Nat.eq_of_beq_eq_true hb) hx hc
     ·exact hc.elim
    ·exact hc.elim
   ·exact hc.elim
  ·exact hc.elim
 ·exact hc.elim
theorem evCallee_wp {o:Oper} {a:Act} {w:World} {K:Option Value→H→Prop} {Q:Exit→Act→World→Prop} {f:Value} {args:List Value} {K':Value→H→Prop} (ct:Array TypeId) (fo:Operand) (ao:Array Operand)
  (he:EnvOk P env) (ho:o.op = .call ⟨.value fo,ao,ct⟩) (hf:a.eval fo=f) (ha:(ao.map a.eval)=args.toArray) (hk:∀ v h',K' v h'→K (some v) h') (h:evCallee env f args K' (hp w)):o.wp P a w (Post o a w K) Q:=by
 unfold evCallee at h
 split at h
 ·rename_i g first captured
  refine wp_of_call he (f:=g) (args:=(first.toList++args++captured.toList).toArray) ?_ hk h
  unfold execOp
  simp only [ho,resolve,hf,ha,Deferred.ofValue]
  simp only [pure_bind,invoke]
  congr 1
  rw [←Array.toList_inj]
  simp
 ·exact h.elim
set_option maxHeartbeats 1000000 in
theorem evVal_wp {o:Oper} {t:Tm} {a:Act} {K:Option Value→H→Prop} {w:World} {Q:Exit→Act→World→Prop} (he:EnvOk P env) (hs:Sub t a) (h:evVal P env o.op o.type t K (hp w)):
  o.wp P a w (Post o a w K) Q:=by
 cases hf:isFree P o.op with
 | true=>
  obtain ⟨kv,v,hk,hv,hr⟩:=evVal_free hf hs h
  unfold Oper.wp
  rw [hr w (HeldAt.refl _ _ _)]
  exact ⟨kv,v,hk,hv,rfl,.refl w⟩
 | false=>
  obtain ⟨dst,op,ty,pos,after,guard⟩:=o
  simp only at hf h
  cases op <;> first | (simp [isFree] at hf; done) | (simp only [evVal] at h) <;> try (exact h.elim)
  case alloc e=>
   split at h
   ·rename_i z hz
    obtain ⟨i,hi,hz⟩:=Option.bind_eq_some_iff.1 hz
    refine wp_of_wpS (s:=Instr.alloc e true (.tuple #[])) rfl ?_
    unfold Instr.alloc
    rw [wpS_bind2,wpS_zeroValue hi hz]
    show wpS P (do pure (Value.pointer (some (←newVar e z)))) _ _
    rw [wpS_bind2]
    exact fun b hb=>h b hb
   ·exact h.elim
  case box e x=>
   split at h
   ·rename_i v hx
    refine wp_of_wpS (s:=Instr.box e (a.eval x)) rfl ?_
    unfold Instr.box
    rw [wpS_bind2,hs.get hx]
    exact fun b hb=>h b hb
   ·exact h.elim
  case buildSlice tb len ps=>
   split at h
   ·rename_i vs e hvs hu
    split at h
    ·rename_i i hi
     split at h
     ·rename_i z hz
      split at h
      ·rename_i cs hcs
       cases hb:(Nat.ble (len*i.size) 16777216 && Nat.beq z.cells.size i.size) with
       | false=>simp [hb] at h
       | true=>
        simp only [hb,cond_true] at h
        simp only [Bool.and_eq_true] at hb
        have h1:len*i.size≤16777216:=Nat.le_of_ble_eq_true hb.1
        have h2:z.cells.size=i.size:=Nat.eq_of_beq_eq_true hb.2
        refine wp_of_wpS (s:=Instr.buildSlice tb len (ps.map fun (i,x)=>(i,a.eval x))) rfl ?_
        unfold Instr.buildSlice
        rw [wpS_bind2,wpS_underlying hu]
        simp only []
        rw [wpS_bind2,wpS_sizeOf hi,if_neg (by omega)]
        have hps:(ps.map fun (i,x)=>(i,a.eval x)).toList=ps.toList.map fun p=>(p.1,t.val p.2):=by
         rw [Array.toList_map]
         refine List.map_congr_left fun p hp=>?_
         obtain ⟨v,hv⟩:=Tm.all_mem hvs p.2 (List.mem_map.2 ⟨p,hp,rfl⟩)
         simp [hs.val hv]
        have hz0:∀ z':Array Value,(Array.map (fun x=>z'[x % z'.size]!) (Array.range (len*i.size)))=(zerosOf z.cells.toList len).toArray →
          wpS P (do
           let some cells:=Instr.fill (fun j=>some (j*i.size,i.size)) (Array.map (fun x=>z'[x % z'.size]!) (Array.range (len*i.size))) (ps.map fun (i,x)=>(i,a.eval x)).toList
            | stuck "buildSlice: a part of the wrong size"
           pure (Value.slice (some (←newRow e cells)) len len)) (fun v h'=>K (some v) h') (hp w):=by
         intro z' hz'
         rw [hz',hps,hcs]
         simp only []
         rw [wpS_bind2,wpS_newRow]
         exact fun b hbn=>h b hbn
        split
        ·rename_i h0
         rw [wpS_bind2]
         refine hz0 #[] ?_
         rw [h0,←zeroCells_eq]
         unfold Builtin.zeroCells
         rw [h2,h0]; simp
        ·rw [wpS_bind2,wpS_zeroValue hi hz,wpS_bind2]
         refine hz0 z.cells ?_
         rw [←zeroCells_eq]
         unfold Builtin.zeroCells
         rw [h2]
      ·exact h.elim
     ·exact h.elim
    ·exact h.elim
   ·exact h.elim
  case store ts x v=>
   split at h
   ·rename_i p u hx hv
    obtain ⟨w',hr,hk,hst⟩:=evStore_run h
    unfold Oper.wp
    have:(execOp a.eval ⟨dst,.store ts x v,ty,pos,after,guard⟩).run P w = .ok .skip w':=by
     simp [execOp,hs.get hx,hs.get hv,hr]
    rw [this]
    exact ⟨_,undef,hk,.inr rfl,rfl,hst⟩
   ·exact h.elim
  case binOp op tb x y ty2=>
   have hne:isAggEq P op tb=true:=by simpa [isFree] using hf
   split at h
   ·rename_i u v hx hy
    rw [hne,cond_true] at h
    obtain ⟨c,hr,hk⟩:=h
    refine wp_of_value (v:=.bool c) ?_ hk (.refl w)
    have hr':=hr w
    rw [←hs.get hx,←hs.get hy] at hr'
    show (do pure (Next.value (←(do eqGuard op tb x y (a.eval x) (a.eval y); binOp op tb (a.eval x) (a.eval y):Sem Value))):Sem Next).run P w=_
    exact run_value hr'
   ·exact h.elim
  case lookup tm m k ok=>
   split at h
   ·rename_i u v hx hy
    unfold evLookup at h
    split at h
    ·split at h
     ·cases ok with
      | true=>
       simp only [cond_true] at h
       obtain ⟨kt,et,es,r,hu,hm,hkk,hr⟩:=h
       cases r with
       | some p=>
        refine wp_of_value (v:=.tuple #[p.2,.bool true]) ?_ (typ_out hr) (.refl w)
        show (do pure (Next.value (←Instr.lookup tm (a.eval m) (a.eval k) true)):Sem Next).run P w=_
        rw [hs.get hx,hs.get hy]
        exact run_value (by simpa using run_lookup_some (ok:=true) hu hm hkk)
       | none=>
        obtain ⟨z,hz,hr⟩:=hr
        refine wp_of_value (v:=.tuple #[z,.bool false]) ?_ (typ_out hr) (.refl w)
        show (do pure (Next.value (←Instr.lookup tm (a.eval m) (a.eval k) true)):Sem Next).run P w=_
        rw [hs.get hx,hs.get hy]
        exact run_value (by simpa using run_lookup_none (ok:=true) hu hm hkk hz)
      | false=>
       simp only [cond_false] at h
       obtain ⟨kt,et,es,r,hu,hm,hkk,hr⟩:=h
       cases r with
       | some p=>
        refine wp_of_value (v:=p.2) ?_ (typ_out hr) (.refl w)
        show (do pure (Next.value (←Instr.lookup tm (a.eval m) (a.eval k) false)):Sem Next).run P w=_
        rw [hs.get hx,hs.get hy]
        exact run_value (by simpa using run_lookup_some (ok:=false) hu hm hkk)
       | none=>
        obtain ⟨z,hz,hr⟩:=hr
        refine wp_of_value (v:=z) ?_ (typ_out hr) (.refl w)
        show (do pure (Next.value (←Instr.lookup tm (a.eval m) (a.eval k) false)):Sem Next).run P w=_
        rw [hs.get hx,hs.get hy]
        exact run_value (by simpa using run_lookup_none (ok:=false) hu hm hkk hz)
     ·exact h.elim
    ·exact h.elim
   ·exact h.elim
  case mapUpdate tm m k x=>
   split at h
   ·rename_i u v r hm hk hx
    obtain ⟨w',hr,hkk,hst⟩:=run_mapUpdate h
    refine wp_of_unit (s:=Instr.mapUpdate tm (a.eval m) (a.eval k) (a.eval x)) rfl ?_ hkk hst
    rw [hs.get hm,hs.get hk,hs.get hx]
    exact hr
   ·exact h.elim
  case insert tm m k x=>
   split at h
   ·rename_i u v r hm hk hx
    obtain ⟨w',hr,hkk,hst⟩:=run_mapUpdate h
    refine wp_of_unit (s:=Instr.mapUpdate tm (a.eval m) (a.eval k) (a.eval x)) rfl ?_ hkk hst
    rw [hs.get hm,hs.get hk,hs.get hx]
    exact hr
   ·exact h.elim
  case convert s d x=>
   split at h
   ·rename_i v hx
    refine wp_of_wpS (s:=convert s d (a.eval x)) rfl ?_
    rw [hs.get hx]
    exact wpS_convert h
   ·exact h.elim
  case makeMap tm r=>
   split at h
   ·refine wp_of_wpS (s:=Instr.makeMap tm none) rfl ?_
    exact fun b hb=>h b hb
   ·exact h.elim
  case makeSlice ts l c=>
   split at h
   ·rename_i e kl l' kc c' hu hl hc
    split at h
    ·rename_i i hi
     split at h
     ·rename_i z hz
      cases hb:Nat.beq z.cells.size i.size with
      | false=>simp [hb] at h
      | true=>
       simp only [hb,cond_true] at h
       refine wp_of_wpS (s:=Instr.makeSlice ts (a.eval l) (a.eval c)) rfl ?_
       rw [hs.get hl,hs.get hc]
       exact wpS_makeSlice hu hi hz (Nat.eq_of_beq_eq_true hb) h fun _ _ _ _ h=>h
     ·exact h.elim
    ·exact h.elim
   ·exact h.elim
  case call c=>
   obtain ⟨callee,args,argTypes⟩:=c
   split at h
   ·rename_i vs hvs
    have ea:args.map a.eval=vs.toArray:=by rw [←Array.toList_inj]; simpa using hs.all hvs
    simp only at h
    split at h
    ·split at h
     ·rename_i ty' x hty
      have et:argTypes = #[ty']:=by rw [←Array.toList_inj]; simpa using hty
      subst et
      refine wp_of_wpS (s:=Builtin.len_ #[ty'] ty #[x]) ?_ (wpS_len h)
      simp [execOp,resolve,ea,invoke,builtin]
     ·exact h.elim
    ·simp [isFree] at hf
    ·simp [isFree] at hf
    ·refine wp_of_wpS (s:=Builtin.append_ argTypes ty vs.toArray) ?_ (wpS_appendE h)
     simp [execOp,resolve,ea,invoke,builtin]
    ·refine wp_of_wpS (s:=Builtin.copy_ argTypes ty vs.toArray) ?_ (wpS_copy h)
     simp [execOp,resolve,ea,invoke,builtin]
    ·refine wp_of_wpS (s:=Builtin.clear_ argTypes ty vs.toArray) ?_ (wpS_clear h)
     simp [execOp,resolve,ea,invoke,builtin]
    ·rename_i g
     refine wp_of_call he (f:=g) (args:=vs.toArray) ?_ (fun _ _ h=>h) h
     simp [execOp,resolve,ea,Act.eval,Deferred.ofValue,invoke]
    ·rename_i i
     split at h
     ·rename_i f hf'
      exact evCallee_wp argTypes (.tmp i) args he rfl (hs.get (x:=.tmp i) hf') ea (fun v h' hv=>hv) h
     ·exact h.elim
    ·exact h.elim
   ·exact h.elim
end
end Go.Sh

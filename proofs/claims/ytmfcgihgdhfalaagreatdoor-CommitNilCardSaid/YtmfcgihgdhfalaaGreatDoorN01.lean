/- The shallow form, 8: a region is sound, in the text's order and in any order that the language allows. The shallow form, 9: more is asked behind, and slots that are not written stay. The shallow form, 10: code and functions are sound. The shallow form, 11: functions that call themselves, and functions whose contract is known otherwise. Reasoning over the shallow form: blocks of cells, what stays, loops by what falls, and what an argument reads as. DERIVED: THE SHELF's CONTRACTS AT THIS DUMP, IN PLAIN WORDS (tools/lay-plain.mjs out of 'TryzRepS.lean', which tools/lay-shelf.mjs wrote): THE SAME DECLARATIONS UNDER THE SAME NAMES: 'import', 'namespace', 'open', 'def', 'theorem' AND NOTHING ELSE: no command of the shelf's: FOR A HAND-IN. Each laying: the table of numbers ('.._ren') and one theorem, a field a fact of the dump's own or the kernel's comparison; each contract: ONE APPLICATION. strings.Repeat, by the library's contract. A law that answers true and leaves all that was there as it was has its row. Reasoning over the shallow form, 2: rewriting rules for steps over a memory that is written out. Reasoning over the shallow form, 3: slices that a function owns, and equality of aggregates. Reasoning over the shallow form, 5: what is held apart in memory, and what stays as it was. DERIVED: THE SHELF's CONTRACTS AT THIS DUMP, IN PLAIN WORDS (tools/lay-plain.mjs out of 'TryzSrtS.lean', which tools/lay-shelf.mjs wrote): THE SAME DECLARATIONS UNDER THE SAME NAMES: 'import', 'namespace', 'open', 'def', 'theorem' AND NOTHING ELSE: no command of the shelf's: FOR A HAND-IN. Each laying: the table of numbers ('.._ren') and one theorem, a field a fact of the dump's own or the kernel's comparison; each contract: ONE APPLICATION. -/
import Derived.Test.YtmfcgihgdhfalaaGreatDoorN00
import Derived.OrdersHeld
import Derived.LoopN
import Derived.Scope
import Derived.ProofKit
import Derived.Shelf.Strings.Repeat
import Derived.Ground.NamesProg
import Derived.Test.YtmfcgihgdhfalaaGreatDoorProg
import Derived.Laws.StructEq
import Derived.Shelf.SlGeneric
import Derived.Shelf.SlIterI.Sorted
import Derived.Shelf.SortM.Plain
import Derived.Shelf.SortM.SortNone
import Derived.Shelf.SlicesG.Reverse
import Derived.Ground.GgzProg
import Derived.Ground.SlgmProg
import Derived.Ground.SlgnProg
set_option linter.unusedSimpArgs false
set_option linter.unusedVariables false
namespace Go.Sh
open Go.RowKit
theorem uk{i d:Nat}(e:¬i=d):Nat.beq i d=false:=by
 cases h:Nat.beq i d with
 | false=>rfl
 | true=>exact absurd (Nat.eq_of_beq_eq_true h) e
structure Fr (n:Nat) (t:Tm) (a:Act):Prop where
 sub:Sub t a
 size:a.tmps.size=n
 defers:a.defers=[]
theorem Fr.put{n:Nat}{t:Tm}{a:Act}(h:Fr n t a){d:Nat}{kv:Option Value}{v:Value}(hd:d<n)(hv:kv=none∨kv=some v):Fr n (t.put (some d) kv) (a.put (some d) v):=by
 refine⟨λi u hu=>?_,by simp[Act.put,h.size],h.defers⟩;simp only[Tm.put]at hu;simp only[Act.put];by_cases e:i=d
 ·subst e;simp only[Nat.beq_refl,cond_true]at hu;rcases hv with hv|hv
  ·rw[hv]at hu;simp at hu
  ·rw[hv]at hu;simp only[Option.some.injEq]at hu;subst hu;simp[h.size,hd]
 ·have:Nat.beq i d=false:=uk e;rw[this,cond_false]at hu;rw[Array.getElem?_setIfInBounds_ne (λx=>e x.symm)];exact h.sub i u hu
theorem Fr.again{n:Nat}{t:Tm}{a:Act}(h:Fr n t a){d:Nat}{v:Value}(hv:t d=some v):Fr n (t.put (some d) (some v)) a:=by
 refine⟨λi u hu=>?_,h.size,h.defers⟩;simp only[Tm.put]at hu;by_cases e:i=d
 ·subst e;simp only[Nat.beq_refl,cond_true,Option.some.injEq]at hu;subst hu;exact h.sub i v hv
 ·have:Nat.beq i d=false:=uk e;rw[this,cond_false]at hu;exact h.sub i u hu
section
variable {P:Program}{env:Env}{n:Nat}{ops:Array Oper}
theorem pW{o:Oper}{t:Tm}{a:Act}{K:Tm->H->Prop}{kv:Option Value}{v:Value}{h:H}(hf:Fr n t a)(hv:kv=none∨kv=some v)(hp:qA n o t K kv h):∃t',K t' h∧Fr n t' (a.put o.dst v):=by
 unfold qA at hp;split at hp
 ·rename_i hd;exact⟨t,hp,by rw[hd];exact hf⟩
 ·rename_i d hd;cases hb:Nat.blt d n with
  | false=>simp[hb]at hp
  | true=>
   simp only[hb,cond_true]at hp;have:d<n:=by simpa using hb
   exact⟨_,hp,by rw[hd];exact hf.put this hv⟩
theorem Fx{o:Oper}{t:Tm}{a:Act}(hg:guardOf ops o t = .run):Region.wanted o (yielded ops a.tmps)=true:=by
 unfold guardOf at hg;unfold Region.wanted;split at hg
 ·rename_i h;rw[h]
 ·split at hg
  ·split at hg<;>simp at hg
  ·simp at hg
theorem DU{o:Oper}{t:Tm}{a:Act}(hs:Sub t a)(hg:guardOf ops o t = .skip):Region.wanted o (yielded ops a.tmps)=false:=by
 unfold guardOf at hg;unfold Region.wanted;split at hg
 ·simp at hg
 ·rename_i j want h;rw[h];simp only[yielded];split at hg
  ·rename_i d hd;have hd':(ops[j]?).bind (·.dst)=some d:=by simpa using hd
   rw[hd'];split at hg
   ·simp at hg
   ·rename_i u hu;simp only[Option.bind_some,hs d _ hu];rfl
   ·simp at hg
  ·rename_i hd;have hd':(ops[j]?).bind (·.dst)=none:=by simpa using hd
   rw[hd'];rfl
theorem FY{o:Oper}{t:Tm}{a:Act}(hs:Sub t a){d:Nat}{b want:Bool}(hg:guardOf ops o t = .ask d b want):t d=some (.bool b)∧Region.wanted o (yielded ops a.tmps)=(b == want):=by
 unfold guardOf at hg;unfold Region.wanted;split at hg
 ·simp at hg
 ·rename_i j want' h;rw[h];simp only[yielded];split at hg
  ·rename_i d' hd;have hd':(ops[j]?).bind (·.dst)=some d':=by simpa using hd
   rw[hd'];split at hg
   ·rename_i b' hb;simp only[Sn.ask.injEq]at hg;obtain⟨rfl,rfl,rfl⟩:=hg;refine⟨hb,?_⟩;simp only[Option.bind_some,hs _ _ hb];cases b' <;>cases want' <;>rfl
   ·simp at hg
   ·simp at hg
  ·simp at hg
theorem uc{o:Oper}{t:Tm}{a:Act}{K:Tm->H->Prop}{h:H}(hf:Fr n t a)(he:sF P env n ops o t K h):
  (Region.wanted o (yielded ops a.tmps)=true∧∃t2,Fr n t2 a∧(∀x v,t2.get x=some v->(∀b,v ≠ .bool b)->t.get x=some v)∧tR P env o.op o.type t2 (qA n o t2 K) h) ∨
  (Region.wanted o (yielded ops a.tmps)=false∧∃t2,Fr n t2 a∧qA n o t2 K (some undef) h):=by
 unfold sF at he;split at he
 ·rename_i hg;exact .inl ⟨Fx hg,t,hf,λ_ _ h _=>h,he⟩
 ·rename_i hg;exact .inr ⟨DU hf.sub hg,t,hf,he⟩
 ·rename_i d b want hg;obtain⟨hd,hw⟩:=FY hf.sub hg;have hget:∀c:Bool,∀x v,(t.put (some d) (some (.bool c))).get x=some v->(∀b,v ≠ .bool b)->t.get x=some v:=by
   intro c x v hx hnb;cases x with
   | tmp i=>
    simp only[Tm.get,Tm.put]at hx ⊢;by_cases e:i=d
    ·subst e;simp only[Nat.beq_refl,cond_true,Option.some.injEq]at hx;exact absurd hx.symm (hnb c)
    ·have:Nat.beq i d=false:=uk e
     rwa [this,cond_false]at hx
   | _=>exact hx
  cases b
  ·simp only[cond_false]at he;cases want
   ·simp only[cond_false]at he;exact .inl ⟨by rw[hw];rfl,_,hf.again hd,hget false,he⟩
   ·simp only[cond_true]at he;exact .inr ⟨by rw[hw];rfl,_,hf.again hd,he⟩
  ·simp only[cond_true]at he;cases want
   ·simp only[cond_false]at he;exact .inr ⟨by rw[hw];rfl,_,hf.again hd,he⟩
   ·simp only[cond_true]at he;exact .inl ⟨by rw[hw];rfl,_,hf.again hd,hget true,he⟩
 ·exact he.elim
theorem Gb{Q:Exit->Act->World->Prop}{i:Nat}{o:Oper}(hi:ops[i]? = some o){t:Tm}{a:Act}{K:Tm->H->Prop}{Kr:Act->World->Prop}{w:World}(hen:vA P env)(hf:Fr n t a)
  (he:sF P env n ops o t K (hp w)) (hk:∀t' a' w',K t' (hp w')->Fr n t' a'->jE w w'->Kr a' w'):wpOp P ops Q i Kr a w:=by
 unfold wpOp;simp only[hi];rcases uc hf he with ⟨hw,t2,hf2,_,hv⟩|⟨hw,t2,hf2,hv⟩
 ·rw[if_pos hw];refine .inl (Oper.wp_mono (K:=Post o a w (qA n o t2 K)) (λa' w' ⟨kv,v,hp1,hv1,ha,hst⟩=>?_) (GD hen hf2.sub hv));obtain⟨t',hkt,hft⟩:=pW hf2 hv1 hp1;rw[ha];exact hk _ _ _ hkt hft hst
 ·rw[if_neg (by rw[hw];simp)];obtain⟨t',hkt,hft⟩:=pW (a:=a) hf2 (.inr rfl) hv;exact hk _ _ _ hkt hft (.refl w)
theorem yQ{Q:Exit->Act->World->Prop}{K:Tm->H->Prop}{w0:World}(hen:vA P env)(hk:∀t' a' w',K t' (hp w')->Fr n t' a'->jE w0 w'->Q .normal a' w'):
  ∀(l:List Oper) (t:Tm) (a:Act) (w:World),Fr n t a->jE w0 w->yS P env n ops l t K (hp w)->wpList P ops Q l a w
 | [],t,a,w,hf,hst,h=>hk t a w h hf hst
 | o::r,t,a,w,hf,hst,h=>by
  unfold wpList;unfold yS at h;rcases uc hf h with ⟨hw,t2,hf2,_,hv⟩|⟨hw,t2,hf2,hv⟩
  ·rw[if_pos hw];refine .inl (Oper.wp_mono (K:=Post o a w (qA n o t2 _)) (λa' w' ⟨kv,v,hp1,hv1,ha,hst'⟩=>?_) (GD hen hf2.sub hv));obtain⟨t',hkt,hft⟩:=pW hf2 hv1 hp1;rw[ha];exact yQ hen hk r t' _ w' hft (hst.trans hst') hkt
  ·rw[if_neg (by rw[hw];simp)];obtain⟨t',hkt,hft⟩:=pW (a:=a) hf2 (.inr rfl) hv;exact yQ hen hk r t' _ w hft hst hkt
/-! ### A region that draws its order -/
def Qv(x:tI)(w:World):Prop:=∀i,i<x.cells->(hp w).cell (x.addr.add i)=x.mem.cell (x.addr.add i)
def sq(P:Program)(ops:Array Oper)(Q:Exit->Act->World->Prop)(bs:List Nat)(L:List tI):Nat->Array Bool->Act->World->Prop
 | 0,listed,a,w=>Region.ready .any ops listed=[]∧Q .normal a w
 | f+1,listed,a,w=>
  (Region.ready .any ops listed=[]->Q .normal a w) ∧
  ∀j∈Region.ready .any ops listed,wpOp P ops Q j (λa' w'=>(∀x∈L,Nat.testBit (bs.getD j 0) x.op=false->Qv x w->Qv x w')∧sq P ops Q bs L f (listed.setIfInBounds j true) a' w') a w
theorem Bf{Q:Exit->Act->World->Prop}{bs:List Nat}{L:List tI}:∀(f:Nat) (listed:Array Bool) (a:Act) (w:World),sq P ops Q bs L f listed a w->wpAny P .any ops Q f listed a w
 | 0,_,_,_,h=>h
 | f+1,_,_,_,h=>⟨h.1,λi hi=>wpOp_mono (λa' w' h'=>Bf f _ a' w' h'.2) (h.2 i hi)⟩
def wN(ops:Array Oper)(listed:Array Bool):Prop:=
 ∀k o,ops[k]? = some o->listed.getD k true=true->∀e∈o.after,Region.binds .any e=true->listed.getD e.on false=true
def Jh(ops:Array Oper)(bs:List Nat):Prop:=
 ∀j i,Nat.testBit (bs.getD j 0) i=true->∃o,ops[j]? = some o∧∃e∈o.after,Region.binds .any e=true∧(e.on=i∨(e.on<j∧Nat.testBit (bs.getD e.on 0) i=true))
theorem Ie{bs:List Nat}(hb:Jh ops bs){listed:Array Bool}(hc:wN ops listed){i:Nat}(hi:listed.getD i false=false):
  ∀(j:Nat),(∀o,ops[j]? = some o->∀e∈o.after,Region.binds .any e=true->listed.getD e.on false=true)->Nat.testBit (bs.getD j 0) i=false:=by
 intro j;induction j using Nat.strongRecOn with
 | _ j ih=>
  intro hj;cases ht:Nat.testBit (bs.getD j 0) i with
  | false=>rfl
  | true=>
   obtain⟨o,ho,e,he,hbd,h⟩:=hb j i ht;have hl:=hj o ho e he hbd;rcases h with h|⟨hlt,h⟩
   ·rw[h,hi]at hl;exact absurd hl (by simp)
   ·have:=ih e.on hlt (λo' ho' e' he' hb'=>hc e.on o' ho' (by
     have:listed.getD e.on true=true:=by
      rcases Nat.lt_or_ge e.on listed.size with h'|h' <;>simp[h']at hl ⊢
      exact hl
     exact this) e' he' hb')
    rw[this]at h;exact absurd h (by simp)
theorem wN.push{listed:Array Bool}(hc:wN ops listed){j:Nat}(hr:j∈Region.ready .any ops listed):wN ops (listed.setIfInBounds j true):=by
 intro k o hk hl e he hb;obtain⟨hun,oj,hoj,hall⟩:=mem_ready.1 hr;have up:∀x,listed.getD x false=true->(listed.setIfInBounds j true).getD x false=true:=by
  intro x hx;by_cases e':j=x
  ·subst e';rcases Nat.lt_or_ge j listed.size with h'|h' <;>simp[h']at hx ⊢
  ·rwa [getD_set_ne false e']
 by_cases hkj:j=k
 ·subst hkj;rw[hoj]at hk;simp only[Option.some.injEq]at hk;subst hk;exact up _ (hall e he hb)
 ·rw[getD_set_ne true hkj]at hl;exact up _ (hc k o hk hl e he hb)
theorem ze{Q:Exit->Act->World->Prop}{bs:List Nat}{L L2:List tI}:∀(f:Nat) (listed:Array Bool) (a:Act) (w:World),sq P ops Q bs (L2++L) f listed a w->sq P ops Q bs L f listed a w
 | 0,_,_,_,h=>h
 | f+1,_,_,_,h=>⟨h.1,λi hi=>wpOp_mono (λa' w' h'=>⟨λx hx=>h'.1 x (by simp[hx]),ze f _ a' w' h'.2⟩) (h.2 i hi)⟩
def Kw(X:Option tI)(w:World):Prop:=match X with|some x=>Qv x w|none=>True
theorem xQ{Q:Exit->Act->World->Prop}{bs:List Nat}{i:Nat}{oi:Oper}{v:Value}{X:Option tI}{L:List tI}(hbs:Jh ops bs)(hi:ops[i]? = some oi)
  (hsel:∀(j:Nat) (o:Oper) cs b,ops[j]? = some o->o.op ≠ .select cs b)
  (hQ:∀c a w,Q (.panic c) (a.put oi.dst v) w->Q (.panic c) a w) (hX:∀x,X=some x->x.op=i):
  ∀(fuel:Nat) (listed:Array Bool) (a:Act) (w:World),wN ops listed ->
   (∀j oj,ops[j]? = some oj->j≠i->listed.getD j true=false->(∀e∈oj.after,Region.binds .any e=true->e.on≠i)->oi.apart ops oj=true) ->
   i∈Region.ready .any ops listed->YieldsIf P ops (Kw X) oi v a->Kw X w ->
   sq P ops Q bs (X.toList++L) fuel (listed.setIfInBounds i true) (a.put oi.dst v) w->sq P ops Q bs L (fuel+1) listed a w:=by
 have self:∀(fuel:Nat) (listed:Array Bool) (a:Act) (w:World),YieldsIf P ops (Kw X) oi v a->Kw X w ->
   sq P ops Q bs (X.toList++L) fuel (listed.setIfInBounds i true) (a.put oi.dst v) w ->
   wpOp P ops Q i (λa' w'=>(∀x∈L,Nat.testBit (bs.getD i 0) x.op=false->Qv x w->Qv x w')∧sq P ops Q bs L fuel (listed.setIfInBounds i true) a' w') a w:=
  λfuel listed a w hy hS H=>hy.wpOp hi hS ⟨λ_ _ _ h=>h,ze fuel _ _ _ H⟩
 intro fuel;induction fuel with
 | zero=>
  intro listed a w _ _ hr hy hS H;refine⟨λh=>(by rw[h]at hr;cases hr),λj hj=>?_⟩;by_cases hji:j=i
  ·subst hji;exact self 0 listed a w hy hS H
  ·have:=ready_mono hj hji;rw[H.1]at this;cases this
 | succ fuel ih=>
  intro listed a w hcl hfree hr hy hS H;refine⟨λh=>(by rw[h]at hr;cases hr),λj hj=>?_⟩;by_cases hji:j=i
  ·subst hji;exact self _ listed a w hy hS H
  ·have h1:=H.2 j (ready_mono hj hji);obtain⟨hjun,oj,hoj,hall⟩:=mem_ready.1 hj;have hiun:=(mem_ready.1 hr).1;have hiun':listed.getD i false=false:=by
    rcases Nat.lt_or_ge i listed.size with h'|h' <;>simp[h']at hiun ⊢
    exact hiun
   have hnot:∀e∈oj.after,Region.binds .any e=true->e.on≠i:=λe he hb heq=>by
    have h1:=hall e he hb;rw[heq,hiun']at h1;exact absurd h1 (by simp)
   have hbit:Nat.testBit (bs.getD j 0) i=false:=Ie hbs hcl hiun' j (λo ho=>by
    rw[hoj]at ho;simp only[Option.some.injEq]at ho;subst ho;exact hall)
   have h2:=wpOp_putIf hoj (hfree j oj hoj hji hjun hnot) (λcs b=>hsel i oi cs b hi) (λcs b=>hsel j oj cs b hoj) hQ hy h1;have hfree':∀k ok,ops[k]? = some ok->k≠i->(listed.setIfInBounds j true).getD k true=false ->
     (∀e∈ok.after,Region.binds .any e=true->e.on≠i)->oi.apart ops ok=true:=λk ok hk hki hun hno=>by
    refine hfree k ok hk hki ?_ hno;by_cases hjk:j=k
    ·subst hjk;exact hjun
    ·rw[getD_set_ne true hjk]at hun;exact hun
   refine wpOp_mono (λa' w' ⟨hya,hst,hw⟩=>?_) h2;have hS':Kw X w':=by
    cases hX':X with
    | none=>trivial
    | some x=>
     have hop:=hX x hX';rw[hX']at hst hS;exact hst x (by simp) (by rw[hop];exact hbit) hS
   refine⟨λx hx hb=>hst x (by simp[hx]) hb,ih (listed.setIfInBounds j true) a' w' (hcl.push hj) hfree' (ready_mono hr (Ne.symm hji)) hya hS' ?_⟩;rw[Array.setIfInBounds_comm _ _ hji];exact hw
theorem wB{bs:List Nat}{j:Nat}{w':World}{K:Prop}:∀{L:List tI},qw bs j (hp w') K L->(∀x∈L,Nat.testBit (bs.getD j 0) x.op=false->Qv x w')∧K
 | [],h=>⟨λx hx=>by simp at hx,h⟩
 | y::r,h=>by
  unfold qw at h;cases hb:Nat.testBit (bs.getD j 0) y.op with
  | true=>
   simp only[hb,cond_true]at h;obtain⟨h1,h2⟩:=wB h;refine⟨λx hx hxb=>?_,h2⟩;rcases List.mem_cons.1 hx with rfl|hx
   ·rw[hb]at hxb;exact absurd hxb (by simp)
   ·exact h1 x hx hxb
  | false=>
   simp only[hb,cond_false]at h;obtain⟨h1,h2⟩:=wB h.2;refine⟨λx hx hxb=>?_,h2⟩;rcases List.mem_cons.1 hx with rfl|hx
   ·exact h.1
   ·exact h1 x hx hxb
theorem Fi:∀{l:List Prop},LW l->∀p∈l,p
 | [],_,p,hp=>by simp at hp
 | [q],h,p,hp=>by rw[List.mem_singleton]at hp;subst hp;exact h
 | q::r::l,h,p,hp=>by
  rcases List.mem_cons.1 hp with rfl|hp
  ·exact h.1
  ·exact Fi h.2 p hp
def pP(P:Program)(i:Nat)(o:Oper)(t:Tm)(h:H):Option tI:=
 match o.op with
 | .load ty x=>(match t.get x with|some (.pointer (some a))=>some ⟨i,h,a,P.cellsOf ty⟩|_=>none)
 | _=>none
theorem JH(i:Nat)(o:Oper)(t:Tm)(h:H)(L:List tI):HB P i o t h L=(pP P i o t h).toList++L:=by
 unfold HB pP;cases o.op<;>try rfl
 rename_i ty x;simp only[];cases t.get x with
 | none=>rfl
 | some v=>
  cases v<;>try rfl
  rename_i p;cases p<;>rfl
theorem xb{Q:Exit->Act->World->Prop}{K:Tm->H->Prop}{w0:World}{bs:List Nat}(hen:vA P env)(hbs:Jh ops bs)(hno:Region.noSelect ops=true)
  (hQ:∀c a w,¬Q (.panic c) a w) (hk:∀t' a' w',K t' (hp w')->Fr n t' a'->jE w0 w'->Q .normal a' w'):
  ∀(f:Nat) (listed:Array Bool) (L:List tI) (t:Tm) (a:Act) (w:World),wN ops listed->Fr n t a->jE w0 w->vz P env n ops bs f listed L t K (hp w)->sq P ops Q bs L f listed a w
 | 0,listed,L,t,a,w,hcl,hf,hst,h=>by
  unfold vz at h;split at h
  ·rename_i hr;exact⟨hr,hk _ _ _ h hf hst⟩
  ·exact h.elim
 | f+1,listed,L,t,a,w,hcl,hf,hst,h=>by
  unfold vz at h;split at h
  ·rename_i hr;exact⟨λ_=>hk _ _ _ h hf hst,λj hj=>by rw[hr]at hj;simp at hj⟩
  ·rename_i j0 js hr;split at h
   ·rename_i i hfind;have hmem:i∈Region.ready .any ops listed:=by rw[hr];exact List.mem_of_find?_eq_some hfind
    have hcond:=List.find?_some hfind;split at h
    ·rename_i o ho;rw[ho]at hcond;simp only[Bool.and_eq_true]at hcond;obtain⟨hfree,hfr⟩:=hcond;have hi:ops[i]? = some o:=by simpa using ho
     rw[JH]at h;have hXop:∀x,pP P i o t (hp w)=some x->x.op=i:=by
      intro x hx;unfold pP at hx;split at hx
      ·split at hx<;>simp at hx
       rw[←hx]
      ·simp at hx
     have hself:Kw (pP P i o t (hp w)) w:=by
      unfold pP;split
      ·split
       ·exact λ_ _=>rfl
       ·trivial
      ·trivial
     rcases uc hf h with ⟨hw,t2,hf2,hget,hv⟩|⟨hw,t2,hf2,hv⟩
     ·obtain⟨kv,v,hp1,hv1,hrun⟩:=AQ hfree hf2.sub hv;obtain⟨t',hkt,hft⟩:=pW hf2 hv1 hp1;refine xQ (X:=pP P i o t (hp w)) hbs hi (Region.noSelect_spec hno) (λc a' w' h=>absurd h (hQ c _ w')) hXop f listed a w hcl (Region.free_spec hi hfr) hmem
       (.inl ⟨hw,λw' hw'=>hrun w' ?_⟩) hself (xb hen hbs hno hQ hk f _ _ t' _ w (hcl.push hmem) hft hst hkt)
      unfold ue;split
      ·rename_i ty x hop;split
       ·rename_i p hx;have hx':=hget x _ hx (λb=>by simp);unfold pP at hw';rw[hop]at hw';simp only[hx']at hw';exact hw'
       ·trivial
      ·trivial
     ·obtain⟨t',hkt,hft⟩:=pW (a:=a) hf2 (.inr rfl) hv;exact xQ (X:=pP P i o t (hp w)) hbs hi (Region.noSelect_spec hno) (λc a' w' h=>absurd h (hQ c _ w')) hXop f listed a w hcl (Region.free_spec hi hfr) hmem
       (.inr ⟨hw,rfl⟩) hself (xb hen hbs hno hQ hk f _ _ t' _ w (hcl.push hmem) hft hst hkt)
    ·exact h.elim
   ·refine⟨λh0=>by rw[hr]at h0;simp at h0,λj hj=>?_⟩;have hj':j∈j0::js:=by rw[←hr];exact hj
    have hp:=Fi h _ (List.mem_map.2 ⟨j,hj',rfl⟩);split at hp
    ·rename_i o ho;have hi:ops[j]? = some o:=by simpa using ho
     refine Gb hi hen hf hp λt' a' w' hkt hft hst'=>?_;obtain⟨h1,h2⟩:=wB hkt;exact⟨λx hx hb _=>h1 x hx hb,xb hen hbs hno hQ hk f _ L t' a' w' (hcl.push hj) hft (hst.trans hst') h2⟩
    ·exact hp.elim
theorem Fh(a b i:Nat):Nat.testBit (Nat.lor a b) i=(Nat.testBit a i || Nat.testBit b i):=Nat.testBit_or a b i
theorem AS{acc:List Nat}{i:Nat}:∀(l:List Edge) (s:Nat),Nat.testBit (bitsOf acc l s) i=true ->
  Nat.testBit s i=true∨∃e∈l,Region.binds .any e=true∧(e.on=i∨Nat.testBit (acc.getD e.on 0) i=true)
 | [],s,h=>.inl h
 | e::r,s,h=>by
  unfold bitsOf at h;rcases AS r _ h with h|⟨e',he',hb,h⟩
  ·cases hb:Region.binds .any e with
   | false=>simp only[hb,cond_false]at h;exact .inl h
   | true=>
    simp only[hb,cond_true,Fh,Bool.or_eq_true]at h;rcases h with (h|h)|h
    ·exact .inl h
    ·refine .inr ⟨e,by simp,hb,.inl ?_⟩;have h':Nat.testBit (1 <<< e.on) i=true:=h;rw[Nat.one_shiftLeft,Nat.testBit_two_pow]at h';simpa using h'
    ·exact .inr ⟨e,by simp,hb,.inr h⟩
  ·exact .inr ⟨e',by simp[he'],hb,h⟩
theorem EM:∀(l:List Oper) (acc:List Nat) (pre:List Oper),acc.length=pre.length ->
  (∀j i,Nat.testBit (acc.getD j 0) i=true->∃o,pre[j]? = some o∧∃e∈o.after,Region.binds .any e=true∧(e.on=i∨(e.on<j∧Nat.testBit (acc.getD e.on 0) i=true))) ->
  ∀j i,Nat.testBit ((FK l acc).getD j 0) i=true->∃o,(pre++l)[j]? = some o∧∃e∈o.after,Region.binds .any e=true∧(e.on=i∨(e.on<j∧Nat.testBit ((FK l acc).getD e.on 0) i=true))
 | [],acc,pre,_,h,j,i,ht=>by simpa [FK] using h j i ht
 | o::r,acc,pre,hl,h,j,i,ht=>by
  unfold FK at ht ⊢;have:=EM r (acc++[bitsOf acc o.after.toList 0]) (pre++[o]) (by simp[hl]) (λj i ht=>?_) j i ht
  ·simpa using this
  ·rcases Nat.lt_trichotomy j acc.length with hj|hj|hj
   ·have e1:(acc++[bitsOf acc o.after.toList 0]).getD j 0=acc.getD j 0:=by simp[List.getD,List.getElem?_append_left hj]
    rw[e1]at ht;obtain⟨o',ho',e,he,hb,hh⟩:=h j i ht;refine⟨o',by rw[List.getElem?_append_left (by omega)];exact ho',e,he,hb,?_⟩;rcases hh with hh|⟨hlt,hh⟩
    ·exact .inl hh
    ·refine .inr ⟨hlt,?_⟩;have e2:(acc++[bitsOf acc o.after.toList 0]).getD e.on 0=acc.getD e.on 0:=by simp[List.getD,List.getElem?_append_left (show e.on<acc.length by omega)]
     rw[e2];exact hh
   ·subst hj;have e1:(acc++[bitsOf acc o.after.toList 0]).getD acc.length 0=bitsOf acc o.after.toList 0:=by simp[List.getD]
    rw[e1]at ht;rcases AS _ _ ht with h0|⟨e,he,hb,hh⟩
    ·simp at h0
    ·refine⟨o,by rw[hl,List.getElem?_append_right (Nat.le_refl _)];simp,e,by simpa using he,hb,?_⟩;rcases hh with hh|hh
     ·exact .inl hh
     ·have hlt:e.on<acc.length:=by
       rcases Nat.lt_or_ge e.on acc.length with h'|h'
       ·exact h'
       ·simp[List.getD,List.getElem?_eq_none h']at hh
      refine .inr ⟨hlt,?_⟩;have e2:(acc++[bitsOf acc o.after.toList 0]).getD e.on 0=acc.getD e.on 0:=by simp[List.getD,List.getElem?_append_left hlt]
      rw[e2];exact hh
   ·have e1:(acc++[bitsOf acc o.after.toList 0]).getD j 0=0:=by
     simp only[List.getD];rw[List.getElem?_eq_none (by simp;omega)];rfl
    rw[e1]at ht;simp at ht
theorem NZ:Jh ops (FK ops.toList []):=by
 intro j i ht;have:=EM ops.toList [] [] rfl (λj i ht=>by simp at ht) j i ht;simpa using this
theorem GO:wN ops (Array.replicate ops.size false):=by
 intro k o hk hl;have hlt:k<ops.size:=(Array.getElem?_eq_some_iff.1 hk).1;simp[hlt]at hl
theorem Gg{id:Nat}{draw:Bool}{Q:Exit->Act->World->Prop}{K:Tm->H->Prop}{t:Tm}{a:Act}{w:World}{w0:World}(hm:P.follows .mixedOrders=true)(hen:vA P env)
  (hQ:∀c a w,¬Q (.panic c) a w) (hf:Fr n t a) (hst:jE w0 w) (hk:∀t' a' w',K t' (hp w')->Fr n t' a'->jE w0 w'->Q .normal a' w') (h:Bj P env n ops draw t K (hp w)):
  (Code.region id ops draw).wp P Q a w:=by
 unfold Bj at h;cases draw with
 | false=>
  simp only[cond_false]at h;exact wp_region_list (yQ hen hk ops.toList t a w hf hst h)
 | true=>
  simp only[cond_true]at h;cases hno:Region.noSelect ops with
  | false=>simp[hno]at h
  | true=>
   simp only[hno,cond_true]at h;refine wp_region_any hm (Bf (bs:=FK ops.toList []) (L:=[]) _ _ _ _ ?_);refine xb hen NZ hno hQ hk ops.size _ [] t a { w with drawn:=w.drawn+1 } GO hf (hst.trans ⟨rfl,rfl,rfl,Nat.le_refl _⟩) h
end
end Go.Sh
namespace Go.Sh
open Go.RowKit
section
variable {P:Program}{env:Env}{n:Nat}{ops:Array Oper}
/-! ### More is asked behind: nothing else turns -/
def M7(F:W):Prop:=∀args (Q Q':Value->H->Prop) h,(∀v h',Q v h'->Q' v h')->F args Q h->F args Q' h
def og(env:Env):Prop:=∀f,M7 (env f)
theorem rz{s:Sh}{v:Value}{K K':Value->Prop}(hk:∀v,K v->K' v)(h:typ s v K):typ s v K':=by
 cases s<;>simp only[typ]at h ⊢ <;>first|exact hk _ h|(obtain⟨a,h1,h2⟩:=h;exact⟨a,h1,hk _ h2⟩)|(obtain⟨a,b,c,h1,h2⟩:=h;exact⟨a,b,c,h1,hk _ h2⟩)
theorem xm{m:H}{a:Addr}{K K':List Value->Prop}(hk:∀v,K v->K' v):∀{l:List Sh} {i:Nat} {acc:List Value},xy m a i l acc K->xy m a i l acc K'
 | [],_,_,h=>hk _ h
 | _ :: _,_,_,⟨v,hv,h⟩=>⟨v,hv,rz (λ_ h=>xm hk h) h⟩
theorem zj{ty:TypeId}{a:Addr}{K K':Value->Prop}{m:H}(hk:∀v,K v->K' v)(h:vL P ty a K m):vL P ty a K' m:=by
 unfold vL at h ⊢;split at h
 ·cases hb:Nat.beq (P.cellsOf ty) 1 with
  | false=>simp[hb]at h
  | true=>simp only[hb,cond_true]at h ⊢;obtain⟨v,hv,h⟩:=h;exact⟨v,hv,rz hk h⟩
 ·split at h
  ·rename_i i hi;cases hb:Nat.ble i.size qy with
   | false=>simp only[hb,cond_false]at h ⊢;obtain⟨cs,h1,h2,h3⟩:=h;exact⟨cs,h1,h2,hk _ h3⟩
   | true=>
    simp only[hb,cond_true]at h ⊢;split at h
    ·rename_i l hl;cases hb2:Nat.beq l.length i.size with
     | false=>simp[hb2]at h
     | true=>simp only[hb2,cond_true]at h ⊢;exact xm (λ_=>hk _) h
    ·exact h.elim
  ·exact h.elim
 ·exact h.elim
theorem yR{m:H}{a:Addr}{vs:List Value}{K K':H->Prop}(hk:∀h,K h->K' h)(h:M.ku m a vs K):M.ku m a vs K':=⟨h.1,h.2.1,hk _ h.2.2⟩
theorem D7{ty:TypeId}{a:Addr}{v:Value}{K K':H->Prop}{m:H}(hk:∀h,K h->K' h)(h:uL P ty a v K m):uL P ty a v K' m:=by
 unfold uL at h ⊢;split at h
 ·rename_i i hi;split at h
  ·cases hb:Nat.beq i.size 1 with
   | false=>simp[hb]at h
   | true=>simp only[hb,cond_true]at h ⊢;exact⟨h.1,h.2.1,h.2.2.1,hk _ h.2.2.2⟩
  ·split at h
   ·exact⟨h.1,yR hk h.2⟩
   ·exact h.elim
  ·exact h.elim
 ·exact h.elim
theorem Iy{op:BinOp}{k k':IntKind}{a b:Int}{K K':Value->Prop}(hk:∀v,K v->K' v)(h:CS op k a k' b K):CS op k a k' b K':=by
 unfold CS at h ⊢;split at h
 ·exact⟨h.1,hk _ h.2⟩
 ·exact⟨h.1,hk _ h.2⟩
 ·cases hb:Md k k' with
  | false=>simp[hb]at h
  | true=>
   simp only[hb,cond_true]at h ⊢;split at h<;>first|exact h.elim|exact⟨h.1,hk _ h.2⟩|exact hk _ h
theorem HV{op:BinOp}{a b:ByteArray}{K K':Value->Prop}(hk:∀v,K v->K' v)(h:C2 op a b K):C2 op a b K':=by
 unfold C2 at h ⊢;split at h<;>first|exact h.elim|exact hk _ h|exact⟨h.1,hk _ h.2⟩
theorem C5{d:Option TypeDesc}{y:Operand}{a b:Value}{K K':Bool->Prop}(hk:∀v,K v->K' v)(h:DV d y a b K):DV d y a b K':=by
 unfold DV at h ⊢
 repeat' split at h
 all_goals first|exact h.elim|exact hk _ h
theorem G0{op:BinOp}{ty:TypeId}{y:Operand}{a b:Value}{K K':Value->Prop}(hk:∀v,K v->K' v)(h:Cs P op ty y a b K):Cs P op ty y a b K':=by
 unfold Cs at h ⊢;split at h
 ·split at h
  ·exact Iy hk h
  ·exact h.elim
 ·split at h
  ·exact HV hk h
  ·exact h.elim
 ·split at h
  ·exact C5 (λ_=>hk _) h
  ·exact C5 (λ_=>hk _) h
  ·exact h.elim
theorem GG{s d:TypeId}{x:Value}{K K':Value->H->Prop}{m:H}(hk:∀v h,K v h->K' v h)(h:yJ P s d x K m):yJ P s d x K' m:=by
 unfold yJ at h ⊢
 repeat' split at h
 all_goals first
  | exact h.elim
  | exact hk _ _ h
  | exact⟨λe=>hk _ _ (h.1 e),λb e=>let ⟨zs,h1,h2,h3⟩:=h.2 b e;⟨zs,h1,h2,hk _ _ h3⟩⟩
  | exact λc hc b hb=>hk _ _ (h c hc b hb)
theorem Eg{t:TypeId}{x:Value}{lo hi:Option Value}{K K':Value->Prop}(hk:∀v,K v->K' v)(h:uQ P t x lo hi K):uQ P t x lo hi K':=by
 unfold uQ at h ⊢
 repeat' split at h
 all_goals first|exact h.elim|exact⟨h.1,h.2.1,h.2.2.1,hk _ h.2.2.2⟩
theorem yf{t:TypeId}{x i:Value}{K K':Value->Prop}(hk:∀v,K v->K' v)(h:nJ P t x i K):nJ P t x i K':=by
 unfold nJ at h ⊢
 repeat' split at h
 all_goals first|exact h.elim|exact⟨h.1,h.2.1,hk _ h.2.2⟩|exact(let ⟨b,h1,h2,h3,h4⟩:=h;⟨b,h1,h2,h3,hk _ h4⟩)
theorem xj{cs:Array Value}{K K':List Value->Prop}(hk:∀v,K v->K' v):∀{l:List Sh} {i:Nat} {acc:List Value},xR cs i l acc K->xR cs i l acc K'
 | [],_,_,h=>hk _ h
 | _ :: _,_,_,⟨v,hv,h⟩=>⟨v,hv,rz (λ_ h=>xj hk h) h⟩
theorem zC{small:Bool}{t:TypeId}{cs:Array Value}{off:Nat}{K K':Value->Prop}(hk:∀v,K v->K' v)(h:r6 P small t cs off K):r6 P small t cs off K':=by
 unfold r6 at h ⊢;split at h
 ·cases small with
  | true=>
   simp only[cond_true]at h ⊢;split at h
   ·exact hk _ h
   ·exact h.elim
  | false=>
   simp only[cond_false]at h ⊢;obtain⟨v,h3,h4⟩:=h;exact⟨v,h3,rz hk h4⟩
 ·cases small with
  | true=>exact hk _ h
  | false=>
   simp only[cond_false]at h ⊢;cases hb:Nat.ble (P.cellsOf t) qy with
   | true=>
    simp only[hb,cond_true]at h ⊢;split at h
    ·rename_i l hl;cases hb2:Nat.beq l.length (P.cellsOf t)with
     | true=>simp only[hb2,cond_true]at h ⊢;exact xj (λ_=>hk _) h
     | false=>simp[hb2]at h
    ·exact h.elim
   | false=>
    simp only[hb,cond_false]at h ⊢;exact hk _ h
 ·exact h.elim
theorem DE{t:TypeId}{x i:Value}{K K':Value->Prop}(hk:∀v,K v->K' v)(h:uP P t x i K):uP P t x i K':=by
 unfold uP at h ⊢
 repeat' split at h
 all_goals first|exact h.elim|exact⟨h.1,h.2.1,hk _ h.2.2⟩|exact⟨h.1,h.2.1,zC hk h.2.2⟩
theorem Ob{ty:TypeId}{m k:Value}{h:H}{K K':Value->H->Prop}(hk:∀v h,K v h->K' v h)(h0:M.lk P ty m k h K):M.lk P ty m k h K':=by
 obtain⟨kt,et,es,r,hu,hm,hkk,hr⟩:=h0;refine⟨kt,et,es,r,hu,hm,hkk,?_⟩;cases r with
 | some p=>exact hk _ _ hr
 | none=>exact(let ⟨z,hz,hr⟩:=hr;⟨z,hz,hk _ _ hr⟩)
theorem LF{ty:TypeId}{m k:Value}{h:H}{K K':Value->Bool->H->Prop}(hk:∀v b h,K v b h->K' v b h)(h0:M.Nz P ty m k h K):M.Nz P ty m k h K':=by
 obtain⟨kt,et,es,r,hu,hm,hkk,hr⟩:=h0;refine⟨kt,et,es,r,hu,hm,hkk,?_⟩;cases r with
 | some p=>exact hk _ _ _ hr
 | none=>exact(let ⟨z,hz,hr⟩:=hr;⟨z,hz,hk _ _ _ hr⟩)
theorem CG{ty:TypeId}{m k v:Value}{h:H}{K K':H->Prop}(hk:∀h,K h->K' h)(h0:M.An P ty m k v h K):M.An P ty m k v h K':=by
 obtain⟨kt,et,b,es,c,r,hu,hm,hb,hkk,hr⟩:=h0;refine⟨kt,et,b,es,c,r,hu,hm,hb,hkk,?_⟩;cases r with
 | some p=>exact⟨hr.1,hk _ hr.2⟩
 | none=>exact hk _ hr
theorem Cf{ty:TypeId}{m k:Value}{ok:Bool}{K K':Value->H->Prop}{h0:H}(hk:∀v h,K v h->K' v h)(h:tH P ty m k ok K h0):tH P ty m k ok K' h0:=by
 unfold tH at h ⊢;split at h
 ·split at h
  ·cases ok with
   | true=>
    simp only[cond_true]at h ⊢;exact LF (λ_ _ _=>rz (λ_=>hk _ _)) h
   | false=>
    simp only[cond_false]at h ⊢;exact Ob (λ_ _=>rz (λ_=>hk _ _)) h
  ·exact h.elim
 ·exact h.elim
theorem DL{t:TypeId}{x:Value}{f:Nat}{K K':Value->Prop}(hk:∀v,K v->K' v)(h:uF P t x f K):uF P t x f K':=by
 unfold uF at h ⊢
 repeat' split at h
 all_goals first|exact h.elim|exact zC hk h
theorem yw{t:TypeId}{x:Value}{f:Nat}{K K':Value->Prop}(hk:∀v,K v->K' v)(h:nM P t x f K):nM P t x f K':=by
 unfold nM at h ⊢;split at h
 ·split at h
  ·rename_i fd hf;cases hb:Nat.beq (P.cellsOf fd.type) 0 with
   | true=>simp[hb]at h
   | false=>
    simp only[hb,cond_false]at h ⊢;split at h
    ·exact hk _ h
    ·exact h.elim
  ·exact h.elim
 ·exact h.elim
theorem HP{t:TypeId}{x:Value}{K K':Value->H->Prop}{m:H}(hk:∀v h,K v h->K' v h)(h:zB P t x K m):zB P t x K' m:=by
 unfold zB at h ⊢
 repeat' split at h
 all_goals first
  | exact h.elim
  | exact hk _ _ h
  | exact⟨λe=>hk _ _ (h.1 e),λb e=>let ⟨es,c,h1,h2⟩:=h.2 b e;⟨es,c,h1,hk _ _ h2⟩⟩
theorem vl{f:Int->Int->Int}{args:List Value}{K K':Value->Prop}(hk:∀v,K v->K' v)(h:nY f args K):nY f args K':=by
 unfold nY at h ⊢
 repeat' split at h
 all_goals first|exact h.elim|exact hk _ h
theorem sM{m:H}{a:Option Addr}{k:Nat}{K K':List Value->Prop}(hk:∀v,K v->K' v)(h:M.cellsOf m a k K):M.cellsOf m a k K':=
 ⟨λe=>hk _ (h.1 e),λb e=>let ⟨cs,h1,h2,h3⟩:=h.2 b e;⟨cs,h1,h2,hk _ h3⟩⟩
theorem BX{t:TypeId}{x lo hi mm:Value}{K K':Value->Prop}(hk:∀v,K v->K' v)(h:rT P t x lo hi mm K):rT P t x lo hi mm K':=by
 unfold rT at h ⊢
 repeat' split at h
 all_goals first
  | exact h.elim
  | exact⟨h.1,h.2.1,h.2.2.1,h.2.2.2.1,hk _ h.2.2.2.2⟩
theorem As{m:H}{e:TypeId}{size bytes:Nat}{zero:List Value}{base:Option Addr}{len cap k:Nat}{new:List Value}{K K':Option Addr->Nat->Nat->H->Prop}(hk:∀a l c h,K a l c h->K' a l c h)
  (h:M.app m e size bytes zero base len cap k new K):M.app m e size bytes zero base len cap k new K':=
 ⟨λhl=>⟨λe=>hk _ _ _ _ ((h.1 hl).1 e),λa e=>yR (λ_=>hk _ _ _ _) ((h.1 hl).2 a e)⟩,
  λhg=>⟨(h.2 hg).1,(h.2 hg).2.1,sM (λ_ ho c hc b hb=>hk _ _ _ _ (ho c hc b hb)) (h.2 hg).2.2⟩⟩
theorem tX{b:Bool}{A B:Prop}(h:A->B)(ha:bif b then A else False):bif b then B else False:=by
 cases b
 ·exact ha
 ·exact h ha
theorem Ce{ts:Array TypeId}{args:List Value}{K K':Value->H->Prop}{m:H}(hk:∀v h,K v h->K' v h)(h:rD P ts args K m):rD P ts args K' m:=by
 unfold rD at h ⊢
 repeat' split at h
 all_goals first
  | exact h.elim
  | exact sM (λ_=>As λ_ _ _ _=>hk _ _) h
  | exact As (λ_ _ _ _=>hk _ _) h
  | exact tX (λh=>⟨h.1,h.2.1,h.2.2.1,As (λ_ _ _ _=>hk _ _) h.2.2.2⟩) h
theorem ym{m:H}{dst:Option Addr}{new:List Value}{K K':H->Prop}(hk:∀h,K h->K' h)(h:M.copy m dst new K):M.copy m dst new K':=
 ⟨λe=>hk _ (h.1 e),λa e=>yR hk (h.2 a e)⟩
theorem EB{ts:Array TypeId}{args:List Value}{K K':Value->H->Prop}{m:H}(hk:∀v h,K v h->K' v h)(h:yt P ts args K m):yt P ts args K' m:=by
 unfold yt at h ⊢
 repeat' split at h
 all_goals first
  | exact h.elim
  | exact sM (λ_=>ym λ_=>hk _ _) h
  | exact ym (λ_=>hk _ _) h
theorem Ep{ts:Array TypeId}{args:List Value}{K K':Value->H->Prop}{m:H}(hk:∀v h,K v h->K' v h)(h:uX P ts args K m):uX P ts args K' m:=by
 unfold uX at h ⊢
 repeat' split at h
 all_goals first
  | exact h.elim
  | exact ym (λ_=>hk _ _) h
theorem B0(hm:og env){f:Value}{args:List Value}{K K':Value->H->Prop}{m:H}(hk:∀v h,K v h->K' v h)(h:rP env f args K m):rP env f args K' m:=by
 unfold rP at h ⊢;split at h
 ·exact hm _ _ _ _ _ hk h
 ·exact h.elim
theorem JT{ty:TypeId}{m k:Value}{g:H}{K K':Value->Int->H->Prop}(hk:∀v n h,K v n h->K' v n h)(h:M.ID P ty m k g K):M.ID P ty m k g K':=by
 obtain⟨kt,et,b,es,c,r,h1,h2,h3,h4,h5⟩:=h;refine⟨kt,et,b,es,c,r,h1,h2,h3,h4,?_⟩;cases r with
 | none=>exact(let ⟨z,a,b⟩:=h5;⟨z,a,hk _ _ _ b⟩)
 | some p=>exact⟨h5.1,hk _ _ _ h5.2⟩
theorem KL{m s x:Value}{g:H}{K K':H->Prop}(hk:∀h,K h->K' h)(h:M.Iz m s x g K):M.Iz m s x g K':=by
 obtain⟨b,es,c,n,i,h1,h2,h3,h4,h5⟩:=h;exact⟨b,es,c,n,i,h1,h2,h3,h4,hk _ h5⟩
theorem Ck{ts:Array TypeId}{args:List Value}{K K':Value->H->Prop}{m:H}(hk:∀v h,K v h->K' v h)(h:ry P ts args K m):ry P ts args K' m:=by
 unfold ry at h ⊢;split at h
 ·obtain⟨kt,et,b,es,c,r,h1,h2,h3,h4,h5⟩:=h;exact⟨kt,et,b,es,c,r,h1,h2,h3,h4,hk _ _ h5⟩
 ·exact h.elim
theorem EW{ts:Array TypeId}{args:List Value}{K K':Value->H->Prop}{m:H}(hk:∀v h,K v h->K' v h)(h:yF P ts args K m):yF P ts args K' m:=by
 unfold yF at h ⊢;split at h
 ·obtain⟨e,g,cur,f,l,h1,h2,h3,h4,h5,h6,h7,h8,h9,h10⟩:=h;exact⟨e,g,cur,f,l,h1,h2,h3,h4,h5,h6,h7,h8,h9,λf'=>hk _ _ (h10 f')⟩
 ·exact h.elim
theorem H7{args:List Value}{K K':Value->Prop}(hk:∀v,K v->K' v)(h:Fs args K):Fs args K':=by
 unfold Fs at h ⊢;split at h
 ·exact(let ⟨b,e,c,h1⟩:=h;⟨b,e,c,hk _ h1⟩)
 ·exact h.elim
theorem HA{rt:TypeId}{v:Value}{K K':Value->Prop}(hk:∀v,K v->K' v)(h:Cu P rt v K):Cu P rt v K':=by
 unfold Cu at h ⊢;split at h
 ·unfold M.L9 at h ⊢;split at h
  ·rename_i k' n;cases e:Md k' _ with
   | false=>rw[e]at h;exact h.elim
   | true=>rw[e]at h;exact hk _ h
  ·exact h.elim
 ·unfold M.Fb at h ⊢;split at h
  ·exact hk _ h
  ·exact h.elim
 ·exact hk _ h
set_option maxHeartbeats 1000000 in
theorem vQ(hm:og env){op:Op}{rt:TypeId}{t:Tm}{K K':Option Value->H->Prop}{m:H}(hk:∀v h,K v h->K' v h)(h:tR P env op rt t K m):tR P env op rt t K' m:=by
 cases op<;>simp only[tR]at h ⊢ <;>try (exact h.elim)
 case move=>split at h<;>exact hk _ _ h
 case assign=>split at h<;>exact hk _ _ h
 case pick=>
  split at h
  ·rename_i p _;cases p
   ·simp only[cond_false]at h ⊢;split at h<;>exact hk _ _ h
   ·simp only[cond_true]at h ⊢;split at h<;>exact hk _ _ h
  ·exact h.elim
 case alloc=>split at h<;>first|exact h.elim|exact λb hb=>hk _ _ (h b hb)
 case box=>split at h<;>first|exact h.elim|exact λb hb=>hk _ _ (h b hb)
 case build=>(repeat' split at h)<;>first|exact h.elim|exact hk _ _ h
 case buildSlice=>
  split at h
  ·split at h
   ·split at h
    ·split at h
     ·exact tX (λh b hb=>hk _ _ (h b hb)) h
     ·exact h.elim
    ·exact h.elim
   ·exact h.elim
  ·exact h.elim
 case load=>split at h<;>first|exact h.elim|exact zj (λ_=>hk _ _) h
 case store=>split at h<;>first|exact h.elim|exact D7 (λ_=>hk _ _) h
 case nilCheck=>split at h<;>first|exact h.elim|exact(let ⟨a,e,h1⟩:=h;⟨a,e,hk _ _ h1⟩)
 case binOp op ty x y _=>
  split at h
  ·cases hb:xz P op ty with
   | true=>
    simp only[hb,cond_true]at h ⊢;exact(let ⟨c,e,hr⟩:=h;⟨c,e,hk _ _ hr⟩)
   | false=>
    simp only[hb,cond_false]at h ⊢;exact G0 (λ_=>hk _ _) h
  ·exact h.elim
 case lookup=>split at h<;>first|exact h.elim|exact Cf (λ_=>hk _) h
 case mapUpdate=>split at h<;>first|exact h.elim|exact CG (λ_=>hk _ _) h
 case mapEntry=>split at h<;>first|exact h.elim|exact JT (λ_ _=>hk _) h
 case entryStore=>split at h<;>first|exact h.elim|exact KL (λ_=>hk _ _) h
 case insert=>split at h<;>first|exact h.elim|exact CG (λ_=>hk _ _) h
 case unOp=>split at h<;>first|exact h.elim|exact hk _ _ h
 case convert=>split at h<;>first|exact h.elim|exact GG (λ_=>hk _) h
 case makeInterface=>split at h<;>first|exact h.elim|exact hk _ _ h
 case makeFunc=>split at h<;>first|exact h.elim|exact hk _ _ h
 case makeMap=>split at h<;>first|exact h.elim|exact λb hb=>hk _ _ (h b hb)
 case makeSlice=>
  split at h
  ·split at h
   ·split at h
    ·exact tX (λh=>⟨h.1,h.2.1,h.2.2.1,h.2.2.2.1,λb hb=>hk _ _ (h.2.2.2.2 b hb)⟩) h
    ·exact h.elim
   ·exact h.elim
  ·exact h.elim
 case slice ts x lo hi mx=>
  cases mx with
  | some m=>
   cases lo with
   | none=>exact h.elim
   | some lo=>
   cases hi with
   | none=>exact h.elim
   | some hi=>
    simp only at h ⊢;split at h
    ·exact BX (λ_=>hk _ _) h
    ·exact h.elim
  | none=>
   simp only at h ⊢;split at h
   ·exact Eg (λ_=>hk _ _) h
   ·exact h.elim
 case sliceToArrayPointer=>split at h<;>first|exact h.elim|exact(let ⟨h1,a,e,h2⟩:=h;⟨h1,a,e,hk _ _ h2⟩)
 case fieldAddr=>split at h<;>first|exact h.elim|exact yw (λ_=>hk _ _) h
 case field=>split at h<;>first|exact h.elim|exact DL (λ_=>hk _ _) h
 case indexAddr=>split at h<;>first|exact h.elim|exact yf (λ_=>hk _ _) h
 case index=>split at h<;>first|exact h.elim|exact DE (λ_=>hk _ _) h
 case extract=>(repeat' split at h)<;>first|exact h.elim|exact hk _ _ h
 case call c=>
  split at h
  ·rename_i args hargs;split at h
   ·split at h
    ·exact HP (λ_=>hk _) h
    ·exact h.elim
   ·exact vl (λ_=>hk _ _) h
   ·exact vl (λ_=>hk _ _) h
   ·exact Ce (λ_=>hk _) h
   ·exact EB (λ_=>hk _) h
   ·exact Ep (λ_=>hk _) h
   ·exact Ck (λ_=>hk _) h
   ·exact H7 (λ_=>hk _ _) h
   ·exact EW (λ_=>hk _) h
   ·exact hm _ _ _ _ _ (λ_=>hk _) h
   ·split at h
    ·unfold sg at h ⊢;exact B0 hm (λv h' hv=>HA (λ_=>hk _ _) hv) h
    ·exact h.elim
   ·exact h.elim
  ·exact h.elim
def Agree(ws:List Nat)(t t':Tm):Prop:=∀i,tj i ws=false->t' i=t i
theorem Agree.refl(ws:List Nat)(t:Tm):Agree ws t t:=λ_ _=>rfl
theorem Agree.trans{ws:List Nat}{a b c:Tm}(h:Agree ws a b)(k:Agree ws b c):Agree ws a c:=λi hi=>(k i hi).trans (h i hi)
theorem uH{i j:Nat}{r:List Nat}:tj i (j::r)=(Nat.beq j i || tj i r):=by
 show(bif Nat.beq j i then true else tj i r)=_;cases Nat.beq j i<;>rfl
theorem tV{i:Nat}:∀{a b:List Nat},tj i (a++b)=(tj i a || tj i b)
 | [],b=>by simp[tj]
 | x::a,b=>by rw[List.cons_append,uH,uH,tV,Bool.or_assoc]
theorem Agree.left{a b:List Nat}{t t':Tm}(h:Agree a t t'):Agree (a++b) t t':=λi hi=>h i (by rw[tV,Bool.or_eq_false_iff]at hi;exact hi.1)
theorem Agree.right{a b:List Nat}{t t':Tm}(h:Agree b t t'):Agree (a++b) t t':=λi hi=>h i (by rw[tV,Bool.or_eq_false_iff]at hi;exact hi.2)
theorem Agree.put{ws:List Nat}{t t':Tm}{d:Nat}{v:Option Value}(hd:tj d ws=true)(h:Agree ws t t'):Agree ws t (t'.put (some d) v):=λi hi=>by
 have:¬i=d:=λe=>by rw[e,hd]at hi;exact absurd hi (by simp)
 simp only[Tm.put,uk this,cond_false];exact h i hi
theorem Agree.again{ws:List Nat}{t t':Tm}{d:Nat}{v:Value}(hd:t d=some v)(h:Agree ws (t.put (some d) (some v)) t'):Agree ws t t':=λi hi=>by
 rw[h i hi];simp only[Tm.put];by_cases e:i=d
 ·subst e;simp[hd]
 ·rw[uk e];rfl
def FR(ws:List Nat)(o:Oper):Prop:=∀d,o.dst=some d->tj d ws=true
theorem zW{d:Nat}:Nat.beq d d=true:=by simp
theorem EL(p:Oper)(r:List Oper):o9 (p::r)=(match p.dst with|some d=>d::o9 r|none=>o9 r):=rfl
theorem Be{l:List Oper}{o:Oper}(h:o∈l):FR (o9 l) o:=by
 intro d hd;induction l with
 | nil=>simp at h
 | cons p r ih=>
  rw[EL];rcases List.mem_cons.1 h with e|h
  ·rw[←e,hd];simp only;rw[uH,zW,Bool.true_or]
  ·have:=ih h;cases p.dst with
   | none=>exact this
   | some x=>
    simp only;rw[uH,this,Bool.or_true]
theorem oC{o:Oper}{ws:List Nat}{t0 t:Tm}{K K':Tm->H->Prop}(hd:FR ws o)(ha:Agree ws t0 t)(hk:∀t' h,Agree ws t0 t'->K t' h->K' t' h){v:Option Value}{m:H}(h:qA n o t K v m):qA n o t K' v m:=by
 unfold qA at h ⊢;split at h
 ·exact hk _ _ ha h
 ·rename_i d hdd;exact tX (hk _ _ (ha.put (hd d hdd))) h
theorem tF(hm:og env){o:Oper}{ws:List Nat}{t:Tm}{K K':Tm->H->Prop}(hd:FR ws o)(hk:∀t' h,Agree ws t t'->K t' h->K' t' h){m:H}(h:sF P env n ops o t K m):sF P env n ops o t K' m:=by
 unfold sF at h ⊢;split at h
 ·exact vQ hm (λ_ _=>oC hd (.refl _ _) hk) h
 ·exact oC hd (.refl _ _) hk h
 ·rename_i d b want hg;have hb:t d=some (.bool b):=by
   unfold guardOf at hg;split at hg
   ·simp at hg
   ·split at hg
    ·split at hg
     ·rename_i b' hb;simp only[Sn.ask.injEq]at hg;obtain⟨rfl,rfl,_⟩:=hg;exact hb
     ·simp at hg
     ·simp at hg
    ·simp at hg
  have hk2:∀t' h,Agree ws (t.put (some d) (some (.bool b))) t'->K t' h->K' t' h:=λt' h ha=>hk t' h (ha.again hb);cases b<;>cases want<;>simp only[cond_true,cond_false]at h ⊢
  ·exact vQ hm (λ_ _=>oC hd (.refl _ _) hk2) h
  ·exact oC hd (.refl _ _) hk2 h
  ·exact oC hd (.refl _ _) hk2 h
  ·exact vQ hm (λ_ _=>oC hd (.refl _ _) hk2) h
 ·exact h.elim
theorem zx(hm:og env){ws:List Nat}{K K':Tm->H->Prop}:∀{l:List Oper} {t:Tm} {m:H},(∀o∈l,FR ws o)->(∀t' h,Agree ws t t'->K t' h->K' t' h)->yS P env n ops l t K m->yS P env n ops l t K' m
 | [],t,m,_,hk,h=>hk _ _ (.refl _ _) h
 | o::r,t,m,hd,hk,h=>tF hm (hd o (by simp)) (λt' h' ha hh=>zx hm (λo ho=>hd o (by simp[ho])) (λt2 h2 ha2=>hk t2 h2 (ha.trans ha2)) hh) h
theorem uo{bs:List Nat}{j:Nat}{h':H}{K K':Prop}(hk:K->K'):∀{L:List tI},qw bs j h' K L->qw bs j h' K' L
 | [],h=>hk h
 | x::r,h=>by
  have h1:(bif Nat.testBit (bs.getD j 0) x.op then qw bs j h' K r else M.still x.mem x.addr x.cells h' (qw bs j h' K r)):=h;show(bif Nat.testBit (bs.getD j 0) x.op then qw bs j h' K' r else M.still x.mem x.addr x.cells h' (qw bs j h' K' r));cases hb:Nat.testBit (bs.getD j 0) x.op with
  | true=>rw[hb]at h1;exact uo hk h1
  | false=>rw[hb]at h1;exact⟨h1.1,uo hk h1.2⟩
theorem vk{α:Type}{f g:α -> Prop}:∀{l:List α},(∀a∈l,f a->g a)->LW (l.map f)->LW (l.map g)
 | [],_,h=>h
 | [a],hk,h=>hk a (by simp) h
 | a::b::r,hk,h=>⟨hk a (by simp) h.1,vk (l:=b::r) (λx hx=>hk x (by simp at hx ⊢;exact .inr hx)) h.2⟩
theorem vZ(hm:og env){ws bs:List Nat}{K K':Tm->H->Prop}(hd:∀o∈ops.toList,FR ws o):∀{f:Nat} {listed:Array Bool} {L:List tI} {t:Tm} {m:H},
  (∀t' h,Agree ws t t'->K t' h->K' t' h)->vz P env n ops bs f listed L t K m->vz P env n ops bs f listed L t K' m
 | 0,listed,L,t,m,hk,h=>by
  unfold vz at h ⊢;split at h
  ·exact hk _ _ (.refl _ _) h
  ·exact h.elim
 | f+1,listed,L,t,m,hk,h=>by
  unfold vz at h ⊢;split at h
  ·exact hk _ _ (.refl _ _) h
  ·split at h
   ·split at h
    ·rename_i o ho;exact tF hm (hd o (List.mem_of_getElem? ho)) (λt' h' ha hh=>vZ hm hd (λt2 h2 ha2=>hk t2 h2 (ha.trans ha2)) hh) h
    ·exact h.elim
   ·refine vk (λi _ h=>?_) h;split at h
    ·rename_i o ho;exact tF hm (hd o (List.mem_of_getElem? ho)) (λt' h' ha hh=>uo (vZ hm hd (λt2 h2 ha2=>hk t2 h2 (ha.trans ha2))) hh) h
    ·exact h.elim
theorem wm(hm:og env){draw:Bool}{t:Tm}{K K':Tm->H->Prop}{m:H}(hk:∀t' h,Agree (o9 ops.toList) t t'->K t' h->K' t' h)(h:Bj P env n ops draw t K m):Bj P env n ops draw t K' m:=by
 unfold Bj at h ⊢;cases draw
 ·exact zx hm (λo ho=>Be ho) hk h
 ·exact tX (vZ hm (λo ho=>Be ho) hk) h
end
end Go.Sh
namespace Go.Sh
open Go.RowKit
section
variable {P:Program}{env:Env}{n:Nat}{ann:jy}
theorem KO{b:Bool}{A A' B B':Prop}(h:A->A')(k:B->B')(ha:bif b then A else B):bif b then A' else B':=by
 cases b
 ·exact k ha
 ·exact h ha
theorem CW{α:Type}{step step':(α -> H->Prop)->α -> H->Prop}(hs:∀J J' d h,(∀d h,J d h->J' d h)->step J d h->step' J' d h):∀(k:Nat) (d:α) (h:H),M.iter step k d h->M.iter step' k d h
 | 0,_,_,h=>h
 | k+1,d,h,hh=>hs _ _ d h (λd h=>CW hs k d h) hh
theorem JU{α:Type}{step step':(α -> H->Prop)->α -> H->Prop}(hs:∀J J' d h,(∀d h,J d h->J' d h)->step J d h->step' J' d h){d:α}{h:H}(hh:M.loop step d h):M.loop step' d h:=
 let ⟨k,hk⟩:=hh;⟨k,CW hs k d h hk⟩
theorem Gz{s:Sh}{v:Value}{d:s.Ng}(h:s.JR v=some d):s.Nr d=v:=by
 cases s<;>cases v<;>simp only[Sh.JR,Option.some.injEq,reduceCtorEq]at h<;>first
  | (subst h;rfl)
  | (rename_i k k' m
     cases hb:Md k k' with
     | false=>simp[hb]at h
     | true=>
      simp only[hb,cond_true,Option.some.injEq]at h;subst h;have:k=k':=of_decide_eq_true hb
      rw[this];rfl)
  | (rename_i p
     cases p with
     | none=>simp at h
     | some a=>
      simp only[Option.some.injEq]at h
      subst h;rfl)
theorem CB:∀{l:List Sh} {vs:List Value} {d:Np l},FZ l vs=some d->Mq l d=vs
 | [],[],_,_=>rfl
 | [x],[v],d,h=>by
  have h':x.JR v=some d:=h;show [x.Nr d]=[v];rw[Gz h']
 | x::y::r,v::vs,d,h=>by
  have h':(match x.JR v,FZ (y::r) vs with|some d,some e=>some (d,e)|_,_=>none)=some d:=h
  show x.Nr d.1::Mq (y::r) d.2=v::vs;split at h'
  ·rename_i d1 d2 h1 h2;simp only[Option.some.injEq]at h';subst h';rw[Gz h1,CB h2]
  ·simp at h'
 | [],_ :: _,_,h=>by simp[FZ]at h
 | [_],[],_,h=>by simp[FZ]at h
 | [_],_ :: _ :: _,_,h=>by simp[FZ]at h
 | _ :: _ :: _,[],_,h=>by simp[FZ]at h
theorem I4{s:Sh}{v:Value}{d:s.den}(h:s.Qu v=some d):s.inj d=v:=by
 cases s<;>cases v<;>simp only[Sh.Qu,Option.some.injEq,reduceCtorEq]at h<;>first
  | (subst h;rfl)
  | (show Value.agg (Mq _ d).toArray=_;rw[CB h];done)
  | (rename_i p
     cases p with
     | none=>simp at h
     | some a=>
      simp only[Option.some.injEq]at h
      subst h;rfl)
  | (rename_i k k' m
     cases hb:Md k k' with
     | false=>simp[hb]at h
     | true=>
      simp only[hb,cond_true,Option.some.injEq]at h;subst h;have:k=k':=of_decide_eq_true hb
      rw[this];rfl)
theorem Fk:∀{sl:List (Nat×Sh)} {t t':Tm} {d:AJ sl},uC t' sl=some d->(∀i v,t i=some v->t' i=some v)->∀i v,u9 t sl d i=some v->t' i=some v
 | [],_,_,_,_,hs,i,v,h=>hs i v h
 | [x],t,t',d,hp,hs,i,v,h=>by
  have hp':(match t' x.1 with|some v=>x.2.Qu v|none=>none)=some d:=hp
  have h':(t.put (some x.1) (some (x.2.inj d))) i=some v:=h;split at hp'
  ·rename_i u hu;simp only[Tm.put]at h';by_cases e:i=x.1
   ·subst e;rw[zW,cond_true]at h';rw[←h',hu,I4 hp']
   ·rw[uk e,cond_false]at h';exact hs i v h'
  ·simp at hp'
 | x::y::r,t,t',d,hp,hs,i,v,h=>by
  have hp':(match t' x.1 with
   | some v=>(match x.2.Qu v,uC t' (y::r)with|some d,some e=>some (d,e)|_,_=>none)
   | none=>none)=some d:=hp
  have h':u9 (t.put (some x.1) (some (x.2.inj d.1))) (y::r) d.2 i=some v:=h;split at hp'
  ·rename_i u hu;split at hp'
   ·rename_i d1 d2 h1 h2;simp only[Option.some.injEq]at hp';subst hp';refine Fk h2 (λi v hv=>?_) i v h';simp only[Tm.put]at hv;by_cases e:i=x.1
    ·subst e;rw[zW,cond_true]at hv;rw[←hv,hu,I4 h1]
    ·rw[uk e,cond_false]at hv;exact hs i v hv
   ·simp at hp'
  ·simp at hp'
theorem Fr.join{t0 t':Tm}{a:Act}{ws:List Nat}{sl:List (Nat×Sh)}{d:AJ sl}(ha:Agree ws t0 t')(hp:uC t' sl=some d)(hf:Fr n t' a):Fr n (u9 (t0.mask ws) sl d) a:=by
 refine⟨λi v hv=>hf.sub i v (Fk hp (λi v hi=>?_) i v hv),hf.size,hf.defers⟩;unfold Tm.mask at hi;cases hm:tj i ws with
 | true=>simp[hm]at hi
 | false=>rw[hm,cond_false]at hi;rw[ha i hm];exact hi
theorem sj:∀{sl:List (Nat×Sh)} {t:Tm} {ws:List Nat} {d:AJ sl},Bv sl ws=true->Agree ws t (u9 t sl d)
 | [],_,_,_,_=>.refl _ _
 | [x],t,ws,d,h=>by
  have h':(bif tj x.1 ws then Bv [] ws else false)=true:=h;cases hm:tj x.1 ws with
  | false=>simp[hm]at h'
  | true=>exact(Agree.refl ws t).put hm
 | x::y::r,t,ws,d,h=>by
  have h':(bif tj x.1 ws then Bv (y::r) ws else false)=true:=h;cases hm:tj x.1 ws with
  | false=>simp[hm]at h'
  | true=>
   simp only[hm,cond_true]at h';exact((Agree.refl ws t).put hm).trans (sj h')
theorem wM{t:Tm}{ws:List Nat}:Agree ws t (t.mask ws):=λi hi=>by simp[Tm.mask,hi]
theorem zo{sl:List (Nat×Sh)}{ws:List Nat}{t:Tm}{KK KK':Tm->H->Prop}{B B':(Tm->H->Prop)->Prop}
  (hk:∀t' h,Agree ws t t'->KK t' h->KK' t' h) (hb:∀K K',(∀t' h,K t' h->K' t' h)->B K->B' K') (h:vV sl ws t KK B):vV sl ws t KK' B':=by
 unfold vV at h ⊢;cases hs:Bv sl ws with
 | false=>simp[hs]at h
 | true=>
  simp only[hs,cond_true]at h ⊢;refine hb _ _ (λt' h' hh=>?_) h
  revert hh
  cases uC t' sl with
  | none=>exact id
  | some d=>exact hk _ _ (wM.trans (sj hs))
theorem lY(hm:og env):∀(c:Code) (p:Nat) {K K':Exit->Tm->H->Prop} {t:Tm} {m:H},(∀e t' h,Agree (writes c) t t'->K e t' h->K' e t' h)->xW P env n ann c p K t m->xW P env n ann c p K' t m
 | .skip,p,K,K',t,m,hk,h=>hk _ _ _ (.refl _ _) h
 | .label _,p,K,K',t,m,hk,h=>hk _ _ _ (.refl _ _) h
 | .region id ops draw,p,K,K',t,m,hk,h=>by
  unfold xW at h ⊢;split at h
  ·exact wm hm (λt' h' ha=>hk _ t' h' ha) h
  ·exact zo (λt' h' ha=>hk _ t' h' ha) (λ_ _ hkk=>wm hm (λt' h' _=>hkk t' h')) h
 | .seq a b,p,K,K',t,m,hk,h=>by
  unfold xW at h ⊢;split at h
  ·refine lY hm a _ (λe t' h' ha hh=>?_) h;cases e with
   | normal=>exact lY hm b _ (λe t2 h2 ha2=>hk e t2 h2 (ha.left.trans ha2.right)) hh
   | _=>exact hk _ _ _ ha.left hh
  ·refine zo (λt' h' ha hh=>lY hm b _ (λe t2 h2 ha2=>hk e t2 h2 (ha.left.trans ha2.right)) hh) (λk k' hkk hh=>?_) h;refine lY hm a _ (λe t' h' ha hh=>?_) hh;cases e with
   | normal=>exact hkk _ _ hh
   | _=>exact hk _ _ _ ha.left hh
 | .cond c a b,p,K,K',t,m,hk,h=>by
  unfold xW at h ⊢;split at h
  ·rename_i v hv;cases v
   ·exact lY hm b _ (λe t' h' ha=>hk e t' h' ha.right) h
   ·exact lY hm a _ (λe t' h' ha=>hk e t' h' ha.left) h
  ·exact h.elim
 | .block id b,p,K,K',t,m,hk,h=>by
  unfold xW at h ⊢;refine lY hm b _ (λe t' h' ha hh=>?_) h;cases e with
  | exit i=>exact KO (hk _ _ _ ha) (hk _ _ _ ha) hh
  | _=>exact hk _ _ _ ha hh
 | .loop b,p,K,K',t,m,hk,h=>by
  unfold xW at h ⊢;split at h
  ·rename_i sl hsl;cases hs:Bv sl (writes b)with
   | false=>simp[hs]at h
   | true=>
    simp only[hs,cond_true]at h ⊢;split at h
    ·refine JU (λJ J' d h' hj hh=>?_) h;refine lY hm b _ (λe t' h2 ha hh=>?_) hh;have ha2:Agree (writes (.loop b)) t t':=(wM.trans (sj hs)).trans ha;cases e with
     | normal=>
      revert hh
      simp only;cases uC t' sl with
      | none=>exact id
      | some d=>exact hj _ _
     | _=>exact hk _ _ _ ha2 hh
    ·exact h.elim
  ·exact h.elim
 | .scope b,p,K,K',t,m,hk,h=>by
  unfold xW at h ⊢;refine lY hm b _ (λe t' h' ha hh=>?_) h;cases e with
  | goto=>exact hh
  | _=>exact hk _ _ _ ha hh
 | .exit i,p,K,K',t,m,hk,h=>hk _ _ _ (.refl _ _) h
 | .ret,p,K,K',t,m,hk,h=>hk _ _ _ (.refl _ _) h
 | .goto _,_,_,_,_,_,_,h=>h.elim
 | .refuse _,_,_,_,_,_,_,h=>h.elim
 | .rangeFunc ..,_,_,_,_,_,_,h=>h.elim
theorem q9(hm:P.follows .mixedOrders=true)(hen:vA P env)(hmo:og env):∀(c:Code) (p:Nat) {Q:Exit->Act->World->Prop} {K:Exit->Tm->H->Prop} {t:Tm} {a:Act} {w w0:World},
  (∀c a w,¬Q (.panic c) a w)->Fr n t a->jE w0 w->(∀e t' a' w',K e t' (hp w')->Fr n t' a'->jE w0 w'->Q e a' w')->xW P env n ann c p K t (hp w)->c.wp P Q a w
 | .skip,p,Q,K,t,a,w,w0,hQ,hf,hst,hk,h=>wp_skip (hk _ _ _ _ h hf hst)
 | .label _,p,Q,K,t,a,w,w0,hQ,hf,hst,hk,h=>wp_label (hk _ _ _ _ h hf hst)
 | .exit _,p,Q,K,t,a,w,w0,hQ,hf,hst,hk,h=>wp_exit (hk _ _ _ _ h hf hst)
 | .ret,p,Q,K,t,a,w,w0,hQ,hf,hst,hk,h=>wp_ret (hk _ _ _ _ h hf hst)
 | .region id ops draw,p,Q,K,t,a,w,w0,hQ,hf,hst,hk,h=>by
  unfold xW at h;split at h
  ·exact Gg hm hen hQ hf hst (λt' a' w' hh=>hk _ t' a' w' hh) h
  ·rename_i sl hsl;unfold vV at h;cases hs:Bv sl (o9 ops.toList)with
   | false=>simp[hs]at h
   | true=>
    simp only[hs,cond_true,M.join]at h;have h2:=wm hmo (K':=λt' h'=>Agree (o9 ops.toList) t t'∧(match uC t' sl with|some d=>K .normal (u9 (t.mask (o9 ops.toList)) sl d) h'|none=>False)) (λt' h' ha hh=>⟨ha,hh⟩) h
    refine Gg hm hen hQ hf hst (λt' a' w' hh hf' hst'=>?_) h2;obtain⟨ha,hh⟩:=hh;cases hp:uC t' sl with
    | none=>simp[hp]at hh
    | some d=>
     simp only[hp]at hh;exact hk _ _ _ _ hh (Fr.join ha hp hf') hst'
 | .seq x y,p,Q,K,t,a,w,w0,hQ,hf,hst,hk,h=>by
  unfold xW at h;split at h
  ·refine wp_seq (q9 hm hen hmo x (2*p) (λc a w hh=>hQ c a w hh) hf hst (λe t' a' w' hh hf' hst'=>?_) h);cases e with
   | normal=>exact q9 hm hen hmo y (2*p+1) hQ hf' hst' hk hh
   | _=>exact hk _ _ _ _ hh hf' hst'
  ·rename_i sl hsl;unfold vV at h;cases hs:Bv sl (writes x)with
   | false=>simp[hs]at h
   | true=>
    simp only[hs,cond_true,M.join]at h
    have h2:=lY hmo x (2*p) (K':=λe t' h'=>Agree (writes x) t t'∧(match e with
     | .normal=>(match uC t' sl with|some d=>xW P env n ann y (2*p+1) K (u9 (t.mask (writes x)) sl d) h'|none=>False)
     | e=>K e t' h')) (λe t' h' ha hh=>⟨ha,by cases e<;>exact hh⟩) h
    refine wp_seq (q9 hm hen hmo x (2*p) (λc a w hh=>hQ c a w hh) hf hst (λe t' a' w' hh hf' hst'=>?_) h2);obtain⟨ha,hh⟩:=hh;cases e with
    | normal=>
     simp only at hh;cases hp:uC t' sl with
     | none=>simp[hp]at hh
     | some d=>
      simp only[hp]at hh;exact q9 hm hen hmo y (2*p+1) hQ (Fr.join ha hp hf') hst' hk hh
    | _=>exact hk _ _ _ _ hh hf' hst'
 | .cond c x y,p,Q,K,t,a,w,w0,hQ,hf,hst,hk,h=>by
  unfold xW at h;split at h
  ·rename_i v hv;cases v
   ·exact wp_cond_false (hf.sub.get hv) (q9 hm hen hmo y _ hQ hf hst hk h)
   ·exact wp_cond_true (hf.sub.get hv) (q9 hm hen hmo x _ hQ hf hst hk h)
  ·exact h.elim
 | .block id b,p,Q,K,t,a,w,w0,hQ,hf,hst,hk,h=>by
  unfold xW at h;refine wp_block (q9 hm hen hmo b (2*p) (λc a w hh=>hQ c a w hh) hf hst (λe t' a' w' hh hf' hst'=>?_) h);cases e with
  | exit i=>
   simp only[Exit.inBlock];by_cases hi:i=id
   ·subst hi;simp only[zW,cond_true]at hh;simp only[if_true];exact hk _ _ _ _ hh hf' hst'
   ·simp only[uk hi,cond_false]at hh;rw[if_neg hi];exact hk _ _ _ _ hh hf' hst'
  | _=>exact hk _ _ _ _ hh hf' hst'
 | .scope b,p,Q,K,t,a,w,w0,hQ,hf,hst,hk,h=>by
  unfold xW at h;refine wp_scope_straight (q9 hm hen hmo b (2*p) (λc a w hh=>hQ c a w hh) hf hst (λe t' a' w' hh hf' hst'=>?_) h);cases e with
  | goto l=>exact hh
  | _=>exact hk _ _ _ _ hh hf' hst'
 | .loop b,p,Q,K,t,a,w,w0,hQ,hf,hst,hk,h=>by
  unfold xW at h;split at h
  ·rename_i sl hsl;cases hs:Bv sl (writes b)with
   | false=>simp[hs]at h
   | true=>
    simp only[hs,cond_true]at h;split at h
    ·rename_i d0 hd0;obtain⟨k,hk0⟩:=h;have key:∀(k:Nat) (d:AJ sl) (a:Act) (w:World),Fr n (u9 (t.mask (writes b)) sl d) a->jE w0 w ->
       M.iter (α:=AJ sl) (λJ d h=>xW P env n ann b (2*p) (λe t' h'=>match e with
        | .normal=>(match uC t' sl with|some d'=>J d' h'|none=>False)
        | e=>K e t' h') (u9 (t.mask (writes b)) sl d) h) k d (hp w)->Code.rounds P b Q k a w:=by
      intro k;induction k with
      | zero=>intro d a w hf hst hh;exact hh
      | succ k ih=>
       intro d a w hf hst hh;rw[rounds_succ]
       have h2:=lY hmo b (2*p) (K':=λe t' h'=>Agree (writes b) t t'∧(match e with
        | .normal=>(match uC t' sl with|some d'=>M.iter (α:=AJ sl) (λJ d h=>xW P env n ann b (2*p) (λe t' h'=>match e with
        | .normal=>(match uC t' sl with|some d'=>J d' h'|none=>False)
        | e=>K e t' h') (u9 (t.mask (writes b)) sl d) h) k d' h'|none=>False)
        | e=>K e t' h')) (λe t' h' ha hh=>⟨(wM.trans (sj hs)).trans ha,by cases e<;>exact hh⟩) hh
       refine q9 hm hen hmo b (2*p) (λc a w hh=>hQ c a w hh) hf hst (λe t' a' w' hh hf' hst'=>?_) h2;obtain⟨ha,hh⟩:=hh;cases e with
       | normal=>
        simp only at hh;cases hp:uC t' sl with
        | none=>simp[hp]at hh
        | some d=>
         simp only[hp]at hh;exact ih d a' w' (Fr.join ha hp hf') hst' hh
       | _=>exact hk _ _ _ _ hh hf' hst'
     exact wp_loop_rounds k (key k d0 a w (Fr.join (.refl _ _) hd0 hf) hst hk0)
    ·exact h.elim
  ·exact h.elim
 | .goto _,_,_,_,_,_,_,_,_,_,_,_,h=>h.elim
 | .refuse _,_,_,_,_,_,_,_,_,_,_,_,h=>h.elim
 | .rangeFunc ..,_,_,_,_,_,_,_,_,_,_,_,h=>h.elim
/-! ### A function -/
theorem qX{t:Tm}{a:Act}{w:World}{g:ResultVar->Sem Value}(g1:∀i,g (.tmp i)=pure (a.tmps.getD i undef))(g2:∀x ty,g (.cell x ty)=(do loadVar ty (←asAddr (a.tmps.getD x undef))))(hs:Sub t a):
  ∀{l:List ResultVar} {acc:List Value} {K:List Value->Prop},kR P t (hp w) l acc K->∃vs,K (acc.reverse++vs)∧(l.mapM g).run P w = .ok vs w
 | [],acc,K,h=>⟨[],by simpa [kR] using h,by simp⟩
 | .tmp i::r,acc,K,h=>by
  unfold kR at h;split at h
  ·rename_i v hv;obtain⟨vs,hk,hr⟩:=qX g1 g2 hs h;refine⟨v::vs,by simpa using hk,?_⟩;have:a.tmps.getD i undef=v:=by simp[Array.getD_eq_getD_getElem?,hs i v hv]
   rw[List.mapM_cons,Sem.run_bind,g1];simp only[Sem.run_pure,Result.andThen_ok,Sem.run_bind,hr,this]
  ·exact h.elim
 | .cell x ty::r,acc,K,h=>by
  unfold kR at h;split at h
  ·rename_i p hp1;obtain⟨v,h2,hl⟩:=A2 h;obtain⟨vs,hk,hr⟩:=qX g1 g2 hs h2;refine⟨v::vs,by simpa using hk,?_⟩;have:a.tmps.getD x undef = .pointer (some p):=by simp[Array.getD_eq_getD_getElem?,hs x _ hp1]
   rw[List.mapM_cons,Sem.run_bind,g2,this];have hl':=hl w (λ_ _=>rfl);have ha:(asAddr (.pointer (some p))).run P w = .ok p w:=by simp[asAddr]
   simp only[Sem.run_bind,ha,hl',Sem.run_pure,Result.andThen_ok,hr]
  ·exact h.elim
theorem p0{t:Tm}{m:H}:∀{l:List ResultVar} {acc:List Value} {K K':List Value->Prop},(∀v,K v->K' v)->kR P t m l acc K->kR P t m l acc K'
 | [],acc,K,K',hk,h=>hk _ h
 | .tmp i::r,acc,K,K',hk,h=>by
  unfold kR at h ⊢;split at h
  ·exact p0 hk h
  ·exact h.elim
 | .cell x ty::r,acc,K,K',hk,h=>by
  unfold kR at h ⊢;split at h
  ·exact zj (λ_=>p0 hk) h
  ·exact h.elim
theorem H6{fn:Func}{Q Q':Value->H->Prop}{e:Exit}{t:Tm}{m:H}(hq:∀v h,Q v h->Q' v h)(h:CK P fn Q e t m):CK P fn Q' e t m:=by
 unfold CK at h ⊢;split at h<;>first|exact p0 (λ_=>hq _ _) h|exact h.elim
theorem HJ{fn:Func}{Q:Value->H->Prop}{e:Exit}{t:Tm}{a:Act}{w w0:World}(hf:Fr n t a)(hst:jE w0 w)(h:CK P fn Q e t (hp w)):
  bodyPost P fn (λe w'=>∃v,e = .returned v∧Q v (hp w')∧jE w0 w') e a w:=by
 have key:kR P t (hp w) fn.results.toList [] (λvs=>Q (oneOf vs) (hp w))->a.defers=[]∧∃v,(results fn a.tmps).run P w = .ok v w∧∃v',Ending.returned v = .returned v'∧Q v' (hp w)∧jE w0 w:=by
  intro h;have key2:∀g:ResultVar->Sem Value,(∀i,g (.tmp i)=pure (a.tmps.getD i undef))->(∀x ty,g (.cell x ty)=(do loadVar ty (←asAddr (a.tmps.getD x undef)))) ->
    ∃vs,Q (oneOf vs) (hp w)∧(fn.results.mapM g).run P w = .ok vs.toArray w:=by
   intro g g1 g2;obtain⟨vs,hk,hr⟩:=qX g1 g2 hf.sub h;exact⟨vs,by simpa using hk,by rw[Array.mapM_eq_mapM_toList,Sem.run_map,hr,Result.andThen_ok]⟩
  let g:ResultVar->Sem Value:=fun | .tmp t=>pure (a.tmps.getD t undef) | .cell x t=>do loadVar t (←asAddr (a.tmps.getD x undef))
  obtain⟨vs,hk,hr⟩:=key2 g (λ_=>rfl) (λ_ _=>rfl);refine⟨hf.defers,oneOf vs,?_,_,rfl,hk,hst⟩;have e:results fn a.tmps=(fn.results.mapM g >>= λvs=>pure (if h:vs.size=1 then vs[0] else .tuple vs)):=by
   unfold results;congr 1
  rw[e,Sem.run_bind,hr,Result.andThen_ok];cases vs with
  | nil=>rfl
  | cons v r=>
   cases r with
   | nil=>rfl
   | cons u r=>simp[oneOf]
 unfold CK at h;split at h
 ·exact key h
 ·exact key h
 ·exact h.elim
theorem MV(hmo:og env){fn:Func}{args:List Value}:∀{Q Q':Value->H->Prop} {m:H},(∀v h,Q v h->Q' v h)->fT P env fn ann args Q m->fT P env fn ann args Q' m:=by
 intro Q Q' m hq h;unfold fT at h ⊢;split at h
 ·cases hb:Nat.ble args.length fn.ntmps with
  | false=>simp[hb]at h
  | true=>
   simp only[hb,cond_true]at h ⊢;exact lY hmo _ _ (λe t' h' _=>H6 hq) h
 ·exact h.elim
theorem Kv(hm:P.follows .mixedOrders=true)(hen:vA P env)(hmo:og env){f:FuncId}{fn:Func}(hf:P.funcs[f]? = some fn){args:Array Value}{Q:Value->H->Prop}{w:World}(h:fT P env fn ann args.toList Q (hp w)):
  Calls P f args w λe w'=>∃v,e = .returned v∧Q v (hp w')∧jE w w':=by
 unfold fT at h;split at h
 ·rename_i c hc;cases hb:Nat.ble args.toList.length fn.ntmps with
  | false=>simp only[hb,cond_false]at h
  | true=>
   simp only[hb,cond_true]at h;refine calls_of_wp hf hc (q9 hm hen hmo c 1 (λc a w hh=>?_) ⟨λi v hv=>?_,?_,rfl⟩ (.refl w) (λe t' a' w' hh hf' hst'=>HJ hf' hst' hh) h)
   ·obtain⟨_,v,hv,_⟩:=hh;simp at hv
   ·have h1:args[i]? = some v:=by simpa [SD] using hv
    have h2:i<args.size:=(Array.getElem?_eq_some_iff.1 h1).1;show(args++Array.replicate (fn.ntmps-args.size) undef)[i]? = some v;rw[Array.getElem?_append_left h2,h1]
   ·have:args.size≤fn.ntmps:=by simpa using hb
    simp;omega
 ·exact h.elim
/-! ### Texts that name a function's form -/
structure ai (P:Program) (f:FuncId) (F:W):Prop where
 ok:Ra P f F
 mono:M7 F
structure rY (P:Program) (env:Env):Prop where
 ok:vA P env
 mono:og env
theorem ai.none(f:FuncId):ai P f (λ_ _ _=>False):=⟨λ_ _ _ h=>h.elim,λ_ _ _ _ _ h=>h⟩
theorem rY.nil:rY P (ay []):=⟨λf=>(ai.none f).ok,λf=>(ai.none (P:=P) f).mono⟩
theorem rY.cons{f:FuncId}{F:W}{l:List (Nat×W)}(h:ai P f F)(k:rY P (ay l)):rY P (ay ((f,F)::l)):=by
 have key:∀g,ai P g (ay ((f,F)::l) g):=by
  intro g;show ai P g (bif Nat.beq f g then F else ay l g);cases hb:Nat.beq f g with
  | false=>exact⟨k.ok g,k.mono g⟩
  | true=>rw[←Nat.eq_of_beq_eq_true hb];exact h
 exact⟨λg=>(key g).ok,λg=>(key g).mono⟩
theorem ai.of(hm:P.follows .mixedOrders=true)(hen:rY P env){f:FuncId}{fn:Func}(hf:P.funcs[f]? = some fn)(hc:∀args w,(callFunc f args).run P w = .ok (.enter f args) w){F:W}
  (h:∀args,F args=(λ_ _=>False)∨∀Q m,fT P env fn ann args.toList Q m=F args Q m):ai P f F:=by
 refine⟨λargs Q w hh=>?_,λargs Q Q' m hq hh=>?_⟩
 ·rcases h args with h|h
  ·rw[h]at hh;exact hh.elim
  ·exact .inl ⟨f,args,hc _ _,Kv hm hen.ok hen.mono hf (by rw[h];exact hh)⟩
 ·rcases h args with h|h
  ·rw[h]at hh;exact hh.elim
  ·rw[←h]at hh ⊢;exact MV hen.mono hq hh
theorem ai.calls{f:FuncId}{F:W}(h:ai P f F)(hc:∀args w,(callFunc f args).run P w = .ok (.enter f args) w){args:Array Value}{Q:Value->H->Prop}{w:World}(hh:F args Q (hp w)):
  Calls P f args w λe w'=>∃v,e = .returned v∧Q v (hp w')∧jE w w':=by
 rcases h.ok args Q w hh with ⟨g,args',hr,hcalls⟩|⟨v,w',hr,_⟩
 ·rw[hc]at hr;simp only[Result.ok.injEq,Next.enter.injEq,and_true]at hr;obtain⟨rfl,rfl⟩:=hr;exact hcalls
 ·rw[hc]at hr;simp at hr
end
end Go.Sh
namespace Go.Sh
open Go.RowKit
variable {P:Program}{f:FuncId}
theorem ai.iff{F G:W}(g:ai P f F)(e:∀args Q h,G args Q h↔F args Q h):ai P f G:=
 ⟨λargs Q w hh=>g.ok args Q w ((e args Q (hp w)).1 hh),λargs Q Q' m hq hh=>(e args Q' m).2 (g.mono args Q Q' m hq ((e args Q m).1 hh))⟩
theorem ai.ex{F:Nat->W}(g:∀k,ai P f (F k)):ai P f (λargs Q h=>∃k,F k args Q h):=
 ⟨λargs Q w ⟨k,hh⟩=>(g k).ok args Q w hh,λargs Q Q' m hq ⟨k,hh⟩=>⟨k,(g k).mono args Q Q' m hq hh⟩⟩
theorem ai.RW{F:W}(e:∀args Q h,¬F args Q h):ai P f F:=⟨λargs Q w hh=>absurd hh (e _ _ _),λargs Q Q' m hq hh=>absurd hh (e _ _ _)⟩
theorem ai.known(hc:∀args w,(callFunc f args).run P w = .ok (.enter f args) w){F:W}(hm:∀args Q Q' m,(∀v h,Q v h->Q' v h)->F args Q m->F args Q' m)
  (h:∀args Q w,F args Q (hp w)->Calls P f args w λe w'=>∃v,e = .returned v∧Q v (hp w')∧jE w w'):ai P f F:=
 ⟨λargs Q w hh=>.inl ⟨f,args,hc _ _,h args Q w hh⟩,hm⟩
abbrev LT:=List Value->(Value->H->Prop)->H->Prop
abbrev WL(L:LT):W:=λargs=>L args.toList
def gj(E:LT)(l:List Value)(M:(Value->H->Prop)->H->Prop):Prop:=M=(λ_ _=>False)∨∀Q m,E l Q m=M Q m
theorem ai.gu{env:Env}{ann:jy}(hm:P.follows .mixedOrders=true)(hen:rY P env){fn:Func}(hf:P.funcs[f]? = some fn)(hc:∀args w,(callFunc f args).run P w = .ok (.enter f args) w){L:LT}
  (h:∀l,gj (fT P env fn ann) l (L l)):ai P f (WL L):=ai.of hm hen hf hc λargs=>(h args.toList).imp id id
def M.kC(h:H)(x:Addr)(K:Int->Int->Int->Int->Int->Int->Bool->Option Addr->Nat->Nat->Option Addr->Nat->Nat->Prop):Prop:=
 M.load h (x.add 0) λv=>M.int .u64 v λn0=>M.load h (x.add 1) λv=>M.int .u64 v λn1=>M.load h (x.add 2) λv=>M.int .i64 v λn2=>M.load h (x.add 3) λv=>M.int .i64 v λn3=>M.load h (x.add 4) λv=>M.int .i64 v λn4=>
 M.load h (x.add 5) λv=>M.int .i64 v λn5=>M.load h (x.add 6) λv=>M.bool v λn6=>M.load h (x.add 7) λv=>M.slc v λa b c=>M.load h (x.add 8) λv=>M.slc v λd e f=>K n0 n1 n2 n3 n4 n5 n6 a b c d e f
def M.D6(h:H)(x:Addr)(K:Option Addr->Option Addr->ByteArray->Prop):Prop:=
 M.load h (x.add 0) λv=>M.ptr v λp=>M.load h (x.add 1) λv=>M.ptr v λq=>M.load h (x.add 2) λv=>M.str v λs=>K p q s
def M.nN(n:Nat)(h:H)(a:Addr)(vs:List Value)(K:H->Prop):Prop:=M.req (vs.toArray.size=n) (M.ku h a vs K)
def lQ:jy:=⟨ah [],ah [],ah []⟩
end Go.Sh
namespace Go.Sh
open Go.RowKit Go.ChangeShapes Go.WideShapes Go.ChangeAt
/-! ### A block of cells -/
section
variable {h h':H}{b o:Nat}{c:Array Value}{e:TypeId}{f:Nat×Nat}
theorem aS(b o k:Nat):(⟨b,o,none⟩:Addr).add k=⟨b,o+k,none⟩:=by
 unfold Addr.add;split
 ·simp_all
 ·rfl
theorem Co(a:Addr)(k:Nat):(a.add k).block=a.block:=by
 unfold Addr.add;split<;>rfl
theorem dA(hb:h b=some (.cells c e f)):h.cell ⟨b,o,none⟩=c[o]?:=by
 simp[H.cell,hb]
theorem Cq(hb:h b=some (.cells c e (0,0))):h.frozen ⟨b,o,none⟩=false:=by
 simp[H.frozen,hb]
theorem Ml(hb:h b=some (.cells c e f))(v:Value):h.set ⟨b,o,none⟩ v=h.nh b (.cells (c.setIfInBounds o v) e f):=by
 funext x;by_cases hx:x=b
 ·subst hx;simp[H.set,H.modify,H.nh,hb,IL]
 ·simp[H.set,H.modify,H.nh,hx]
theorem DW(h:H)(b:Nat)(o o':Obj):(h.nh b o).nh b o'=h.nh b o':=by
 funext x;by_cases hx:x=b<;>simp[H.nh,hx]
theorem jD{o:Obj}(hb:h b=some o):h.nh b o=h:=by
 funext x;by_cases hx:x=b
 ·subst hx;simp[H.nh,hb]
 ·simp[H.nh,hx]
def splice(c:Array Value):Nat->List Value->Array Value
 | _,[]=>c
 | o,v::r=>splice (c.setIfInBounds o v) (o+1) r
theorem zw:∀(vs:List Value) (c:Array Value) (o:Nat),(splice c o vs).size=c.size
 | [],_,_=>rfl
 | v::r,c,o=>by unfold splice;rw[zw];simp
theorem nB:∀(vs:List Value) (c:Array Value) (o:Nat),o+vs.length≤c.size->∀i,(splice c o vs)[i]? = if o≤i∧i<o+vs.length then vs[i-o]? else c[i]?
 | [],c,o,_,i=>by simp[splice];omega
 | v::r,c,o,hl,i=>by
  simp only[List.length_cons]at hl;unfold splice;rw[nB r _ _ (by simp;omega),List.length_cons];by_cases hi:i=o
  ·subst hi;rw[if_neg (by omega),if_pos (by omega)];rw[Nat.sub_self,Array.getElem?_setIfInBounds,if_pos rfl,if_pos (by omega)];rfl
  ·by_cases h2:o+1≤i∧i<o+1+r.length
   ·rw[if_pos h2,if_pos (by omega)];rw[show i-o=(i-(o+1))+1 by omega,List.getElem?_cons_succ]
   ·rw[if_neg h2,if_neg (by omega),Array.getElem?_setIfInBounds_ne (by omega)]
theorem wG{vs:List Value}{c:Array Value}(hl:vs.length=c.size):splice c 0 vs=vs.toArray:=by
 apply Array.ext_getElem?;intro i;rw[nB vs c 0 (by omega)];by_cases hi:i<vs.length
 ·rw[if_pos (by omega)];simp
 ·rw[if_neg (by omega)];rw[Array.getElem?_eq_none (by omega),Array.getElem?_eq_none (by simpa using hi)]
theorem DR:∀(vs:List Value) {h:H} {c:Array Value} (o i:Nat),h b=some (.cells c e f)->h.sets ⟨b,o,none⟩ i vs=h.nh b (.cells (splice c (o+i) vs) e f)
 | [],h,c,o,i,hb=>by simp[H.sets,splice,jD hb]
 | v::r,h,c,o,i,hb=>by
  unfold H.sets splice;rw[aS,Ml hb,DR r o (i+1) (H.jD _ _ _),DW];rfl
theorem AR(a:Option Addr)(m size:Nat):mh a m 0 size=a:=by
 unfold mh;split
 ·rfl
 ·cases a with
  | none=>rfl
  | some x=>simp[Addr.add_zero']
/-! ### What is written leaves the rest -/
def bq(h h':H):Prop:=∀b o,h b=some o->h' b=some o
theorem bq.refl(h:H):bq h h:=λ_ _ x=>x
theorem bq.trans{a b c:H}(x:bq a b)(y:bq b c):bq a c:=λ_ _ z=>y _ _ (x _ _ z)
theorem bq.new{h0 h:H}(k:bq h0 h){b:Nat}(hb:h b=none)(o:Obj):bq h0 (h.nh b o):=λx o' hx=>by
 have h1:=k x o' hx;by_cases e:x=b
 ·subst e;rw[hb]at h1;simp at h1
 ·rw[H.uw _ _ e];exact h1
theorem bq.own{h0 h:H}(k:bq h0 h){b:Nat}(hb:h0 b=none)(o:Obj):bq h0 (h.nh b o):=λx o' hx=>by
 have:x≠b:=λe=>by subst e;rw[hb]at hx;simp at hx
 rw[H.uw _ _ this];exact k x o' hx
theorem bq.none{h h':H}(k:bq h h'){b:Nat}(hb:h' b=none):h b=none:=by
 cases hh:h b with
 | none=>rfl
 | some o=>rw[k b o hh]at hb;simp at hb
theorem bq.cell{h h':H}(k:bq h h'){a:Addr}{v:Value}(hc:h.cell a=some v):h'.cell a=some v:=by
 unfold H.cell at hc ⊢;cases hh:h a.block with
 | none=>simp[hh]at hc
 | some o=>rw[k _ _ hh];rwa [hh]at hc
theorem bq.row{h h':H}(k:bq h h'){a:Addr}{cs:List Value}(hr:rowAt h a cs):rowAt h' a cs:=λi hi=>by
 have:=hr i hi;rw[List.getElem?_eq_getElem hi]at this ⊢;exact k.cell this
theorem bq.below{w w':World}(k:bq (hp w) (hp w'))(s:jE w w'):Below w.heap.size w w':=
 ⟨s.os,s.tape,s.output,s.size,λb hb=>by
  have:hp w b=some w.heap[b]:=by simp[hp,hb]
  have h2:=k b _ this
  rw[show w'.heap[b]? = hp w' b from rfl,h2,←this];rfl⟩
end
/-! ### The steps -/
namespace M
variable {h:H}{b o:Nat}{c:Array Value}{e:TypeId}{f:Nat×Nat}
theorem uM{K:Value->Prop}(hb:h b=some (.cells c e f)){v:Value}(hv:c[o]? = some v)(hk:K v):M.load h ⟨b,o,none⟩ K:=⟨v,by rw[dA hb,hv],hk⟩
theorem pZ{K:List Value->Prop}{n:Nat}(hb:h b=some (.cells c e f)){cs:List Value}(hn:cs.length=n)(hv:∀i,i<n->c[o+i]? = cs[i]?)(hk:K cs):M.row h ⟨b,o,none⟩ n K:=
 ⟨cs,hn,λi hi=>by rw[aS,dA hb];exact hv i (by omega),hk⟩
theorem Ae{K:List Value->Prop}{n:Nat}(hb:h b=some (.cells c e f))(hn:c.size=n)(hk:K c.toList):M.row h ⟨b,0,none⟩ n K:=
 pZ hb (by simpa using hn) (λi hi=>by simp) hk
theorem PS{K:H->Prop}(hb:h b=some (.cells c e (0,0))){v:Value}(hp:ag v=true)(ho:o<c.size)(hk:K (h.nh b (.cells (c.setIfInBounds o v) e (0,0)))):M.put h ⟨b,o,none⟩ v K:=
 ⟨hp,by rw[dA hb];simp[ho],Cq hb,by rw[Ml hb];exact hk⟩
theorem Jw{K:H->Prop}(hb:h b=some (.cells c e (0,0))){vs:List Value}(hp:∀v∈vs,ag v=true)(ho:o+vs.length≤c.size)(hk:K (h.nh b (.cells (splice c o vs) e (0,0)))):M.ku h ⟨b,o,none⟩ vs K:=
 ⟨hp,λi hi=>⟨by rw[aS,dA hb];simp;omega,by rw[aS];exact Cq hb⟩,by rw[DR vs o 0 hb];simpa using hk⟩
theorem Nh{K:H->Prop}(hb:h b=some (.cells c e (0,0))){vs:List Value}(hp:∀v∈vs,ag v=true)(hn:vs.length=c.size)(hk:K (h.nh b (.cells vs.toArray e (0,0)))):M.ku h ⟨b,0,none⟩ vs K:=
 Jw hb hp (by omega) (by rw[wG hn];exact hk)
theorem tA{h':H}{n:Nat}{K:Prop}{ob:Obj}(hb:h b=some ob)(hb':h' b=some ob)(hk:K):M.still h ⟨b,o,none⟩ n h' K:=
 ⟨λi _=>by simp only[aS,H.cell,hb,hb'],hk⟩
theorem cY{h':H}{a:Addr}{n:Nat}{K:Prop}(k:bq h h')(ha:∃ob,h a.block=some ob)(hk:K):M.still h a n h' K:=by
 obtain⟨ob,hob⟩:=ha;have:h' a.block=some ob:=k _ _ hob;exact⟨λi _=>by unfold H.cell;rw[Co,hob,this],hk⟩
theorem Ov{a:Option Addr}{cap size:Nat}{hi:Int}{K:Option Addr->Nat->Nat->Prop}(h1:0≤hi)(h2:hi≤cap)(hk:K a hi.toNat cap):M.sub a cap size 0 hi K:=
 ⟨Int.le_refl 0,h1,h2,by
  show K (mh a cap (Int.toNat 0) size) (hi.toNat-Int.toNat 0) (cap-Int.toNat 0)
  rw[Int.toNat_zero,AR];exact hk⟩
theorem aP{α:Type}{step:(α -> H->Prop)->α -> H->Prop}(I:α -> H->Prop)(μ:α -> Nat){d:α}{h:H}(h0:I d h)
  (hs:∀d h (J:α -> H->Prop),I d h->(∀d' h',I d' h'->μ d'<μ d->J d' h')->step J d h):M.loop step d h:=by
 refine⟨μ d+1,?_⟩;have:∀n d h,I d h->μ d<n->M.iter step n d h:=by
  intro n;induction n with
  | zero=>intro d h _ hn;omega
  | succ n ih=>intro d h hi hn;exact hs d h _ hi λd' h' hi' hl=>ih d' h' hi' (by omega)
 exact this _ d h h0 (by omega)
end M
/-! ### What an argument reads as -/
def In(P:Program)(h:H):Nat->TypeId->List Value->Prop
 | 0,_,_=>False
 | f+1,t,cs=>match P.underlying t with
  | some .bool=>∃b,cs=[.bool b]
  | some (.int k)=>∃n,cs=[.int k n]∧(Lit.int k n).wf=true
  | some .string=>∃s:ByteArray,cs=[.string s]∧s.size≤maxLen
  | some (.slice e)=>∃a l c,cs=[.slice a l c]∧l≤c∧c≤maxLen∧(a=none->l=0∧c=0) ∧
    ∀b,a=some b->∀i,i<l->∃r:List Value,r.length=P.cellsOf e∧rowAt h (b.add (i*P.cellsOf e)) r∧In P h f e r
  | some (.struct fs)=>cs.length=P.cellsOf t∧∀fd∈fs.toList,In P h f fd.type ((cs.drop fd.offset).take (P.cellsOf fd.type))
  | some (.array n e)=>cs.length=P.cellsOf t∧∀i,i<n->In P h f e ((cs.drop (i*P.cellsOf e)).take (P.cellsOf e))
  | _=>True
theorem mapM_some{α β:Type}{g:α -> Option β}:∀{l:List α} {r:List β},l.mapM g=some r->∀x∈l,∃y,g x=some y
 | [],_,_,x,hx=>by simp at hx
 | a::l,r,h,x,hx=>by
  simp only[List.mapM_cons,Option.bind_eq_bind,Option.pure_def]at h;cases ha:g a with
  | none=>simp[ha]at h
  | some y=>
   cases hl:l.mapM g with
   | none=>simp[ha,hl]at h
   | some ys=>
    rcases List.mem_cons.1 hx with e|hx
    ·subst e;exact⟨y,ha⟩
    ·exact mapM_some hl x hx
theorem EI{α β:Type}{g:α -> Option β}:∀{l:List α} {r:List β},l.mapM g=some r->r.length=l.length∧∀i (hi:i<l.length),g l[i]=r[i]?
 | [],r,h=>by
  simp only[List.mapM_nil,Option.pure_def,Option.some.injEq]at h;subst h;simp
 | a::l,r,h=>by
  simp only[List.mapM_cons,Option.bind_eq_bind,Option.pure_def]at h;cases ha:g a with
  | none=>simp[ha]at h
  | some y=>
   cases hl:l.mapM g with
   | none=>simp[ha,hl]at h
   | some ys=>
    simp only[ha,hl,Option.bind_some,Option.some.injEq]at h;subst h;obtain⟨h1,h2⟩:=EI hl;refine⟨by simp[h1],λi hi=>?_⟩;cases i with
    | zero=>simpa using ha
    | succ i=>simpa using h2 i (by simpa using hi)
theorem JD{w:World}{base:Nat}{a:Addr}{n:Nat}{cs:List Value}(h:w.cells? base a n=some cs):cs.length=n∧rowAt (hp w) a cs:=by
 unfold World.cells? at h;split at h
 ·obtain⟨h1,h2⟩:=EI h;refine⟨by simpa using h1,λi hi=>?_⟩;have:=h2 i (by simp at h1 ⊢;omega);simpa [←xV] using this
 ·simp at h
theorem sR{H':Type}{enc:TypeId×Value->H'}{P:Program}{w:World}{base:Nat}{spare:Nat->Bool}{held:Bool}:∀{fuel:Nat} {t:TypeId} {cs:List Value} {x:DataW H'×List MemPlace},
  DataW.trod enc P w base spare held fuel t cs=some x->In P (hp w) fuel t cs
 | 0,t,cs,x,h=>by simp[DataW.trod]at h
 | f+1,t,cs,x,h=>by
  unfold DataW.trod at h;unfold In;split at h
  case h_1 hu=>simp only[hu];exact⟨_,rfl⟩
  case h_2 hu=>
   simp only[hu];split at h
   ·rename_i hk;obtain⟨rfl,hw⟩:=hk;exact⟨_,rfl,hw⟩
   ·simp at h
  case h_3 hu=>simp only[hu]
  case h_4 hu=>
   simp only[hu];split at h
   ·rename_i hk;exact⟨_,rfl,hk⟩
   ·simp at h
  case h_5 hu=>simp only[hu]
  case h_6 hu=>simp only[hu]
  case h_7 hu=>simp only[hu];exact⟨none,0,0,rfl,by omega,by simp,λ_=>⟨rfl,rfl⟩,λb hb=>by simp at hb⟩
  case h_8 e a len cap hu=>
   simp only[hu];simp only at h;split at h
   ·rename_i hk;refine⟨some a,len,cap,rfl,hk.2.1,hk.2.2,λhn=>by simp at hn,λb hb i hi=>?_⟩;simp only[Option.some.injEq]at hb;subst hb;cases he:((List.range len).mapM λi=>(w.cells? base (a.add (i*P.cellsOf e)) (P.cellsOf e)).bind (DataW.trod enc P w base spare held f e))with
    | none=>rw[he]at h;simp at h
    | some elems=>
     obtain⟨y,hy⟩:=mapM_some he i (by simpa using hi);cases hc:w.cells? base (a.add (i*P.cellsOf e)) (P.cellsOf e)with
     | none=>rw[hc]at hy;simp at hy
     | some r=>
      rw[hc]at hy;obtain⟨h1,h2⟩:=JD hc;exact⟨r,h1,h2,sR hy⟩
   ·simp at h
  case h_9 cs _ _ fs hu=>
   simp only[hu];split at h
   ·rename_i hl;refine⟨hl,λfd hfd=>?_⟩;cases he:(fs.toList.mapM λf_1=>DataW.trod enc P w base spare held f f_1.type ((cs.drop f_1.offset).take (P.cellsOf f_1.type)))with
    | none=>rw[he]at h;simp at h
    | some xs=>
     obtain⟨y,hy⟩:=mapM_some he fd hfd;exact sR hy
   ·simp at h
  case h_10 cs _ _ n e hu=>
   simp only[hu];split at h
   ·rename_i hl;refine⟨hl,λi hi=>?_⟩;cases he:((List.range n).mapM λi=>DataW.trod enc P w base spare held f e ((cs.drop (i*P.cellsOf e)).take (P.cellsOf e)))with
    | none=>rw[he]at h;simp at h
    | some xs=>
     obtain⟨y,hy⟩:=mapM_some he i (by simpa using hi);exact sR hy
   ·simp at h
  all_goals first
   | (simp at h;done)
   | (rename_i hu;simp only[hu];done)
   | (rename_i hu _;simp only[hu];done)
   | (rename_i hu _ _;simp only[hu];done)
end Go.Sh
namespace Go.Proofs
open Go.Shelf
def Tryz.zu:Go.Shelf.Ren:=⟨fun|105=>74|212=>140|99=>141|165=>142|166=>102|170=>143|169=>106|263=>205|264=>206|206=>207|240=>178|241=>208|276=>242|277=>260|n=>n,fun|9=>9|3=>3|4=>4|20=>20|0=>0|46=>221|109=>255|5=>5|72=>213|76=>217|51=>230|146=>325|53=>36|148=>327|70=>211|37=>169|75=>216|127=>301|164=>363|80=>132|n=>n,fun|n=>n⟩
theorem Tryz.Ew:Go.Proofs.Lays.n105 Tryz.prog Tryz.zu:={
 mixed:=by kernel_rfl
 f99:=Tryz.func141.trans (congrArg some (by kernel_rfl))
 f105:=Tryz.func74.trans (congrArg some (by kernel_rfl))
 f165:=Tryz.func142.trans (congrArg some (by kernel_rfl))
 f166:=Tryz.func102.trans (congrArg some (by kernel_rfl))
 f169:=Tryz.func106.trans (congrArg some (by kernel_rfl))
 f170:=Tryz.func143.trans (congrArg some (by kernel_rfl))
 f206:=Tryz.func207.trans (congrArg some (by kernel_rfl))
 f212:=Tryz.func140.trans (congrArg some (by kernel_rfl))
 f240:=Tryz.func178.trans (congrArg some (by kernel_rfl))
 f241:=Tryz.func208.trans (congrArg some (by kernel_rfl))
 f263:=Tryz.func205.trans (congrArg some (by kernel_rfl))
 f264:=Tryz.func206.trans (congrArg some (by kernel_rfl))
 f276:=Tryz.func242.trans (congrArg some (by kernel_rfl))
 f277:=Tryz.func260.trans (congrArg some (by kernel_rfl))
 t0:=Tryz.underlying0
 a0:=Tryz.isAgg0
 z0:=Tryz.sizeOf0
 v0:=Tryz.zeroValue0
 t3:=Tryz.underlying3
 a3:=Tryz.isAgg3
 z3:=Tryz.sizeOf3
 v3:=Tryz.zeroValue3
 t4:=Tryz.underlying4
 a4:=Tryz.isAgg4
 z4:=Tryz.sizeOf4
 v4:=Tryz.zeroValue4
 t5:=Tryz.underlying5
 a5:=Tryz.isAgg5
 z5:=Tryz.sizeOf5
 v5:=Tryz.zeroValue5
 t9:=Tryz.underlying9
 a9:=Tryz.isAgg9
 z9:=Tryz.sizeOf9
 v9:=Tryz.zeroValue9
 t20:=Tryz.underlying20
 a20:=Tryz.isAgg20
 z20:=Tryz.sizeOf20
 v20:=Tryz.zeroValue20
 t37:=Tryz.underlying169
 a37:=Tryz.isAgg169
 z37:=Tryz.sizeOf169
 v37:=Tryz.zeroValue169
 t46:=Tryz.underlying221
 a46:=Tryz.isAgg221
 z46:=Tryz.sizeOf221
 v46:=Tryz.zeroValue221
 t51:=Tryz.underlying230
 a51:=Tryz.isAgg230
 z51:=Tryz.sizeOf230
 v51:=Tryz.zeroValue230
 t53:=Tryz.underlying36
 a53:=Tryz.isAgg36
 z53:=Tryz.sizeOf36
 v53:=Tryz.zeroValue36
 t70:=Tryz.underlying211
 a70:=Tryz.isAgg211
 z70:=Tryz.sizeOf211
 v70:=Tryz.zeroValue211
 t72:=Tryz.underlying213
 a72:=Tryz.isAgg213
 z72:=Tryz.sizeOf213
 v72:=Tryz.zeroValue213
 t75:=Tryz.underlying216
 a75:=Tryz.isAgg216
 z75:=Tryz.sizeOf216
 v75:=Tryz.zeroValue216
 t76:=Tryz.underlying217
 a76:=Tryz.isAgg217
 z76:=Tryz.sizeOf217
 v76:=Tryz.zeroValue217
 t109:=Tryz.underlying255
 a109:=Tryz.isAgg255
 z109:=Tryz.sizeOf255
 v109:=Tryz.zeroValue255
 t127:=Tryz.underlying301
 a127:=Tryz.isAgg301
 z127:=Tryz.sizeOf301
 v127:=Tryz.zeroValue301
 t146:=Tryz.underlying325
 a146:=Tryz.isAgg325
 z146:=Tryz.sizeOf325
 v146:=Tryz.zeroValue325
 t148:=Tryz.underlying327
 a148:=Tryz.isAgg327
 z148:=Tryz.sizeOf327
 v148:=Tryz.zeroValue327
 t164:=Tryz.underlying363
 a164:=Tryz.isAgg363
 z164:=Tryz.sizeOf363
 v164:=Tryz.zeroValue363 }
theorem Tryz.oh:Builder.Extra Tryz.prog Tryz.zu:={
 sizeBuilder:=by kernel_rfl
 liesBuilder:=by kernel_rfl
 t5:=Tryz.underlying5
 a5:=Tryz.isAgg5
 z5:=Tryz.sizeOf5
 v5:=Tryz.zeroValue5
 infoByte:=by kernel_rfl
 cellsByte:=by kernel_rfl
 sizeByte:=by kernel_rfl
 neB5:=by decide }
open Go.RowKit Go.Lib in
theorem Tryz.strings_Repeat(s:ByteArray)(c:Nat)(w:World)(hc:c≤9223372036854775807)(hlen:s.size*c≤140737488355328):
  Calls Tryz.prog 74 #[.string s,.int .i64 c] w λe w'=>e = .returned (.string ⟨(Lib.repeatL s.data.toList c).toArray⟩)∧Below w.heap.size w w':=Any.strings_Repeat Tryz.Ew Tryz.oh s c w hc hlen
end Go.Proofs
namespace Go.Proofs.YtmfcgihgdhfalaaGreatDoor
open Go.Sh Go.RowKit
theorem oI{w w':World}(b:Below w.heap.size w w'):bq (hp w) (hp w'):=λx o hx=>by
 have hlt:x<w.heap.size:=(Array.getElem?_eq_some_iff.1 (show w.heap[x]? = some o from hx)).1;show w'.heap[x]? = some o;rw[b.block x hlt];exact hx
theorem om{w w':World}(b:Below w.heap.size w w'):jE w w':=⟨b.os,b.tape,b.output,b.size⟩
def strings_Repeat(x_s:ByteArray)(x_n:Int)(h:H)(Q:ByteArray->H->Prop):Prop:=
 0≤x_n∧(x_s.size:Int)*x_n≤140737488355328∧x_n≤9223372036854775807∧∀h',bq h h'->Q ⟨(Lib.repeatL x_s.data.toList x_n.toNat).toArray⟩ h'
def strings_Repeat.L(F:ByteArray->Int->H->(ByteArray->H->Prop)->Prop):List Value->(Value->H->Prop)->H->Prop
 | [.string s,.int .i64 n]=>λQ h=>F s n h λs2 h2=>Q (.string s2) h2
 | _=>λ_ _=>False
def strings_Repeat.W:W:=λargs=>strings_Repeat.L strings_Repeat args.toList
theorem strings_Repeat.good:ai Tryz.prog 74 strings_Repeat.W:=by
 refine ai.known Tryz.call74 (λargs Q Q' m hq hh=>?_) λargs Q w hh=>?_
 ·revert hh
  show strings_Repeat.L strings_Repeat args.toList Q m->strings_Repeat.L strings_Repeat args.toList Q' m;generalize args.toList=l;unfold strings_Repeat.L;split
  ·exact λ⟨a,b,c,d⟩=>⟨a,b,c,λh' k=>hq _ _ (d h' k)⟩
  ·exact id
 ·have key:∀l,strings_Repeat.L strings_Repeat l Q (hp w)->∃s n,l=[.string s,.int .i64 n]∧strings_Repeat s n (hp w) λs2 h2=>Q (.string s2) h2:=by
   intro l;unfold strings_Repeat.L;split
   ·exact λh=>⟨_,_,rfl,h⟩
   ·exact λh=>h.elim
  obtain⟨s,n,hl,h0,hb,hm,hk⟩:=key args.toList hh;have ha:args = #[.string s,.int .i64 n]:=by rw[←Array.toList_inj];exact hl
  have hn:((n.toNat:Nat):Int)=n:=Int.toNat_of_nonneg h0;have hb':s.size*n.toNat≤140737488355328:=by
   have:((s.size*n.toNat:Nat):Int)≤140737488355328:=by rw[Int.natCast_mul,hn];exact hb
   omega
  have c:=Go.Proofs.Tryz.strings_Repeat s n.toNat w (by omega) hb';rw[hn]at c;rw[ha];refine c.mono λe w' hh=>?_;obtain⟨rfl,hbw⟩:=hh;exact⟨_,rfl,hk _ (oI hbw),om hbw⟩
end Go.Proofs.YtmfcgihgdhfalaaGreatDoor
namespace Go.Sh
open Go.RowKit Go.ChangeShapes Go.WideShapes Go.ChangeAt
theorem CL{H:Type}{enc:TypeId×Value->H}{P:Program}(hl:laidOutB P=true){W W':World}(hb:Below W.heap.size W W'):∀{ts:List TypeId} {vs:List Value} {ds:List (DataW H)} {ps:List MemPlace},
  (∀t∈ts,P.readableRec t=true∧t<P.types.size)->(∀p∈ps,p.block<W.heap.size)->DataW.TrodAll enc P W 0 (λ_=>true) true ts vs ds ps ->
  ∀sp:Nat->Bool,(∀p∈ps,sp p.block=true)->DataW.TrodAll enc P W' 0 sp true ts vs ds ps
 | [],_,_,_,_,_,h,sp,_=>by
  obtain⟨rfl,rfl,rfl⟩:=trodAll_nil h;exact rfl
 | t::ts,_,_,_,ht,hp,h,sp,hs=>by
  obtain⟨v,vs1,d,ds1,a,b,rfl,rfl,rfl,h1,h2⟩:=trodAll_cons h;refine⟨a,b,WideElems.Trod_stays hl (ht t (by simp)).1 (ht t (by simp)).2 h1 (λp hpa=>hb.same (hp p (by simp[hpa]))) (λp hpa=>hs p (by simp[hpa])),?_,rfl⟩;exact CL hl hb (λu hu=>ht u (by simp[hu])) (λp hpb=>hp p (by simp[hpb])) h2 sp (λp hpb=>hs p (by simp[hpb]))
theorem JQ{H:Type}{enc:TypeId×Value->H}{P:Program}{f:Func}{s:ChangeSpec}{apart fresh handsOn again:Bool}{W W':World}{args:Array Value}{ds gs:List (DataW H)}{before:List MemPlace}{tb:TypeId}
  (hl:laidOutB P=true) (hts:∀t∈f.params.toList,P.readableRec t=true∧t<P.types.size) (hv:s.vars=[]) (hr:(s.fn H ds).results=[.lit (.bool true)]) (ha:(s.fn H ds).args=ds) (hs:(s.fn H ds).vars=[])
  (hrt:f.resultTypes = #[tb]) (htb:P.underlying tb=some .bool) (hW:DataW.Whole enc P f.params.toList s.vars apart W args.toList ds gs before) (hb:Below W.heap.size W W'):
  s.post enc P f apart fresh handsOn again W args (.bool true) W':=by
 have hW':=hW;obtain⟨p,q,hA,hV,rfl,hfz,hnd⟩:=hW;rw[hv]at hV;obtain⟨rfl,rfl⟩:=trodVars_none hV;simp only[List.append_nil]at hW' ⊢;have hlt:∀x∈p,x.block<W.heap.size:=λx hx=>by simpa using hW'.lt x hx
 have hold:∀x∈p,(λb=>decide (b<W.heap.size)) x.block=true:=λx hx=>by simpa using hlt x hx
 have hres:∀(b:Nat) (sp:Nat->Bool) (hd:Bool),DataW.TrodAll enc P W' b sp hd f.resultTypes.toList ((Value.bool true).resultList f.resultTypes.size) (s.fn H (ds++[])).results []:=λb sp hd=>by
  rw[List.append_nil,hr,hrt];exact trodAll_mk1 (shut_bool htb true)
 have hargs:∀sp:Nat->Bool,(∀x∈p,sp x.block=true)->DataW.TrodAll enc P W' 0 sp true f.params.toList args.toList (s.fn H (ds++[])).args p:=λsp hsp=>by
  rw[List.append_nil,ha];exact CL hl hb hts hlt hA sp hsp
 have hvars:∀sp:Nat->Bool,DataW.TrodVars enc P W' sp s.vars (s.fn H (ds++[])).vars []:=λsp=>by
  rw[List.append_nil,hs,hv];exact rfl
 refine⟨ds,[],p,[],p,[],hW',hres _ _ _,hargs _ hold,hvars _,hb.frame _,λ_=>?_⟩;refine⟨ok_one hrt rfl (okWide_bool_mk htb true),(s.fn H (ds++[])).results++(s.fn H (ds++[])).args,_,p,⟨p,[],?_,hvars (λ_=>true),by simp,?_,?_⟩,λx hx _=>hx⟩
 ·have:=trodAll_append (hargs (λ_=>true) (λ_ _=>rfl)) (hres 0 (λ_=>true) true)
  rwa [List.nil_append]at this
 ·intro b off hp;rw[hb.frozen (hlt _ hp)];exact hfz b off (by simpa using hp)
 ·intro hap;simpa using hnd hap
/-! ### Parts of an argument -/
theorem DP{P:Program}{h:H}{f:Nat}{t:TypeId}{k:IntKind}{cs:List Value}(ht:P.underlying t=some (.int k))(hi:In P h f t cs):∃n,cs=[.int k n]∧(Lit.int k n).wf=true:=by
 cases f with
 | zero=>exact hi.elim
 | succ f=>unfold In at hi;rw[ht]at hi;exact hi
theorem Pq{P:Program}{h:H}{f:Nat}{t:TypeId}{cs:List Value}(ht:P.underlying t=some .string)(hi:In P h f t cs):∃s:ByteArray,cs=[.string s]∧s.size≤maxLen:=by
 cases f with
 | zero=>exact hi.elim
 | succ f=>unfold In at hi;rw[ht]at hi;exact hi
theorem FM{P:Program}{h:H}{f:Nat}{t e:TypeId}{cs:List Value}(ht:P.underlying t=some (.slice e))(hi:In P h f t cs):
  ∃f' a l c,cs=[Value.slice a l c]∧l≤c∧c≤maxLen∧(a=none->l=0∧c=0)∧∀b,a=some b->∀i,i<l->∃r:List Value,r.length=P.cellsOf e∧rowAt h (b.add (i*P.cellsOf e)) r∧In P h f' e r:=by
 cases f with
 | zero=>exact hi.elim
 | succ f=>unfold In at hi;rw[ht]at hi;exact⟨f,hi⟩
theorem KE{P:Program}{h:H}{f:Nat}{t:TypeId}{fs:Array Field}{cs:List Value}(ht:P.underlying t=some (.struct fs))(hi:In P h f t cs):
  ∃f',cs.length=P.cellsOf t∧∀fd∈fs.toList,In P h f' fd.type ((cs.drop fd.offset).take (P.cellsOf fd.type)):=by
 cases f with
 | zero=>exact hi.elim
 | succ f=>unfold In at hi;rw[ht]at hi;exact⟨f,hi⟩
theorem drop_take(cs:List Value)(a k b:Nat)(e:a+k=b):cs.drop a=(cs.drop a).take k++cs.drop b:=by
 conv=>lhs;rw[←List.take_append_drop k (cs.drop a)]
 rw[List.drop_drop,e]
theorem HR{P:Program}{w:World}{base:Nat}{t:TypeId}{v:Value}(ha:tu (P.underlying t) = .agg)(h:Value.okWide P w .any base t v):∃cs,v = .agg cs:=by
 rcases Bg ha with ⟨fs,hu⟩|⟨n,e,hu⟩
 ·unfold Value.okWide at h;rw[hu]at h;cases v<;>simp_all
 ·unfold Value.okWide at h;rw[hu]at h;cases v<;>simp_all
end Go.Sh
namespace Go.Sh
open Go.RowKit
theorem dK(h:H)(a:Addr)(K:Value->Prop):M.load h a K = ∃v,h.cell a=some v∧K v:=rfl
theorem int_eq(k:IntKind)(n:Int)(K:Int->Prop):M.int k (.int k n) K=K n:=by
 simp[M.int]
theorem dV(b:Bool)(K:Bool->Prop):M.bool (.bool b) K=K b:=by
 simp[M.bool]
theorem fq(s:ByteArray)(K:ByteArray->Prop):M.str (.string s) K=K s:=by
 simp[M.str]
theorem fQ(a:Option Addr)(l c:Nat)(K:Option Addr->Nat->Nat->Prop):M.slc (.slice a l c) K=K a l c:=by
 apply propext;constructor
 ·rintro⟨a',l',c',e,k⟩;simp only[Value.slice.injEq]at e;obtain⟨rfl,rfl,rfl⟩:=e;exact k
 ·exact λk=>⟨a,l,c,rfl,k⟩
theorem fP(a:Option Addr)(K:Option Addr->Prop):M.ptr (.pointer a) K=K a:=by
 simp[M.ptr]
theorem iy(a:Addr)(K:Addr->Prop):M.nn (some a) K=K a:=by
 simp[M.nn]
theorem cH(u:Value)(K:Value->Prop):(∃v,some u=some v∧K v)=K u:=by
 simp
def Qy(b:Nat)(h h':H):Prop:=∀x,x≠b->h' x=h x
theorem Qy.keep{h0 h h':H}{b:Nat}(u:Qy b h h')(k:bq h0 h)(hb:h0 b=none):bq h0 h':=λx o hx=>by
 have:x≠b:=λe=>by subst e;rw[hb]at hx;simp at hx
 rw[u x this];exact k x o hx
theorem Qy.at{h h':H}{b x:Nat}{o:Obj}(u:Qy b h h')(n:x≠b)(hx:h x=some o):h' x=some o:=(u x n).trans hx
theorem IS(h:H)(b:Nat)(o:Obj):Qy b h (h.nh b o):=λ_ n=>H.uw _ _ n
namespace M
variable {h:H}{b:Nat}{c:Array Value}{e:TypeId}
theorem still_at{h':H}{n o:Nat}{K:Prop}{ob:Obj}(hb:h b=some ob)(hb':h' b=some ob)(hk:K):M.still h ⟨b,o,none⟩ n h' K:=tA hb hb' hk
theorem aO{α:Type}{J:α -> H->Prop}{B:(α -> H->Prop)->Prop}(P:α -> H->Prop)(hB:∀J':α -> H->Prop,(∀d h,P d h->J' d h)->B J')(hJ:∀d h,P d h->J d h):M.join J B:=hB J hJ
end M
end Go.Sh
namespace Go.Sh
open Go.RowKit
theorem mE(z:List Value)(n:Nat):(gx z n).length=n*z.length:=by
 unfold gx;induction n with
 | zero=>simp
 | succ n ih=>rw[List.replicate_succ,List.flatten_cons,List.length_append,ih,Nat.succ_mul,Nat.add_comm]
def Has(h:H)(b:Nat)(c:Array Value)(e:TypeId):Prop:=∃f:Nat×Nat,h b=some (.cells c e f)∧(f.1=f.2∨c.size≤f.1)
theorem Has.of{h:H}{b:Nat}{c:Array Value}{e:TypeId}(hb:h b=some (.cells c e (0,0))):Has h b c e:=⟨_,hb,.inl rfl⟩
theorem Has.ne{h:H}{b:Nat}{c:Array Value}{e:TypeId}(hb:Has h b c e):h b≠none:=by obtain⟨f,hb,_⟩:=hb;rw[hb];simp
theorem C8{h:H}{b o:Nat}{c:Array Value}{e:TypeId}{K:H->Prop}(hb:Has h b c e){vs:List Value}(hp:∀v∈vs,ag v=true)(ho:o+vs.length≤c.size)(hk:∀ob,(∀h',h' b=some ob->Has h' b (splice c o vs) e)->K (h.nh b ob)):M.ku h ⟨b,o,none⟩ vs K:=by
 obtain⟨f,hb,hf⟩:=hb;refine⟨hp,λi hi=>⟨by rw[aS,dA hb];simp;omega,by rw[aS];simp only[H.frozen,hb];simp;omega⟩,?_⟩;rw[DR vs o 0 hb];refine hk _ λh' hh=>⟨f,hh,?_⟩;rw[zw];exact hf
inductive Own (h0 h:H) (e:TypeId) (size:Nat):Option Addr->Nat->Nat->List Value->Prop
 | nil:Own h0 h e size none 0 0 []
 | blk {b l c:Nat} {xs rest:List Value} (n:h0 b=none) (hb:Has h b (xs++rest).toArray e) (hl:xs.length=l*size) (hc:(xs++rest).length=c*size):Own h0 h e size (some ⟨b,0,none⟩) l c xs
theorem Own.len{h0 h:H}{e:TypeId}{size:Nat}{a:Option Addr}{l c:Nat}{xs:List Value}(o:Own h0 h e size a l c xs):xs.length=l*size:=by
 cases o with
 | nil=>simp
 | blk _ _ hl _=>exact hl
theorem Own.row{h0 h:H}{e:TypeId}{size:Nat}{a:Option Addr}{l c:Nat}{xs:List Value}(o:Own h0 h e size a l c xs){b:Addr}(hb:a=some b):rowAt h b xs:=by
 cases o with
 | nil=>simp at hb
 | blk n hm hl hc=>
  simp only[Option.some.injEq]at hb;subst hb;obtain⟨_,hm,_⟩:=hm;intro i hi;rw[aS,dA hm];simp only[List.getElem?_toArray,Nat.zero_add];exact List.getElem?_append_left hi
theorem GW{xs rest new:List Value}(hr:new.length≤rest.length):splice (xs++rest).toArray xs.length new=((xs++new)++rest.drop new.length).toArray:=by
 apply Array.ext_getElem?;intro i;rw[nB _ _ _ (by simp;omega)];simp only[List.getElem?_toArray];by_cases h1:i<xs.length
 ·rw[if_neg (by omega),List.getElem?_append_left h1,List.getElem?_append_left (by simp;omega),List.getElem?_append_left h1]
 ·by_cases h2:i<xs.length+new.length
  ·rw[if_pos ⟨by omega,h2⟩,List.getElem?_append_left (by simp;omega),List.getElem?_append_right (by omega)]
  ·rw[if_neg (by omega),List.getElem?_append_right (by omega),List.getElem?_append_right (by simp;omega),List.getElem?_drop];congr 1;simp;omega
theorem OR{h0 h:H}{e:TypeId}{size bytes:Nat}{zero:List Value}{a:Option Addr}{l c n:Nat}{xs new:List Value}{K:Option Addr->Nat->Nat->H->Prop}(hk:bq h0 h)(o:Own h0 h e size a l c xs)
  (hz:zero.length=size) (hn:new.length=n*size) (hn0:0<n) (hp:∀v∈new,ag v=true) (hmax:2*(l+n)*bytes≤281474976710656) (hmax2:l+n≤9223372036854775807)
  (k:∀a' c' h',bq h0 h'->Own h0 h' e size a' (l+n) c' (xs++new)->K a' (l+n) c' h'):M.app h e size bytes zero a l c n new K:=by
 refine⟨λhfit=>⟨λhnone=>?_,λad had=>?_⟩,λhgrow=>⟨?_,?_,⟨λhnone c' hc' b hb=>?_,λad had=>?_⟩⟩⟩
 ·subst hnone;cases o;omega
 ·cases o with
  | nil=>simp at had
  | blk hn2 hb hl hc=>
   rename_i b rest;simp only[Option.some.injEq]at had;subst had;have hc2:xs.length+rest.length=c*size:=by simpa using hc
   have hfit2:(l+n)*size≤c*size:=Nat.mul_le_mul_right _ hfit;rw[Nat.add_mul]at hfit2;have hle:new.length≤rest.length:=by omega
   rw[aS,Nat.zero_add,←hl];refine C8 hb hp (by simp;omega) λob hob=>?_;rw[GW hle]at hob;refine k _ _ _ (hk.own hn2 _) (.blk hn2 (hob _ (H.jD _ _ _)) (by simp[Nat.add_mul];omega) ?_);simp;omega
 ·have:IntKind.i64.max=9223372036854775807:=by decide
  rw[this];omega
 ·exact Nat.le_trans (Nat.mul_le_mul_right _ (nextslicecap_le hgrow)) hmax
 ·subst hnone;cases o;refine k _ _ _ (hk.new hb _) (.blk (hk.none hb) (.of (H.jD _ _ _)) (by simp[hn]) ?_);simp only[List.nil_append,List.length_append,mE,hn,hz];rw[←Nat.add_mul];congr 1;omega
 ·refine⟨xs,o.len,o.row had,λc' hc' b hb=>?_⟩;refine k _ _ _ (hk.new hb _) (.blk (hk.none hb) (.of (H.jD _ _ _)) (by simp[Nat.add_mul,hn,o.len]) ?_);simp only[List.length_append,mE,hn,hz,o.len];rw[←Nat.add_mul,←Nat.add_mul];congr 1;omega
theorem nD{h:H}{b n:Nat}{c:Array Value}{e:TypeId}{f:Nat×Nat}{K:List Value->Prop}(hb:h b=some (.cells c e f))(hn:c.size=n)(hk:K c.toList):M.cellsOf h (some ⟨b,0,none⟩) n K:=
 ⟨λx=>by simp at x,λb' x=>by
  simp only[Option.some.injEq]at x;subst x
  exact M.Ae hb hn hk⟩
end Go.Sh
namespace Go.Sh
open Go.RowKit Classical
theorem KT(a:Addr)(m n:Nat):(a.add m).add n=a.add (m+n):=by
 unfold Addr.add;by_cases hm:m=0<;>by_cases hn:n=0<;>simp[hm,hn,Nat.add_assoc]
theorem Lx{h0 h:H}{e:TypeId}{size bytes:Nat}{zero:List Value}{a:Option Addr}{l c n:Nat}{xs new:List Value}{K:Option Addr->Nat->Nat->H->Prop}(hk:bq h0 h)(o:Own h0 h e size a l c xs)
  (hz:zero.length=size) (hn:new.length=n*size) (hp:∀v∈new,ag v=true) (hmax:2*(l+n)*bytes≤281474976710656) (hmax2:l+n≤9223372036854775807)
  (k:∀a' c' h',bq h0 h'->Own h0 h' e size a' (l+n) c' (xs++new)->K a' (l+n) c' h'):M.app h e size bytes zero a l c n new K:=by
 by_cases hn0:0<n
 ·exact OR hk o hz hn hn0 hp hmax hmax2 k
 ·have e0:n=0:=by omega
  subst e0;have e1:new=[]:=List.length_eq_zero_iff.1 (by simpa using hn);subst e1;have o':Own h0 h e size a (l+0) c (xs++[]):=by simpa using o
  refine⟨λhfit=>⟨λhnone=>?_,λad had=>?_⟩,λhgrow=>⟨?_,?_,⟨λhnone c' hc' b hb=>?_,λad had=>?_⟩⟩⟩
  ·exact k _ _ _ hk o'
  ·exact⟨by simp,by simp,k _ _ _ hk o'⟩
  ·have:IntKind.i64.max=9223372036854775807:=by decide
   rw[this];omega
  ·exact Nat.le_trans (Nat.mul_le_mul_right _ (nextslicecap_le hgrow)) hmax
  ·subst hnone;cases o;omega
  ·refine⟨xs,o.len,o.row had,λc' hc' b hb=>?_⟩;refine k _ _ _ (hk.new hb _) (.blk (hk.none hb) (.of (H.jD _ _ _)) (by simp[o.len]) ?_);simp only[List.length_append,mE,hz,o.len,List.length_nil];rw[Nat.add_zero,←Nat.add_mul];congr 1;omega
structure Chunk where
 holds:(Nat->Prop)->H->Prop
 loc:∀{F:Nat->Prop} {h h':H},holds F h->(∀x,F x->h' x=h x)->holds F h'
 dom:∀{F:Nat->Prop} {h:H} {x:Nat},holds F h->F x->h x≠none
namespace Chunk
def emp:Chunk where
 holds F _:=∀x,¬F x
 loc h _:=h
 dom h hx:=absurd hx (h _)
def star(a b:Chunk):Chunk where
 holds F h:=∃F1 F2,a.holds F1 h∧b.holds F2 h∧(∀x,F1 x->¬F2 x)∧∀x,F x↔F1 x∨F2 x
 loc:=λ⟨F1,F2,h1,h2,h3,h4⟩ hs=>⟨F1,F2,a.loc h1 λx hx=>hs x ((h4 x).2 (.inl hx)),b.loc h2 λx hx=>hs x ((h4 x).2 (.inr hx)),h3,h4⟩
 dom:=λ⟨F1,F2,h1,h2,_,h4⟩ hx=>((h4 _).1 hx).elim (a.dom h1) (b.dom h2)
def sep:List Chunk->Chunk
 | []=>emp
 | c::L=>star c (sep L)
def blk(b:Nat)(o:Obj):Chunk where
 holds F h:=(∀x,F x↔x=b)∧h b=some o
 loc:=λ⟨h1,h2⟩ hs=>⟨h1,(hs b ((h1 b).2 rfl)).trans h2⟩
 dom:=λ⟨h1,h2⟩ hx=>by rw[(h1 _).1 hx,h2];simp
def ex{α:Type}(f:α -> Chunk):Chunk where
 holds F h:=∃a,(f a).holds F h
 loc:=λ⟨a,h⟩ hs=>⟨a,(f a).loc h hs⟩
 dom:=λ⟨a,h⟩ hx=>(f a).dom h hx
def given(p:Prop)(c:Chunk):Chunk where
 holds F h:=p∧c.holds F h
 loc:=λ⟨hp,h⟩ hs=>⟨hp,c.loc h hs⟩
 dom:=λ⟨_,h⟩ hx=>c.dom h hx
def sl(e:TypeId)(size:Nat):Option Addr->Nat->Nat->List Value->Chunk:=λa l c xs=>
 { holds:=λF h=>(a=none∧l=0∧c=0∧xs=[]∧∀x,¬F x)∨∃b rest,a=some ⟨b,0,none⟩∧(∀x,F x↔x=b)∧Has h b (xs++rest).toArray e∧xs.length=l*size∧(xs++rest).length=c*size
   loc:=λ{F h h'} hh hs=>by
    rcases hh with hh|⟨b,rest,h1,h2,h3,h4⟩
    ·exact .inl hh
    ·exact .inr ⟨b,rest,h1,h2,(let ⟨f,x,y⟩:=h3;⟨f,(hs b ((h2 b).2 rfl)).trans x,y⟩),h4⟩
   dom:=λ{F h x} hh hx=>by
    rcases hh with ⟨_,_,_,_,hh⟩|⟨b,rest,h1,h2,h3,h4⟩
    ·exact absurd hx (hh _)
    ·rw[(h2 _).1 hx];exact h3.ne }
theorem ext'(a:Chunk){F F':Nat->Prop}{h:H}(k:a.holds F h)(e:∀x,F' x↔F x):a.holds F' h:=by
 have:F'=F:=funext λx=>propext (e x)
 rwa [this]
def Le(a b:Chunk):Prop:=∀F h,a.holds F h->b.holds F h
theorem Le.refl(a:Chunk):Le a a:=λ_ _ h=>h
theorem Le.trans{a b c:Chunk}(x:Le a b)(y:Le b c):Le a c:=λF h k=>y F h (x F h k)
theorem rS(a b:Chunk):Le (star a b) (star b a):=λ_ _ ⟨F1,F2,h1,h2,h3,h4⟩=>⟨F2,F1,h2,h1,λx k2 k1=>h3 x k1 k2,λx=>(h4 x).trans Or.comm⟩
theorem C0(a b c:Chunk):Le (star a (star b c)) (star (star a b) c):=by
 rintro F h ⟨F1,F2,h1,⟨F3,F4,h3,h4,hd,hu⟩,hd',hu'⟩;refine⟨λx=>F1 x∨F3 x,F4,⟨F1,F3,h1,h3,λx x1 x3=>hd' x x1 ((hu x).2 (.inl x3)),λx=>Iff.rfl⟩,h4,?_,λx=>?_⟩
 ·rintro x (x1|x3) x4
  ·exact hd' x x1 ((hu x).2 (.inr x4))
  ·exact hd x x3 x4
 ·rw[hu' x,hu x,or_assoc]
theorem AD(a b c:Chunk):Le (star (star a b) c) (star a (star b c)):=by
 rintro F h ⟨F12,F3,⟨F1,F2,h1,h2,hd,hu⟩,h3,hd',hu'⟩;refine⟨F1,λx=>F2 x∨F3 x,h1,⟨F2,F3,h2,h3,λx x2 x3=>hd' x ((hu x).2 (.inr x2)) x3,λx=>Iff.rfl⟩,?_,λx=>?_⟩
 ·rintro x x1 (x2|x3)
  ·exact hd x x1 x2
  ·exact hd' x ((hu x).2 (.inl x1)) x3
 ·rw[hu' x,hu x,or_assoc]
theorem kE{a a' b b':Chunk}(x:Le a a')(y:Le b b'):Le (star a b) (star a' b'):=λF h ⟨F1,F2,h1,h2,h3⟩=>⟨F1,F2,x _ _ h1,y _ _ h2,h3⟩
theorem EP(a:Chunk):Le (star a emp) a:=by
 rintro F h ⟨F1,F2,h1,h2,_,hu⟩;exact a.ext' h1 λx=>by rw[hu x];simp[h2 x]
theorem Bp(a:Chunk):Le a (star a emp):=λF h k=>⟨F,λ_=>False,k,λ_=>id,λ_ _=>id,λx=>by simp⟩
theorem JV(a:Chunk):Le a (star emp a):=(Bp a).trans (rS _ _)
theorem KZ(a:Chunk):Le (star emp a) a:=(rS _ _).trans (EP a)
theorem CZ(a b c:Chunk):Le (star a (star b c)) (star b (star a c)):=(C0 _ _ _).trans ((kE (rS _ _) (Le.refl _)).trans (AD _ _ _))
theorem DK:∀(L M:List Chunk),Le (sep (L++M)) (star (sep L) (sep M))
 | [],M=>JV _
 | c::L,M=>(kE (Le.refl c) (DK L M)).trans (C0 _ _ _)
theorem nV:∀(L M:List Chunk),Le (star (sep L) (sep M)) (sep (L++M))
 | [],M=>KZ _
 | c::L,M=>(AD _ _ _).trans (kE (Le.refl c) (nV L M))
theorem qL:∀{L:List Chunk} {i:Nat} {c:Chunk},L[i]? = some c->Le (sep L) (star c (sep (L.eraseIdx i)))
 | [],_,_,h=>by simp at h
 | a::L,0,c,h=>by
  simp only[List.getElem?_cons_zero,Option.some.injEq]at h;subst h;exact Le.refl _
 | a::L,i+1,c,h=>(kE (Le.refl a) (qL (by simpa using h))).trans (CZ _ _ _)
theorem Eh:∀{L:List Chunk} {i:Nat} {c c':Chunk},L[i]? = some c->Le (star c' (sep (L.eraseIdx i))) (sep (L.set i c'))
 | [],_,_,_,h=>by simp at h
 | a::L,0,c,c',h=>Le.refl _
 | a::L,i+1,c,c',h=>(CZ _ _ _).trans (kE (Le.refl a) (Eh (by simpa using h)))
theorem xS(c:Chunk):Le (sep [c]) c:=EP c
theorem pJ(c:Chunk):Le c (sep [c]):=Bp c
end Chunk
structure Wd (h0 h:H) (L:List Chunk):Prop where
 keep:bq h0 h
 sat:∃F,(Chunk.sep L).holds F h∧∀x,F x->h0 x=none
namespace Wd
open Chunk
variable {h0 h:H}{L:List Chunk}
theorem start(h:H):Wd h h []:=⟨bq.refl h,λ_=>False,λ_=>id,λ_ k=>k.elim⟩
theorem le{L':List Chunk}(w:Wd h0 h L)(e:Le (sep L) (sep L')):Wd h0 h L':=⟨w.keep,let ⟨F,h1,h2⟩:=w.sat;⟨F,e _ _ h1,h2⟩⟩
theorem get{i:Nat}{c:Chunk}(w:Wd h0 h L)(hi:L[i]? = some c):∃F,c.holds F h∧∀x,F x->h0 x=none:=by
 obtain⟨F,h1,h2⟩:=w.sat;obtain⟨F1,F2,k1,_,_,hu⟩:=qL hi F h h1;exact⟨F1,k1,λx hx=>h2 x ((hu x).2 (.inl hx))⟩
theorem blk{b:Nat}{o:Obj}(w:Wd h0 h L)(i:Nat)(hi:L[i]? = some (.blk b o)):h b=some o:=let ⟨_,h1,_⟩:=w.get hi;h1.2
theorem Sv{b:Nat}{o:Obj}(w:Wd h0 h L)(i:Nat)(hi:L[i]? = some (.blk b o)):h0 b=none:=let ⟨_,h1,h2⟩:=w.get hi;h2 b ((h1.1 b).2 rfl)
theorem mI{e:TypeId}{size:Nat}{a:Option Addr}{l c:Nat}{xs:List Value}(w:Wd h0 h L)(i:Nat)(hi:L[i]? = some (.sl e size a l c xs)):xs.length=l*size∧l*size≤c*size∧(a=none->xs=[]∧l=0)∧∀b,a=some b->rowAt h b xs:=by
 obtain⟨F,h1,_⟩:=w.get hi;rcases h1 with ⟨rfl,rfl,rfl,rfl,_⟩|⟨b,rest,rfl,_,hb,hl,hc⟩
 ·exact⟨by simp,by simp,λ_=>⟨rfl,rfl⟩,λb hb=>by simp at hb⟩
 ·refine⟨hl,?_,λh=>by simp at h,λb' hb'=>?_⟩
  ·rw[←hl,←hc];simp
  ·simp only[Option.some.injEq]at hb';subst hb';intro i hi;obtain⟨_,hb,_⟩:=hb;rw[aS,dA hb];simp only[List.getElem?_toArray,Nat.zero_add];exact List.getElem?_append_left hi
theorem keeps{h':H}(w:Wd h0 h L)(k:bq h h'):Wd h0 h' L:=by
 obtain⟨F,h1,h2⟩:=w.sat;refine⟨w.keep.trans k,F,(Chunk.sep L).loc h1 λx hx=>?_,h2⟩;cases hh:h x with
 | none=>exact absurd hh ((Chunk.sep L).dom h1 hx)
 | some o=>exact k _ _ hh
theorem on{i:Nat}{c:Chunk}(w:Wd h0 h L)(hi:L[i]? = some c):
  ∃h1,bq h0 h1∧bq h1 h∧Wd h1 h [c]∧Wd h0 h1 (L.eraseIdx i)∧∀h' c',Wd h1 h' [c']->Wd h0 h' (L.set i c'):=by
 obtain⟨F,h1,h2⟩:=w.sat;obtain⟨F1,F2,k1,k2,hd,hu⟩:=qL hi F h h1;have e1:∀x,¬F1 x->(λx=>if F1 x then none else h x) x=h x:=λx hx=>by simp[hx]
 have kk:bq (λx=>if F1 x then none else h x) h:=λx o hx=>by
  by_cases hf:F1 x
  ·simp[hf]at hx
  ·simpa [hf] using hx
 have k0:bq h0 (λx=>if F1 x then none else h x):=λx o hx=>by
  have:¬F1 x:=λhf=>by rw[h2 x ((hu x).2 (.inl hf))]at hx;simp at hx
  simp only[this,if_false];exact w.keep _ _ hx
 refine⟨λx=>if F1 x then none else h x,k0,kk,⟨kk,F1,pJ c _ _ k1,λx hx=>by simp[hx]⟩,⟨k0,F2,(Chunk.sep _).loc k2 λx hx=>by
   have:¬F1 x:=λhf=>hd x hf hx
   simp[this],λx hx=>h2 x ((hu x).2 (.inr hx))⟩,λh' c' w'=>?_⟩
 obtain⟨F1',m1,m2⟩:=w'.sat;have m3:∀x,F1' x->F1 x∨h x=none:=λx hx=>by
  have:=m2 x hx;by_cases hf:F1 x
  ·exact .inl hf
  ·exact .inr (by simpa [hf] using this)
 have kh:bq h0 h':=k0.trans w'.keep;have r2:(sep (L.eraseIdx i)).holds F2 h':=(Chunk.sep _).loc k2 λx hx=>by
  have hn:¬F1 x:=λhf=>hd x hf hx;cases hh:h x with
  | none=>exact absurd hh ((Chunk.sep _).dom k2 hx)
  | some o=>exact w'.keep x o (by simp[hn,hh])
 refine⟨kh,λx=>F1' x∨F2 x,Eh hi _ _ ⟨F1',F2,xS c' _ _ m1,r2,λx hx h2x=>?_,λx=>Iff.rfl⟩,λx hx=>?_⟩
 ·rcases m3 x hx with hf|hf
  ·exact hd x hf h2x
  ·exact absurd hf ((Chunk.sep _).dom k2 h2x)
 ·rcases hx with hx|hx
  ·rcases m3 x hx with hf|hf
   ·exact h2 x ((hu x).2 (.inl hf))
   ·exact w.keep.none hf
  ·exact h2 x ((hu x).2 (.inr hx))
theorem new{b:Nat}(w:Wd h0 h L)(hb:h b=none)(o:Obj):Wd h0 (h.nh b o) (L++[.blk b o]):=by
 have k:=(bq.refl h).new hb o;obtain⟨F,h1,h2⟩:=w.sat;have hne:∀x,F x->x≠b:=λx hx e=>by subst e;exact(sep L).dom h1 hx hb
 refine⟨w.keep.trans k,λx=>F x∨x=b,nV L _ _ _ ⟨F,λx=>x=b,(sep L).loc h1 λx hx=>H.uw _ _ (hne x hx),pJ _ _ _ ⟨λx=>Iff.rfl,H.jD _ _ _⟩,hne,λx=>Iff.rfl⟩,λx hx=>?_⟩;rcases hx with hx|rfl
 ·exact h2 x hx
 ·exact w.keep.none hb
theorem one{c:Chunk}{F:Nat->Prop}(k:bq h0 h)(hc:c.holds F h)(hF:∀x,F x->h0 x=none):Wd h0 h [c]:=⟨k,F,pJ c _ _ hc,hF⟩
theorem nh{i b:Nat}{o:Obj}(w:Wd h0 h L)(hi:L[i]? = some (.blk b o))(o':Obj):Wd h0 (h.nh b o') (L.set i (.blk b o')):=by
 obtain⟨h1,_,k1,w1,_,back⟩:=w.on hi;have hb:=w1.Sv 0 rfl;exact back _ _ (one (k1.own hb _) (F:=λx=>x=b) ⟨λ_=>Iff.rfl,H.jD _ _ _⟩ λx hx=>by rw[hx];exact hb)
theorem weaken{i:Nat}{c c':Chunk}(w:Wd h0 h L)(hi:L[i]? = some c)(e:Le c c'):Wd h0 h (L.set i c'):=w.le ((qL hi).trans ((kE e (Le.refl _)).trans (Eh hi)))
theorem IM{i:Nat}{cs:List Chunk}(w:Wd h0 h L)(hi:L[i]? = some (.sep cs)):Wd h0 h (L.eraseIdx i++cs):=w.le ((qL hi).trans ((rS _ _).trans (nV _ _)))
theorem drop{i:Nat}{c:Chunk}(w:Wd h0 h L)(hi:L[i]? = some c):Wd h0 h (L.eraseIdx i):=by
 obtain⟨F,h1,h2⟩:=w.sat;obtain⟨F1,F2,_,k2,_,hu⟩:=qL hi F h h1;exact⟨w.keep,F2,k2,λx hx=>h2 x ((hu x).2 (.inr hx))⟩
theorem mv{i:Nat}{c:Chunk}(w:Wd h0 h L)(hi:L[i]? = some c):Wd h0 h (L.eraseIdx i++[c]):=w.le ((qL hi).trans ((rS _ _).trans ((kE (Le.refl _) (pJ c)).trans (nV _ _))))
theorem fold{c:Chunk}(w:Wd h0 h L)(n:Nat)(e:Le (sep (L.drop n)) c):Wd h0 h (L.take n++[c]):=by
 refine w.le ?_;have:Le (sep L) (sep (L.take n++L.drop n)):=by rw[List.take_append_drop];exact Le.refl _
 exact this.trans ((DK _ _).trans ((kE (Le.refl _) (e.trans (pJ c))).trans (nV _ _)))
theorem jt(w:Wd h0 h L)(e:TypeId)(size:Nat):Wd h0 h (L++[.sl e size none 0 0 []]):=by
 have e1:Le emp (.sl e size none 0 0 []):=λF h k=>Or.inl ⟨rfl,rfl,rfl,rfl,k⟩;exact w.le ((Bp _).trans ((kE (Le.refl _) (e1.trans (pJ _))).trans (nV _ _)))
theorem Pf{i b:Nat}{e:TypeId}{size:Nat}(w:Wd h0 h L)(hi:L[i]? = some (.blk b (.cells #[] e (0,0)))):Wd h0 h (L.set i (.sl e size (some ⟨b,0,none⟩) 0 0 [])):=
 w.weaken hi λF h ⟨hF,hb⟩=>Or.inr ⟨b,[],rfl,hF,.of hb,by simp,by simp⟩
theorem base{h1:H}(w:Wd h1 h L)(k:bq h0 h1):Wd h0 h L:=⟨k.trans w.keep,let ⟨F,a,b⟩:=w.sat;⟨F,a,λx hx=>k.none (b x hx)⟩⟩
theorem split(w:Wd h0 h L)(n:Nat):∃h1,bq h0 h1∧bq h1 h∧Wd h1 h (L.take n)∧Wd h0 h1 (L.drop n)∧∀h' L',Wd h1 h' L'->Wd h0 h' (L'++L.drop n):=by
 have w0:Wd h0 h [sep (L.take n),sep (L.drop n)]:=w.le (by
  have:Le (sep L) (sep (L.take n++L.drop n)):=by rw[List.take_append_drop];exact Le.refl _
  exact this.trans ((DK _ _).trans (kE (Le.refl _) (pJ _))))
 obtain⟨h1,k0,k1,w1,w2,back⟩:=w0.on (i:=0) rfl;refine⟨h1,k0,k1,w1.le (xS _),w2.le (xS _),λh' L' w'=>?_⟩;have w3:=back h' (sep L') (w'.le (pJ _));exact w3.le ((kE (Le.refl _) (xS _)).trans (nV _ _))
theorem join{h':H}{M:List Chunk}(w:Wd h0 h L)(w':Wd h h' M):Wd h0 h' (L++M):=by
 obtain⟨F,h1,h2⟩:=w.sat;obtain⟨G,g1,g2⟩:=w'.sat;have hne:∀x,F x->¬G x:=λx hx hg=>(sep L).dom h1 hx (g2 x hg);refine⟨w.keep.trans w'.keep,λx=>F x∨G x,nV L M _ _ ⟨F,G,(sep L).loc h1 λx hx=>?_,g1,hne,λx=>Iff.rfl⟩,λx hx=>?_⟩
 ·cases hh:h x with
  | none=>exact absurd hh ((sep L).dom h1 hx)
  | some o=>exact w'.keep _ _ hh
 ·rcases hx with hx|hx
  ·exact h2 x hx
  ·exact w.keep.none (g2 x hx)
abbrev obj{α:Type}(p:α -> Prop)(cs:α -> List Chunk):Chunk:=.ex λv=>.given (p v) (.sep (cs v))
theorem tw{α:Type}{p:α -> Prop}{cs:α -> List Chunk}(w:Wd h0 h L)(i:Nat)(hi:L[i]? = some (obj p cs)):∃v,p v∧Wd h0 h (L.eraseIdx i++cs v):=by
 obtain⟨F,h1,h2⟩:=w.sat;obtain⟨F1,F2,⟨v,hp,k1⟩,k2,hd,hu⟩:=qL hi F h h1;exact⟨v,hp,w.keep,F,nV _ _ _ _ ⟨F2,F1,k2,k1,λx a b=>hd x b a,λx=>(hu x).trans Or.comm⟩,h2⟩
theorem close{α:Type}{p:α -> Prop}{cs:α -> List Chunk}(w:Wd h0 h L)(n:Nat)(v:α)(hc:L.drop n=cs v)(hp:p v):Wd h0 h (L.take n++[obj p cs]):=
 w.fold n λF h k=>⟨v,hp,by rw[hc]at k;exact k⟩
end Wd
namespace M
open Chunk
variable {h0 h:H}{L:List Chunk}
theorem aK{o:Obj}{K:Nat->H->Prop}(w:Wd h0 h L)(k:∀b h',Wd h0 h' (L++[.blk b o])->K b h'):M.new h o K:=λb hb=>k b _ (w.new hb o)
theorem EF{o:Obj}{K:Nat->H->Prop}(w:Wd h0 h L)(k:∀b h',h' b=some o->Wd h0 h' L->K b h'):M.new h o K:=λb hb=>k b _ (H.jD _ _ _) (w.keeps ((bq.refl h).new hb o))
theorem bg{K:H->Prop}{b o:Nat}{c:Array Value}{e:TypeId}{v:Value}(w:Wd h0 h L)(i:Nat)(hi:L[i]? = some (.blk b (.cells c e (0,0))))(hp:ag v=true)(ho:o<c.size)
  (k:∀h',Wd h0 h' (L.set i (.blk b (.cells (c.setIfInBounds o v) e (0,0))))->K h'):M.put h ⟨b,o,none⟩ v K:=
 PS (w.blk i hi) hp ho (k _ (w.nh hi _))
theorem HL{K:H->Prop}{b o:Nat}{c:Array Value}{e:TypeId}{vs:List Value}(w:Wd h0 h L)(i:Nat)(hi:L[i]? = some (.blk b (.cells c e (0,0))))(hp:∀v∈vs,ag v=true)(ho:o+vs.length≤c.size)
  (k:∀h',Wd h0 h' (L.set i (.blk b (.cells (splice c o vs) e (0,0))))->K h'):M.ku h ⟨b,o,none⟩ vs K:=
 Jw (w.blk i hi) hp ho (k _ (w.nh hi _))
theorem bz{K:H->Prop}{b:Nat}{c:Array Value}{e:TypeId}{vs:List Value}(w:Wd h0 h L)(i:Nat)(hi:L[i]? = some (.blk b (.cells c e (0,0))))(hp:∀v∈vs,ag v=true)(ho:vs.length=c.size)
  (k:∀h',Wd h0 h' (L.set i (.blk b (.cells vs.toArray e (0,0))))->K h'):M.ku h ⟨b,0,none⟩ vs K:=
 Nh (w.blk i hi) hp ho (k _ (w.nh hi _))
theorem ru{e:TypeId}{size bytes:Nat}{zero:List Value}{a:Option Addr}{l c n:Nat}{xs new:List Value}{K:Option Addr->Nat->Nat->H->Prop}(w:Wd h0 h L)(i:Nat)(hi:L[i]? = some (.sl e size a l c xs))
  (hz:zero.length=size) (hn:new.length=n*size) (hp:∀v∈new,ag v=true) (hmax:2*(l+n)*bytes≤281474976710656) (hmax2:l+n≤9223372036854775807)
  (k:∀a' c' h',Wd h0 h' (L.set i (.sl e size a' (l+n) c' (xs++new)))->K a' (l+n) c' h'):M.app h e size bytes zero a l c n new K:=by
 obtain⟨h1,_,k1,w1,_,back⟩:=w.on hi;obtain⟨F,hc,hF⟩:=w1.get (i:=0) rfl;have ho:Own h1 h e size a l c xs:=by
  rcases hc with ⟨rfl,rfl,rfl,rfl,_⟩|⟨b,rest,rfl,hFb,hb,hl,hc⟩
  ·exact .nil
  ·exact .blk (hF b ((hFb b).2 rfl)) hb hl hc
 refine Lx k1 ho hz hn hp hmax hmax2 λa' c' h' k' o'=>k a' c' h' (back _ _ ?_);generalize hxs:xs++new=ys at o' ⊢;generalize hll:l+n=m at o' ⊢;cases o' with
 | nil=>exact Wd.one k' (F:=λ_=>False) (.inl ⟨rfl,rfl,rfl,rfl,λ_=>id⟩) λ_ k=>k.elim
 | blk n hb hl hc=>exact Wd.one k' (F:=λx=>x=_) (.inr ⟨_,_,rfl,λ_=>Iff.rfl,hb,hl,hc⟩) λx hx=>by rw[hx];exact n
theorem zM{e:TypeId}{zero:List Value}{bytes:Nat}{l c:Int}{K:Option Addr->Nat->Nat->H->Prop}(w:Wd h0 h L)(h1:0≤l)(h2:l≤c)(h3:(bytes:Int)*c≤281474976710656)(h4:c≤9223372036854775807)
  (k:∀b h',Wd h0 h' (L++[.blk b (.cells (gx zero c.toNat).toArray e)])->K (some ⟨b,0,none⟩) l.toNat c.toNat h'):M.mk h e zero bytes l c K:=
 ⟨h1,h2,h3,h4,λb hb=>k b _ (w.new hb _)⟩
theorem uj{e:TypeId}{size:Nat}{zero:List Value}{bytes:Nat}{l c:Int}{K:Option Addr->Nat->Nat->H->Prop}(w:Wd h0 h L)(h1:0≤l)(h2:l≤c)(h3:(bytes:Int)*c≤281474976710656)(h4:c≤9223372036854775807)(hz:zero.length=size)
  (k:∀a h',Wd h0 h' (L++[.sl e size a l.toNat c.toNat (gx zero l.toNat)])->K a l.toNat c.toNat h'):M.mk h e zero bytes l c K:=by
 refine zM w h1 h2 h3 h4 λb h' w'=>k _ _ ?_;have hi:(L++[Chunk.blk b (.cells (gx zero c.toNat).toArray e)])[L.length]? = some (.blk b (.cells (gx zero c.toNat).toArray e)):=by simp
 have:=w'.weaken (i:=L.length) hi (c':=.sl e size (some ⟨b,0,none⟩) l.toNat c.toNat (gx zero l.toNat)) (by
  rintro F h ⟨hF,hb⟩;refine .inr ⟨b,gx zero (c.toNat-l.toNat),rfl,hF,?_,by rw[mE,hz],by simp only[List.length_append,mE,hz];rw[←Nat.add_mul];congr 1;omega⟩;have hb:=Has.of hb;have:gx zero l.toNat++gx zero (c.toNat-l.toNat)=gx zero c.toNat:=by
   unfold gx;rw[←List.flatten_append,List.replicate_append_replicate];congr 2;omega
  rw[this];exact hb)
 simpa using this
theorem oX(s:ByteArray):(bytesOf s).length=s.size:=by rw[bytesOf,List.length_map];exact Array.length_toList
theorem Pe{e:TypeId}{s:ByteArray}{K:Option Addr->Nat->Nat->H->Prop}(w:Wd h0 h L)(k:∀b c h',Wd h0 h' (L++[.sl e 1 (some ⟨b,0,none⟩) s.size c (bytesOf s)])->K (some ⟨b,0,none⟩) s.size c h'):M.QA h e s K:=by
 intro c hc b hb;refine k b c _ ?_;have w':=w.new hb (.cells (bytesOf s++List.replicate (c-s.size) (Value.int .u8 0)).toArray e (c,c+1));have hlen:(bytesOf s++List.replicate (c-s.size) (Value.int .u8 0)).length=c:=by rw[List.length_append,oX,List.length_replicate];omega
 have hi:(L++[Chunk.blk b (.cells (bytesOf s++List.replicate (c-s.size) (Value.int .u8 0)).toArray e (c,c+1))])[L.length]? = some (.blk b (.cells (bytesOf s++List.replicate (c-s.size) (Value.int .u8 0)).toArray e (c,c+1))):=by simp
 have:=w'.weaken (i:=L.length) hi (c':=.sl e 1 (some ⟨b,0,none⟩) s.size c (bytesOf s)) λF h ⟨hF,hb⟩=>
  .inr ⟨b,_,rfl,hF,⟨_,hb,.inr (by rw[List.size_toArray,hlen];exact Nat.le_refl c)⟩,by rw[oX];omega,by rw[hlen];omega⟩
 simpa using this
theorem nL{K:List Value->Prop}{a:Option Addr}{n:Nat}{xs:List Value}(hn:xs.length=n)(h0:a=none->xs=[])(hr:∀b,a=some b->rowAt h b xs)(hk:K xs):M.cellsOf h a n K:=
 ⟨λe=>by rw[h0 e]at hk;exact hk,λb e=>⟨xs,hn,hr b e,hk⟩⟩
theorem vM{K:H->Prop}{b o:Nat}{c:Array Value}{e:TypeId}{vs:List Value}(w:Wd h0 h L)(i:Nat)(hi:L[i]? = some (.blk b (.cells c e (0,0))))(hp:∀v∈vs,ag v=true)(ho:o+vs.length≤c.size)
  (k:∀h',Wd h0 h' (L.set i (.blk b (.cells (splice c o vs) e (0,0))))->K h'):M.copy h (some ⟨b,o,none⟩) vs K:=
 ⟨λe=>by simp at e,λa e=>by simp only[Option.some.injEq]at e;subst e;exact HL w i hi hp ho k⟩
theorem NM{K:H->Prop}{a:Addr}{e:TypeId}{size l c o:Nat}{xs vs:List Value}(w:Wd h0 h L)(i:Nat)(hi:L[i]? = some (.sl e size (some a) l c xs))(hp:∀v∈vs,ag v=true)(ho:o+vs.length≤xs.length)
  (k:∀h',Wd h0 h' (L.set i (.sl e size (some a) l c (xs.take o++vs++xs.drop (o+vs.length))))->K h'):M.ku h (a.add o) vs K:=by
 obtain⟨h1,_,k1,w1,_,back⟩:=w.on hi;obtain⟨F,hc,hF⟩:=w1.get (i:=0) rfl;rcases hc with ⟨he,_⟩|⟨b,rest,hab,hFb,hb,hl,hc⟩
 ·simp at he
 ·simp only[Option.some.injEq]at hab;subst hab;rw[aS,Nat.zero_add];have e1:splice (xs++rest).toArray o vs=((xs.take o++vs++xs.drop (o+vs.length))++rest).toArray:=by
   apply Array.ext_getElem?;intro x;rw[nB _ _ _ (by simp;omega)];simp only[List.getElem?_toArray];by_cases hx:o≤x∧x<o+vs.length
   ·rw[if_pos hx,List.getElem?_append_left (by simp;omega),List.getElem?_append_left (by simp;omega),List.getElem?_append_right (by simp;omega)];congr 1;simp;omega
   ·rw[if_neg hx];by_cases h1:x<o
    ·rw[List.getElem?_append_left (by omega),List.getElem?_append_left (by simp;omega),List.getElem?_append_left (by simp;omega),List.getElem?_append_left (by simp;omega),List.getElem?_take,if_pos h1]
    ·by_cases h2:x<xs.length
     ·rw[List.getElem?_append_left h2,List.getElem?_append_left (by simp;omega),List.getElem?_append_right (by simp;omega),List.getElem?_drop];congr 1;simp;omega
     ·rw[List.getElem?_append_right (by omega),List.getElem?_append_right (by simp;omega)];congr 1;simp;omega
  have hl2:(xs.take o++vs++xs.drop (o+vs.length)).length=xs.length:=by simp;omega
  refine C8 hb hp (by simp;omega) λob hob=>(k _ (back _ _ ?_));rw[e1]at hob;refine Wd.one (k1.own (hF b ((hFb b).2 rfl)) _) (F:=λx=>x=b) (.inr ⟨b,rest,rfl,λ_=>Iff.rfl,hob _ (H.jD _ _ _),by rw[hl2,hl],?_⟩) λx hx=>by rw[hx];exact hF b ((hFb b).2 rfl)
  rw[List.length_append,hl2,←hc,List.length_append]
theorem DH{K:H->Prop}{a:Addr}{e:TypeId}{size l c o:Nat}{xs:List Value}{v:Value}(w:Wd h0 h L)(i:Nat)(hi:L[i]? = some (.sl e size (some a) l c xs))(hp:ag v=true)(ho:o<xs.length)
  (k:∀h',Wd h0 h' (L.set i (.sl e size (some a) l c (xs.set o v)))->K h'):M.put h (a.add o) v K:=by
 have h1:M.ku h (a.add o) [v] K:=by
  refine NM w i hi (by simpa using hp) (by simp;omega) λh' w'=>k h' ?_;have:xs.take o++[v]++xs.drop (o+[v].length)=xs.set o v:=by rw[List.set_eq_take_append_cons_drop,if_pos ho];simp
  rwa [this]at w'
 obtain⟨a1,a2,a3⟩:=h1;have:=a2 0 (by simp);rw[Addr.add_zero']at this;refine⟨hp,this.1,this.2,?_⟩;have e:(h.sets (a.add o) 0 [v])=h.set (a.add o) v:=by simp[H.sets,Addr.add_zero']
 rwa [e]at a3
theorem jn{α:Type}{J:α -> H->Prop}{B:(α -> H->Prop)->Prop}(h:B J):M.join J B:=h
theorem mq{b:Addr}{len:Nat}{i:Int}{K:Addr->Nat->Prop}(h1:0≤i)(h2:i<len)(k:K b i.toNat):M.idx (some b) len i K:=⟨b,rfl,h1,h2,k⟩
end M
end Go.Sh
namespace Go.Proofs
open Go.Shelf
def Tryz.Dh:Go.Shelf.Ren:=⟨fun|7=>250|10=>283|n=>n,fun|23=>144|26=>3|3=>9|28=>374|0=>0|27=>370|33=>247|4=>4|n=>n,fun|n=>n⟩
theorem Tryz.Pa:Go.Proofs.SlLaysZI.n7 Tryz.prog Tryz.Dh:={
 mixed:=by kernel_rfl
 f7:=⟨Tryz.f250.name,by decide,Tryz.func250.trans (congrArg some (by kernel_rfl))⟩
 f10:=⟨Tryz.f283.name,by decide,Tryz.func283.trans (congrArg some (by kernel_rfl))⟩
 t0:=Tryz.underlying0
 a0:=Tryz.isAgg0
 z0:=Tryz.sizeOf0
 v0:=Tryz.zeroValue0
 t4:=Tryz.underlying4
 a4:=Tryz.isAgg4
 z4:=Tryz.sizeOf4
 v4:=Tryz.zeroValue4
 t23:=Tryz.underlying144
 a23:=Tryz.isAgg144
 z23:=Tryz.sizeOf144
 v23:=Tryz.zeroValue144
 t26:=Tryz.underlying3
 a26:=Tryz.isAgg3
 z26:=Tryz.sizeOf3
 v26:=Tryz.zeroValue3
 t27:=Tryz.underlying370
 a27:=Tryz.isAgg370
 z27:=Tryz.sizeOf370
 v27:=Tryz.zeroValue370
 t28:=Tryz.underlying374
 a28:=Tryz.isAgg374
 z28:=Tryz.sizeOf374
 v28:=Tryz.zeroValue374
 t33:=Tryz.underlying247
 a33:=Tryz.isAgg247
 z33:=Tryz.sizeOf247
 v33:=Tryz.zeroValue247 }
def Tryz.zH:Go.Shelf.Ren:=⟨fun|6=>249|8=>281|9=>282|11=>315|13=>317|12=>316|23=>338|24=>339|14=>329|15=>330|16=>331|17=>332|18=>333|19=>334|20=>335|21=>336|22=>337|25=>342|26=>343|27=>344|28=>345|29=>346|30=>347|31=>350|n=>n,fun|26=>3|28=>374|24=>37|0=>0|3=>3|37=>221|48=>230|50=>36|4=>4|40=>451|39=>450|45=>456|5=>5|9=>9|51=>462|55=>317|57=>467|58=>274|33=>247|n=>n,fun|n=>n⟩
theorem Tryz.Ol:Go.Proofs.SlLaysZI.n6 Tryz.prog Tryz.zH:={
 mixed:=by kernel_rfl
 f6:=⟨Tryz.f249.name,by decide,Tryz.func249.trans (congrArg some (by kernel_rfl))⟩
 f8:=⟨Tryz.f281.name,by decide,Tryz.func281.trans (congrArg some (by kernel_rfl))⟩
 f11:=⟨Tryz.f315.name,by decide,Tryz.func315.trans (congrArg some (by kernel_rfl))⟩
 t0:=Tryz.underlying0
 a0:=Tryz.isAgg0
 z0:=Tryz.sizeOf0
 v0:=Tryz.zeroValue0
 t24:=Tryz.underlying37
 a24:=Tryz.isAgg37
 z24:=Tryz.sizeOf37
 v24:=Tryz.zeroValue37
 t26:=Tryz.underlying3
 a26:=Tryz.isAgg3
 z26:=Tryz.sizeOf3
 v26:=Tryz.zeroValue3
 t28:=Tryz.underlying374
 a28:=Tryz.isAgg374
 z28:=Tryz.sizeOf374
 v28:=Tryz.zeroValue374
 i26:=by kernel_rfl }
def Tryz.KJ:Go.Shelf.Ren:=⟨fun|5=>282|8=>317|7=>316|19=>338|20=>339|10=>329|11=>330|12=>331|13=>332|14=>333|15=>334|16=>335|17=>336|18=>337|30=>342|31=>343|32=>344|33=>345|34=>346|35=>347|40=>350|n=>n,fun|23=>37|25=>3|3=>3|32=>221|22=>37|0=>0|44=>230|46=>36|4=>4|36=>451|35=>450|41=>456|5=>5|9=>9|53=>462|57=>317|63=>467|64=>274|n=>n,fun|n=>n⟩
theorem Tryz.O4:Go.Proofs.SlLaysM.n5 Tryz.prog Tryz.KJ:={
 mixed:=by kernel_rfl
 f5:=⟨Tryz.f282.name,by decide,Tryz.func282.trans (congrArg some (by kernel_rfl))⟩
 f7:=⟨Tryz.f316.name,by decide,Tryz.func316.trans (congrArg some (by kernel_rfl))⟩
 f8:=Tryz.func317.trans (congrArg some (by kernel_rfl))
 f10:=⟨Tryz.f329.name,by decide,Tryz.func329.trans (congrArg some (by kernel_rfl))⟩
 f11:=⟨Tryz.f330.name,by decide,Tryz.func330.trans (congrArg some (by kernel_rfl))⟩
 f12:=⟨Tryz.f331.name,by decide,Tryz.func331.trans (congrArg some (by kernel_rfl))⟩
 f13:=⟨Tryz.f332.name,by decide,Tryz.func332.trans (congrArg some (by kernel_rfl))⟩
 f14:=⟨Tryz.f333.name,by decide,Tryz.func333.trans (congrArg some (by kernel_rfl))⟩
 f15:=⟨Tryz.f334.name,by decide,Tryz.func334.trans (congrArg some (by kernel_rfl))⟩
 f16:=⟨Tryz.f335.name,by decide,Tryz.func335.trans (congrArg some (by kernel_rfl))⟩
 f17:=⟨Tryz.f336.name,by decide,Tryz.func336.trans (congrArg some (by kernel_rfl))⟩
 f18:=⟨Tryz.f337.name,by decide,Tryz.func337.trans (congrArg some (by kernel_rfl))⟩
 f19:=Tryz.func338.trans (congrArg some (by kernel_rfl))
 f20:=Tryz.func339.trans (congrArg some (by kernel_rfl))
 f30:=⟨Tryz.f342.name,by decide,Tryz.func342.trans (congrArg some (by kernel_rfl))⟩
 f31:=Tryz.func343.trans (congrArg some (by kernel_rfl))
 f32:=Tryz.func344.trans (congrArg some (by kernel_rfl))
 f33:=⟨Tryz.f345.name,by decide,Tryz.func345.trans (congrArg some (by kernel_rfl))⟩
 f34:=⟨Tryz.f346.name,by decide,Tryz.func346.trans (congrArg some (by kernel_rfl))⟩
 f35:=⟨Tryz.f347.name,by decide,Tryz.func347.trans (congrArg some (by kernel_rfl))⟩
 f40:=⟨Tryz.f350.name,by decide,Tryz.func350.trans (congrArg some (by kernel_rfl))⟩
 t0:=Tryz.underlying0
 a0:=Tryz.isAgg0
 z0:=Tryz.sizeOf0
 v0:=Tryz.zeroValue0
 t3:=Tryz.underlying3
 a3:=Tryz.isAgg3
 z3:=Tryz.sizeOf3
 v3:=Tryz.zeroValue3
 t4:=Tryz.underlying4
 a4:=Tryz.isAgg4
 z4:=Tryz.sizeOf4
 v4:=Tryz.zeroValue4
 t5:=Tryz.underlying5
 a5:=Tryz.isAgg5
 z5:=Tryz.sizeOf5
 v5:=Tryz.zeroValue5
 t9:=Tryz.underlying9
 a9:=Tryz.isAgg9
 z9:=Tryz.sizeOf9
 v9:=Tryz.zeroValue9
 t22:=Tryz.underlying37
 a22:=Tryz.isAgg37
 z22:=Tryz.sizeOf37
 v22:=Tryz.zeroValue37
 t23:=Tryz.underlying37
 a23:=Tryz.isAgg37
 z23:=Tryz.sizeOf37
 v23:=Tryz.zeroValue37
 t25:=Tryz.underlying3
 a25:=Tryz.isAgg3
 z25:=Tryz.sizeOf3
 v25:=Tryz.zeroValue3
 t32:=Tryz.underlying221
 a32:=Tryz.isAgg221
 z32:=Tryz.sizeOf221
 v32:=Tryz.zeroValue221
 t35:=Tryz.underlying450
 a35:=Tryz.isAgg450
 z35:=Tryz.sizeOf450
 v35:=Tryz.zeroValue450
 t36:=Tryz.underlying451
 a36:=Tryz.isAgg451
 z36:=Tryz.sizeOf451
 v36:=Tryz.zeroValue451
 t41:=Tryz.underlying456
 a41:=Tryz.isAgg456
 z41:=Tryz.sizeOf456
 v41:=Tryz.zeroValue456
 t44:=Tryz.underlying230
 a44:=Tryz.isAgg230
 z44:=Tryz.sizeOf230
 v44:=Tryz.zeroValue230
 t46:=Tryz.underlying36
 a46:=Tryz.isAgg36
 z46:=Tryz.sizeOf36
 v46:=Tryz.zeroValue36
 t53:=Tryz.underlying462
 a53:=Tryz.isAgg462
 z53:=Tryz.sizeOf462
 v53:=Tryz.zeroValue462
 t57:=Tryz.underlying317
 a57:=Tryz.isAgg317
 z57:=Tryz.sizeOf317
 v57:=Tryz.zeroValue317
 t63:=Tryz.underlying467
 a63:=Tryz.isAgg467
 z63:=Tryz.sizeOf467
 v63:=Tryz.zeroValue467
 t64:=Tryz.underlying274
 a64:=Tryz.isAgg274
 z64:=Tryz.sizeOf274
 v64:=Tryz.zeroValue274 }
def Tryz.LB:Go.Shelf.Ren:=⟨fun|35=>248|n=>n,fun|22=>37|23=>3|3=>3|4=>4|0=>0|n=>n,fun|n=>n⟩
theorem Tryz.Q8:Go.Proofs.SlLaysN.n35 Tryz.prog Tryz.LB:={
 mixed:=by kernel_rfl
 f35:=⟨Tryz.f248.name,by decide,Tryz.func248.trans (congrArg some (by kernel_rfl))⟩
 t0:=Tryz.underlying0
 a0:=Tryz.isAgg0
 z0:=Tryz.sizeOf0
 v0:=Tryz.zeroValue0
 t3:=Tryz.underlying3
 a3:=Tryz.isAgg3
 z3:=Tryz.sizeOf3
 v3:=Tryz.zeroValue3
 t4:=Tryz.underlying4
 a4:=Tryz.isAgg4
 z4:=Tryz.sizeOf4
 v4:=Tryz.zeroValue4
 t22:=Tryz.underlying37
 a22:=Tryz.isAgg37
 z22:=Tryz.sizeOf37
 v22:=Tryz.zeroValue37
 t23:=Tryz.underlying3
 a23:=Tryz.isAgg3
 z23:=Tryz.sizeOf3
 v23:=Tryz.zeroValue3 }
end Go.Proofs

/- Reasoning over the shallow form, 6: rules that the kernel takes as equations, not as computing; rows of things. Reasoning over the shallow form, 7: rows of words and bytes, bytes of texts. The program's digest under way: a block more. The program's digest: more bytes, and the digest. The program's digest of a text. Reasoning over the shallow form, 4: maps. Trees of digests: what both texts compute. Trees of digests: ways, and what is followed. Trees of digests: what is put. Trees of digests: what is built. ChaCha20: quarters of a round, in both texts. Texts combined, in both texts. ChaCha20: blocks, in both texts. ChaCha20: texts, in both texts. Poly1305: numbers in five parts. -/
import Derived.Test.YtmfcgihgdhfalaaGreatDoorN06
import Derived.Test.YtmfcgihgdhfalaaGreatDoorN01
open ByteArray(empty)
open Int(reduceToNat)
open Go.IntKind(wrap)
set_option linter.unusedSimpArgs false
set_option linter.unusedVariables false
namespace Go.Sh
open Go.RowKit
theorem lb{h:H}{b:Nat}{c:Array Value}{e:TypeId}{f:Nat×Nat}(hb:h b=some (.cells c e f))(o:Nat)(K:Value->Prop):M.load h ⟨b,o,none⟩ K = ∃v,c[o]? = some v∧K v:=by rw[dK,dA hb]
theorem lc{h:H}{a:Addr}{v:Value}(hc:h.cell a=some v)(K:Value->Prop):M.load h a K=K v:=by rw[dK,hc,cH]
theorem bs:(∀a b:Prop,cond true a b=a)∧(∀a b:Prop,cond false a b=b)
  ∧ (∀(b o k:Nat),Addr.add ⟨b,o,none⟩ k=⟨b,o+k,none⟩)
  ∧ (∀(u:Value) (K:Value->Prop),(∃v,some u=some v∧K v)=K u)
  ∧ (∀(k:IntKind) (n:Int) (K:Int->Prop),M.int k (.int k n) K=K n)
  ∧ (∀(b:Bool) (K:Bool->Prop),M.bool (.bool b) K=K b)
  ∧ (∀(s:ByteArray) (K:ByteArray->Prop),M.str (.string s) K=K s)
  ∧ (∀(a:Option Addr) (l c:Nat) (K:Option Addr->Nat->Nat->Prop),M.slc (.slice a l c) K=K a l c)
  ∧ (∀(a:Option Addr) (K:Option Addr->Prop),M.ptr (.pointer a) K=K a)
  ∧ (∀(a:Addr) (K:Addr->Prop),M.nn (some a) K=K a)
  ∧ (∀n:Nat,0+n=n)∧(∀n:Nat,n+0=n)∧(∀n:Nat,0*n=0)
  ∧ (∀(l:List Value) (i:Nat) (v:Value),l.toArray.setIfInBounds i v=(l.set i v).toArray)
  ∧ (∀(l:List Value) (a v:Value),(a::l).set 0 v=v::l)∧(∀(l:List Value) (a v:Value) (n:Nat),(a::l).set (n+1) v=a::l.set n v)
  ∧ (∀(l:List Value) (i:Nat),l.toArray[i]? = l[i]?)∧(∀(l:List Value) (a:Value),(a::l)[0]? = some a)∧(∀(l:List Value) (a:Value) (n:Nat),(a::l)[n+1]? = l[n]?)
  ∧ (∀(cs:Array Value) (i:Nat) (K:Value->Prop),M.at cs i K = ∃v,cs[i]? = some v∧K v)
  ∧ (!true)=false∧(!false)=true∧(∀(l:List Chunk) (a v:Chunk),(a::l).set 0 v=v::l)∧(∀(l:List Chunk) (a v:Chunk) (n:Nat),(a::l).set (n+1) v=a::l.set n v)∧(∀(a:Chunk) (l m:List Chunk),a::l++m=a::(l++m))∧(∀m:List Chunk,[]++m=m):=
 ⟨λ_ _=>rfl,λ_ _=>rfl,aS,cH,int_eq,dV,fq,fQ,fP,iy,Nat.zero_add,Nat.add_zero,Nat.zero_mul,
  λ_ _ _=>List.setIfInBounds_toArray ..,λ_ _ _=>rfl,λ_ _ _ _=>rfl,λ_ _=>by simp,λ_ _=>rfl,λ_ _ _=>rfl,λ_ _ _=>rfl,rfl,rfl,λ_ _ _=>rfl,λ_ _ _ _=>rfl,λ_ _ _=>rfl,λ_=>rfl⟩
theorem ct{c:Bool}{A B:Prop}(h:c=true)(k:A):bif c then A else B:=by subst h;exact k
theorem cf{c:Bool}{A B:Prop}(h:c=false)(k:B):bif c then A else B:=by subst h;exact k
theorem eN{p:Prop}[Decidable p]{A B:Prop}(h:p)(k:A):bif decide p then A else B:=ct (decide_eq_true h) k
theorem gI{p:Prop}[Decidable p]{A B:Prop}(h:¬p)(k:B):bif decide p then A else B:=cf (decide_eq_false h) k
theorem cc{c:Bool}{A B:Prop}(k1:c=true->A)(k2:c=false->B):bif c then A else B:=by
 cases c
 ·exact k2 rfl
 ·exact k1 rfl
theorem cd{p:Prop}[Decidable p]{A B:Prop}(k1:p->A)(k2:¬p->B):bif decide p then A else B:=cc (λh=>k1 (of_decide_eq_true h)) λh=>k2 (of_decide_eq_false h)
theorem qJ{n:Int}(h1 : -9223372036854775808≤n)(h2:n<9223372036854775808):wrap .i64 n=n:=by rw[IntKind.wrap_i64];omega
theorem nq{n:Int}(h1:0≤n)(h2:n<18446744073709551616):wrap .u64 n=n:=by rw[IntKind.wrap_u64];omega
theorem bl:(∀(l:List Value),l.drop 0=l)∧(∀(a:Value) (l:List Value) (n:Nat),(a::l).drop (n+1)=l.drop n)∧(∀(l:List Value),l.take 0=[])∧(∀(a:Value) (l:List Value) (n:Nat),(a::l).take (n+1)=a::l.take n)
  ∧ (∀(c:Array Value) (o:Nat),splice c o []=c)∧(∀(c:Array Value) (o:Nat) (v:Value) (r:List Value),splice c o (v::r)=splice (c.setIfInBounds o v) (o+1) r)∧(∀l:List Value,l.toArray.toList=l):=
 ⟨λ_=>rfl,λ_ _ _=>rfl,λ_=>rfl,λ_ _ _=>rfl,λ_ _=>rfl,λ_ _ _ _=>rfl,λ_=>rfl⟩
theorem xB(k:IntKind)(n m:Nat)(hm:m≤k.bits):shr k (n:Int) (m:Int)=((n/2^m:Nat):Int):=by
 rw[shr,Int.toNat_natCast,Nat.min_eq_left hm,Int.fdiv_eq_ediv_of_nonneg _ (by exact_mod_cast Nat.zero_le _),Int.natCast_ediv];rfl
theorem Rh:(∀x y:ByteArray,(x++y).size=x.size+y.size)∧IntKind.i64.max=9223372036854775807∧(∀(a:UInt8) (l:List UInt8),ByteArray.size ⟨(a::l).toArray⟩=l.length+1)∧(∀l:List UInt8,l.toArray.size=l.length)∧(∀(x:ByteArray) (i j:Nat),(x.extract i j).size=min j x.size-i)
  ∧ (∀(a:UInt8) (l:List UInt8),(a::l).length=l.length+1)∧([]:List UInt8).length=0∧(∀n:Nat,((n:Int)).toNat=n)∧ByteArray.empty.size=0:=
 ⟨λ_ _=>ByteArray.size_append ..,by decide,λ_ _=>rfl,λ_=>rfl,λ_ _ _=>ByteArray.size_extract ..,λ_ _=>rfl,rfl,Int.toNat_natCast,rfl⟩
namespace M
theorem sx{b o cap size:Nat}{lo' hi':Int}{K:Option Addr->Nat->Nat->Prop}(lo hi:Nat)(e1:lo'=lo)(e2:hi'=hi)(h1:lo≤hi)(h2:hi≤cap)(h3:lo<cap)(k:K (some ⟨b,o+lo*size,none⟩) (hi-lo) (cap-lo)):M.sub (some ⟨b,o,none⟩) cap size lo' hi' K:=by
 subst e1 e2;refine⟨by omega,by omega,by omega,?_⟩;show K (mh (some ⟨b,o,none⟩) cap (lo:Int).toNat size) ((hi:Int).toNat-(lo:Int).toNat) (cap-(lo:Int).toNat);rw[Int.toNat_natCast,Int.toNat_natCast,mh,if_neg (by omega),Option.map_some,aS];exact k
theorem wX{h:H}{b o n:Nat}{c:Array Value}{e:TypeId}{f:Nat×Nat}{K:List Value->Prop}(hb:h b=some (.cells c e f))(ho:o+n≤c.size)(k:K ((c.toList.drop o).take n)):M.cellsOf h (some ⟨b,o,none⟩) n K:=by
 refine⟨λe=>by simp at e,λb' e=>?_⟩;simp only[Option.some.injEq]at e;subst e;refine pZ hb (by rw[List.length_take,List.length_drop,Array.length_toList];omega) (λi hi=>?_) k;rw[List.getElem?_take,if_pos hi,List.getElem?_drop,Array.getElem?_toList]
theorem A3{h:H}{b o n:Nat}{zs:List Int}{e:TypeId}{f:Nat×Nat}{K:ByteArray->Prop}(hb:h b=some (.cells (oT zs).toArray e f))(ho:o+n≤zs.length)(k:K (ofBytes ((zs.drop o).take n))):M.xX h (some ⟨b,o,none⟩) n K:=by
 refine⟨λe=>by simp at e,λb' e=>?_⟩;simp only[Option.some.injEq]at e;subst e;refine⟨(zs.drop o).take n,by rw[List.length_take,List.length_drop];omega,λi hi=>?_,k⟩;have hi':i<n:=by rw[List.length_map,List.length_take]at hi;omega
 rw[aS,dA hb,List.getElem?_toArray,oT,List.getElem?_map,List.getElem?_map,List.getElem?_take,if_pos hi',List.getElem?_drop]
theorem dN{z:Int}{K:Int->Prop}(k:K z):M.val z K:=k
theorem vis{z:Int}{K:Int->Prop}(y:Int)(e:z=y)(k:K y):M.val z K:=by subst e;exact k
theorem bM{α:Type}{step:(α -> H->Prop)->α -> H->Prop}{n:Nat}{d:α}{h:H}(k:step (iter step n) d h):iter step (n+1) d h:=k
theorem times{α:Type}{step:(α -> H->Prop)->α -> H->Prop}(n:Nat){d:α}{h:H}(k:iter step n d h):loop step d h:=⟨n,k⟩
end M
structure wY (α:Type) where
 enc:α -> List Value
 sz:Nat
 len:∀x,(enc x).length=sz
 plain:∀x,∀v∈enc x,ag v=true
namespace wY
variable {α:Type}(E:wY α)
def row(xs:List α):List Value:=xs.flatMap E.enc
theorem kN(x:α)(xs:List α):E.row (x::xs)=E.enc x++E.row xs:=rfl
theorem iX(xs ys:List α):E.row (xs++ys)=E.row xs++E.row ys:=by simp[row]
theorem row_one(x:α):E.row [x]=E.enc x:=by simp[row]
theorem jR:∀xs:List α,(E.row xs).length=xs.length*E.sz
 | []=>by simp[row]
 | x::xs=>by rw[kN,List.length_append,E.len,jR xs,List.length_cons,Nat.succ_mul,Nat.add_comm]
theorem iq(xs:List α):∀v∈E.row xs,ag v=true:=by
 intro v hv;simp only[row,List.mem_flatMap]at hv;obtain⟨x,_,hv⟩:=hv;exact E.plain x v hv
theorem IU:∀(xs:List α) (i k:Nat) (hi:i<xs.length),k<E.sz->(E.row xs)[i*E.sz+k]? = (E.enc xs[i])[k]?
 | x::xs,0,k,_,hk=>by rw[kN,Nat.zero_mul,Nat.zero_add,List.getElem?_append_left (by rw[E.len];exact hk)];rfl
 | x::xs,i+1,k,hi,hk=>by
  rw[kN,List.getElem?_append_right (by rw[E.len,Nat.succ_mul];omega),E.len];have:(i+1)*E.sz+k-E.sz=i*E.sz+k:=by rw[Nat.succ_mul];omega
  rw[this,IU xs i k (by simpa using hi) hk];rfl
theorem row_take(xs:List α)(n:Nat):(E.row xs).take (n*E.sz)=E.row (xs.take n):=by
 by_cases hn:n≤xs.length
 ·have h1:E.row xs=E.row (xs.take n)++E.row (xs.drop n):=by rw[←iX,List.take_append_drop]
  rw[h1,List.take_append_of_le_length (by rw[jR];simp[hn]),List.take_of_length_le (by rw[jR];simp[hn])]
 ·rw[List.take_of_length_le (by rw[jR];exact Nat.mul_le_mul_right _ (by omega)),List.take_of_length_le (by omega)]
theorem xG(n:Nat)(x:α):E.row (List.replicate n x)=gx (E.enc x) n:=by simp[row,gx,List.flatMap]
end wY
def eS:wY ByteArray:=⟨λs=>[.string s],1,λ_=>rfl,by simp[ag]⟩
def eI:wY Int:=⟨λn=>[.int .i64 n],1,λ_=>rfl,by simp[ag]⟩
def eB:wY Int:=⟨λn=>[.int .u8 n],1,λ_=>rfl,by simp[ag]⟩
def eT:wY Bool:=⟨λb=>[.bool b],1,λ_=>rfl,by simp[ag]⟩
def eU:wY U:=⟨λx=>[uv x],1,λ_=>rfl,by simp[ag,uv]⟩
theorem Ju(us:List U):kQ us=eU.row us:=by induction us with|nil=>rfl|cons x r ih=>rw[wY.kN,←ih];rfl
theorem DN(zs:List Int):oT zs=eB.row zs:=by induction zs with|nil=>rfl|cons x r ih=>rw[wY.kN,←ih];rfl
structure Ro {α:Type} (E:wY α) (h:H) (a:Option Addr) (l:Nat) (xs:List α):Prop where
 len:xs.length=l
 none:a=none->l=0
 row:∀b,a=some b->Sh.rowAt h b (E.row xs)
section
variable {α:Type}{E:wY α}{h h':H}{a:Option Addr}{l:Nat}{xs:List α}
theorem Ro.keep(f:Ro E h a l xs)(k:bq h h'):Ro E h' a l xs:=⟨f.len,f.none,λb e=>k.row (f.row b e)⟩
theorem Ro.nil:Ro E h .none 0 []:=⟨rfl,λ_=>rfl,λb e=>by simp at e⟩
theorem Wd.ro{h0:H}{L:List Chunk}{e:TypeId}{c:Nat}(w:Wd h0 h L)(i:Nat)(hi:L[i]? = some (.sl e E.sz a l c (E.row xs)))(hz:0<E.sz):Ro E h a l xs:=by
 obtain⟨h1,_,h3,h4⟩:=w.mI i hi;rw[E.jR]at h1;exact⟨Nat.eq_of_mul_eq_mul_right hz h1,λe=>(h3 e).2,h4⟩
theorem Ro.at(f:Ro E h a l xs){i:Int}{K:Addr->Nat->Prop}(h0:0≤i)(h1:i<l)
  (k:∀b,(hi:i.toNat<xs.length)->(∀j,j<E.sz->h.cell ((b.add (i.toNat * E.sz)).add j)=(E.enc xs[i.toNat])[j]?)->K b i.toNat):M.idx a l i K:=by
 have hi:i.toNat<xs.length:=by rw[f.len];omega
 cases a with
 | none=>have:=f.none rfl;omega
 | some b=>
  refine M.mq h0 h1 (k b hi λj hj=>?_);rw[KT,f.row b rfl _ (by rw[E.jR];exact Nat.lt_of_lt_of_le (Nat.add_lt_add_left hj _) (by rw[←Nat.succ_mul];exact Nat.mul_le_mul_right _ hi)),E.IU xs _ _ hi hj]
theorem Ro.QW(f:Ro E h a l xs)(hz:E.sz=1){i:Int}{K:Addr->Nat->Prop}(h0:0≤i)(h1:i<l)
  (k:∀b,(hi:i.toNat<xs.length)->h.cell (b.add i.toNat)=(E.enc xs[i.toNat])[0]? -> K b i.toNat):M.idx a l i K:=f.at h0 h1 λb hi hc=>k b hi (by
  have:=hc 0 (by omega)
  rwa [Addr.add_zero',hz,Nat.mul_one]at this)
end
def sa(xs:List ByteArray)(i:Nat):ByteArray:=xs.getD i empty
def za(xs:List Int)(i:Nat):Int:=xs.getD i 0
theorem kM{xs:List ByteArray}{i:Nat}(h:i<xs.length):sa xs i=xs[i]:=by simp[sa,h]
theorem kP{xs:List Int}{i:Nat}(h:i<xs.length):za xs i=xs[i]:=by simp[za,h]
theorem L8(xs:List Int):eI.row xs=xs.map (Value.int .i64):=by induction xs with|nil=>rfl|cons x r ih=>rw[wY.kN,ih];rfl
theorem MX(xs:List ByteArray):eS.row xs=xs.map Value.string:=by induction xs with|nil=>rfl|cons x r ih=>rw[wY.kN,ih];rfl
theorem Fu{α:Type}{E:wY α}(hz:E.sz=1){x:α}{v:Value}(hv:E.enc x=[v]):∀(xs:List α) (j:Nat),(E.row xs).set j v=E.row (xs.set j x)
 | [],_=>rfl
 | y::r,0=>by
  obtain⟨u,hu⟩:∃u,E.enc y=[u]:=List.length_eq_one_iff.1 (by rw[E.len,hz]);rw[List.set_cons_zero,wY.kN,wY.kN,hu,hv];rfl
 | y::r,j+1=>by
  obtain⟨u,hu⟩:∃u,E.enc y=[u]:=List.length_eq_one_iff.1 (by rw[E.len,hz]);rw[List.set_cons_succ,wY.kN,wY.kN,hu,←Fu hz hv r j];rfl
section
variable {h0 h:H}{L:List Chunk}{a:Option Addr}{l c:Nat}{z:Int}
theorem Ro.vu{xs:List ByteArray}{K:ByteArray->Prop}(f:Ro eS h a l xs)(h0:0≤z)(h1:z<l)(k:K (sa xs z.toNat)):M.idx a l z λb j=>M.load h (Addr.add b (j*1)) λv=>M.str v K:=by
 refine f.QW rfl h0 h1 λb hi hc=>?_;rw[Nat.mul_one,lc hc,fq,←kM hi];exact k
theorem Ro.Ii{xs:List Int}{K:Int->Prop}(f:Ro eI h a l xs)(h0:0≤z)(h1:z<l)(k:K (za xs z.toNat)):M.idx a l z λb j=>M.load h (Addr.add b (j*1)) λv=>M.int .i64 v K:=by
 refine f.QW rfl h0 h1 λb hi hc=>?_;rw[Nat.mul_one,lc hc,int_eq,←kP hi];exact k
theorem Ro.Sw{xs:List Int}{K:Int->Prop}(f:Ro eB h a l xs)(h0:0≤z)(h1:z<l)(k:K (za xs z.toNat)):M.idx a l z λb j=>M.load h (Addr.add b (j*1)) λv=>M.int .u8 v K:=by
 refine f.QW rfl h0 h1 λb hi hc=>?_;rw[Nat.mul_one,lc hc,int_eq,←kP hi];exact k
theorem Wd.xD{α:Type}{E:wY α}{e:TypeId}{xs:List α}{K:H->Prop}{v:Value}(w:Wd h0 h L)(i:Nat)(hi:L[i]? = some (.sl e 1 a l c (E.row xs)))(hz:E.sz=1)(x:α)(hv:E.enc x=[v])(z0:0≤z)(z1:z<l)
  (k:∀h',Wd h0 h' (L.set i (.sl e 1 a l c (E.row (xs.set z.toNat x))))->K h'):M.idx a l z λb j=>M.put h (Addr.add b (j*1)) v K:=by
 obtain⟨q1,_,q3,_⟩:=w.mI i hi;cases a with
 | none=>have:=(q3 rfl).2;omega
 | some b=>
  refine M.mq z0 z1 ?_;rw[Nat.mul_one];refine M.DH w i hi (E.plain x v (by rw[hv];simp)) (by rw[q1,Nat.mul_one];omega) λh' w=>k h' ?_
  rwa [Fu hz hv]at w
end
theorem zs:(∀n,gx [Value.string empty] n=eS.row (List.replicate n empty))∧(∀n,gx [Value.int .i64 0] n=eI.row (List.replicate n 0))∧(∀n,gx [Value.int .u8 0] n=eB.row (List.replicate n 0))∧(∀n,gx [Value.bool false] n=eT.row (List.replicate n false))
  ∧ (∀n,gx [Value.int .u32 0] n=eU.row (List.replicate n 0)):=
 ⟨λn=>(eS.xG n _).symm,λn=>(eI.xG n _).symm,λn=>(eB.xG n _).symm,λn=>(eT.xG n _).symm,λn=>(eU.xG n 0).symm⟩
end Go.Sh
namespace Go.Sh
open Go.RowKit
section
variable {h0 h h':H}{L:List Chunk}{a:Option Addr}{l c:Nat}{z:Int}{e:TypeId}{us:List U}{zs:List Int}
theorem Wd.Pg(w:Wd h0 h L)(i:Nat)(hi:L[i]? = some (.sl e 1 a l c (kQ us))):Ro eU h a l us:=w.ro i (by rw[←Ju];exact hi) (by decide)
theorem Ro.OX{xs:List U}{K:Int->Prop}(f:Ro eU h a l xs)(h0:0≤z)(h1:z<l)(k:K (ui (xs.getD z.toNat 0))):M.idx a l z λb j=>M.load h (Addr.add b (j*1)) λv=>M.int .u32 v K:=by
 refine f.QW rfl h0 h1 λb hi hc=>?_;have hc':h.cell (b.add z.toNat)=some (.int .u32 (ui (xs[z.toNat]))):=hc;have:xs.getD z.toNat 0=xs[z.toNat]:=by simp[hi]
 rw[Nat.mul_one,lc hc',int_eq,←this];exact k
theorem Wd.OW{K:ByteArray->Prop}(w:Wd h0 h L)(i:Nat)(hi:L[i]? = some (.sl e 1 a l c (eB.row zs)))(k:K (ofBytes zs)):M.xX h a l K:=w.text i (by rw[DN];exact hi) k
theorem HF(a b:Nat):mn (a:Int) (b:Int)=((min a b:Nat):Int):=by unfold mn;split<;>omega
theorem Ro.Ho{α:Type}{E:wY α}{b n:Nat}{c:Array Value}{f:Nat×Nat}{xs:List α}(hb:h b=some (.cells c e f))(hc:c=(E.row xs).toArray)(hn:xs.length=n):Ro E h (some ⟨b,0,Option.none⟩) n xs:=by
 subst hc hn;refine⟨rfl,λe=>by simp at e,λb' e=>?_⟩;simp only[Option.some.injEq]at e;subst e;intro i hi;rw[aS,dA hb,Nat.zero_add,List.getElem?_toArray]
theorem Wd.cells{size:Nat}{xs:List Value}{K:List Value->Prop}(w:Wd h0 h L)(i:Nat)(hi:L[i]? = some (.sl e size a l c xs))(k:K xs):M.cellsOf h a (l*size) K:=by
 obtain⟨q1,_,q3,q4⟩:=w.mI i hi;exact M.nL q1 (λe=>(q3 e).1) q4 k
theorem M.qz{o:Obj}{K:Nat->H->Prop}(w:Wd h0 h L)(k:∀b h',bq h h'->Wd h0 h' (L++[.blk b o])->K b h'):M.new h o K:=λb hb=>k b _ ((bq.refl h).new hb o) (w.new hb o)
theorem M.Mw{K:H->Prop}{b:Nat}{c:Array Value}{vs:List Value}(w:Wd h0 h L)(i:Nat)(hi:L[i]? = some (.blk b (.cells c e (0,0))))(hp:∀v∈vs,ag v=true)(hn:vs.length=c.size)
  (k:∀h',Wd h0 h' (L.set i (.blk b (.cells vs.toArray e (0,0))))->K h'):M.copy h (some ⟨b,0,none⟩) vs K:=by
 refine M.vM w i hi hp (by omega) λh' w=>k h' ?_
 rwa [wG hn]at w
end
/-! ### Bytes -/
theorem Rx(a:ByteArray):a.size=a.data.toList.length:=Array.length_toList.symm
theorem kZ(a b:ByteArray)(i:Nat):aF (a++b) i=if i<a.size then aF a i else aF b (i-a.size):=by
 unfold aF;rw[ByteArray.data_append,Array.toList_append];have e:=Rx a;split
 ·rw[List.getD_eq_getElem?_getD,List.getD_eq_getElem?_getD,List.getElem?_append_left (by omega)]
 ·rw[List.getD_eq_getElem?_getD,List.getD_eq_getElem?_getD,List.getElem?_append_right (by omega),e]
theorem kJ(s:ByteArray)(i j k:Nat)(hk:i+k<j)(hj:j≤s.size):aF (s.extract i j) k=aF s (i+k):=by
 unfold aF;rw[ByteArray.data_extract,Array.toList_extract,List.extract_eq_take_drop,List.getD_eq_getElem?_getD,List.getD_eq_getElem?_getD,List.getElem?_take,if_pos (by omega),List.getElem?_drop]
theorem Ec(s:ByteArray):(List.range s.size).map (aF s)=s.data.toList.map λb=>(b.toNat:Int):=by
 apply List.ext_getElem?;intro i;rw[List.getElem?_map,List.getElem?_map];by_cases hi:i<s.size
 ·have h2:i<s.data.toList.length:=by rw[←Rx];exact hi
  have h3:s.data.toList.getD i 0=s.data.toList[i]:=by rw[List.getD_eq_getElem?_getD,List.getElem?_eq_getElem h2];rfl
  rw[List.getElem?_range hi,List.getElem?_eq_getElem h2];show some (aF s i)=some _;rw[aF,h3]
 ·rw[List.getElem?_eq_none (by rw[List.length_range];omega),List.getElem?_eq_none (by rw[←Rx];omega)];rfl
def yp(n:Nat)(f:Nat->Int):ByteArray:=ofBytes ((List.range n).map f)
theorem qu(n:Nat)(f:Nat->Int):(yp n f).size=n:=by simp[yp,ofBytes,ByteArray.size]
theorem yh{n:Nat}{f g:Nat->Int}(h:∀i,i<n->f i=g i):yp n f=yp n g:=by
 unfold yp;rw[List.map_congr_left λi hi=>h i (List.mem_range.1 hi)]
theorem Gl(s:ByteArray):yp s.size (aF s)=s:=by
 unfold yp;rw[Ec];obtain⟨d⟩:=s;have:(λz:Int=>UInt8.ofNat z.toNat) ∘ (λb:UInt8=>(b.toNat:Int))=id:=by funext b;simp
 simp[ofBytes,this]
theorem sI(n:Nat)(f:Nat->Int)(i:Nat)(hi:i<n)(hf:0≤f i∧f i<256):aF (yp n f) i=f i:=by
 unfold aF yp ofBytes;simp only[List.getD_eq_getElem?_getD,List.getElem?_map,List.getElem?_range hi,Option.map_some,Option.getD_some];rw[UInt8.toNat_ofNat'];omega
theorem FN(n:Nat)(f:Nat->Int)(hf:∀i,i<n->0≤f i∧f i<256):bytesOf (yp n f)=oT ((List.range n).map f):=by
 have h1:=Ec (yp n f);rw[qu]at h1;rw[bytesOf,oT];have:(yp n f).data.toList.map (λb=>Value.int .u8 (b.toNat:Int))=((yp n f).data.toList.map λb=>(b.toNat:Int)).map (Value.int .u8):=by rw[List.map_map];rfl
 rw[this,←h1,List.map_congr_left λi hi=>sI n f i (List.mem_range.1 hi) (hf i (List.mem_range.1 hi))]
theorem zZ{s t:ByteArray}(h1:s.size=t.size)(h2:∀i,i<s.size->aF s i=aF t i):s=t:=by
 rw[←Gl s,←Gl t,←h1];exact yh h2
theorem K5(m n:Nat)(f:Nat->Int):(List.range m).map f++(List.range n).map (λi=>f (m+i))=(List.range (m+n)).map f:=by
 rw[List.range_add,List.map_append,List.map_map];rfl
def bx(a b:Int):Int:=mZ .u8 a b
theorem HO{a b:Int}(ha:0≤a∧a<256)(hb:0≤b∧b<256):bx a b=((a.toNat ^^^ b.toNat:Nat):Int):=by
 have e:∀x:Int,0≤x∧x<256->(BitVec.ofInt 8 x).toNat=x.toNat:=λx h=>by rw[BitVec.toNat_ofInt];omega
 have h1:(BitVec.ofInt 8 a ^^^ BitVec.ofInt 8 b).toNat=a.toNat ^^^ b.toNat:=by rw[BitVec.toNat_xor,e a ha,e b hb]
 show wrap .u8 ((BitVec.ofInt 8 a ^^^ BitVec.ofInt 8 b).toNat:Int)=_;have h2:a.toNat ^^^ b.toNat<2^8:=Nat.xor_lt_two_pow (by omega) (by omega);rw[h1,IntKind.wrap_u8];omega
theorem II(a b:Int):0≤bx a b∧bx a b<256:=by
 unfold bx mZ;rw[IntKind.wrap_u8];omega
end Go.Sh
namespace Go.Proofs.YtmfcgihgdhfalaaGreatDoor
open Go.Sh Go.RowKit
def oQ(s:S8)(r:ByteArray)(n:Int):Obj:=.cells #[.int .u32 (ui s.a),.int .u32 (ui s.b),.int .u32 (ui s.c),.int .u32 (ui s.d),.int .u32 (ui s.e),.int .u32 (ui s.f),.int .u32 (ui s.g),.int .u32 (ui s.i),.string r,.int .i64 n] 367 (0,0)
theorem P9{us:List U}{N:Nat}{i:Int}{K:Int->Prop}(n:Nat)(hi:i=(n:Int))(hn:n<N)(hl:us.length=N)(k:K (ui (jV us n))):M.fk N i λj=>M.at (List.toArray (kQ us)) (j*1) λv=>M.int .u32 v K:=by
 subst hi;refine⟨by omega,by omega,?_⟩;refine⟨.int .u32 (ui (jV us n)),?_,by show M.int .u32 _ K;rw[int_eq];exact k⟩;rw[Int.toNat_natCast,Nat.mul_one,List.getElem?_toArray,Ek us n (by omega),rX us n (by omega)]
theorem JZ{h0 h:H}{b:Nat}{s:S8}{r t:ByteArray}{n:Int}{Q:H->Prop}(w:Wd h0 h [.blk b (oQ s r n)])(ht:t.size=64)(tb:Tabs h0)(k:∀h',Wd h0 h' [.blk b (oQ (s.block t) r n)]->Q h'):
  eu (some ⟨b,0,none⟩) t h Q:=by
 unfold eu;unfold oQ at w;have hlen:(gX (bP true t) 48).length=64:=by rw[oD,ju,ht]
 have sched:∀{h:H} {Q:Array Value->H->Prop} (k:∀h',bq h h'->Q (kQ (gX (bP true t) 48)).toArray h'),fe t h Q:=λk=>B8 ht k;have hbk:s.block t=s.add (u6 (gX (bP true t) 48) s 64):=rfl;generalize gX (bP true t) 48=sc at hlen sched hbk;have hsz:(kQ sc).toArray.size=64:=by rw[List.size_toArray,jd,hlen]
 have hsz2:(kQ sc).toArray.toList.length=(Array.replicate 64 (Value.int .u32 0)).size:=by simpa using hsz
 have hpl:∀v∈(kQ sc).toArray.toList,ag v=true:=pX _;refine M.aO (λd h'=>∃b1 b2,d=(⟨b1,0,none⟩,⟨b2,0,none⟩)∧Wd h0 h' [.blk b (oQ s r n),.blk b1 (.cells (kQ sc).toArray 402),.blk b2 (.cells (kQ s.l).toArray 365)]) (λJ hJ=>?_) ?_
 ·have hs:=w.blk 0 rfl;simp only[bs,lb (w.blk 0 rfl)];refine⟨?_,?_⟩;refine sched λh1 k_=>?_;have w:=w.keeps k_;clear k_;refine M.still_at hs (w.blk 0 rfl) ?_;refine⟨?_,?_⟩;refine M.qz w λb3 h2 kk4 w=>?_;refine M.still_at hs (w.blk 0 rfl) ?_;refine M.qz w λb6 h5 kk7 w=>?_;refine M.still_at hs (w.blk 0 rfl) ?_;refine⟨(by assumption),?_⟩;refine M.bz w 1 rfl (by assumption) (by assumption) λh8 w=>?_;simp only[bs]at w;refine M.still_at hs (w.blk 0 rfl) ?_;refine⟨(rfl),?_⟩;refine M.bz w 2 rfl (by simp[ag]) (by simp) λh9 w=>?_;simp only[bs]at w;rotate_left;refine M.qz w λb11 h10 kk12 w=>?_;refine M.still_at hs (w.blk 0 rfl) ?_;refine M.qz w λb14 h13 kk15 w=>?_;refine M.still_at hs (w.blk 0 rfl) ?_;refine⟨(by assumption),?_⟩;refine M.bz w 2 rfl (by assumption) (by assumption) λh16 w=>?_;simp only[bs]at w;refine M.still_at hs (w.blk 0 rfl) ?_;refine⟨(rfl),?_⟩;refine M.bz w 1 rfl (by simp[ag]) (by simp) λh17 w=>?_;simp only[bs]at w;rotate_left;refine⟨?_,?_⟩;refine M.qz w λb19 h18 kk20 w=>?_;refine M.still_at hs (w.blk 0 rfl) ?_;refine⟨?_,?_⟩;refine sched λh21 k_=>?_;have w:=w.keeps k_;clear k_;refine M.still_at hs (w.blk 0 rfl) ?_;refine M.qz w λb23 h22 kk24 w=>?_;refine M.still_at hs (w.blk 0 rfl) ?_;refine⟨(by assumption),?_⟩;refine M.bz w 1 rfl (by assumption) (by assumption) λh25 w=>?_;simp only[bs]at w;refine M.still_at hs (w.blk 0 rfl) ?_;refine⟨(rfl),?_⟩;refine M.bz w 2 rfl (by simp[ag]) (by simp) λh26 w=>?_;simp only[bs]at w;rotate_left;refine M.qz w λb28 h27 kk29 w=>?_;refine M.still_at hs (w.blk 0 rfl) ?_
  refine sched λh30 k_=>?_;have w:=w.keeps k_;clear k_;refine M.still_at hs (w.blk 0 rfl) ?_;refine⟨(by assumption),?_⟩;refine M.bz w 1 rfl (by assumption) (by assumption) λh31 w=>?_;simp only[bs]at w;refine M.still_at hs (w.blk 0 rfl) ?_;refine⟨(rfl),?_⟩;refine M.bz w 2 rfl (by simp[ag]) (by simp) λh32 w=>?_;simp only[bs]at w;rotate_left;refine M.qz w λb34 h33 kk35 w=>?_;refine M.still_at hs (w.blk 0 rfl) ?_;refine⟨?_,?_⟩;refine sched λh36 k_=>?_;have w:=w.keeps k_;clear k_;refine M.still_at hs (w.blk 0 rfl) ?_;refine M.qz w λb38 h37 kk39 w=>?_;refine M.still_at hs (w.blk 0 rfl) ?_;refine⟨(by assumption),?_⟩;refine M.bz w 2 rfl (by assumption) (by assumption) λh40 w=>?_;simp only[bs]at w;refine M.still_at hs (w.blk 0 rfl) ?_;refine⟨(rfl),?_⟩;refine M.bz w 1 rfl (by simp[ag]) (by simp) λh41 w=>?_;simp only[bs]at w;rotate_left;refine M.qz w λb43 h42 kk44 w=>?_;refine M.still_at hs (w.blk 0 rfl) ?_;refine sched λh45 k_=>?_;have w:=w.keeps k_;clear k_;refine M.still_at hs (w.blk 0 rfl) ?_;refine⟨(by assumption),?_⟩;refine M.bz w 2 rfl (by assumption) (by assumption) λh46 w=>?_;simp only[bs]at w;refine M.still_at hs (w.blk 0 rfl) ?_;refine⟨(rfl),?_⟩;refine M.bz w 1 rfl (by simp[ag]) (by simp) λh47 w=>?_;simp only[bs]at w;rotate_left
  all_goals first
   | exact hJ _ _ ⟨_,_,rfl,w⟩
   | exact hJ _ _ ⟨_,_,rfl,w.mv (i:=1) rfl⟩
 rintro _ h1 ⟨b1,b2,rfl,w⟩;obtain⟨R,hR0,hRs,hR64⟩:∃R:Nat->S8,R 0=s∧(∀n,R (n+1)=(R n).Qc (jV tr n) (jV sc n))∧u6 sc s 64=R 64:=⟨u6 sc s,rfl,λ_=>rfl,rfl⟩;rw[hbk,hR64]at k;refine M.jn ?_;refine⟨kQ tr,by rw[jd];rfl,w.keep.row tb.k1,?_⟩;refine M.aP (I:=λ(i:Int) h'=>∃m:Nat,m≤64∧i=(m:Int)∧Wd h0 h' [.blk b (oQ s r n),.blk b1 (.cells (kQ sc).toArray 402),.blk b2 (.cells (kQ (R m).l).toArray 365)]) (μ:=λi=>(64-i).toNat) ⟨0,by omega,rfl,by rw[hR0];exact w⟩ ?_;rintro i h2 J ⟨m,hm,rfl,w⟩ hJ;by_cases hlt:m<64
 ·refine eN (by omega) ?_;have r1:=hM (w.blk 1 rfl);have r2:=hM (w.blk 2 rfl);have hl8:(R m).l.length=8:=rfl;refine P9 m rfl hlt rfl ?_;refine iT r2 0 rfl (by omega) hl8 ?_;refine iT r2 4 rfl (by omega) hl8 ?_;refine lp (lp (M.dN (lp (M.dN ?_))));refine lp (lp (M.dN (lp (M.dN ?_))));refine iT r2 7 rfl (by omega) hl8 (M.dN ?_);refine iT r2 5 rfl (by omega) hl8 (M.dN (M.dN ?_));refine iT r2 6 rfl (by omega) hl8 (M.dN (M.dN (M.dN (M.dN ?_))));refine iT r1 m rfl (by omega) (by rw[hlen]) (M.dN ?_);refine iT r2 1 rfl (by omega) hl8 (M.dN ?_);refine iT r2 2 rfl (by omega) hl8 (M.dN (M.dN ?_));refine iT r2 1 rfl (by omega) hl8 ?_;refine iT r2 2 rfl (by omega) hl8 (M.dN (M.dN (M.dN ?_)));simp only[DY,nU,kj,NQ,Int.reduceMod,reduceToNat];have hs:=w.blk 2 rfl;have v5:wrap .i64 ((m:Int)+1)=((m+1:Nat):Int):=by rw[IntKind.wrap_i64];omega
  have hn:R (m+1)=(R m).Qc (jV tr m) (jV sc m):=hRs m;generalize R m=q at *;simp only[kQ,S8.l,List.map,uv]at w;refine M.sx 1 8 rfl rfl (by decide) (by decide) (by decide) ?_;simp only[Nat.reduceAdd,Nat.reduceMul,Nat.reduceSub];refine M.sx 0 7 rfl rfl (by decide) (by decide) (by decide) ?_;simp only[Nat.reduceAdd,Nat.reduceMul,Nat.reduceSub];refine M.wX (w.blk 2 rfl) (by simp) ?_;simp only[bl,Nat.min_self];refine M.vM w 2 rfl (by simp[ag]) (by simp) λh3 w=>?_;simp only[bs,bl]at w;refine M.dN ?_;refine⟨(by omega),(by omega),?_⟩;simp only[bs,reduceToNat,kj,lb (w.blk 2 rfl)];refine M.dN ?_;refine⟨(by omega),(by omega),?_⟩;simp only[];simp only[bs,reduceToNat];refine M.bg w 2 rfl rfl (by simp) λh5 w=>?_;simp only[bs]at w;refine⟨(by omega),(by omega),?_⟩;simp only[];simp only[Nat.reduceMul,reduceToNat];refine M.bg w 2 rfl rfl (by simp) λh7 w=>?_;simp only[bs]at w;refine M.dN ?_;rw[v5];refine hJ _ _ ⟨m+1,by omega,rfl,?_⟩ (by omega);rw[hn];exact w
 ·refine gI (by omega) ?_;obtain rfl:m=64:=by omega
  generalize R 64=q at *;have hs:=w.blk 2 rfl;simp only[bs,Nat.reduceAdd,lb hs,kQ,S8.l,List.map,uv];refine M.times 9 ?_;unfold oQ at w;refine M.bM ?_;refine eN (by omega) ?_;refine⟨(by omega),(by omega),?_⟩;simp only[];simp only[bs,reduceToNat,lb (w.blk 0 rfl)];refine⟨(by omega),(by omega),?_⟩;simp only[];simp only[bs,reduceToNat,kj];refine M.dN ?_;refine⟨(by omega),(by omega),?_⟩;simp only[];simp only[bs,reduceToNat];refine M.bg w 0 rfl rfl (by simp) λh4 w=>?_;simp only[bs]at w;refine M.vis (1) (by decide) ?_;refine M.bM ?_;refine eN (by omega) ?_;refine⟨(by omega),(by omega),?_⟩;simp only[];simp only[bs,reduceToNat,lb (w.blk 0 rfl)];refine⟨(by omega),(by omega),?_⟩;simp only[];simp only[bs,reduceToNat,kj];refine M.dN ?_;refine⟨(by omega),(by omega),?_⟩;simp only[];simp only[Nat.reduceMul,reduceToNat];refine M.bg w 0 rfl rfl (by simp) λh6 w=>?_;simp only[bs]at w;refine M.vis (2) (by decide) ?_;refine M.bM ?_;refine eN (by omega) ?_;refine⟨(by omega),(by omega),?_⟩;simp only[];simp only[bs,reduceToNat,lb (w.blk 0 rfl)];refine⟨(by omega),(by omega),?_⟩;simp only[];simp only[bs,reduceToNat,kj];refine M.dN ?_;refine⟨(by omega),(by omega),?_⟩;simp only[];simp only[Nat.reduceMul,reduceToNat];refine M.bg w 0 rfl rfl (by simp) λh8 w=>?_;simp only[bs]at w;refine M.vis (3) (by decide) ?_;refine M.bM ?_;refine eN (by omega) ?_;refine⟨(by omega),(by omega),?_⟩;simp only[];simp only[bs,reduceToNat,lb (w.blk 0 rfl)];refine⟨(by omega),(by omega),?_⟩;simp only[]
  simp only[bs,reduceToNat,kj];refine M.dN ?_;refine⟨(by omega),(by omega),?_⟩;simp only[];simp only[Nat.reduceMul,reduceToNat];refine M.bg w 0 rfl rfl (by simp) λh10 w=>?_;simp only[bs]at w;refine M.vis (4) (by decide) ?_;refine M.bM ?_;refine eN (by omega) ?_;refine⟨(by omega),(by omega),?_⟩;simp only[];simp only[bs,reduceToNat,lb (w.blk 0 rfl)];refine⟨(by omega),(by omega),?_⟩;simp only[];simp only[bs,reduceToNat,kj];refine M.dN ?_;refine⟨(by omega),(by omega),?_⟩;simp only[];simp only[Nat.reduceMul,reduceToNat];refine M.bg w 0 rfl rfl (by simp) λh12 w=>?_;simp only[bs]at w;refine M.vis (5) (by decide) ?_;refine M.bM ?_;refine eN (by omega) ?_;refine⟨(by omega),(by omega),?_⟩;simp only[];simp only[bs,reduceToNat,lb (w.blk 0 rfl)];refine⟨(by omega),(by omega),?_⟩;simp only[];simp only[bs,reduceToNat,kj];refine M.dN ?_;refine⟨(by omega),(by omega),?_⟩;simp only[];simp only[Nat.reduceMul,reduceToNat];refine M.bg w 0 rfl rfl (by simp) λh14 w=>?_;simp only[bs]at w;refine M.vis (6) (by decide) ?_;refine M.bM ?_;refine eN (by omega) ?_;refine⟨(by omega),(by omega),?_⟩;simp only[];simp only[bs,reduceToNat,lb (w.blk 0 rfl)];refine⟨(by omega),(by omega),?_⟩;simp only[];simp only[bs,reduceToNat,kj];refine M.dN ?_;refine⟨(by omega),(by omega),?_⟩;simp only[];simp only[Nat.reduceMul,reduceToNat];refine M.bg w 0 rfl rfl (by simp) λh16 w=>?_;simp only[bs]at w;refine M.vis (7) (by decide) ?_;refine M.bM ?_;refine eN (by omega) ?_;refine⟨(by omega),(by omega),?_⟩
  simp only[];simp only[bs,reduceToNat,lb (w.blk 0 rfl)];refine⟨(by omega),(by omega),?_⟩;simp only[];simp only[bs,reduceToNat,kj];refine M.dN ?_;refine⟨(by omega),(by omega),?_⟩;simp only[];simp only[Nat.reduceMul,reduceToNat];refine M.bg w 0 rfl rfl (by simp) λh18 w=>?_;simp only[bs]at w;refine M.vis (8) (by decide) ?_;refine M.bM ?_;refine gI (by omega) ?_;exact k _ (w.drop (i:=1) rfl |>.drop (i:=1) rfl)
theorem GJ{p q:ByteArray}{i j:Nat}(hj:j≤p.size):(p++q).extract i j=p.extract i j:=by
 rw[ByteArray.extract_append];have:j-p.size=0:=by omega
 have e:q.extract (i-p.size) 0=empty:=ByteArray.extract_eq_empty_iff.2 (by simp);rw[this,e,ByteArray.append_empty]
theorem yM(u:ByteArray){i:Nat}(hi:i≤u.size):u.extract 0 i++u.extract i u.size=u:=by
 rw[ByteArray.extract_append_extract,Nat.min_eq_left (by omega),Nat.max_eq_right (by omega),ByteArray.extract_zero_size]
theorem yy(s:S8)(p q:ByteArray):∀k,64*k≤p.size->pF s (p++q) k=pF s p k
 | 0,_=>rfl
 | k+1,h=>by rw[pF,pF,yy s p q k (by omega),GJ (by omega)]
theorem G1(s:S8)(p q:ByteArray)(k:Nat)(hp:p.size=64*k)(hq:q.size=64):pF s (p++q) (k+1)=(pF s p k).block q:=by
 rw[pF,yy s p q k (by omega),ByteArray.extract_append_eq_right hp.symm (by omega)]
def RA(t:ByteArray)(s:S8)(r:ByteArray):Prop:=∃p j,p.size=64*j∧t=p++r∧s=pF S8.first p j∧r.size<64
theorem zF{h0 h:H}{b:Nat}{s:S8}{r t x:ByteArray}{n:Int}{Q:H->Prop}(w:Wd h0 h [.blk b (oQ s r n)])(ab:RA t s r)(hn:n=t.size)(hx:t.size+x.size≤1000000)(tb:Tabs h0)
  (k:∀h' s' r',RA (t++x) s' r'->Wd h0 h' [.blk b (oQ s' r' ((t++x).size:Nat))]->Q h'):cN (some ⟨b,0,none⟩) x h Q:=by
 unfold cN;obtain⟨p,j,hp,ht,hs,hr⟩:=ab;have hsz:t.size=p.size+r.size:=by rw[ht,ByteArray.size_append]
 have hmax:IntKind.i64.max=9223372036854775807:=by decide
 have hv:wrap .i64 (n+(x.size:Int))=((t++x).size:Nat):=by rw[IntKind.wrap_i64,ByteArray.size_append];omega
 unfold oQ at w;refine cf (rfl) ?_;simp only[bs,hv,lb (w.blk 0 rfl)];refine M.dN ?_;refine M.bg w 0 rfl rfl (by simp) λh1 w=>?_;simp only[bs]at w;simp only[bs,lb (w.blk 0 rfl)];refine⟨(by omega),?_⟩;have w':Wd h0 _ [.blk b (oQ s r ((t++x).size:Nat))]:=w;refine M.jn ?_;refine M.aP (I:=λ(u:ByteArray) h'=>∃p j s,p.size=64*j∧t++x=p++u∧s=pF S8.first p j∧Wd h0 h' [.blk b (oQ s r ((t++x).size:Nat))]) (μ:=λu=>u.size) ⟨p,j,s,hp,by rw[ht,ByteArray.append_assoc],hs,w'⟩ ?_
 clear w w';rintro u h2 J ⟨p,j,s,hp,ht,hs,w⟩ hJ;have hu:t.size+x.size=p.size+u.size:=by rw[←ByteArray.size_append,ht,ByteArray.size_append]
 by_cases hlt:(u.size:Int)≥64
 ·refine eN hlt ?_;have e64:(u.extract (Int.toNat 0) (Int.toNat 64)).size=64:=by rw[ByteArray.size_extract];simp;omega
  refine⟨(by omega),(by omega),(by assumption),?_⟩;refine JZ w (by assumption) (by assumption) λh3 w_=>?_;have w:=w_;clear w_;refine⟨(by omega),(by assumption),(by omega),?_⟩;refine hJ _ _ ⟨p++u.extract 0 64,j+1,_,?_,?_,?_,w⟩ ?_
  ·rw[ByteArray.size_append,ByteArray.size_extract];omega
  ·rw[ht,ByteArray.append_assoc];congr 1;exact(yM u (by omega)).symm
  ·rw[hs];exact(G1 _ _ _ _ hp e64).symm
  ·rw[ByteArray.size_extract];simp;omega
 ·refine gI hlt ?_;unfold oQ at w;simp only[];refine M.bg w 0 rfl rfl (by simp) λh3 w=>?_;simp only[bs]at w;exact k _ s u ⟨p,j,hp,ht,hs,by omega⟩ w
theorem repeatL_one(n:Nat):Lib.repeatL [(0:UInt8)] n=List.replicate n 0:=by
 induction n with
 | zero=>rfl
 | succ n ih=>rw[Lib.repeatL,ih,List.replicate_succ];rfl
theorem uV{h:H}{n:Int}{Q:ByteArray->H->Prop}(h0:0≤n)(h1:n≤1000000)(k:∀h',bq h h'->Q (kL n.toNat) h'):strings_Repeat ⟨#[0]⟩ n h Q:=by
 refine⟨h0,?_,by omega,λh' k'=>?_⟩
 ·have:(ByteArray.size ⟨#[0]⟩:Int)=1:=rfl;rw[this];omega
 ·have e:(⟨(Lib.repeatL (ByteArray.mk #[0]).data.toList n.toNat).toArray⟩:ByteArray)=kL n.toNat:=by
   show(⟨(Lib.repeatL [0] n.toNat).toArray⟩:ByteArray)=_;rw[repeatL_one,kL,ofBytes,List.map_replicate];rfl
  rw[e];exact k h' k'
theorem rA{h:H}{b:Nat}{us:List U}{rest:List Value}{e:TypeId}{f:Nat×Nat}(hb:h b=some (.cells (kQ us++rest).toArray e f))(hs:us.length≤1000000):Words h (some ⟨b,0,none⟩) us.length us:=by
 refine⟨rfl,hs,λe=>by simp at e,λb' e=>?_⟩;simp only[Option.some.injEq]at e;subst e;intro i hi;rw[aS,dA hb,Nat.zero_add,List.getElem?_toArray,List.getElem?_append_left hi]
theorem Mi(n:Nat):(AN n).length=2:=rfl
theorem JW{t p r:ByteArray}{s':S8}{r':ByteArray}(ab:RA (t++q8 t.size) s' r'):nO t=lf true s'.l:=by
 obtain⟨q,j,hq,ht,hs,hr⟩:=ab;obtain⟨q1,q2⟩:=x9 t.size;have h1:t.size+(q8 t.size).size=q.size+r'.size:=by rw[←ByteArray.size_append,ht,ByteArray.size_append]
 have h2:r'.size=0:=by omega
 have h3:(t.size+(q8 t.size).size)/64=j:=by omega
 rw[nO,h3,ht,yy _ _ _ _ (by omega),hs]
theorem K7{h0 h:H}{b:Nat}{s:S8}{r t:ByteArray}{n:Int}{Q:ByteArray->H->Prop}(w:Wd h0 h [.blk b (oQ s r n)])(ab:RA t s r)(hn:n=t.size)(hx:t.size≤900000)(tb:Tabs h0)
  (k:∀h',Wd h0 h' [.blk b (oQ s r n)]->Q (nO t) h'):fY (some ⟨b,0,none⟩) h Q:=by
 unfold fY fY.g;obtain⟨q1,q2⟩:=x9 t.size;have hr:r.size=t.size%64:=by
  obtain⟨p,j,hp,ht,hs,hr⟩:=ab;rw[ht,ByteArray.size_append];omega
 have hmax:IntKind.i64.max=9223372036854775807:=by decide
 have v1:wrap .u64 n=t.size:=by rw[IntKind.wrap_u64];omega
 have v2:wrap .u64 ((t.size:Int)*8)=((8*t.size:Nat):Int):=by rw[IntKind.wrap_u64];omega
 have v3:wrap .i64 (119-(r.size:Int))=((119-t.size%64:Nat):Int):=by rw[IntKind.wrap_i64];omega
 have v4:Int.tmod ((119-t.size%64:Nat):Int) 64=(pM t.size:Int):=by rw[Int.tmod_eq_emod_of_nonneg (by omega),pM];omega
 have v5:wrap .u32 (shr .u64 ((8*t.size:Nat):Int) 32)=ui (BitVec.ofNat 32 (8*t.size/4294967296)):=by
  have:shr .u64 ((8*t.size:Nat):Int) 32=((8*t.size/4294967296:Nat):Int):=xB .u64 _ 32 (by decide);rw[this,IntKind.wrap_u32,ui,BitVec.toNat_ofNat];omega
 have v6:wrap .u32 ((8*t.size:Nat):Int)=ui (BitVec.ofNat 32 (8*t.size)):=by rw[IntKind.wrap_u32,ui,BitVec.toNat_ofNat];omega
 have hpn:=(Ad t.size).2.1;unfold oQ at w;refine cf (rfl) ?_;simp only[bs,lb (w.blk 0 rfl)];refine M.aK w λb2 h1 w=>?_;refine⟨(rfl),?_⟩;refine M.bz w 1 rfl (by simp[ag]) (by simp) λh3 w=>?_;simp only[bs]at w;simp only[bs,v1,v3,lb (w.blk 0 rfl)];refine M.dN ?_;simp only[v2];refine M.dN ?_;simp only[v6];refine M.dN ?_;refine⟨(by omega),?_⟩;simp only[v4];refine M.dN ?_;refine uV (by omega) (by omega) λh4 k_=>?_;have w:=w.keeps k_;clear k_;refine⟨(by simp only[Rh,v1,v2,v3,v4,v5,v6,Int.toNat_natCast,nK];omega),?_⟩;refine⟨(by omega),?_⟩;simp only[Int.toNat_natCast];refine M.dN ?_;simp only[v5];refine M.dN ?_;refine M.dN ?_;refine M.aK w λb6 h5 w=>?_;refine pR (rA (us:=AN t.size) (rest:=[]) (w.blk 2 rfl) (by simp[AN])) λh7 k_=>?_;have w:=w.keeps k_;refine⟨(by simp only[Rh,nK,kV,Mi];omega),?_⟩;simp only[];obtain⟨hx,k0,k1,wx,wr,back⟩:=w.on (i:=1) rfl;refine zF wx ab hn ?_ (tb.keep k0) λh8 s' r' ab' w1=>?_
 ·have:((⟨#[128]⟩++kL (pM t.size))++lf true (AN t.size)).size=(q8 t.size).size:=rfl;omega
 have w:=back _ _ w1;rw[JW (r:=r) (p:=r) ab']at k;unfold oQ at w;refine M.sx 0 8 rfl rfl (by decide) (by decide) (by decide) ?_;simp only[Nat.reduceAdd,Nat.reduceMul,Nat.reduceSub];refine pR (rA (us:=s'.l) (w.blk 1 rfl) (show 8≤1000000 by decide)) λh7 k_=>?_;have w:=w.keeps k_;exact k _ (w.drop (i:=1) rfl |>.drop (i:=1) rfl)
theorem Kb{h:H}{Q:Option Addr->H->Prop}(tb:Tabs h)(k:∀b h',Wd h h' [.blk b (oQ S8.first empty 0)]->Q (some ⟨b,0,none⟩) h'):kX h Q:=by
 unfold kX;have hr:=tb.f0;refine jW hr 0 (by decide) (jW hr 1 (by decide) (jW hr 2 (by decide) (jW hr 3 (by decide) (jW hr 4 (by decide) (jW hr 5 (by decide) (jW hr 6 (by decide) (jW hr 7 (by decide) ?_)))))));have w:=Wd.start h;refine M.aK w λb2 h1 w=>?_;exact k _ _ w
theorem Ai{h:H}{t:ByteArray}{Q:ByteArray->H->Prop}(hx:t.size≤900000)(tb:Tabs h)(k:∀h',bq h h'->Q (nO t) h'):iV t h Q:=by
 unfold iV;refine Kb tb λb h1 w=>?_;refine zF w (t:=empty) ⟨empty,0,rfl,rfl,rfl,by decide⟩ rfl (by have:ByteArray.empty.size=0:=rfl;omega) tb λh2 s' r' ab w=>?_;rw[ByteArray.empty_append]at ab w;refine K7 w ab rfl hx tb λh3 w=>?_;exact k _ w.keep
def dH(k:UInt8)(t:ByteArray):ByteArray:=nO (⟨#[k]⟩++t)
section
variable {h:H}{t:ByteArray}{Q:ByteArray->H->Prop}
theorem yA(hx:t.size≤800000)(tb:Tabs h)(k:∀h',bq h h'->Q (dH 0 t) h'):gM t h Q:=by
 unfold gM;have hz:((⟨#[0]⟩:ByteArray)++t).size=1+t.size:=ByteArray.size_append ..;have hmax:IntKind.i64.max=9223372036854775807:=by decide
 exact⟨by rw[←ByteArray.size_append,hz,hmax];omega,Ai (by omega) tb k⟩
theorem xY(hx:t.size≤800000)(tb:Tabs h)(k:∀h',bq h h'->Q (dH 1 t) h'):gN t h Q:=by
 unfold gN;have hz:((⟨#[1]⟩:ByteArray)++t).size=1+t.size:=ByteArray.size_append ..;have hmax:IntKind.i64.max=9223372036854775807:=by decide
 exact⟨by rw[←ByteArray.size_append,hz,hmax];omega,Ai (by omega) tb k⟩
theorem pO{b:Int}(hb:0≤b∧b<256)(hx:t.size≤800000)(tb:qa h)(k:∀h',bq h h'->Q (dH (UInt8.ofNat b.toNat) t) h'):dJ b t h Q:=by
 unfold dJ;have hz:((⟨#[UInt8.ofNat b.toNat]⟩:ByteArray)++t).size=1+t.size:=ByteArray.size_append ..;have hmax:IntKind.i64.max=9223372036854775807:=by decide
 refine M.aK (Wd.start h) λb h1 w=>?_;refine M.A3 (zs:=[_]) (w.blk 0 rfl) (by simp) ?_;exact⟨by rw[←ByteArray.size_append,hmax];show((⟨#[UInt8.ofNat _]⟩:ByteArray)++t).size≤(_:Int);omega,GA (by show((⟨#[UInt8.ofNat _]⟩:ByteArray)++t).size≤_;omega) (tb.keep w.keep) λh' k'=>k h' (w.keep.trans k')⟩
end
end Go.Proofs.YtmfcgihgdhfalaaGreatDoor
namespace Go.Sh
open Go.RowKit Classical
structure Keys (P:Program) (kt:TypeId) (ok:Value->Prop):Prop where
 eq:∀a b,ok a->ok b->∀w,(Op.equal kt a b).run P w = .ok (decide (a=b)) w
 now:∀a b d,ok a->ok b->P.underlying kt=some d->Instr.sameNow d a b=none∨Instr.sameNow d a b=some (decide (a=b))
 Sy:∀a,ok a->∀e w,(Instr.checkKey e 10000 kt a).run P w = .ok () w
 same:∀a,ok a->Instr.sameBits 10000 a a=true
 SG:∃d,P.underlying kt=some d
noncomputable def ic(k:Value):List MapEntry->Nat->Option (Nat×Value)
 | [],_=>none
 | e::r,i=>if k=e.key then some (i,e.val)else ic k r (i+1)
section
variable {P:Program}{kt:TypeId}{ok:Value->Prop}
theorem Keys.L3(hK:Keys P kt ok){k:Value}(hk:ok k):∀(l:List MapEntry) (i:Nat),(∀e∈l,ok e.key)->∀w,(Instr.findAsking kt k l i).run P w = .ok (ic k l i) w
 | [],i,_,w=>rfl
 | e::r,i,h,w=>by
  unfold Instr.findAsking ic;rw[Sem.run_bind,hK.eq k e.key hk (h e (by simp)),Result.andThen_ok];by_cases he:k=e.key
  ·simp[he]
  ·simp only[he,decide_false,Bool.false_eq_true,if_false];exact hK.L3 hk r (i+1) (λe he=>h e (by simp[he])) w
theorem Keys.QB(hK:Keys P kt ok){k:Value}(hk:ok k){d:TypeDesc}(hd:P.underlying kt=some d):∀(l:List MapEntry) (i:Nat),(∀e∈l,ok e.key)->Instr.findNow d k l i=none∨Instr.findNow d k l i=some (ic k l i)
 | [],i,_=>.inr rfl
 | e::r,i,h=>by
  unfold Instr.findNow ic;rcases hK.now k e.key d hk (h e (by simp)) hd with hn|hn
  ·rw[hn];exact .inl rfl
  ·rw[hn];by_cases he:k=e.key
   ·simp[he]
   ·simp only[he,decide_false,if_false];exact hK.QB hk hd r (i+1) λe he=>h e (by simp[he])
theorem Keys.at(hK:Keys P kt ok){k:Value}(hk:ok k){es:Array MapEntry}(h:∀e∈es.toList,ok e.key):yX P kt es k (ic k es.toList 0):=by
 refine⟨hK.Sy k hk,λw=>?_⟩;obtain⟨d,hd⟩:=hK.SG;unfold Instr.findKey;rw[Sem.run_bind,run_underlying hd,Result.andThen_ok];rcases hK.QB hk hd es.toList 0 h with hn|hn
 ·rw[hn];exact hK.L3 hk es.toList 0 h w
 ·rw[hn];rfl
def sX(ok:Value->Prop)(h:H)(b:Nat)(f:Value->Option Value)(n:Nat):Prop:=
 ∃es c,h b=some (.map es c)∧(∀e∈es.toList,ok e.key)∧es.size=n∧∀k i,(ic k es.toList i).map (·.2)=f k
theorem sX.keep{h h':H}{b:Nat}{f:Value->Option Value}{n:Nat}(m:sX ok h b f n)(k:bq h h'):sX ok h' b f n:=
 let ⟨es,c,hb,r⟩:=m;⟨es,c,k _ _ hb,r⟩
theorem sX.new{h:H}{b c:Nat}(hb:h b=some (.map #[] c)):sX ok h b (λ_=>none) 0:=⟨#[],c,hb,by simp,rfl,λ_ _=>rfl⟩
theorem nt{k:Value}:∀{l:List MapEntry} {i j:Nat} {v:Value},ic k l i=some (j,v)->∃e,i≤j∧l[j-i]? = some e∧e.key=k∧e.val=v
 | [],_,_,_,h=>by simp[ic]at h
 | e::r,i,j,v,h=>by
  unfold ic at h;split at h
  ·rename_i he;simp only[Option.some.injEq,Prod.mk.injEq]at h;obtain⟨rfl,rfl⟩:=h;exact⟨e,Nat.le_refl _,by simp,he.symm,rfl⟩
  ·obtain⟨e',h1,h2,h3,h4⟩:=nt h;refine⟨e',by omega,?_,h3,h4⟩;rw[show j-i=(j-(i+1))+1 by omega,List.getElem?_cons_succ];exact h2
theorem sP{k:Value}{e:MapEntry}:∀{l:List MapEntry} {i:Nat},(ic k (l++[e]) i).map (·.2)=match (ic k l i).map (·.2)with|some v=>some v|none=>if k=e.key then some e.val else none
 | [],i=>by simp only[List.nil_append,ic];split<;>simp
 | a::r,i=>by
  simp only[List.cons_append,ic];by_cases h:k=a.key
  ·simp[h]
  ·simp only[h,if_false];exact sP
theorem su{k x v:Value}:∀{l:List MapEntry} {i j m:Nat} {u:Value},ic k l i=some (j,u)->(ic x (l.modify (j-i) λe=>{ e with key:=k,val:=v }) m).map (·.2)=if x=k then some v else(ic x l m).map (·.2)
 | [],_,_,_,_,h=>by simp[ic]at h
 | e::r,i,j,m,u,h=>by
  unfold ic at h;split at h
  ·rename_i he;simp only[Option.some.injEq,Prod.mk.injEq]at h;obtain⟨rfl,rfl⟩:=h;simp only[Nat.sub_self,List.modify_zero_cons,ic];by_cases hx:x=k
   ·simp[hx]
   ·rw[if_neg hx,if_neg hx,if_neg (λhh=>hx (hh.trans he.symm))]
  ·rename_i he;obtain⟨_,h1,_⟩:=nt h;rw[show j-i=(j-(i+1))+1 by omega,List.modify_succ_cons];simp only[ic];by_cases hx:x=e.key
   ·rw[if_pos hx,if_pos hx,if_neg (λhh=>he (hh.symm.trans hx))]
   ·rw[if_neg hx,if_neg hx];exact su h
theorem MS{ty et:TypeId}{h:H}{b:Nat}{f:Value->Option Value}{n:Nat}{k z:Value}{K:Value->H->Prop}(hu:P.underlying ty=some (.map kt et))(hK:Keys P kt ok)(hz:∀w,(zeroValue et).run P w = .ok z w)
  (m:sX ok h b f n) (hk:ok k) (kk:K ((f k).getD z) h):M.lk P ty (.map (some b)) k h K:=by
 obtain⟨es,c,hb,hok,hn,hf⟩:=m;refine⟨kt,et,es,_,hu,.inr ⟨b,c,rfl,hb⟩,hK.at hk hok,?_⟩;have:=hf k 0;cases hfe:ic k es.toList 0 with
 | some p=>
  rw[hfe]at this;simp only[Option.map_some]at this;rw[←this]at kk;exact kk
 | none=>
  rw[hfe]at this;simp only[Option.map_none]at this;rw[←this]at kk;exact⟨z,hz,kk⟩
theorem Hs{ty et:TypeId}{h:H}{b:Nat}{f:Value->Option Value}{n:Nat}{k z:Value}{K:Value->Bool->H->Prop}(hu:P.underlying ty=some (.map kt et))(hK:Keys P kt ok)(hz:∀w,(zeroValue et).run P w = .ok z w)
  (m:sX ok h b f n) (hk:ok k) (kk:K ((f k).getD z) (f k).isSome h):M.Nz P ty (.map (some b)) k h K:=by
 obtain⟨es,c,hb,hok,hn,hf⟩:=m;refine⟨kt,et,es,_,hu,.inr ⟨b,c,rfl,hb⟩,hK.at hk hok,?_⟩;have:=hf k 0;cases hfe:ic k es.toList 0 with
 | some p=>
  rw[hfe]at this;simp only[Option.map_some]at this;rw[←this]at kk;exact kk
 | none=>
  rw[hfe]at this;simp only[Option.map_none]at this;rw[←this]at kk;exact⟨z,hz,kk⟩
theorem Ow{ty et:TypeId}{h:H}{b:Nat}{f:Value->Option Value}{n:Nat}{k v:Value}{K:H->Prop}(hu:P.underlying ty=some (.map kt et))(hK:Keys P kt ok)
  (m:sX ok h b f n) (hk:ok k) (kk:∀h',Qy b h h'->sX ok h' b (λx=>if x=k then some v else f x) (if(f k).isSome then n else n+1)->K h'):M.An P ty (.map (some b)) k v h K:=by
 obtain⟨es,c,hb,hok,hn,hf⟩:=m;refine⟨kt,et,b,es,c,_,hu,rfl,hb,hK.at hk hok,?_⟩;have h0:=hf k 0;cases hfe:ic k es.toList 0 with
 | some p=>
  obtain⟨i,u⟩:=p;rw[hfe]at h0;simp only[Option.map_some]at h0;obtain⟨e,_,he,hek,_⟩:=nt hfe;rw[Nat.sub_zero]at he;refine⟨?_,kk _ (IS _ _ _) ⟨_,c,H.jD _ _ _,?_,?_,λx j=>?_⟩⟩
  ·have:es[i]? = some e:=by simpa using he
   rw[this];simp only[Option.map_some,Option.getD_some,hek];exact hK.same k hk
  ·intro e' he';rw[Array.toList_modify]at he';rcases List.mem_iff_getElem?.1 he' with ⟨j,hj⟩
   rw[List.getElem?_modify]at hj;by_cases hij:i=j
   ·subst hij;rw[he]at hj;simp only[if_true,Option.map_eq_map,Option.map_some,Option.some.injEq]at hj;subst hj;exact hk
   ·simp only[hij,if_false]at hj;cases hg:es.toList[j]? with
    | none=>rw[hg]at hj;simp at hj
    | some a=>
     rw[hg]at hj;simp only[Option.map_eq_map,Option.map_some,Option.some.injEq]at hj;have:a=e':=hj;rw[←this];exact hok _ (List.mem_of_getElem? hg)
  ·rw[Array.size_modify,←h0];simpa using hn
  ·have:=su (x:=x) (v:=v) (m:=j) hfe;rw[Nat.sub_zero]at this;rw[Array.toList_modify,this,hf]
 | none=>
  rw[hfe]at h0;simp only[Option.map_none]at h0;refine kk _ (IS _ _ _) ⟨_,c+1,H.jD _ _ _,?_,?_,λx j=>?_⟩
  ·intro e' he';rw[Array.toList_push,List.mem_append]at he';rcases he' with he'|he'
   ·exact hok _ he'
   ·simp only[List.mem_singleton]at he';subst he';exact hk
  ·rw[Array.size_push,hn,←h0];rfl
  ·rw[Array.toList_push,sP,hf];by_cases hx:x=k
   ·subst hx;rw[←h0];simp
   ·simp only[hx,if_false];cases f x<;>rfl
theorem LY{k:IntKind}(hu:P.underlying kt=some (.int k)):Keys P kt (λv=>∃n,v = .int k n) where
 eq:=by
  rintro _ _ ⟨a,rfl⟩ ⟨b,rfl⟩ w;have:(Op.equal kt (.int k a) (.int k b)).run P w = .ok (a == b) w:=run_equalIn_int w 9999 kt k k a b hu;rw[this];congr 1;by_cases e:a=b<;>simp[e]
 now:=by
  rintro _ _ d ⟨a,rfl⟩ ⟨b,rfl⟩ hd;rw[hu]at hd;simp only[Option.some.injEq]at hd;subst hd;right;simp only[Instr.sameNow,if_true,Option.some.injEq];by_cases e:a=b<;>simp[e]
 Sy:=by
  rintro _ ⟨a,rfl⟩ e w;unfold Instr.checkKey;rw[Sem.run_bind,run_underlying hu,Result.andThen_ok];rfl
 same:=by
  rintro _ ⟨a,rfl⟩;simp[Instr.sameBits]
 SG:=⟨_,hu⟩
theorem bytes_beq(a b:ByteArray):(a == b)=decide (a=b):=by
 rw[beq_toListBytes,ByteArray.toList_eq,ByteArray.toList_eq];obtain⟨⟨x⟩⟩:=a;obtain⟨⟨y⟩⟩:=b;by_cases e:x=y<;>simp[e]
end
end Go.Sh
namespace Go.Proofs.YtmfcgihgdhfalaaGreatDoor
open Go.Sh Go.RowKit
def dep(n:Int):Nat:=if n=2 then 1 else if n=4 then 2 else if n=8 then 3 else if n=16 then 4 else 0
def zA(p:ByteArray)(b:Bool):ByteArray:=bif b then p.extract 32 p.size else p.extract 0 32
def Am(slot k:Nat):Bool:=decide (slot/2^k%2=1)
def sW(p:ByteArray):ByteArray:=dH 1 p
theorem kg(a b:ByteArray):mX a b=decide (a=b):=by rw[mX,←beq_toListBytes,bytes_beq]
def follow(top:ByteArray)(slot:Nat):List ByteArray->ByteArray×Int
 | []=>(top,0)
 | p::r=>if p.size≠64∨sW p≠top then(empty,22)else follow (zA p (Am slot r.length)) slot r
def oo(slot:Nat)(d:ByteArray):List ByteArray->List ByteArray×ByteArray
 | []=>([],d)
 | p::r=>
  let x:=bif Am slot r.length then p.extract 0 32++(oo slot d r).2 else(oo slot d r).2++p.extract 32 p.size
  (x::(oo slot d r).1,sW x)
theorem EA(slot:Nat)(d:ByteArray):∀ps,(oo slot d ps).1.length=ps.length
 | []=>rfl
 | p::r=>by simp[oo,EA slot d r]
section
variable {h:H}{n z:Int}{Q:Int->H->Prop}
theorem vj(k:Q (dep n) h):gi n h Q:=by
 unfold gi;unfold dep at k;refine cc (λe=>?_) λe=>cc (λe2=>?_) λe2=>cc (λe3=>?_) λe3=>cc (λe4=>?_) λe4=>?_<;>simp only[beq_iff_eq,beq_eq_false_iff_ne,ne_eq]at * <;>simp_all
theorem MO(n:Int)(h:2≤n∧n≤16):(lS .i64 n (n-1) != 0)=decide (dep n=0):=by
 have:∀m:Fin 17,2≤m.val->(lS .i64 ((m.val:Nat):Int) (((m.val:Nat):Int)-1) != 0)=decide (dep ((m.val:Nat):Int)=0):=by decide
 have:=this ⟨n.toNat,by omega⟩ (by simp only;omega);simp only[Int.toNat_of_nonneg (show 0≤n by omega)]at this;exact this
theorem NS{h:H}{n:Int}{Q:Int->H->Prop}(tb:Tabs h)(hn:n=2∨n=4∨n=8∨n=16)(k:Q (dep n) h):bh n h Q:=by
 unfold bh;unfold bX;have hc:=tb.tz;have go:∀(i:Nat) (hi:i<64) (K:Int->Prop),K (Pr[i]'hi)->M.load h ⟨7,i,none⟩ λv=>M.int .u8 v K:=by
  intro i hi K k;have e:=hc i (by rw[sB];exact hi);rw[aS,Nat.zero_add]at e;rw[dK,e];have:(oT Pr)[i]? = some (.int .u8 (Pr[i]'hi)):=by
   rw[oT,List.getElem?_map,List.getElem?_eq_getElem (show i<Pr.length from hi)];rfl
  rw[this,cH,int_eq];exact k
 rcases hn with rfl|rfl|rfl|rfl
 ·refine cf (rfl) ?_;refine M.vis (18446744073709551614) (by decide) ?_;refine M.vis (2) (by decide) ?_;refine M.vis (571740426102707730) (by decide) ?_;refine⟨(by omega),?_⟩;refine M.vis (1) (by decide) ?_;refine⟨(by omega),(by omega),?_⟩;simp only[bs,Nat.reduceMul,reduceToNat];exact go 1 (by decide) _ (M.vis 1 (by decide) k)
 ·refine cf (rfl) ?_;refine M.vis (18446744073709551612) (by decide) ?_;refine M.vis (4) (by decide) ?_;refine M.vis (1143480852205415460) (by decide) ?_;refine⟨(by omega),?_⟩;refine M.vis (3) (by decide) ?_;refine⟨(by omega),(by omega),?_⟩;simp only[bs,Nat.reduceMul,reduceToNat];exact go 3 (by decide) _ (M.vis 2 (by decide) k)
 ·refine cf (rfl) ?_;refine M.vis (18446744073709551608) (by decide) ?_;refine M.vis (8) (by decide) ?_;refine M.vis (2286961704410830920) (by decide) ?_;refine⟨(by omega),?_⟩;refine M.vis (7) (by decide) ?_;refine⟨(by omega),(by omega),?_⟩;simp only[bs,Nat.reduceMul,reduceToNat];exact go 7 (by decide) _ (M.vis 3 (by decide) k)
 ·refine cf (rfl) ?_;refine M.vis (18446744073709551600) (by decide) ?_;refine M.vis (16) (by decide) ?_;refine M.vis (4573923408821661840) (by decide) ?_;refine⟨(by omega),?_⟩;refine M.vis (15) (by decide) ?_;refine⟨(by omega),(by omega),?_⟩;simp only[bs,Nat.reduceMul,reduceToNat];exact go 15 (by decide) _ (M.vis 4 (by decide) k)
theorem Jp{n:Int}(h:n<2∨n>16):dep n=0:=by
 unfold dep;rw[if_neg (by omega),if_neg (by omega),if_neg (by omega),if_neg (by omega)]
theorem oE{n:Int}(h:dep n≠0):n=2∨n=4∨n=8∨n=16:=by
 unfold dep at h;by_cases h1:n=2
 ·exact .inl h1
 by_cases h2:n=4
 ·exact .inr (.inl h2)
 by_cases h3:n=8
 ·exact .inr (.inr (.inl h3))
 by_cases h4:n=16
 ·exact .inr (.inr (.inr h4))
 simp[h1,h2,h3,h4]at h
theorem sr{h:H}{n:Int}{Q:Int->H->Prop}(tb:Tabs h)(k:Q (dep n) h):ff n h Q:=by
 unfold ff;refine M.aO (λd h'=>d=decide (dep n=0)∧h=h') (λJ hJ=>?_) ?_
 ·refine cd (λh1=>?_) λh1=>cd (λh2=>?_) λh2=>?_
  ·exact hJ _ _ ⟨by rw[Jp (.inl h1)];rfl,rfl⟩
  ·exact hJ _ _ ⟨by rw[Jp (.inr h2)];rfl,rfl⟩
  ·have v1:wrap .i64 (n-1)=n-1:=qJ (by omega) (by omega);refine M.vis _ v1 (M.dN ?_);rw[MO n (by omega)];exact hJ _ _ ⟨rfl,rfl⟩
 rintro _ _ ⟨rfl,rfl⟩;refine cd (λe=>?_) λe=>?_
 ·rw[e]at k;exact k
 ·have hn:=oE e;refine M.vis n (nq (by omega) (by omega)) ?_;exact NS tb hn k
theorem zl{h:H}{p:Nat}{Q:Int->H->Prop}(tb:Tabs h)(hp:1≤p∧p≤4)(k:Q ((2^p:Nat):Int) h):eE (p:Int) h Q:=by
 unfold eE;refine M.jn ?_;refine gI (by omega) ?_;refine sr tb ?_;have e:decide (((p:Nat):Int)>(dep 16:Nat))=false:=decide_eq_false (by have:dep 16=4:=rfl;omega);refine cf e ⟨by omega,?_⟩;have:p=1∨p=2∨p=3∨p=4:=by omega
 rcases this with rfl|rfl|rfl|rfl<;>exact k
theorem Nn(m:Nat):lS .i64 (m:Int) 1=((m%2:Nat):Int):=by
 have h1:(BitVec.ofInt 64 (m:Int) &&& BitVec.ofInt 64 1).toNat=m%2:=by
  rw[BitVec.toNat_and,show(BitVec.ofInt 64 1).toNat=1 from rfl,Nat.and_one_is_mod,BitVec.ofInt_natCast,BitVec.toNat_ofNat];omega
 show wrap .i64 ((BitVec.ofInt 64 (m:Int) &&& BitVec.ofInt 64 1).toNat:Int)=_;rw[h1,IntKind.wrap_i64];omega
theorem zE{h:H}{s p i:Nat}{Q:Bool->H->Prop}(hp:p≤4)(hi:i<p)(k:Q (Am s (p-1-i)) h):fZ (s:Int) (p:Int) (i:Int) h Q:=by
 unfold fZ;refine M.vis ((p-1:Nat):Int) (by rw[IntKind.wrap_i64];omega) (M.vis ((p-1-i:Nat):Int) (by rw[IntKind.wrap_i64];omega) ⟨by omega,M.vis ((s/2^(p-1-i):Nat):Int) (xB .i64 _ _ (by simp[IntKind.bits];omega)) (M.vis _ (Nn _) ?_)⟩);have:((((s/2^(p-1-i)%2:Nat):Int)) == 1)=Am s (p-1-i):=by
  rw[Am,Bool.eq_iff_iff,beq_iff_eq,decide_eq_true_iff];omega
 rw[this];exact k
theorem yE{h:H}{t:ByteArray}{b:Bool}{Q:ByteArray->H->Prop}(ht:t.size=64)(k:Q (zA t b) h):iM t b h Q:=by
 unfold iM;refine cc (λe=>?_) λe=>?_
 ·subst e;exact⟨by omega,by omega,by omega,k⟩
 ·subst e;exact⟨by omega,by omega,by omega,k⟩
end
theorem jY{α:Type}(d j:Nat)(f:Nat->α)(v:α):((List.range d).map f).set j v=(List.range d).map λi=>if i=j then v else f i:=by
 apply List.ext_getElem?;intro i;rw[List.getElem?_set,List.getElem?_map,List.getElem?_map,List.length_map,List.length_range];by_cases hi:i<d
 ·rw[List.getElem?_range hi];by_cases hj:j=i
  ·subst hj;simp[hi]
  ·have:¬i=j:=λe=>hj e.symm;simp[hj,this]
 ·rw[List.getElem?_eq_none (by simpa using hi)];simp;omega
def jC(n s:Int):List Int:=(List.range (dep n)).map λi=>(((n+s).toNat/2^(dep n-i):Nat):Int)
theorem rB(n s:Int):(jC n s).length=dep n:=by simp[jC]
theorem Nu(n:Int):dep n≤4:=by
 unfold dep
 repeat' split
 all_goals omega
theorem pS{n:Int}(h:dep n≠0):n=((2^dep n:Nat):Int):=by
 rcases oE h with rfl|rfl|rfl|rfl<;>rfl
theorem Er{ps:List ByteArray}{m:Nat}(h:m<ps.length):ps.drop m=sa ps m::ps.drop (m+1):=by rw[kM h,←List.drop_eq_getElem_cons h]
theorem Fl{top:ByteArray}{slot:Nat}{ps:List ByteArray}{m:Nat}(h:m<ps.length):follow top slot (ps.drop m)=if(sa ps m).size≠64∨sW (sa ps m)≠top then(empty,22)else follow (zA (sa ps m) (Am slot (ps.length-1-m))) slot (ps.drop (m+1)):=by
 rw[Er h,follow,List.length_drop,show ps.length-(m+1)=ps.length-1-m by omega]
theorem Iu{top:ByteArray}{slot:Nat}{ps:List ByteArray}:follow top slot (ps.drop ps.length)=(top,0):=by rw[List.drop_length];rfl
section
variable {h:H}{a:Option Addr}{l c:Nat}{ps:List ByteArray}{top:ByteArray}{slot:Nat}{Q:ByteArray->Int->H->Prop}
theorem Rg{n:Nat}(hz:∀p∈ps,p.size≤n)(m:Nat):(sa ps m).size≤n:=by
 by_cases h:m<ps.length
 ·rw[kM h];exact hz _ (List.getElem_mem h)
 ·have:sa ps m=empty:=by simp[sa,List.getD_eq_getElem?_getD,List.getElem?_eq_none (by omega:ps.length≤m)]
  rw[this];exact Nat.zero_le _
theorem Gk(f:Ro eS h a l ps)(hl:1≤l∧l≤4)(hs:slot<2^l)(hz:∀p∈ps,p.size≤500000)(tb:Tabs h)(k:∀h',bq h h'->Q (follow top slot ps).1 (follow top slot ps).2 h'):gh top (slot:Int) a l c h Q:=by
 unfold gh;refine M.jn ?_;have w:=Wd.start h;have hlen:=f.len;refine gI (by omega) ?_;refine zl tb hl ?_;refine cf (decide_eq_false (by omega)) ?_;refine M.jn ?_;refine M.aP (I:=λ(p:ByteArray×Int) h'=>∃m:Nat,m≤l∧p.2=(m:Int)∧follow top slot ps=follow p.1 slot (ps.drop m)∧Wd h h' []) (μ:=λp=>(l-p.2).toNat) ⟨0,by omega,rfl,rfl,w⟩ ?_;clear w;rintro⟨t,_⟩ h2 J ⟨m,hm,rfl,hf,w⟩ hJ;simp only at hf ⊢;by_cases hlt:m<l
 ·refine eN (by omega) ?_;rw[Fl (by omega)]at hf;have hsz:=Rg hz m;refine Ro.vu (f.keep w.keep) (by omega) (by omega) ?_;refine M.aO (λd h'=>d=decide ((sa ps m).size≠64∨sW (sa ps m)≠t)∧Wd h h' []) (λJ2 hJ2=>?_) ?_
  ·rw[Int.toNat_natCast];refine cc (λe=>?_) λe=>?_
   ·refine hJ2 _ _ ⟨(decide_eq_true (.inl ?_)).symm,w⟩;rw[bne_iff_ne]at e;omega
   ·rw[bne_eq_false_iff_eq]at e;refine xY (by omega) (tb.keep w.keep) λh1 k_=>?_;have w:=w.keeps k_;clear k_;refine hJ2 _ _ ⟨?_,w⟩;rw[kg,Bool.eq_iff_iff];have:(sa ps m).size=64:=by omega
    simp[this,sW]
  clear w;rintro _ h3 ⟨rfl,w⟩;by_cases hc:(sa ps m).size≠64∨sW (sa ps m)≠t
  ·rw[if_pos hc]at hf;refine eN hc ?_;rw[hf]at k;exact k _ w.keep
  ·rw[if_neg hc]at hf;refine gI hc ?_;have h64:(sa ps m).size=64:=by omega
   refine zE (s:=slot) hl.2 hlt ?_;rw[Int.toNat_natCast];refine yE h64 ?_;refine M.vis ((m+1:Nat):Int) (by rw[IntKind.wrap_i64];omega) ?_;refine hJ _ _ ⟨m+1,by omega,rfl,?_,w⟩ (by simp only;omega);rw[hf,hlen]
 ·refine gI (by omega) ?_;obtain rfl:m=l:=by omega
  rw[←hlen,Iu]at hf;rw[hf]at k;exact k _ w.keep
theorem Fy{d s k:Nat}(hk:k<d):(2^d+s)/2^k%2=s/2^k%2:=by
 have:2^d+s=s+2^(d-k)*2^k:=by rw[←Nat.pow_add,Nat.sub_add_cancel (by omega)];omega
 rw[this,Nat.add_mul_div_right _ _ (Nat.two_pow_pos k)];obtain⟨q,hq⟩:∃q,d-k=q+1:=⟨d-k-1,by omega⟩;rw[hq,Nat.pow_succ];omega
end
theorem jJ(k:UInt8)(t:ByteArray):(dH k t).size=32:=by rw[dH,nO,kV];rfl
theorem Aq(t:ByteArray):(sW t).size=32:=jJ _ _
def DJ(slot:Nat)(d:ByteArray)(p:ByteArray)(r:List ByteArray):ByteArray:=bif Am slot r.length then p.extract 0 32++(oo slot d r).2 else(oo slot d r).2++p.extract 32 p.size
theorem uE(slot:Nat)(d p:ByteArray)(r:List ByteArray):oo slot d (p::r)=(DJ slot d p r::(oo slot d r).1,sW (DJ slot d p r)):=rfl
theorem Dm{slot:Nat}{d:ByteArray}(hd:d.size=32):∀ps,(oo slot d ps).2.size=32
 | []=>hd
 | p::r=>by rw[uE];exact Aq _
theorem CO{slot:Nat}{d p:ByteArray}{r:List ByteArray}(hd:d.size=32)(hp:p.size=64):(DJ slot d p r).size=64:=by
 have:=Dm (slot:=slot) hd r;unfold DJ;cases Am slot r.length
 ·rw[cond_false,ByteArray.size_append,ByteArray.size_extract,this,hp];decide
 ·rw[cond_true,ByteArray.size_append,ByteArray.size_extract,this,hp];decide
theorem Jl{slot:Nat}{d:ByteArray}(hd:d.size=32):∀ps,(∀p∈ps,p.size=64)->∀p∈(oo slot d ps).1,p.size=64
 | [],_,p,h=>by simp[oo]at h
 | q::r,hz,p,h=>by
  rw[uE,List.mem_cons]at h;rcases h with rfl|h
  ·exact CO hd (hz _ (by simp))
  ·exact Jl hd r (λp hp=>hz p (by simp[hp])) p h
theorem I3{xs:List ByteArray}(m:Nat)(x:ByteArray):(List.replicate (m+1) empty++xs).set m x=List.replicate m empty++(x::xs):=by
 rw[List.replicate_succ',List.append_assoc,List.set_append_right _ _ (by simp)];simp
section
variable {h:H}{a:Option Addr}{l c:Nat}{ps:List ByteArray}{d:ByteArray}{slot:Nat}{Q:Option Addr->Nat->Nat->ByteArray->Int->H->Prop}
theorem Nd(f:Ro eS h a l ps)(hl:1≤l∧l≤4)(hs:slot<2^l)(hz:∀p∈ps,p.size=64)(hd:d.size=32)(tb:Tabs h)(k:∀a c h',Wd h h' [.sl 9 1 a l c (eS.row (oo slot d ps).1)]->Q a l c (oo slot d ps).2 0 h'):
  jm (slot:Int) a l c d h Q:=by
 unfold jm jm.g;refine M.jn ?_;have w:=Wd.start h;have hlen:=f.len;refine gI (by omega) (zl tb hl (cf (decide_eq_false (by omega)) (cf (by rw[bne_eq_false_iff_eq];omega) ?_)));refine M.uj w (by omega) (by omega) (by omega) (by omega) rfl λa1 h2 w=>?_;simp only[zs,Int.toNat_natCast]at w ⊢;refine M.jn ?_;refine M.dN ?_;refine M.aP (I:=λ(p:ByteArray×Int) h'=>∃m:Nat,m≤l∧p.2=(m:Int)-1∧p.1=(oo slot d (ps.drop m)).2∧Wd h h' [.sl 9 1 a1 l l (eS.row (List.replicate m empty++(oo slot d (ps.drop m)).1))]) (μ:=λp=>(p.2+1).toNat) ⟨l,by omega,?_,?_,?_⟩ ?_
 ·rw[IntKind.wrap_i64];simp only;omega
 ·rw[←hlen,List.drop_length];rfl
 ·rw[←hlen,List.drop_length];simp only[oo,List.append_nil];rw[hlen];exact w
 clear w;rintro⟨_,_⟩ h2 J ⟨m,hm,rfl,rfl,w⟩ hJ;simp only;cases m with
 | succ m=>
  refine eN (by omega) ?_;have v0:(((m+1:Nat):Int)-1)=(m:Int):=by omega
  have hp:(sa ps m).size=64:=by rw[kM (by omega)];exact hz _ (List.getElem_mem _)
  have h32:=Dm (slot:=slot) hd (ps.drop (m+1));have hx:oo slot d (ps.drop m)=(DJ slot d (sa ps m) (ps.drop (m+1))::(oo slot d (ps.drop (m+1))).1,sW (DJ slot d (sa ps m) (ps.drop (m+1)))):=by rw[Er (by omega),uE]
  have hxs:=CO (slot:=slot) (r:=ps.drop (m+1)) hd hp;have hbit:(ps.drop (m+1)).length=l-1-m:=by rw[List.length_drop];omega
  rw[v0];refine Ro.vu (f.keep w.keep) (by omega) (by omega) ?_;simp only[Int.toNat_natCast];refine cf (by simp[*]) ?_;refine M.aO (λ_ h'=>Wd h h' [.sl 9 1 a1 l l (eS.row (List.replicate m empty++(oo slot d (ps.drop m)).1))]) (λJ2 hJ2=>?_) ?_
  ·refine zE (s:=slot) hl.2 (by omega) ?_;rw[hx]at hJ2;unfold DJ at hJ2;rw[hbit]at hJ2;cases hb:Am slot (l-1-m)<;>rw[hb]at hJ2
   ·refine cf rfl ?_;refine Ro.vu (f.keep w.keep) (by omega) (by omega) ?_;simp only[Int.toNat_natCast];refine yE (by assumption) ?_;refine⟨(by simp[Int.toNat_natCast,zA,h32];omega),?_⟩;simp only[zA];refine w.xD 0 rfl rfl _ rfl (by omega) (by omega) λh11 w=>?_;simp only[bs,Int.toNat_natCast]at w;rw[I3]at w;exact hJ2 _ _ w
   ·refine ct rfl ?_;refine Ro.vu (f.keep w.keep) (by omega) (by omega) ?_;simp only[Int.toNat_natCast];refine yE (by assumption) ?_;refine⟨(by simp[Int.toNat_natCast,zA,h32];omega),?_⟩;simp only[zA];refine w.xD 0 rfl rfl _ rfl (by omega) (by omega) λh11 w=>?_;simp only[bs,Int.toNat_natCast]at w;rw[I3]at w;exact hJ2 _ _ w
  clear w;rintro _ h3 w;have hsa:sa (List.replicate m empty++(oo slot d (ps.drop m)).1) m=DJ slot d (sa ps m) (ps.drop (m+1)):=by
   rw[hx,sa,List.getD_eq_getElem?_getD,List.getElem?_append_right (by simp)];simp
  have v1:wrap .i64 ((m:Int)-1)=(m:Int)-1:=by rw[IntKind.wrap_i64];omega
  simp only[v1];refine Ro.vu (w.ro 0 rfl (by decide)) (by omega) (by omega) ?_;simp only[Int.toNat_natCast,hsa];refine xY (by omega) (tb.keep w.keep) λh8 k_=>?_;have w:=w.keeps k_;clear k_;refine M.dN ?_;refine hJ _ _ ⟨m,by omega,rfl,?_,w⟩ (by simp only;omega);rw[hx];rfl
 | zero=>
  refine gI (by omega) ?_;rw[List.drop_zero]at w ⊢;exact k _ _ _ w
end
def iz(ls:List ByteArray)(i:Nat):ByteArray:=
 if h:ls.length≤i∨i=0 then sa ls (i-ls.length)else sW (iz ls (2*i)++iz ls (2*i+1))
termination_by ls.length-i
decreasing_by all_goals omega
def fU(ls:List ByteArray)(i:Nat):ByteArray:=iz ls (2*i)++iz ls (2*i+1)
theorem ki{ls:List ByteArray}{i:Nat}(h:ls.length≤i):iz ls i=sa ls (i-ls.length):=by rw[iz,dif_pos (.inl h)]
theorem m9{ls:List ByteArray}{i:Nat}(h0:0<i)(h:i<ls.length):iz ls i=sW (fU ls i):=by rw[iz,dif_neg (by omega),fU]
theorem jK{ls:List ByteArray}(hz:∀p∈ls,p.size=32){i:Nat}(h0:0<i)(h2:i<2*ls.length):(iz ls i).size=32:=by
 by_cases h:i<ls.length
 ·rw[m9 h0 h];exact Aq _
 ·rw[ki (by omega),kM (by omega)];exact hz _ (List.getElem_mem _)
theorem mH{ls:List ByteArray}(hz:∀p∈ls,p.size=32){i:Nat}(h0:0<i)(h2:i<ls.length):(fU ls i).size=64:=by
 rw[fU,ByteArray.size_append,jK hz (by omega) (by omega),jK hz (by omega) (by omega)]
def mS(ls:List ByteArray):List ByteArray:=(List.range ls.length).map λj=>if j=0 then empty else fU ls j
theorem yB(n:Nat)(x:ByteArray):List.replicate n x=(List.range n).map λ_=>x:=by
 symm
 rw[List.eq_replicate_iff];refine⟨by simp,λb hb=>?_⟩;rw[List.mem_map]at hb;obtain⟨_,_,rfl⟩:=hb;rfl
theorem rE{n i:Nat}(f:Nat->ByteArray)(hi:i<n):sa ((List.range n).map f) i=f i:=by rw[kM (by simpa using hi)];simp
theorem jh{n:Nat}{f g:Nat->ByteArray}(h:∀i,i<n->f i=g i):(List.range n).map f=(List.range n).map g:=List.map_congr_left λi hi=>h i (List.mem_range.1 hi)
section
variable {h:H}{a:Option Addr}{l c:Nat}{ls:List ByteArray}{Q:Option Addr->Nat->Nat->ByteArray->Int->H->Prop}
theorem HC(f:Ro eS h a l ls)(hd:dep (l:Int)≠0)(hz:∀p∈ls,p.size=32)(tb:Tabs h)(k:∀a c h',Wd h h' [.sl 9 1 a l c (eS.row (mS ls))]->Q a l c (iz ls 1) 0 h'):gT a l c h Q:=by
 unfold gT gT.g;have hlen:=f.len;have hl:2≤l∧l≤16:=by rcases oE hd with h|h|h|h<;>omega
 have w:=Wd.start h;refine sr tb (cf (by rw[beq_eq_false_iff_ne];omega) ?_);refine M.vis ((2*l:Nat):Int) (by rw[IntKind.wrap_i64];omega) ?_;have hp:∀m,m<l->(sa ls m).size=32:=λm hm=>by rw[kM (by omega)];exact hz _ (List.getElem_mem _)
 refine M.uj w (by omega) (by omega) (by omega) (by omega) rfl λa1 h2 w=>?_;simp only[zs,Int.toNat_natCast]at w ⊢;refine M.jn ?_;rw[yB]at w;refine M.aP (I:=λ(i:Int) h'=>∃m:Nat,m≤l∧i=(m:Int)∧Wd h h' [.sl 9 1 a1 (2*l) (2*l) (eS.row ((List.range (2*l)).map λj=>if l≤j∧j<l+m then iz ls j else empty))]) (μ:=λi=>(l-i).toNat) ⟨0,by omega,rfl,?_⟩ ?_
 ·rw[jh (g:=λ_=>empty) λi hi=>if_neg (by omega)];exact w
 clear w;rintro _ h2 J ⟨m,hm,rfl,w⟩ hJ;by_cases hlt:m<l
 ·refine eN (by omega) ?_;have hpm:=hp m hlt;have v1:wrap .i64 ((l:Int)+m)=((l+m:Nat):Int):=by rw[IntKind.wrap_i64];omega
  have v2:wrap .i64 ((m:Int)+1)=((m+1:Nat):Int):=by rw[IntKind.wrap_i64];omega
  simp only[v1,v2];refine Ro.vu (f.keep w.keep) (by omega) (by omega) ?_;simp only[Int.toNat_natCast];refine cf (by simp[*]) ?_;refine M.dN ?_;refine Ro.vu (f.keep w.keep) (by omega) (by omega) ?_;simp only[Int.toNat_natCast];refine w.xD 0 rfl rfl _ rfl (by omega) (by omega) λh17 w=>?_;simp only[bs,Int.toNat_natCast]at w;refine M.dN ?_;refine hJ _ _ ⟨m+1,by omega,rfl,?_⟩ (by omega);rw[jY]at w;rw[jh (g:=λj=>if j=l+m then sa ls m else if l≤j∧j<l+m then iz ls j else empty) λi hi=>?_]
  ·exact w
  ·by_cases h1:i=l+m
   ·subst h1;rw[if_pos (by omega),if_pos rfl,ki (by omega),hlen,Nat.add_sub_cancel_left]
   ·rw[if_neg h1];by_cases h2:l≤i∧i<l+m
    ·rw[if_pos h2,if_pos (by omega)]
    ·rw[if_neg h2,if_neg (by omega)]
 refine gI (by omega) ?_;obtain rfl:m=l:=by omega
 refine M.uj w (by omega) (by omega) (by omega) (by omega) rfl λa2 h3 w=>?_;simp only[zs,Int.toNat_natCast]at w ⊢;refine M.jn (M.vis ((m-1:Nat):Int) (by rw[IntKind.wrap_i64];omega) ?_);rw[yB]at w;refine M.aP (I:=λ(i:Int) h'=>∃q:Nat,q<m∧i=(q:Int)∧Wd h h' [.sl 9 1 a1 (2*m) (2*m) (eS.row ((List.range (2*m)).map λj=>if q<j then iz ls j else empty)),.sl 9 1 a2 m m (eS.row ((List.range m).map λj=>if q<j then fU ls j else empty))]) (μ:=λi=>i.toNat) ⟨m-1,by omega,rfl,?_⟩ ?_
 ·rw[jh (g:=λj=>if m≤j∧j<m+m then iz ls j else empty) λi hi=>?_,jh (n:=m) (g:=λ_=>empty) λi hi=>if_neg (by omega)]
  ·exact w
  ·by_cases h1:m≤i
   ·rw[if_pos (by omega),if_pos (by omega)]
   ·rw[if_neg (by omega),if_neg (by omega)]
 clear w hJ J;rintro _ h3 J ⟨q,hq,rfl,w⟩ hJ;cases q with
 | succ q=>
  refine eN (by omega) ?_;have v1:wrap .i64 (2*((q+1:Nat):Int))=((2*(q+1):Nat):Int):=by rw[IntKind.wrap_i64];omega
  have v2:wrap .i64 (((2*(q+1):Nat):Int)+1)=((2*(q+1)+1:Nat):Int):=by rw[IntKind.wrap_i64];omega
  have v3:wrap .i64 (((q+1:Nat):Int)-1)=(q:Int):=by rw[IntKind.wrap_i64];omega
  have s1:sa ((List.range (2*m)).map λj=>if q+1<j then iz ls j else empty) (2*(q+1))=iz ls (2*(q+1)):=by rw[rE _ (by omega),if_pos (by omega)]
  have s2:sa ((List.range (2*m)).map λj=>if q+1<j then iz ls j else empty) (2*(q+1)+1)=iz ls (2*(q+1)+1):=by rw[rE _ (by omega),if_pos (by omega)]
  have z1:=jK hz (i:=2*(q+1)) (by omega) (by omega);have z2:=jK hz (i:=2*(q+1)+1) (by omega) (by omega);have z3:=mH hz (i:=q+1) (by omega) (by omega);have ep:iz ls (2*(q+1))++iz ls (2*(q+1)+1)=fU ls (q+1):=rfl;simp only[v1];refine M.dN ?_;refine Ro.vu (w.ro 0 rfl (by decide)) (by omega) (by omega) ?_;simp only[Int.toNat_natCast,s1];refine M.dN ?_;simp only[v2];refine M.dN ?_;refine Ro.vu (w.ro 0 rfl (by decide)) (by omega) (by omega) ?_;refine⟨(by simp only[Rh,Int.toNat_natCast,v1,v2,s1,s2,ep,jY];omega),?_⟩;simp only[Int.toNat_natCast,s2,ep];refine w.xD 1 rfl rfl _ rfl (by omega) (by omega) λh14 w=>?_;simp only[bs,Int.toNat_natCast,jY]at w;refine Ro.vu (w.ro 1 rfl (by decide)) (by omega) (by omega) ?_;simp only[Int.toNat_natCast];have s3:sa ((List.range m).map λi=>if i=q+1 then fU ls (q+1)else if q+1<i then fU ls i else empty) (q+1)=fU ls (q+1):=by rw[rE _ (by omega),if_pos rfl]
  simp only[v3,s3];refine xY (by omega) (tb.keep w.keep) λh4 k_=>?_;have w:=w.keeps k_;clear k_;refine w.xD 0 rfl rfl _ rfl (by omega) (by omega) λh8 w=>?_;simp only[bs,Int.toNat_natCast,jY]at w;refine M.dN ?_;refine hJ _ _ ⟨q,by omega,rfl,?_⟩ (by omega);rw[jh (g:=λj=>if j=q+1 then dH 1 (fU ls (q+1))else if q+1<j then iz ls j else empty) λi hi=>?_,jh (n:=m) (g:=λi=>if i=q+1 then fU ls (q+1)else if q+1<i then fU ls i else empty) λi hi=>?_]
  ·exact w
  ·by_cases h1:i=q+1
   ·subst h1;rw[if_pos (by omega),if_pos rfl]
   ·rw[if_neg h1];by_cases h2:q+1<i
    ·rw[if_pos h2,if_pos (by omega)]
    ·rw[if_neg h2,if_neg (by omega)]
  ·by_cases h1:i=q+1
   ·subst h1;rw[if_pos (by omega),if_pos rfl,m9 (by omega) (by omega)];rfl
   ·rw[if_neg h1];by_cases h2:q+1<i
    ·rw[if_pos h2,if_pos (by omega)]
    ·rw[if_neg h2,if_neg (by omega)]
 | zero=>
  refine gI (by omega) ?_;have s1:sa ((List.range (2*m)).map λj=>if 0<j then iz ls j else empty) 1=iz ls 1:=by rw[rE _ (by omega),if_pos (by omega)]
  have e1:Int.toNat 1=1:=rfl;simp only[];refine Ro.vu (w.ro 0 rfl (by decide)) (by omega) (by omega) ?_;simp only[e1,s1];have e:mS ls=(List.range m).map λj=>if 0<j then fU ls j else empty:=by
   rw[mS,hlen];refine jh λi hi=>?_;by_cases h1:i=0
   ·rw[if_pos h1,if_neg (by omega)]
   ·rw[if_neg h1,if_pos (by omega)]
  refine k _ _ _ ?_;rw[e];exact w.drop (i:=0) rfl
theorem FQ{Q:ByteArray->H->Prop}(hz:∀p∈ls,p.size=32)(hl:l≤16):∀(k i:Nat) {h:H} {Q:ByteArray->H->Prop},Ro eS h a l ls->qa h->0<i->i<2*l->l≤i*2^k->(∀h',bq h h'->Q (iz ls i) h')->aR.n (k+1) a l c (i:Int) h Q:=by
 intro k;induction k with
 | zero=>
  intro i h Q f tb h0 h2 hk q;have hlen:=f.len;have w:=Wd.start h;show aR.g _ _ a l c i h Q;unfold aR.g;refine eN (by omega) (M.vis ((i-l:Nat):Int) (by rw[IntKind.wrap_i64];omega) ?_);refine Ro.vu f (by omega) (by omega) ?_;simp only[Int.toNat_natCast];have:=q h (bq.refl h)
  rwa [ki (by omega),hlen]at this
 | succ k ih=>
  intro i h Q f tb h0 h2 hk q;have hlen:=f.len;have w:=Wd.start h;show aR.g _ _ a l c i h Q;unfold aR.g;by_cases hi:i<l
  ·have z1:=jK hz (i:=2*i) (by omega) (by omega);have z2:=jK hz (i:=2*i+1) (by omega) (by omega);have hp:i*2^(k+1)=(2*i)*2^k:=by rw[Nat.pow_succ,Nat.mul_comm 2 i,Nat.mul_assoc,Nat.mul_comm 2]
   have hp2:(2*i+1)*2^k=2*i*2^k+2^k:=Nat.succ_mul _ _;have hk1:l≤2*i*2^k:=hp ▸ hk;have hk2:l≤(2*i+1)*2^k:=by rw[hp2];exact Nat.le_trans hk1 (Nat.le_add_right _ _)
   refine gI (by omega) (M.vis ((2*i:Nat):Int) (by rw[IntKind.wrap_i64];omega) ?_);refine ih (2*i) f tb (by omega) (by omega) hk1 λh1 k1=>?_;have w:=w.keeps k1;refine M.vis ((2*i:Nat):Int) (by rw[IntKind.wrap_i64];omega) (M.vis ((2*i+1:Nat):Int) (by rw[IntKind.wrap_i64];omega) ?_);refine ih (2*i+1) (f.keep k1) (tb.keep k1) (by omega) (by omega) hk2 λh3 k3=>?_;have w:=w.keeps k3;refine⟨(by simp;omega),?_⟩;refine pO (by omega) (by simp;omega) (tb.keep w.keep) λh4 k_=>?_;have w:=w.keeps k_;clear k_;have:=q _ w.keep;rw[m9 (by omega) (by omega)]at this;exact this
  ·refine eN (by omega) (M.vis ((i-l:Nat):Int) (by rw[IntKind.wrap_i64];omega) ?_);refine Ro.vu f (by omega) (by omega) ?_;simp only[Int.toNat_natCast];have:=q h (bq.refl h)
   rwa [ki (by omega),hlen]at this
theorem qB{i:Nat}{Q:ByteArray->H->Prop}(f:Ro eS h a l ls)(hz:∀p∈ls,p.size=32)(hl:l≤16)(tb:qa h)(h0:0<i)(h2:i<2*l)(q:∀h',bq h h'->Q (iz ls i) h'):aR a l c (i:Int) h Q:=
 ⟨5,FQ (Q:=Q) hz hl 4 i f tb h0 h2 (by omega) q⟩
theorem Cb(f:Ro eS h a l ls)(hd:dep (l:Int)≠0)(hz:∀p∈ls,p.size=32)(tb:qa h)(k:∀a c h',Wd h h' [.sl 9 1 a l c (eS.row (mS ls))]->Q a l c (iz ls 1) 0 h'):gr a l c h Q:=by
 unfold gr;have hlen:=f.len;have hl:2≤l∧l≤16:=by rcases oE hd with h|h|h|h<;>omega
 have w:=Wd.start h;refine vj (cf (by rw[beq_eq_false_iff_ne];omega) ?_);have hp:∀m,m<l->(sa ls m).size=32:=λm hm=>by rw[kM (by omega)];exact hz _ (List.getElem_mem _)
 refine M.jn ?_;refine M.aP (I:=λ(i:Int) h'=>∃m:Nat,m≤l∧i=(m:Int)∧Wd h h' []) (μ:=λi=>(l-i).toNat) ⟨0,by omega,rfl,w⟩ ?_;clear w;rintro _ h2 J ⟨m,hm,rfl,w⟩ hJ;by_cases hlt:m<l
 ·refine eN (by omega) ?_;have hpm:=hp m hlt;have v2:wrap .i64 ((m:Int)+1)=((m+1:Nat):Int):=by rw[IntKind.wrap_i64];omega
  simp only[v2];refine Ro.vu (f.keep w.keep) (by omega) (by omega) ?_;simp only[Int.toNat_natCast];refine cf (by simp[*]) ?_;refine M.dN ?_;exact hJ _ _ ⟨m+1,by omega,rfl,w⟩ (by omega)
 refine gI (by omega) ?_;refine M.uj w (by omega) (by omega) (by omega) (by omega) rfl λa1 h3 w=>?_;simp only[zs,Int.toNat_natCast]at w ⊢;refine M.jn ?_;rw[yB]at w;refine M.aP (I:=λ(i:Int) h'=>∃q:Nat,1≤q∧q≤l∧i=(q:Int)∧Wd h h' [.sl 9 1 a1 l l (eS.row ((List.range l).map λj=>if j=0∨q≤j then empty else fU ls j))]) (μ:=λi=>(l-i).toNat) ⟨1,by omega,by omega,rfl,?_⟩ ?_
 ·rw[jh (g:=λ_=>empty) λi hi=>if_pos (by omega)];exact w
 clear w hJ J;rintro _ h3 J ⟨q,hq0,hq,rfl,w⟩ hJ;by_cases hlt2:q<l
 ·refine eN (by omega) ?_;have z1:=jK hz (i:=2*q) (by omega) (by omega);have z2:=jK hz (i:=2*q+1) (by omega) (by omega);have v2:wrap .i64 ((q:Int)+1)=((q+1:Nat):Int):=by rw[IntKind.wrap_i64];omega
  refine M.vis ((2*q:Nat):Int) (by rw[IntKind.wrap_i64];omega) ?_;refine qB (f.keep w.keep) hz hl.2 (tb.keep w.keep) (by omega) (by omega) λh4 k4=>?_;have w:=w.keeps k4;refine M.vis ((2*q:Nat):Int) (by rw[IntKind.wrap_i64];omega) (M.vis ((2*q+1:Nat):Int) (by rw[IntKind.wrap_i64];omega) ?_);refine qB (f.keep w.keep) hz hl.2 (tb.keep w.keep) (by omega) (by omega) λh5 k5=>?_;have w:=w.keeps k5;have ep:iz ls (2*q)++iz ls (2*q+1)=fU ls q:=rfl;refine⟨(by simp;omega),?_⟩;simp only[v2,ep];refine w.xD 0 rfl rfl _ rfl (by omega) (by omega) λh10 w=>?_;simp only[bs,Int.toNat_natCast]at w;refine M.dN ?_;rw[jY]at w;refine hJ _ _ ⟨q+1,by omega,by omega,rfl,?_⟩ (by omega);rw[jh (g:=λi=>if i=q then fU ls q else if i=0∨q≤i then empty else fU ls i) λi hi=>?_]
  ·exact w
  ·by_cases h1:i=q
   ·subst h1;rw[if_neg (by omega),if_pos rfl]
   ·rw[if_neg h1];by_cases h2:i=0∨q≤i
    ·rw[if_pos h2,if_pos (by omega)]
    ·rw[if_neg h2,if_neg (by omega)]
 ·refine gI (by omega) ?_;refine qB (i:=1) (f.keep w.keep) hz hl.2 (tb.keep w.keep) (by omega) (by omega) λh5 k5=>?_;have w:=w.keeps k5;have e:mS ls=(List.range l).map λj=>if j=0∨q≤j then empty else fU ls j:=by
   rw[mS,hlen];refine jh λi hi=>?_;by_cases h1:i=0
   ·rw[if_pos h1,if_pos (.inl h1)]
   ·rw[if_neg h1,if_neg (by omega)]
  refine k _ _ _ ?_;rw[e];exact w
end
def qh(a b c d:U)(m n:Nat):U×U×U×U:=
 let a':=a+b
 let d':=(d ^^^ a').rotateLeft m
 let c':=c+d'
 (a',(b ^^^ c').rotateLeft n,c',d')
def QY(a b c d:U):U×U×U×U:=
 let q:=qh a b c d 16 12
 qh q.1 q.2.1 q.2.2.1 q.2.2.2 8 7
def qS(s:List U)(a b c d:Nat):List U:=
 let q:=QY (jV s a) (jV s b) (jV s c) (jV s d)
 (((s.set a q.1).set b q.2.1).set c q.2.2.1).set d q.2.2.2
theorem uf(s:List U)(a b c d:Nat):(qS s a b c d).length=s.length:=by simp[qS]
def Q7(s:List U):List U:=qS (qS (qS (qS (qS (qS (qS (qS s 0 4 8 12) 1 5 9 13) 2 6 10 14) 3 7 11 15) 0 5 10 15) 1 6 11 12) 2 7 8 13) 3 4 9 14
def NC(s:List U):Nat->List U
 | 0=>s
 | n+1=>Q7 (NC s n)
theorem Oa(s:List U):(Q7 s).length=s.length:=by simp[Q7,uf]
theorem OF(s:List U)(i:Nat)(x:U):(kQ s).toArray.setIfInBounds i (.int .u32 (ui x))=(kQ (s.set i x)).toArray:=by
 rw[List.setIfInBounds_toArray,kQ,kQ,List.map_set];rfl
section
variable {h0 h:H}{a b c d:U}{s:List U}
theorem El{Q:Int->Int->Int->Int->H->Prop}(k:∀h',bq h h'->Q (ui (QY a b c d).1) (ui (QY a b c d).2.1) (ui (QY a b c d).2.2.1) (ui (QY a b c d).2.2.2) h'):dP (ui a) (ui b) (ui c) (ui d) h Q:=by
 unfold dP;refine M.jn (M.times 3 ?_);have w:=Wd.start h;refine M.bM ?_;simp only[kj];refine eN (by omega) ?_;refine⟨(by omega),(by omega),?_⟩;simp only[bs,reduceToNat];refine M.aK w λb2 h1 w=>?_;refine⟨(rfl),?_⟩;refine M.bz w 0 rfl (by simp[ag]) (by simp) λh3 w=>?_;simp only[bs]at w;refine M.dN ?_;simp only[nU];refine M.dN ?_;refine⟨(by omega),(by omega),?_⟩;simp only[bs,reduceToNat,lb (w.blk 0 rfl)];refine rR ?_;simp only[kj];refine M.dN ?_;simp only[nU];refine M.dN ?_;refine⟨(by omega),(by omega),?_⟩;simp only[bs,reduceToNat,lb (w.blk 0 rfl)];refine rR ?_;refine M.vis (1) (by decide) ?_;refine M.bM ?_;simp only[kj];refine eN (by omega) ?_;refine⟨(by omega),(by omega),?_⟩;simp only[];simp only[bs,reduceToNat];refine M.aK w λb5 h4 w=>?_;refine⟨(rfl),?_⟩;refine M.bz w 1 rfl (by simp[ag]) (by simp) λh6 w=>?_;simp only[bs]at w;refine M.dN ?_;simp only[nU];refine M.dN ?_;refine⟨(by omega),(by omega),?_⟩;simp only[bs,reduceToNat,lb (w.blk 1 rfl)];refine rR ?_;simp only[kj];refine M.dN ?_;simp only[nU];refine M.dN ?_;refine⟨(by omega),(by omega),?_⟩;simp only[bs,reduceToNat,lb (w.blk 1 rfl)];refine rR ?_;refine M.vis (2) (by decide) ?_;refine M.bM ?_;simp only[kj];refine gI (by omega) ?_;exact k _ w.keep
theorem xH{L:List Chunk}{bk:Nat}{e:TypeId}{z:Int}{N:Nat}{K:H->Prop}(w:Wd h0 h L)(i:Nat)(hi:L[i]? = some (.blk bk (.cells (kQ s).toArray e (0,0))))(n:Nat)(hz:z=(n:Int))(hn:n<N)(hl:s.length=N)(x:U)
  (k:∀h',Wd h0 h' (L.set i (.blk bk (.cells (kQ (s.set n x)).toArray e (0,0))))->K h'):M.fk N z λj=>M.put h (Addr.add ⟨bk,0,none⟩ (j*1)) (.int .u32 (ui x)) K:=by
 subst hz;refine⟨by omega,by omega,?_⟩;show M.put h (Addr.add ⟨bk,0,none⟩ ((n:Int).toNat * 1)) _ K;rw[Int.toNat_natCast,Nat.mul_one,aS,Nat.zero_add];refine M.bg w i hi rfl (by rw[List.size_toArray,jd];omega) λh' w=>k h' ?_
 rwa [OF]at w
theorem kW{bk:Nat}{e:TypeId}{i j k l:Int}{Q:H->Prop}(w:Wd h0 h [.blk bk (.cells (kQ s).toArray e (0,0))])(hs:s.length=16)(hi:0≤i∧i<16)(hj:0≤j∧j<16)(hk:0≤k∧k<16)(hl:0≤l∧l<16)
  (q:∀h',Wd h0 h' [.blk bk (.cells (kQ (qS s i.toNat j.toNat k.toNat l.toNat)).toArray e (0,0))]->Q h'):eL (some ⟨bk,0,none⟩) i j k l h Q:=by
 unfold eL;have r:=hM (w.blk 0 rfl);have ei:i=(i.toNat:Int):=by omega
 have ej:j=(j.toNat:Int):=by omega
 have ek:k=(k.toNat:Int):=by omega
 have el:l=(l.toNat:Int):=by omega
 generalize i.toNat=i' at *;generalize j.toNat=j' at *;generalize k.toNat=k' at *;generalize l.toNat=l' at *;simp only[iy];refine iT r i' ei (by omega) hs ?_;refine iT r j' ej (by omega) hs ?_;refine iT r k' ek (by omega) hs ?_;refine iT r l' el (by omega) hs ?_;refine El λh2 k2=>?_;have w:=w.keeps k2;refine xH w 0 rfl i' ei (by omega) hs _ λh3 w=>xH w 0 rfl j' ej (by omega) (by simp[hs]) _ λh4 w=>xH w 0 rfl k' ek (by omega) (by simp[hs]) _ λh5 w=>xH w 0 rfl l' el (by omega) (by simp[hs]) _ λh6 w=>?_;exact q _ w
end
def Ot(a b:ByteArray):ByteArray:=yp (min a.size b.size) λi=>bx (aF a i) (aF b i)
section
variable {h:H}{a b:ByteArray}{Q:ByteArray->H->Prop}
theorem LX(ha:a.size≤1000000)(k:∀h',bq h h'->Q (Ot a b) h'):jj a b h Q:=by
 unfold jj;rw[HF];unfold Ot at k;generalize hn:min a.size b.size=n at *;have w:=Wd.start h;refine M.uj w (by omega) (by omega) (by omega) (by omega) rfl λa1 h2 w=>?_;simp only[zs,Int.toNat_natCast]at w ⊢;refine M.jn ?_;refine M.aP (I:=λ(i:Int) h'=>∃m:Nat,m≤n∧i=(m:Int)∧Wd h h' [.sl 5 1 a1 n n (eB.row ((List.range n).map λi=>if i<m then bx (aF a i) (aF b i)else 0))]) (μ:=λi=>(n-i).toNat) ⟨0,by omega,rfl,?_⟩ ?_
 ·have:(List.range n).map (λi=>if i<0 then bx (aF a i) (aF b i)else 0)=List.replicate n 0:=by
   rw[List.eq_replicate_iff];refine⟨by simp,λb hb=>?_⟩;rw[List.mem_map]at hb;obtain⟨j,hj,rfl⟩:=hb;rw[if_neg (by omega)]
  rw[this];exact w
 clear w;rintro _ h2 J ⟨m,hm,rfl,w⟩ hJ;by_cases hlt:m<n
 ·refine eN (by omega) ?_;have v2:wrap .i64 ((m:Int)+1)=((m+1:Nat):Int):=by rw[IntKind.wrap_i64];omega
  refine⟨(by omega),(by omega),?_⟩;refine⟨(by omega),(by omega),?_⟩;simp only[Int.toNat_natCast,v2];refine M.dN ?_;refine w.xD 0 rfl rfl _ rfl (by omega) (by omega) λh4 w=>?_;simp only[bs,Int.toNat_natCast,jY]at w;refine M.dN ?_;refine hJ _ _ ⟨m+1,by omega,rfl,?_⟩ (by omega);have:(List.range n).map (λi=>if i<m+1 then bx (aF a i) (aF b i)else 0)=(List.range n).map (λi=>if i=m then mZ .u8 (aF a m) (aF b m)else if i<m then bx (aF a i) (aF b i)else 0):=by
   apply List.map_congr_left;intro i hi;by_cases h1:i=m
   ·subst h1;rw[if_pos (by omega),if_pos rfl];rfl
   ·rw[if_neg h1];by_cases h2:i<m
    ·rw[if_pos h2,if_pos (by omega)]
    ·rw[if_neg h2,if_neg (by omega)]
  rw[this];exact w
 ·refine gI (by omega) ?_;refine w.OW 0 rfl ?_;have:(List.range n).map (λi=>if i<m then bx (aF a i) (aF b i)else 0)=(List.range n).map λi=>bx (aF a i) (aF b i):=List.map_congr_left λi hi=>if_pos (by have:=List.mem_range.1 hi;omega)
  rw[this];exact k _ w.keep
end
theorem Ff(ji:Bool)(a b:ByteArray)(i:Nat)(h:4*i+3<a.size):kr ji (a++b) i=kr ji a i:=by
 unfold kr;rw[kZ,if_pos (by omega),kZ,if_pos (by omega),kZ,if_pos (by omega),kZ,if_pos (by omega)]
theorem DI(ji:Bool)(a b:ByteArray)(m i:Nat)(h:a.size=4*m):kr ji (a++b) (m+i)=kr ji b i:=by
 unfold kr;rw[kZ,if_neg (by omega),kZ,if_neg (by omega),kZ,if_neg (by omega),kZ,if_neg (by omega),show 4*(m+i)-a.size=4*i by omega,show 4*(m+i)+1-a.size=4*i+1 by omega,show 4*(m+i)+2-a.size=4*i+2 by omega,show 4*(m+i)+3-a.size=4*i+3 by omega]
theorem FO(ji:Bool)(a b:ByteArray)(h:a.size%4=0):bP ji (a++b)=bP ji a++bP ji b:=by
 obtain⟨m,hm⟩:∃m,a.size=4*m:=⟨a.size/4,by omega⟩;unfold bP;rw[ByteArray.size_append,show(a.size+b.size)/4=m+b.size/4 by omega,show a.size/4=m by omega,List.range_add,List.map_append,List.map_map];congr 1
 ·exact List.map_congr_left λi hi=>Ff _ _ _ _ (by have:=List.mem_range.1 hi;omega)
 ·exact List.map_congr_left λi hi=>DI _ _ _ _ _ hm
def HH:List U:=[0x61707865,0x3320646e,0x79622d32,0x6b206574]
def Ia(key nonce:ByteArray)(c:U):List U:=((HH++bP false key)++[c])++bP false nonce
def L6(D S:List U):List U:=(List.range 16).map λi=>jV D i+jV S i
def nR(key nonce:ByteArray)(c:U):ByteArray:=lf false (L6 (NC (Ia key nonce c) 10) (Ia key nonce c))
theorem tG(key nonce:ByteArray)(c:U):(nR key nonce c).size=64:=by rw[nR,kV];simp[L6]
theorem MT{key nonce:ByteArray}{c:U}(hk:key.size=32)(hn:nonce.size=12):(Ia key nonce c).length=16:=by
 simp[Ia,ju,hk,hn,HH]
theorem Od(D S:List U)(hD:D.length=16)(m:Nat)(hm:m<16):((List.range 16).map λi=>if i<m then jV D i+jV S i else jV D i).set m (jV D m+jV S m)=(List.range 16).map λi=>if i<m+1 then jV D i+jV S i else jV D i:=by
 rw[jY];apply List.map_congr_left;intro i hi;by_cases h1:i=m
 ·subst h1;rw[if_pos rfl,if_pos (by omega)]
 ·rw[if_neg h1];by_cases h2:i<m
  ·rw[if_pos h2,if_pos (by omega)]
  ·rw[if_neg h2,if_neg (by omega)]
theorem IC(D:List U)(hD:D.length=16):D=(List.range 16).map λi=>if i<0 then jV D i+0 else jV D i:=by
 apply List.ext_getElem
 ·simp[hD]
 ·intro i h1 h2;simp[rX D i h1]
theorem Kq:bP false (⟨#[101,120,112,97,110,100,32,51,50,45,98,121,116,101,32,107]⟩:ByteArray)=HH:=by decide
section
variable {h:H}{key nonce:ByteArray}{c:U}
theorem zJ{Q:ByteArray->H->Prop}(hk:key.size=32)(hn:nonce.size=12)(k:∀h',bq h h'->Q (nR key nonce c) h'):dw key nonce (ui c) h Q:=by
 unfold dw;unfold nR at k;have hz:((⟨#[101,120,112,97,110,100,32,51,50,45,98,121,116,101,32,107]⟩:ByteArray)++key).size=48:=by rw[ByteArray.size_append,hk];rfl
 have w:=Wd.start h;refine⟨(by simp only[Rh];omega),?_⟩;refine qN (by omega) (by omega) λa1 c1 h1 w'=>?_;have w:=w.join w';clear w';refine qN (by omega) (by omega) λa2 c2 h2 w'=>?_;have w:=w.join w';clear w';rw[hz]at w ⊢;rw[hn]at w ⊢;rw[FO _ _ _ (by rfl),Kq]at w;have hkl:(HH++bP false key).length=12:=by simp[ju,hk,HH]
 have hnl:(bP false nonce).length=3:=by simp[ju,hn]
 have hS:=MT (c:=c) hk hn;have hSd:Ia key nonce c=((HH++bP false key)++[c])++bP false nonce:=rfl;generalize HH++bP false key=ws at *;generalize bP false nonce=ns at *;simp only[Nat.reduceDiv]at w ⊢;refine M.aK w λb4 h3 w=>?_;refine M.sx 0 16 rfl rfl (by decide) (by decide) (by decide) ?_;simp only[Nat.reduceAdd,Nat.reduceMul,Nat.reduceSub];refine Wd.push w 0 rfl rfl rfl (by simp[ag]) (by omega) (by omega) λa7 c8 h5 w=>?_;refine w.cells 1 rfl ?_;refine M.ru w 0 rfl rfl (by simp[jd,sB];omega) (pX _) (by omega) (by omega) λa9 c10 h11 w=>?_;simp only[bs,Nat.reduceAdd]at w;refine w.cells 0 rfl ?_;have hS':(kQ ws++[Value.int .u32 (ui c)]++kQ ns)=kQ (Ia key nonce c):=by rw[hSd,oK,oK];rfl
 rw[hS'];refine M.Mw w 2 rfl (pX _) (by rw[jd,hS];rfl) λh12 w=>?_;generalize Ia key nonce c=S at *;refine M.Ae (w.blk 2 rfl) (by rw[List.size_toArray,jd,hS]) ?_;have hsz:(kQ S).toArray.toList.toArray.size=16:=by simp[jd,hS]
 refine M.aK w λb5 h4 w=>?_;refine⟨(by assumption),?_⟩;refine M.bz w 3 rfl (pX _) (by simp[jd,hS]) λh13 w=>?_;have w:=(w.drop (i:=0) rfl).drop (i:=0) rfl;obtain⟨R,hR0,hRs,hR10⟩:∃R:Nat->List U,R 0=S∧(∀n,R (n+1)=Q7 (R n))∧NC S 10=R 10:=⟨NC S,rfl,λ_=>rfl,rfl⟩;have hRl:∀n,(R n).length=16:=by
  intro n;induction n with
  | zero=>rw[hR0,hS]
  | succ n ih=>rw[hRs,Oa,ih]
 rw[hR10]at k;refine M.jn ?_;refine M.aP (I:=λ(i:Int) h'=>∃m:Nat,m≤10∧i=(m:Int)∧Wd h h' [.blk b4 (.cells (kQ S).toArray 405),.blk b5 (.cells (kQ (R m)).toArray 405)]) (μ:=λi=>(10-i).toNat) ⟨0,by omega,rfl,by rw[hR0];exact w⟩ ?_;clear w;rintro _ h14 J ⟨m,hm,rfl,w⟩ hJ;by_cases hlt:m<10
 ·refine eN (by omega) ?_;have v1:wrap .i64 ((m:Int)+1)=((m+1:Nat):Int):=by rw[IntKind.wrap_i64];omega
  have hl:=hRl m;refine M.jn (M.times 5 ?_);refine M.bM ?_;refine eN (by omega) ?_;refine M.vis (4) (by decide) ?_;refine M.vis (8) (by decide) ?_;refine M.vis (12) (by decide) ?_;obtain⟨hx,k0,k1,wx,wr,back⟩:=w.on (i:=1) rfl;refine kW wx (by assumption) (by omega) (by omega) (by omega) (by omega) λh6 w_=>?_;have w:=back _ _ w_;clear w_ back wr wx k1 k0 hx;simp only[bs,reduceToNat]at w;refine M.vis (1) (by decide) ?_;refine M.bM ?_;refine eN (by omega) ?_;refine M.vis (5) (by decide) ?_;refine M.vis (9) (by decide) ?_;refine M.vis (13) (by decide) ?_;obtain⟨hx,k0,k1,wx,wr,back⟩:=w.on (i:=1) rfl;refine kW wx (by simp only[uf,hl]) (by omega) (by omega) (by omega) (by omega) λh7 w_=>?_;have w:=back _ _ w_;clear w_ back wr wx k1 k0 hx;simp only[bs,reduceToNat]at w;refine M.vis (2) (by decide) ?_;refine M.bM ?_;refine eN (by omega) ?_;refine M.vis (6) (by decide) ?_;refine M.vis (10) (by decide) ?_;refine M.vis (14) (by decide) ?_;obtain⟨hx,k0,k1,wx,wr,back⟩:=w.on (i:=1) rfl;refine kW wx (by simp only[uf,hl]) (by omega) (by omega) (by omega) (by omega) λh8 w_=>?_;have w:=back _ _ w_;clear w_ back wr wx k1 k0 hx;simp only[bs,reduceToNat]at w;refine M.vis (3) (by decide) ?_;refine M.bM ?_;refine eN (by omega) ?_;refine M.vis (7) (by decide) ?_;refine M.vis (11) (by decide) ?_;refine M.vis (15) (by decide) ?_;obtain⟨hx,k0,k1,wx,wr,back⟩:=w.on (i:=1) rfl;refine kW wx (by simp only[uf,hl]) (by omega) (by omega) (by omega) (by omega) λh9 w_=>?_;have w:=back _ _ w_;clear w_ back wr wx k1 k0 hx
  simp only[bs,reduceToNat]at w;refine M.vis (4) (by decide) ?_;refine M.bM ?_;refine gI (by omega) ?_;refine M.times 5 ?_;refine M.bM ?_;simp only[v1];refine eN (by omega) ?_;refine M.vis (1) (by decide) ?_;refine⟨(by omega),?_⟩;refine M.vis (1) (by decide) ?_;refine M.vis (5) (by decide) ?_;refine M.vis (2) (by decide) ?_;refine⟨(by omega),?_⟩;refine M.vis (2) (by decide) ?_;refine M.vis (10) (by decide) ?_;refine M.vis (3) (by decide) ?_;refine⟨(by omega),?_⟩;refine M.vis (3) (by decide) ?_;refine M.vis (15) (by decide) ?_;obtain⟨hx,k0,k1,wx,wr,back⟩:=w.on (i:=1) rfl;refine kW wx (by simp only[uf,hl,v1]) (by omega) (by omega) (by omega) (by omega) λh10 w_=>?_;have w:=back _ _ w_;clear w_ back wr wx k1 k0 hx;simp only[bs,reduceToNat]at w;refine M.vis (1) (by decide) ?_;refine M.bM ?_;refine eN (by omega) ?_;refine M.vis (2) (by decide) ?_;refine⟨(by omega),?_⟩;refine M.vis (2) (by decide) ?_;refine M.vis (6) (by decide) ?_;refine M.vis (3) (by decide) ?_;refine⟨(by omega),?_⟩;refine M.vis (3) (by decide) ?_;refine M.vis (11) (by decide) ?_;refine M.vis (4) (by decide) ?_;refine⟨(by omega),?_⟩;refine M.vis (0) (by decide) ?_;refine M.vis (12) (by decide) ?_;obtain⟨hx,k0,k1,wx,wr,back⟩:=w.on (i:=1) rfl;refine kW wx (by simp only[uf,hl,v1]) (by omega) (by omega) (by omega) (by omega) λh15 w_=>?_;have w:=back _ _ w_;clear w_ back wr wx k1 k0 hx;simp only[bs,reduceToNat]at w;refine M.vis (2) (by decide) ?_;refine M.bM ?_;refine eN (by omega) ?_;refine M.vis (3) (by decide) ?_
  refine⟨(by omega),?_⟩;refine M.vis (3) (by decide) ?_;refine M.vis (7) (by decide) ?_;refine M.vis (4) (by decide) ?_;refine⟨(by omega),?_⟩;refine M.vis (0) (by decide) ?_;refine M.vis (8) (by decide) ?_;refine M.vis (5) (by decide) ?_;refine⟨(by omega),?_⟩;refine M.vis (1) (by decide) ?_;refine M.vis (13) (by decide) ?_;obtain⟨hx,k0,k1,wx,wr,back⟩:=w.on (i:=1) rfl;refine kW wx (by simp only[uf,hl,v1]) (by omega) (by omega) (by omega) (by omega) λh16 w_=>?_;have w:=back _ _ w_;clear w_ back wr wx k1 k0 hx;simp only[bs,reduceToNat]at w;refine M.vis (3) (by decide) ?_;refine M.bM ?_;refine eN (by omega) ?_;refine M.vis (4) (by decide) ?_;refine⟨(by omega),?_⟩;refine M.vis (0) (by decide) ?_;refine M.vis (4) (by decide) ?_;refine M.vis (5) (by decide) ?_;refine⟨(by omega),?_⟩;refine M.vis (1) (by decide) ?_;refine M.vis (9) (by decide) ?_;refine M.vis (6) (by decide) ?_;refine⟨(by omega),?_⟩;refine M.vis (2) (by decide) ?_;refine M.vis (14) (by decide) ?_;obtain⟨hx,k0,k1,wx,wr,back⟩:=w.on (i:=1) rfl;refine kW wx (by simp only[uf,hl,v1]) (by omega) (by omega) (by omega) (by omega) λh17 w_=>?_;have w:=back _ _ w_;clear w_ back wr wx k1 k0 hx;simp only[bs,reduceToNat]at w;refine M.vis (4) (by decide) ?_;refine M.bM ?_;refine gI (by omega) ?_;refine M.dN ?_;refine hJ _ _ ⟨m+1,by omega,rfl,?_⟩ (by omega);rw[hRs,Q7];exact w
 ·refine gI (by omega) ?_;obtain rfl:m=10:=by omega
  have hl:=hRl 10;generalize R 10=D at *;have hDr:D=(List.range 16).map λi=>if i<0 then jV D i+jV S i else jV D i:=by
   refine(IC D hl).trans ?_;apply List.map_congr_left;intro i hi;rw[if_neg (by omega),if_neg (by omega)]
  refine M.jn ?_;refine M.aP (I:=λ(i:Int) h'=>∃m:Nat,m≤16∧i=(m:Int)∧Wd h h' [.blk b4 (.cells (kQ S).toArray 405),.blk b5 (.cells (kQ ((List.range 16).map λi=>if i<m then jV D i+jV S i else jV D i)).toArray 405)]) (μ:=λi=>(16-i).toNat) ⟨0,by omega,rfl,by rw[←hDr];exact w⟩ ?_
  clear w;rintro _ h15 J2 ⟨m,hm,rfl,w⟩ hJ2;have hml:((List.range 16).map λi=>if i<m then jV D i+jV S i else jV D i).length=16:=by simp
  by_cases hlt:m<16
  ·refine eN (by omega) ?_;have hm0:jV ((List.range 16).map λi=>if i<m then jV D i+jV S i else jV D i) m=jV D m:=by
    rw[rX _ _ (by omega)];simp
   refine iT (hM (w.blk 1 rfl)) m rfl hlt hml ?_;refine iT (hM (w.blk 0 rfl)) m rfl hlt hS ?_;rw[hm0,kj];refine M.dN (xH w 1 rfl m rfl hlt hml _ λh16 w=>?_);refine M.vis ((m+1:Nat):Int) (by rw[IntKind.wrap_i64];omega) ?_;refine hJ2 _ _ ⟨m+1,by omega,rfl,?_⟩ (by omega);rw[Od D S hl m hlt]at w;exact w
  ·refine gI (by omega) ?_;obtain rfl:m=16:=by omega
   refine M.sx 0 16 rfl rfl (by decide) (by decide) (by decide) ?_;simp only[Nat.reduceAdd,Nat.reduceMul,Nat.reduceSub];have e:((List.range 16).map λi=>if i<16 then jV D i+jV S i else jV D i)=L6 D S:=List.map_congr_left λi hi=>if_pos (List.mem_range.1 hi)
   rw[e]at w;refine o6 (rA (us:=L6 D S) (rest:=[]) (by rw[List.append_nil];exact w.blk 1 rfl) (by simp[L6])) λh16 N0=>?_;exact k _ (w.keep.trans N0)
theorem AI{Q:Bool->H->Prop}(hk:key.size=32)(hn:nonce.size=12)(k:Q true h):eR key nonce h Q:=by
 unfold eR;refine M.jn ?_;refine ct (by rw[hk];rfl) ?_;rw[hn];exact k
theorem Ir{Q:ByteArray->Int->H->Prop}(hk:key.size=32)(hn:nonce.size=12)(k:∀h',bq h h'->Q (nR key nonce c) 0 h'):fW key nonce (ui c) h Q:=by
 unfold fW;have w:=Wd.start h;refine AI (by assumption) (by assumption) ?_;refine cf (rfl) ?_;refine zJ (by assumption) (by assumption) λh1 k_=>?_;have w:=w.keeps k_;clear k_;exact k _ w.keep
end
def OB(key nonce:ByteArray)(c:U)(i:Nat):Int:=aF (nR key nonce (c+BitVec.ofNat 32 (i/64))) (i%64)
theorem Qo(key nonce:ByteArray)(c:U)(i:Nat):0≤OB key nonce c i∧OB key nonce c i<256:=dZ _ _
def nu(key nonce:ByteArray)(c:U)(s:ByteArray):ByteArray:=yp s.size λi=>bx (aF s i) (OB key nonce c i)
theorem lR(key nonce:ByteArray)(c:U)(s:ByteArray):(nu key nonce c s).size=s.size:=qu _ _
theorem PO(x:U):wrap .u32 (ui x+1)=ui (x+1):=kj x 1
theorem Qj(key nonce:ByteArray)(c:U)(j i:Nat)(hi:i<64):OB key nonce c (64*j+i)=aF (nR key nonce (c+BitVec.ofNat 32 j)) i:=by
 unfold OB;rw[show(64*j+i)/64=j by omega,show(64*j+i)%64=i by omega]
theorem M9(c:U)(j:Nat):c+BitVec.ofNat 32 j+1=c+BitVec.ofNat 32 (j+1):=by
 show c+BitVec.ofNat 32 j+BitVec.ofNat 32 1=_;rw[BitVec.add_assoc,←BitVec.ofNat_add]
section
variable {h:H}{key nonce s:ByteArray}{c:U}{Q:ByteArray->Int->H->Prop}
theorem Bh(hk:key.size=32)(hn:nonce.size=12)(hs:s.size≤65536)(k:∀h',bq h h'->Q (nu key nonce c s) 0 h'):dL key nonce (ui c) s h Q:=by
 unfold dL;have w:=Wd.start h;refine AI (by assumption) (by assumption) ?_;refine cf (rfl) ?_;refine gI (by omega) ?_;refine M.uj w (by omega) (by omega) (by omega) (by omega) rfl λa1 h2 w=>?_;simp only[zs,Int.toNat_natCast]at w ⊢;refine M.jn ?_;refine M.aP (I:=λ(p:Int×ByteArray×(Option Addr×Nat×Nat)) h'=>∃j m:Nat,m=min (64*j) s.size∧p.1=ui (c+BitVec.ofNat 32 j)∧p.2.1=s.extract m s.size∧p.2.2.2.1=m∧Wd h h' [.sl 5 1 p.2.2.1 p.2.2.2.1 p.2.2.2.2 (oT ((List.range m).map λi=>bx (aF s i) (OB key nonce c i)))]) (μ:=λp=>p.2.1.size) ⟨0,0,by omega,?_,?_,rfl,?_⟩ ?_
 ·simp
 ·exact ByteArray.extract_zero_size.symm
 ·exact w
 clear w;rintro⟨_,_,⟨a2,l2,c2⟩⟩ h2 J ⟨j,m,hm,hc,hr,hl,w⟩ hJ;simp only at hc hr hl w ⊢;subst hc hr hl;have hrs:(s.extract l2 s.size).size=s.size-l2:=by rw[ByteArray.size_extract];omega
 by_cases hlt:l2<s.size
 ·refine eN (by omega) ?_;have hl2:l2=64*j:=by omega
  obtain⟨n,hn'⟩:∃n,min (s.size-l2) 64=n:=⟨_,rfl⟩;have e1:mn ((s.extract l2 s.size).size:Int) 64=(n:Int):=by rw[hrs,←hn'];exact HF _ 64
  rw[e1];refine⟨by omega,by omega,by omega,?_⟩;refine zJ hk hn λh3 k3=>?_;have w:=w.keeps k3;refine LX (by rw[ByteArray.size_extract];omega) λh4 k4=>?_;have w:=w.keeps k4;have hx:Ot ((s.extract l2 s.size).extract (Int.toNat 0) (n:Int).toNat) (nR key nonce (c+BitVec.ofNat 32 j))=yp n λi=>bx (aF s (l2+i)) (OB key nonce c (l2+i)):=by
   rw[Ot,tG,ByteArray.size_extract,Int.toNat_natCast];have:min (min n (s.extract l2 s.size).size-Int.toNat 0) 64=n:=by rw[hrs];show min (min n (s.size-l2)-0) 64=n;omega
   rw[this];refine yh λi hi=>?_;rw[kJ _ _ _ _ (by show 0+i<n;omega) (by omega),kJ _ _ _ _ (by show l2+(0+i)<s.size;omega) (by omega),hl2,Qj _ _ _ _ _ (by omega)];show bx (aF s (64*j+(0+i))) _ = _;rw[Nat.zero_add]
  rw[hx,qu,FN _ _ λi _=>II _ _];refine M.ru w 0 rfl rfl (by simp[sB]) (pV _) (by omega) (by omega) λa5 c5 h5 w=>?_;refine⟨by omega,by omega,by omega,?_⟩;refine M.vis _ (PO _) ?_;rw[M9];refine hJ _ _ ⟨j+1,l2+n,by omega,rfl,?_,rfl,?_⟩ ?_
  ·show(s.extract l2 s.size).extract (n:Int).toNat ((s.extract l2 s.size).size:Int).toNat=_;rw[Int.toNat_natCast,Int.toNat_natCast,ByteArray.extract_extract,hrs];congr 1;omega
  ·rw[←K5,xC];exact w
  ·show((s.extract l2 s.size).extract (n:Int).toNat ((s.extract l2 s.size).size:Int).toNat).size<(s.extract l2 s.size).size;rw[Int.toNat_natCast,Int.toNat_natCast,ByteArray.size_extract,hrs];omega
 ·refine gI (by omega) ?_;have:l2=s.size:=by omega
  subst this;exact w.text 0 rfl (k _ w.keep)
end
theorem vC{key nonce s:ByteArray}{c:U}{i:Nat}(hi:i<s.size):aF (nu key nonce c s) i=bx (aF s i) (OB key nonce c i):=sI _ _ _ hi (II _ _)
theorem QJ{a b:Int}(ha:0≤a∧a<256)(hb:0≤b∧b<256):bx (bx a b) b=a:=by
 have h:=II a b;rw[HO h hb,HO ha hb,Int.toNat_natCast,Nat.xor_assoc,Nat.xor_self,Nat.xor_zero];omega
theorem D1(key nonce:ByteArray)(c:U)(s:ByteArray):nu key nonce c (nu key nonce c s)=s:=by
 refine zZ (by rw[lR,lR]) λi hi=>?_;rw[lR,lR]at hi;rw[vC (by rw[lR];exact hi),vC hi,QJ (dZ _ _) (Qo _ _ _ _)]
def kH(n:Nat):Int:=((n%18446744073709551616:Nat):Int)
theorem A9{n:Nat}(h:n<18446744073709551616):kH n=n:=by rw[kH,Nat.mod_eq_of_lt h]
theorem jA(a b:Nat):wrap .u64 (kH a+kH b)=kH (a+b):=by
 rw[IntKind.wrap_u64,kH,kH,kH];omega
theorem yH(a:Nat):wrap .u64 (0+kH a)=kH a:=by
 rw[IntKind.wrap_u64,kH];omega
theorem N3(a:Nat):wrap .u64 (kH a+0)=kH a:=by
 rw[IntKind.wrap_u64,kH];omega
theorem Qk(a:Nat):wrap .u64 (kH a+5)=kH (a+5):=by
 rw[IntKind.wrap_u64,kH,kH];omega
theorem ny(a:Nat):wrap .u64 (kH a*5)=kH (a*5):=by
 rw[IntKind.wrap_u64,kH,kH];omega
theorem lX(a b:Nat):wrap .u64 (kH a*kH b)=kH (a*b):=by
 rw[IntKind.wrap_u64,kH,kH,kH,←Int.natCast_mul];have:=Nat.mul_mod a b 18446744073709551616;generalize a%18446744073709551616*(b%18446744073709551616)=x at *;omega
theorem qi(a:Nat):lS .u64 (kH a) 67108863=kH (a%67108864):=by
 have h1:(BitVec.ofInt 64 (kH a) &&& BitVec.ofInt 64 67108863).toNat=a%67108864:=by
  rw[BitVec.toNat_and,show(BitVec.ofInt 64 67108863).toNat=2^26-1 from rfl,Nat.and_two_pow_sub_one_eq_mod,kH,BitVec.ofInt_natCast,BitVec.toNat_ofNat];omega
 show wrap .u64 ((BitVec.ofInt 64 (kH a) &&& BitVec.ofInt 64 67108863).toNat:Int)=_;rw[h1,IntKind.wrap_u64,kH];omega
theorem Ah(a:Nat):lS .u64 (kH a) 4294967295=kH (a%4294967296):=by
 have h1:(BitVec.ofInt 64 (kH a) &&& BitVec.ofInt 64 4294967295).toNat=a%4294967296:=by
  rw[BitVec.toNat_and,show(BitVec.ofInt 64 4294967295).toNat=2^32-1 from rfl,Nat.and_two_pow_sub_one_eq_mod,kH,BitVec.ofInt_natCast,BitVec.toNat_ofNat];omega
 show wrap .u64 ((BitVec.ofInt 64 (kH a) &&& BitVec.ofInt 64 4294967295).toNat:Int)=_;rw[h1,IntKind.wrap_u64,kH];omega
theorem tC(a:Nat):shr .u64 (kH a) 26=kH (a%18446744073709551616/67108864):=by
 have h:shr .u64 (kH a) ((26:Nat):Int)=_:=xB .u64 (a%18446744073709551616) 26 (by decide);refine h.trans ?_;rw[kH];omega
theorem uJ(a:Nat):shr .u64 (kH a) 32=kH (a%18446744073709551616/4294967296):=by
 have h:shr .u64 (kH a) ((32:Nat):Int)=_:=xB .u64 (a%18446744073709551616) 32 (by decide);refine h.trans ?_;rw[kH];omega
structure L5 where
 a:Nat
 b:Nat
 c:Nat
 d:Nat
 e:Nat
namespace L5
def val(x:L5):Nat:=x.a+x.b*67108864+x.c*4503599627370496+x.d*302231454903657293676544+x.e*20282409603651670423947251286016
def o(x:L5):Obj:=.cells #[.int .u64 (kH x.a),.int .u64 (kH x.b),.int .u64 (kH x.c),.int .u64 (kH x.d),.int .u64 (kH x.e)] 410 (0,0)
def sh(n:Nat):Nat:=n%18446744073709551616/67108864
def c1(x:L5):Nat:=sh x.a
def c2(x:L5):Nat:=sh (x.b+x.c1)
def c3(x:L5):Nat:=sh (x.c+x.c2)
def c4(x:L5):Nat:=sh (x.d+x.c3)
def c5(x:L5):Nat:=sh (x.e+x.c4)
def carry(x:L5):L5:=⟨(x.a%67108864+x.c5*5)%67108864,(x.b+x.c1)%67108864+sh (x.a%67108864+x.c5*5),(x.c+x.c2)%67108864,(x.d+x.c3)%67108864,(x.e+x.c4)%67108864⟩
def P:Nat:=1361129467683753853853498429727072845819
structure Lt (x:L5) (n:Nat):Prop where
 a:x.a<n
 b:x.b<n
 c:x.c<n
 d:x.d<n
 e:x.e<n
theorem Ey(n:Nat)(h:n<18446744073709551616):∃m,n%67108864=m∧m<67108864∧n=sh n*67108864+m:=⟨n%67108864,rfl,Nat.mod_lt _ (by decide),by unfold sh;omega⟩
theorem AK{x:L5}(h:x.Lt 4611686018427387904):x.carry.val+x.c5*P=x.val∧x.carry.b<67141632∧x.c5≤68719480832:=by
 obtain⟨h1,h2,h3,h4,h5⟩:=h;obtain⟨m1,e1,l1,s1⟩:=Ey x.a (by omega);have q1:sh x.a≤68719476736:=by omega
 obtain⟨m2,e2,l2,s2⟩:=Ey (x.b+x.c1) (by simp only[c1];omega);have q2:x.c2≤68719480832:=by simp only[c2,c1]at *;omega
 obtain⟨m3,e3,l3,s3⟩:=Ey (x.c+x.c2) (by omega);have q3:x.c3≤68719480832:=by simp only[c3]at *;omega
 obtain⟨m4,e4,l4,s4⟩:=Ey (x.d+x.c3) (by omega);have q4:x.c4≤68719480832:=by simp only[c4]at *;omega
 obtain⟨m5,e5,l5,s5⟩:=Ey (x.e+x.c4) (by omega);have q5:x.c5≤68719480832:=by simp only[c5]at *;omega
 obtain⟨m6,e6,l6,s6⟩:=Ey (m1+x.c5*5) (by omega);have r1:x.c1=sh x.a:=rfl;have r2:x.c2=sh (x.b+x.c1):=rfl;have r3:x.c3=sh (x.c+x.c2):=rfl;have r4:x.c4=sh (x.d+x.c3):=rfl;have r5:x.c5=sh (x.e+x.c4):=rfl;rw[←r1]at s1;rw[←r2]at s2;rw[←r3]at s3;rw[←r4]at s4;rw[←r5]at s5;simp only[val,carry,P,e1,e2,e3,e4,e5,e6];clear r1 r2 r3 r4 r5 e1 e2 e3 e4 e5 e6;generalize x.c1=c1 at *;generalize x.c2=c2 at *;generalize x.c3=c3 at *;generalize x.c4=c4 at *;generalize x.c5=c5 at *;generalize sh (m1+c5*5)=c6 at *;refine⟨by omega,by omega,by omega⟩
theorem x8{x:L5}(h:x.Lt 4611686018427387904):x.carry.val+x.c5*P=x.val:=(AK h).1
theorem Bz{x:L5}(h:x.Lt 4611686018427387904):x.carry.Lt 134217728∧x.carry.a<67108864∧x.carry.c<67108864∧x.carry.d<67108864∧x.carry.e<67108864∧x.carry.b<67141632:=by
 have hh:=(AK h).2.1;have ha:x.carry.a<67108864:=Nat.mod_lt _ (by decide);have hc:x.carry.c<67108864:=Nat.mod_lt _ (by decide);have hd:x.carry.d<67108864:=Nat.mod_lt _ (by decide);have he:x.carry.e<67108864:=Nat.mod_lt _ (by decide);exact⟨⟨by omega,by omega,by omega,by omega,by omega⟩,ha,hc,hd,he,hh⟩
theorem Lt.mono{x:L5}{m n:Nat}(h:x.Lt m)(hm:m≤n):x.Lt n:=⟨Nat.lt_of_lt_of_le h.a hm,Nat.lt_of_lt_of_le h.b hm,Nat.lt_of_lt_of_le h.c hm,Nat.lt_of_lt_of_le h.d hm,Nat.lt_of_lt_of_le h.e hm⟩
def mul(x r:L5):L5:=
 ⟨x.a*r.a+x.b*r.e*5+x.c*r.d*5+x.d*r.c*5+x.e*r.b*5,
  x.a*r.b+x.b*r.a+x.c*r.e*5+x.d*r.d*5+x.e*r.c*5,
  x.a*r.c+x.b*r.b+x.c*r.a+x.d*r.e*5+x.e*r.d*5,
  x.a*r.d+x.b*r.c+x.c*r.b+x.d*r.a+x.e*r.e*5,
  x.a*r.e+x.b*r.d+x.c*r.c+x.d*r.b+x.e*r.a⟩
theorem Oi(x r:L5):∃k,(x.mul r).val+k*P=x.val*r.val:=by
 refine⟨x.b*r.e+x.c*r.d+x.d*r.c+x.e*r.b+(x.c*r.e+x.d*r.d+x.e*r.c)*67108864+(x.d*r.e+x.e*r.d)*4503599627370496+x.e*r.e*302231454903657293676544,?_⟩;have e:x.val*r.val=(x.a*r.a)+(x.a*r.b+x.b*r.a)*67108864+(x.a*r.c+x.b*r.b+x.c*r.a)*4503599627370496+(x.a*r.d+x.b*r.c+x.c*r.b+x.d*r.a)*302231454903657293676544+(x.a*r.e+x.b*r.d+x.c*r.c+x.d*r.b+x.e*r.a)*20282409603651670423947251286016
   + (x.b*r.e+x.c*r.d+x.d*r.c+x.e*r.b)*1361129467683753853853498429727072845824+(x.c*r.e+x.d*r.d+x.e*r.c)*91343852333181432387730302044767688728495783936+(x.d*r.e+x.e*r.d)*6129982163463555433433388108601236734474956488734408704+x.e*r.e*411376139330301510538742295639337626245683966408394965837152256:=by
  simp only[val];generalize x.a=a1;generalize x.b=a2;generalize x.c=a3;generalize x.d=a4;generalize x.e=a5;generalize r.a=b1;generalize r.b=b2;generalize r.c=b3;generalize r.d=b4;generalize r.e=b5
  grind
 rw[e];simp only[mul,val,P];generalize x.a*r.a=p00;generalize x.a*r.b=p01;generalize x.a*r.c=p02;generalize x.a*r.d=p03;generalize x.a*r.e=p04;generalize x.b*r.a=p10;generalize x.b*r.b=p11;generalize x.b*r.c=p12;generalize x.b*r.d=p13;generalize x.b*r.e=p14;generalize x.c*r.a=p20;generalize x.c*r.b=p21;generalize x.c*r.c=O8;generalize x.c*r.d=p23;generalize x.c*r.e=Rz;generalize x.d*r.a=p30;generalize x.d*r.b=p31;generalize x.d*r.c=p32;generalize x.d*r.d=p33;generalize x.d*r.e=p34;generalize x.e*r.a=p40;generalize x.e*r.b=p41;generalize x.e*r.c=p42;generalize x.e*r.d=p43;generalize x.e*r.e=p44;omega
end L5
section
variable {h0 h:H}{b:Nat}{x r:L5}{Q:H->Prop}
theorem vO(w:Wd h0 h [.blk b x.o])(k:∀h',Wd h0 h' [.blk b x.carry.o]->Q h'):cz (some ⟨b,0,none⟩) h Q:=by
 unfold cz;unfold L5.o at w;refine M.jn (M.times 6 ?_);refine M.bM ?_;simp only[];refine eN (by omega) ?_;simp only[bs,lb (w.blk 0 rfl)];refine⟨(by omega),(by omega),?_⟩;simp only[];simp only[bs,reduceToNat,N3];refine M.dN ?_;refine⟨(by omega),(by omega),?_⟩;simp only[];simp only[bs,reduceToNat];refine M.bg w 0 rfl rfl (by simp) λh2 w=>?_;simp only[bs]at w;refine⟨(by omega),(by omega),?_⟩;simp only[bs,reduceToNat,tC,lb (w.blk 0 rfl)];refine⟨(by omega),?_⟩;refine M.dN ?_;refine⟨(by omega),(by omega),?_⟩;simp only[];simp only[bs,reduceToNat,qi];refine M.dN ?_;refine⟨(by omega),(by omega),?_⟩;simp only[];simp only[bs,reduceToNat];refine M.bg w 0 rfl rfl (by simp) λh4 w=>?_;simp only[bs]at w;refine M.vis (1) (by decide) ?_;refine M.bM ?_;simp only[ny];refine eN (by omega) ?_;refine⟨(by omega),(by omega),?_⟩;simp only[bs,reduceToNat,jA,lb (w.blk 0 rfl)];refine M.dN ?_;refine⟨(by omega),(by omega),?_⟩;simp only[];simp only[Nat.reduceMul,reduceToNat];refine M.bg w 0 rfl rfl (by simp) λh6 w=>?_;simp only[bs]at w;refine⟨(by omega),(by omega),?_⟩;simp only[bs,reduceToNat,tC,lb (w.blk 0 rfl)];refine⟨(by omega),?_⟩;refine M.dN ?_;refine⟨(by omega),(by omega),?_⟩;simp only[];simp only[bs,reduceToNat,qi];refine M.dN ?_;refine⟨(by omega),(by omega),?_⟩;simp only[];simp only[Nat.reduceMul,reduceToNat];refine M.bg w 0 rfl rfl (by simp) λh8 w=>?_;simp only[bs]at w;refine M.vis (2) (by decide) ?_;refine M.bM ?_;simp only[ny];refine eN (by omega) ?_;refine⟨(by omega),(by omega),?_⟩
 simp only[bs,reduceToNat,jA,lb (w.blk 0 rfl)];refine M.dN ?_;refine⟨(by omega),(by omega),?_⟩;simp only[];simp only[Nat.reduceMul,reduceToNat];refine M.bg w 0 rfl rfl (by simp) λh10 w=>?_;simp only[bs]at w;refine⟨(by omega),(by omega),?_⟩;simp only[bs,reduceToNat,tC,lb (w.blk 0 rfl)];refine⟨(by omega),?_⟩;refine M.dN ?_;refine⟨(by omega),(by omega),?_⟩;simp only[];simp only[bs,reduceToNat,qi];refine M.dN ?_;refine⟨(by omega),(by omega),?_⟩;simp only[];simp only[Nat.reduceMul,reduceToNat];refine M.bg w 0 rfl rfl (by simp) λh12 w=>?_;simp only[bs]at w;refine M.vis (3) (by decide) ?_;refine M.bM ?_;simp only[ny];refine eN (by omega) ?_;refine⟨(by omega),(by omega),?_⟩;simp only[bs,reduceToNat,jA,lb (w.blk 0 rfl)];refine M.dN ?_;refine⟨(by omega),(by omega),?_⟩;simp only[];simp only[Nat.reduceMul,reduceToNat];refine M.bg w 0 rfl rfl (by simp) λh14 w=>?_;simp only[bs]at w;refine⟨(by omega),(by omega),?_⟩;simp only[bs,reduceToNat,tC,lb (w.blk 0 rfl)];refine⟨(by omega),?_⟩;refine M.dN ?_;refine⟨(by omega),(by omega),?_⟩;simp only[];simp only[bs,reduceToNat,qi];refine M.dN ?_;refine⟨(by omega),(by omega),?_⟩;simp only[];simp only[Nat.reduceMul,reduceToNat];refine M.bg w 0 rfl rfl (by simp) λh16 w=>?_;simp only[bs]at w;refine M.vis (4) (by decide) ?_;refine M.bM ?_;simp only[ny];refine eN (by omega) ?_;refine⟨(by omega),(by omega),?_⟩;simp only[bs,reduceToNat,jA,lb (w.blk 0 rfl)];refine M.dN ?_;refine⟨(by omega),(by omega),?_⟩;simp only[];simp only[Nat.reduceMul,reduceToNat]
 refine M.bg w 0 rfl rfl (by simp) λh18 w=>?_;simp only[bs]at w;refine⟨(by omega),(by omega),?_⟩;simp only[bs,reduceToNat,tC,lb (w.blk 0 rfl)];refine⟨(by omega),?_⟩;refine M.dN ?_;refine⟨(by omega),(by omega),?_⟩;simp only[];simp only[bs,reduceToNat,qi];refine M.dN ?_;refine⟨(by omega),(by omega),?_⟩;simp only[];simp only[Nat.reduceMul,reduceToNat];refine M.bg w 0 rfl rfl (by simp) λh20 w=>?_;simp only[bs]at w;refine M.vis (5) (by decide) ?_;refine M.bM ?_;simp only[ny];refine gI (by omega) ?_;refine⟨(by omega),(by omega),?_⟩;simp only[bs,reduceToNat,lb (w.blk 0 rfl)];refine M.dN ?_;simp only[jA];refine M.dN ?_;refine⟨(by omega),(by omega),?_⟩;simp only[];simp only[bs,reduceToNat];refine M.bg w 0 rfl rfl (by simp) λh22 w=>?_;simp only[bs]at w;refine⟨(by omega),(by omega),?_⟩;simp only[bs,reduceToNat,lb (w.blk 0 rfl)];refine⟨(by omega),(by omega),?_⟩;simp only[];simp only[bs,reduceToNat,tC];refine⟨(by omega),?_⟩;refine M.dN ?_;simp only[jA];refine M.dN ?_;refine⟨(by omega),(by omega),?_⟩;simp only[];simp only[Nat.reduceMul,reduceToNat];refine M.bg w 0 rfl rfl (by simp) λh24 w=>?_;simp only[bs]at w;refine⟨(by omega),(by omega),?_⟩;simp only[bs,reduceToNat,qi,lb (w.blk 0 rfl)];refine M.dN ?_;refine⟨(by omega),(by omega),?_⟩;simp only[];simp only[bs,reduceToNat];refine M.bg w 0 rfl rfl (by simp) λh26 w=>?_;simp only[bs]at w;exact k _ w
end
end Go.Proofs.YtmfcgihgdhfalaaGreatDoor

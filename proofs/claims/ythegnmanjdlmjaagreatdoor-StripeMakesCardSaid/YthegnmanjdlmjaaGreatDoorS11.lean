/- The program's field: products, powers, inverses, and texts times an element. Reasoning over the shallow form, 8: rows of a number and a text. Matrices of bytes in memory: rows of rows, as one reads them, and as one's own. Matrices of the program: made empty, with ones, with powers; the one that makes all chunks. Matrices of bytes in plain words: products, elimination, and that any k rows of the generator can be undone. Matrices of the program: is it one, one row taken from another, a row that has something in a column. Matrices of the program: the inverse. Matrices of the program: the inverse, walked. Matrices of the program: the inverse, joined. Matrices of the program, times columns of texts. Double parity of the program: what is made of data chunks, and whether all chunks fit. Double parity in plain words: with at most two chunks lost all are told. Double parity of the program: all chunks, of those that are there, walked. ChaCha20: blocks, in both texts. -/
import Derived.Test.YthegnmanjdlmjaaGreatDoorS07
import Derived.Test.YthegnmanjdlmjaaGreatDoorS08
import Derived.Test.YthegnmanjdlmjaaGreatDoorS10
set_option linter.unusedSimpArgs false
set_option linter.unusedVariables false
namespace Go.Proofs.YthegnmanjdlmjaaGreatDoor
open Go.Sh Go.RowKit
theorem xor_i64 {a b:Nat} (ha:a<512) (hb:b<512):bXor .i64 (a:Int) (b:Int)=((a ^^^ b:Nat):Int):=by
 have e:∀ x:Nat,x<512→(BitVec.ofInt 64 (x:Int)).toNat=x:=fun x h=>by rw [BitVec.toNat_ofInt]; omega
 have h1:(BitVec.ofInt 64 (a:Int) ^^^ BitVec.ofInt 64 (b:Int)).toNat=a ^^^ b:=by rw [BitVec.toNat_xor,e a ha,e b hb]
 show IntKind.wrap .i64 ((BitVec.ofInt 64 (a:Int) ^^^ BitVec.ofInt 64 (b:Int)).toNat:Int)=_
 have h2:a ^^^ b<2 ^ 9:=Nat.xor_lt_two_pow (by omega) (by omega)
 rw [h1,IntKind.wrap_i64]; omega
theorem xor_u8 {a b:Nat} (ha:a<256) (hb:b<256):bXor .u8 (a:Int) (b:Int)=((a ^^^ b:Nat):Int):=by
 have:=bx_nat (a:=(a:Int)) (b:=(b:Int)) (by omega) (by omega)
 rw [bx] at this
 rw [this]; simp
theorem and_u8 {a:Nat} (ha:a<256):bAnd .u8 (a:Int) 1=((a % 2:Nat):Int):=by
 have h1:(BitVec.ofInt 8 (a:Int) &&& BitVec.ofInt 8 1).toNat=a % 2:=by
  rw [BitVec.toNat_and,show (BitVec.ofInt 8 1).toNat=1 from rfl,Nat.and_one_is_mod,BitVec.toNat_ofInt]; omega
 show IntKind.wrap .u8 ((BitVec.ofInt 8 (a:Int) &&& BitVec.ofInt 8 1).toNat:Int)=_
 rw [h1,IntKind.wrap_u8]; omega
theorem and_i64 {a:Nat} (ha:a<256):bAnd .i64 (a:Int) 1=((a % 2:Nat):Int):=by
 have h1:(BitVec.ofInt 64 (a:Int) &&& BitVec.ofInt 64 1).toNat=a % 2:=by
  rw [BitVec.toNat_and,show (BitVec.ofInt 64 1).toNat=1 from rfl,Nat.and_one_is_mod,BitVec.toNat_ofInt]; omega
 show IntKind.wrap .i64 ((BitVec.ofInt 64 (a:Int) &&& BitVec.ofInt 64 1).toNat:Int)=_
 rw [h1,IntKind.wrap_i64]; omega
theorem shl_one {a:Nat} (ha:a<256):shl .i64 (a:Int) 1=((2*a:Nat):Int):=by
 show IntKind.wrap .i64 ((a:Int)*2 ^ 1)=_
 rw [IntKind.wrap_i64]; omega
theorem shr_one (k:IntKind) (hk:1≤k.bits) (a:Nat):shr k (a:Int) 1=((a / 2:Nat):Int):=by
 have:=shr_nat k a 1 hk
 simpa using this
def pl:Nat→Nat→Nat→Nat→Nat
 | 0,_,o,_=>o
 | f+1,a,o,k=>if k=0 then o else pl f (gN a a) (if k % 2=1 then gN o a else o) (k / 2)
def pN (a n:Nat):Nat:=if n=0 then 1 else if a=0 then 0 else pl 8 a 1 (n % 255)
theorem pl_lt:∀ (f:Nat) {a o k:Nat},a<256→o<256→pl f a o k<256
 | 0,_,_,_,_,ho=>ho
 | f+1,a,o,k,ha,ho=>by
  unfold pl
  split
  ·exact ho
  ·refine pl_lt f (gN_lt ha) ?_
   split
   ·exact gN_lt ho
   ·exact ho
theorem pN_lt {a:Nat} (n:Nat) (ha:a<256):pN a n<256:=by
 unfold pN
 split
 ·decide
 ·split
  ·decide
  ·exact pl_lt 8 ha (by decide)
def bN (s:ByteArray) (i:Nat):Nat:=(s.data.toList.getD i 0).toNat
theorem bN_eq (s:ByteArray) (i:Nat):byteAt s i=(bN s i:Int):=rfl
theorem bN_lt (s:ByteArray) (i:Nat):bN s i<256:=UInt8.toNat_lt _
def scT (a:Nat) (s:ByteArray):ByteArray:=byT s.size fun i=>((gN a (bN s i):Nat):Int)
theorem scT_size (a:Nat) (s:ByteArray):(scT a s).size=s.size:=byT_size _ _
section
variable {h:H} {a b:Nat}
theorem gfMul_spec {Q:Int→H→Prop} (ha:a<256) (hb:b<256) (k:∀ h',Keep h h'→Q ((gN a b:Nat):Int) h'):gf_Mul (a:Int) (b:Int) h Q:=by
 unfold gf_Mul
 refine M.vis (a:Int) (i64' (by omega) (by omega)) ?_
 refine M.jn ?_
 refine M.loop_of (I:=fun (p:Int × Int × Int) h'=>∃ n x y o:Nat,p=((y:Int),(x:Int),(o:Int))∧y<2 ^ n∧x<256∧y<256∧o<256∧gl n x y o=gN a b∧h'=h) (μ:=fun p=>p.1.toNat) ⟨8,a,b,0,rfl,hb,ha,hb,by decide,rfl,rfl⟩ ?_
 rintro _ h1 J ⟨n,x,y,o,rfl,hn,hx,hy,ho,hg,rfl⟩ hJ
 by_cases h0:y=0
 ·refine cf (by simp [h0]) ?_
  subst h0
  rw [gl_stop] at hg
  show M.val (IntKind.wrap .u8 (o:Int)) _
  refine M.vis (o:Int) (u8' (by omega) (by omega)) ?_
  rw [hg]
  exact k _ (Keep.refl _)
 ·refine ct (by simp [h0]) ?_
  obtain ⟨n,rfl⟩:∃ m,n=m+1:=⟨n-1,by have:n≠0:=by rintro rfl; simp at hn; exact h0 hn
                                    omega⟩
  have key:∀ o':Nat,o'<256→gl n (xt x) (y / 2) o'=gN a b→M.shr0 1 (M.val (shl .i64 (x:Int) 1) fun z13=>(bif (decide (z13 > 255)) then M.val (bXor .i64 z13 285) fun z14=>M.shr0 1 (M.val (shr .u8 (y:Int) 1) fun z17=>J (z17,z14,(o':Int)) h1) else M.shr0 1 (M.val (shr .u8 (y:Int) 1) fun z17=>J (z17,z13,(o':Int)) h1))):=by
   intro o' ho' hg'
   refine ⟨by decide,M.vis _ (shl_one hx) ?_⟩
   have fin:∀ z:Int,z=(xt x:Nat)→M.shr0 1 (M.val (shr .u8 (y:Int) 1) fun z17=>J (z17,z,(o':Int)) h1):=by
    rintro _ rfl
    refine ⟨by decide,M.vis _ (shr_one _ (by decide) y) ?_⟩
    refine hJ _ _ ⟨n,xt x,y / 2,o',rfl,by rw [Nat.pow_succ] at hn; omega,xt_lt hx,by omega,ho',hg',rfl⟩ ?_
    simp only [Int.toNat_natCast]; omega
   by_cases h2:255<2*x
   ·refine cdt (by omega) ?_
    refine M.vis _ (xor_i64 (b:=285) (by omega) (by decide)) ?_
    exact fin _ (by rw [xt,if_pos h2])
   ·refine cdf (by omega) ?_
    exact fin _ (by rw [xt,if_neg h2])
  refine M.jn (M.jn ?_)
  refine M.vis _ (and_u8 hy) ?_
  unfold gl at hg
  by_cases h2:y % 2=1
  ·refine ct (by simp [h2]) ?_
   rw [if_pos h2] at hg
   refine M.vis _ (xor_i64 (by omega) (by omega)) ?_
   exact key _ (xlt ho hx) hg
  ·refine cf (by simp; omega) ?_
   rw [if_neg h2] at hg
   exact key _ ho hg
theorem gfPow_spec {Q:Int→H→Prop} {n:Nat} (ha:a<256) (hn:n<1000000) (k:∀ h',Keep h h'→Q ((pN a n:Nat):Int) h'):gf_Pow (a:Int) (n:Int) h Q:=by
 unfold gf_Pow gf_Pow.g
 unfold pN at k
 by_cases h0:n=0
 ·rw [if_pos h0] at k
  exact ct (by simp [h0]) (k _ (Keep.refl _))
 ·rw [if_neg h0] at k
  refine cf (by simp [h0]) ?_
  by_cases a0:a=0
  ·rw [if_pos a0] at k
   exact ct (by simp [a0]) (k _ (Keep.refl _))
  ·rw [if_neg a0] at k
   refine cf (by simp [a0]) ⟨by decide,M.vis ((n % 255:Nat):Int) (by rw [Int.tmod_eq_emod_of_nonneg (by omega)]; omega) (M.vis ((n % 255+255:Nat):Int) (by rw [IntKind.wrap_i64]; omega) ⟨by decide,M.vis ((n % 255:Nat):Int) (by rw [Int.tmod_eq_emod_of_nonneg (by omega)]; omega) ?_⟩)⟩
   have w:=Wd.start h
   refine M.loop_of (I:=fun (p:Int × Int × Int) h'=>∃ f x o m:Nat,p=((x:Int),(o:Int),(m:Int))∧m<2 ^ f∧x<256∧m<256∧o<256∧pl f x o m=pl 8 a 1 (n % 255)∧Wd h h' []) (μ:=fun p=>p.2.2.toNat) ⟨8,a,1,n % 255,rfl,by omega,ha,by omega,by decide,rfl,w⟩ ?_
   clear w
   rintro _ h1 J ⟨f,x,o,m,rfl,hn,hx,hy,ho,hg,w⟩ hJ
   by_cases h2:m=0
   ·refine cdf (by simp [h2]) ?_
    have:pl f x o m=o:=by cases f with | zero=>rfl | succ f=>rw [pl,if_pos h2]
    rw [←hg,this] at k
    exact k _ w.keep
   ·refine cdt (by simp only []; omega) ?_
    obtain ⟨f,rfl⟩:∃ m,f=m+1:=⟨f-1,by have:f≠0:=by rintro rfl; simp at hn; exact h2 hn
                                      omega⟩
    rw [pl,if_neg h2] at hg
    have key:∀ (o':Nat) h2,Wd h h2 []→o'<256→pl f (gN x x) o' (m / 2)=pl 8 a 1 (n % 255)→gf_Mul (x:Int) (x:Int) h2 fun n14 h15=>M.shr0 1 (M.val (shr .i64 (m:Int) 1) fun z16=>J (n14,(o':Int),z16) h15):=by
     intro o' h2 w ho' hg'
     refine gfMul_spec hx hx fun h3 k3=>⟨by decide,M.vis _ (shr_one _ (by decide) m) ?_⟩
     exact hJ _ _ ⟨f,gN x x,o',m / 2,rfl,by rw [Nat.pow_succ] at hn; omega,gN_lt hx,by omega,ho',hg',w.keeps k3⟩ (by simp only [Int.toNat_natCast]; omega)
    refine M.jn (M.vis _ (and_i64 hy) ?_)
    by_cases h3:m % 2=1
    ·refine ct (by simp [h3]) ?_
     rw [if_pos h3] at hg
     refine gfMul_spec ho hx fun h2 k2=>?_
     exact key _ _ (w.keeps k2) (gN_lt ho) hg
    ·refine cf (by simp; omega) ?_
     rw [if_neg h3] at hg
     exact key _ _ w ho hg
theorem gfInv_spec {Q:Int→Int→H→Prop} (ha:a<256) (h0:a≠0) (k:∀ h',Keep h h'→Q ((pN a 254:Nat):Int) 0 h'):gf_Inv (a:Int) h Q:=by
 unfold gf_Inv gf_Inv.g
 refine cf (by simp [h0]) ?_
 exact gfPow_spec (n:=254) ha (by decide) k
theorem gfAdd_spec {Q:Int→H→Prop} (ha:a<256) (hb:b<256) (k:∀ h',Keep h h'→Q ((a ^^^ b:Nat):Int) h'):gf_Add (a:Int) (b:Int) h Q:=by
 unfold gf_Add
 exact M.vis _ (xor_u8 ha hb) (k _ (Keep.refl _))
theorem Scale_spec {Q:ByteArray→H→Prop} {s:ByteArray} (ha:a<256) (hs:s.size≤1000000) (k:∀ h',Keep h h'→Q (scT a s) h'):gf_Scale (a:Int) s h Q:=by
 unfold gf_Scale gf_Scale.g
 unfold scT at k
 have w:=Wd.start h
 refine M.s2b_w w fun b1 c1 h2 w=>?_
 have e:bytesOf s=eB.row ((List.range s.size).map fun i=>if i<0 then ((gN a (bN s i):Nat):Int) else byteAt s i):=by
  rw [←bvs_row,bvs,List.map_map,bytesOf]
  apply List.ext_getElem
  ·rw [List.length_map,List.length_map,List.length_range,bsz]
  ·intro i h1 h2
   simp only [List.getElem_map,List.getElem_range,Function.comp,Nat.not_lt_zero,if_false,byteAt]
   rw [List.getD_eq_getElem?_getD,List.getElem?_eq_getElem (by simpa using h1)]
   rfl
 rw [e] at w
 clear e
 generalize hn:s.size=n at *
 refine M.jn ?_
 refine M.loop_of (I:=fun (i:Int) h'=>∃ m:Nat,m≤n∧i=(m:Int)∧Wd h h' [.sl 5 1 (some ⟨b1,0,none⟩) n c1 (eB.row ((List.range n).map fun i=>if i<m then ((gN a (bN s i):Nat):Int) else byteAt s i))]) (μ:=fun i=>(n-i).toNat) ⟨0,by omega,rfl,w⟩ ?_
 clear w
 rintro _ h2 J ⟨m,hm,rfl,w⟩ hJ
 by_cases hlt:m<n
 ·refine cdt (by omega) ?_
  have v2:IntKind.wrap .i64 ((m:Int)+1)=((m+1:Nat):Int):=by rw [IntKind.wrap_i64]; omega
  have v3:za ((List.range n).map fun i=>if i<m then ((gN a (bN s i):Nat):Int) else byteAt s i) m=(bN s m:Int):=by
   rw [za_get (by simpa using hlt)]; simp [bN_eq]
  refine (w.ro 0 rfl (by decide)).ldB (by omega) (by omega) ?_
  rw [Int.toNat_natCast,v3]
  refine gfMul_spec ha (bN_lt _ _) fun h3 k3=>?_
  have w:=w.keeps k3
  simp only [v2]
  refine w.put1 0 rfl rfl _ rfl (by omega) (by omega) fun h9 w=>?_
  simp only [bs,Int.toNat_natCast,set_map_range] at w
  refine M.vin ?_
  refine hJ _ _ ⟨m+1,by omega,rfl,?_⟩ (by omega)
  have:(List.range n).map (fun i=>if i<m+1 then ((gN a (bN s i):Nat):Int) else byteAt s i)=(List.range n).map (fun i=>if i=m then ((gN a (bN s m):Nat):Int) else if i<m then ((gN a (bN s i):Nat):Int) else byteAt s i):=by
   apply List.map_congr_left
   intro i hi
   by_cases h1:i=m
   ·subst h1; rw [if_pos (by omega),if_pos rfl]
   ·rw [if_neg h1]
    by_cases h2:i<m
    ·rw [if_pos h2,if_pos (by omega)]
    ·rw [if_neg h2,if_neg (by omega)]
  rw [this]; exact w
 ·refine cdf (by omega) ?_
  refine w.textB 0 rfl ?_
  have:(List.range n).map (fun i=>if i<m then ((gN a (bN s i):Nat):Int) else byteAt s i)=(List.range n).map fun i=>((gN a (bN s i):Nat):Int):=List.map_congr_left fun i hi=>if_pos (by have:=List.mem_range.1 hi; omega)
  rw [this]
  exact k _ w.keep
end
end Go.Proofs.YthegnmanjdlmjaaGreatDoor
namespace Go.Sh
open Go.RowKit
def eP:Enc (Int × ByteArray):=⟨fun p=>[.int .i64 p.1,.string p.2],2,fun _=>rfl,by simp [isPlainCell]⟩
def pa (xs:List (Int × ByteArray)) (i:Nat):Int × ByteArray:=xs.getD i (0,ByteArray.empty)
theorem pa_get {xs:List (Int × ByteArray)} {i:Nat} (h:i<xs.length):pa xs i=xs[i]:=by simp [pa,h]
section
variable {h0 h h':H} {L:List Chunk} {a:Option Addr} {l c:Nat} {z:Int} {e:TypeId} {xs:List (Int × ByteArray)}
theorem Ro.ldP {K:Int→ByteArray→Prop} (f:Ro eP h a l xs) (h0:0≤z) (h1:z<l) (k:K (pa xs z.toNat).1 (pa xs z.toNat).2):
  M.idx a l z fun b j=>M.load h (Addr.add (Addr.add b (j*2)) 0) fun v=>M.int .i64 v fun n=>M.load h (Addr.add (Addr.add b (j*2)) 1) fun v2=>M.str v2 fun s=>K n s:=by
 refine f.at h0 h1 fun b hi hc=>?_
 have c0:h.cell ((b.add (z.toNat * 2)).add 0)=some (.int .i64 (xs[z.toNat]).1):=hc 0 (by decide)
 have c1:h.cell ((b.add (z.toNat * 2)).add 1)=some (.string (xs[z.toNat]).2):=hc 1 (by decide)
 rw [lc c0,int_eq,lc c1,str_eq,←pa_get hi]
 exact k
theorem Wd.toSl {α:Type} {E:Enc α} {b n:Nat} {cs:Array Value} {ys:List α} (w:Wd h0 h L) (i:Nat) (hi:L[i]? = some (.blk b (.cells cs e (0,0)))) (hc:cs=(E.row ys).toArray) (hn:ys.length=n):Wd h0 h (L.set i (.sl e E.sz (some ⟨b,0,none⟩) n n (E.row ys))):=by
 subst hc hn
 refine w.weaken hi fun F h ⟨hF,hb⟩=>.inr ⟨b,[],rfl,hF,?_,E.row_len ys,by rw [List.append_nil]; exact E.row_len ys⟩
 rw [List.append_nil]
 exact .of hb
end
end Go.Sh
namespace Go.Sh
open Go.RowKit
def eN:Enc Nat:=⟨fun n=>[.int .u8 (n:Int)],1,fun _=>rfl,by simp [isPlainCell]⟩
def eV:Enc (Option Addr × Nat × Nat):=⟨fun s=>[.slice s.1 s.2.1 s.2.2],1,fun _=>rfl,by simp [isPlainCell]⟩
def na (xs:List Nat) (i:Nat):Nat:=xs.getD i 0
def ra (rs:List (List Nat)) (i:Nat):List Nat:=rs.getD i []
def va (ss:List (Option Addr × Nat × Nat)) (i:Nat):Option Addr × Nat × Nat:=ss.getD i (none,0,0)
theorem na_get {xs:List Nat} {i:Nat} (h:i<xs.length):na xs i=xs[i]:=by simp [na,h]
theorem ra_get {xs:List (List Nat)} {i:Nat} (h:i<xs.length):ra xs i=xs[i]:=by simp [ra,h]
theorem va_get {xs:List (Option Addr × Nat × Nat)} {i:Nat} (h:i<xs.length):va xs i=xs[i]:=by simp [va,h]
theorem eN_row (xs:List Nat):eN.row xs=eB.row (xs.map fun n:Nat=>(n:Int)):=by
 induction xs with
 | nil=>rfl
 | cons x r ih=>rw [Enc.row_cons,ih,List.map_cons,Enc.row_cons]; rfl
theorem eN_bvs (xs:List Nat):eN.row xs=bvs (xs.map fun n:Nat=>(n:Int)):=by rw [eN_row,bvs_row]
theorem Ro.atN {h:H} {a:Option Addr} {l:Nat} {z:Int} {xs:List Nat} {K:Addr→Nat→Prop} (f:Ro eN h a l xs) (h0:0≤z) (h1:z<l) (k:∀ b,h.cell (b.add z.toNat)=some (.int .u8 (na xs z.toNat))→K b z.toNat):M.idx a l z K:=
 f.at1 rfl h0 h1 fun b hz hc=>k b (by rw [hc,na_get hz]; rfl)
theorem Ro.atV {h:H} {a:Option Addr} {l:Nat} {z:Int} {xs:List (Option Addr × Nat × Nat)} {K:Addr→Nat→Prop} (f:Ro eV h a l xs) (h0:0≤z) (h1:z<l) (k:∀ b,h.cell (b.add z.toNat)=some (.slice (va xs z.toNat).1 (va xs z.toNat).2.1 (va xs z.toNat).2.2)→K b z.toNat):M.idx a l z K:=
 f.at1 rfl h0 h1 fun b hz hc=>k b (by rw [hc,va_get hz]; rfl)
structure RoM (h:H) (a:Option Addr) (l:Nat) (ss:List (Option Addr × Nat × Nat)) (rs:List (List Nat)):Prop where
 out:Ro eV h a l ss
 len:ss.length=rs.length
 row:∀ i,i<rs.length→(va ss i).2.1=(ra rs i).length∧Ro eN h (va ss i).1 (ra rs i).length (ra rs i)
namespace RoM
variable {h h':H} {a:Option Addr} {l:Nat} {ss:List (Option Addr × Nat × Nat)} {rs:List (List Nat)}
theorem keep (f:RoM h a l ss rs) (k:Keep h h'):RoM h' a l ss rs:=⟨f.out.keep k,f.len,fun i hi=>⟨(f.row i hi).1,(f.row i hi).2.keep k⟩⟩
theorem rl (f:RoM h a l ss rs):rs.length=l:=by rw [←f.len]; exact f.out.len
end RoM
theorem Chunk.sep_perm {L M:List Chunk} (p:L.Perm M):Chunk.Le (Chunk.sep L) (Chunk.sep M):=by
 induction p with
 | nil=>exact Chunk.Le.refl _
 | cons c _ ih=>exact Chunk.star_mono (Chunk.Le.refl c) ih
 | swap a b l=>exact Chunk.star_swap _ _ _
 | trans _ _ i1 i2=>exact i1.trans i2
theorem Wd.perm {h0 h:H} {L M:List Chunk} (w:Wd h0 h L) (p:L.Perm M):Wd h0 h M:=w.le (Chunk.sep_perm p)
end Go.Sh
namespace Go.Proofs.YthegnmanjdlmjaaGreatDoor
open Go.Sh Go.RowKit
def rowC (p:Option Addr × Nat) (r:List Nat):Chunk:=.sl 5 1 p.1 r.length p.2 (eN.row r)
def rowV (p:Option Addr × Nat) (r:List Nat):Option Addr × Nat × Nat:=(p.1,r.length,p.2)
def vals (ps:List (Option Addr × Nat)) (rs:List (List Nat)):List (Option Addr × Nat × Nat):=List.zipWith rowV ps rs
def matL (a:Option Addr) (l c:Nat) (ps:List (Option Addr × Nat)) (rs:List (List Nat)):List Chunk:=.sl 29 1 a l c (eV.row (vals ps rs))::List.zipWith rowC ps rs
def matC (a:Option Addr) (l c:Nat) (rs:List (List Nat)):Chunk:=Wd.obj (fun ps:List (Option Addr × Nat)=>ps.length=rs.length) fun ps=>matL a l c ps rs
section
variable {h0 h:H} {a:Option Addr} {l c:Nat} {ps:List (Option Addr × Nat)} {rs:List (List Nat)}
theorem vals_len (hp:ps.length=rs.length):(vals ps rs).length=rs.length:=by simp [vals,hp]
theorem zw_get {α β γ:Type} {f:α → β → γ} {xs:List α} {ys:List β} {i:Nat} {x:α} {y:β} (hx:xs[i]? = some x) (hy:ys[i]? = some y):(List.zipWith f xs ys)[i]? = some (f x y):=by
 rw [List.getElem?_zipWith,hx,hy]
theorem zw_set {α β γ:Type} {f:α → β → γ}:∀ {xs:List α} {ys:List β} (i:Nat) (x:α) (y:β),(List.zipWith f xs ys).set i (f x y)=List.zipWith f (xs.set i x) (ys.set i y)
 | [],_,_,_,_=>by simp
 | _ :: _,[],_,_,_=>by cases ‹Nat› <;> simp
 | _ :: _,_ :: _,0,_,_=>rfl
 | _ :: xs,_ :: ys,i+1,x,y=>by simp only [List.zipWith_cons_cons,List.set_cons_succ]; rw [zw_set]
theorem mat_ro (w:Wd h0 h (matL a l c ps rs)) (hp:ps.length=rs.length):RoM h a l (vals ps rs) rs:=by
 refine ⟨w.ro (E:=eV) 0 rfl (by decide),vals_len hp,fun i hi=>?_⟩
 have e:va (vals ps rs) i=rowV ps[i] rs[i]:=by rw [va_get (by rw [vals_len hp]; exact hi)]; simp [vals]
 have h1:(matL a l c ps rs)[i+1]? = some (rowC ps[i] rs[i]):=by
  rw [matL,List.getElem?_cons_succ]
  exact zw_get (List.getElem?_eq_getElem _) (List.getElem?_eq_getElem hi)
 rw [e,ra_get hi]
 exact ⟨rfl,w.ro (E:=eN) (i+1) h1 (by decide)⟩
theorem mat_put {z y:Nat} {v:Nat} {K:H→Prop} {yi:Int} (w:Wd h0 h (matL a l c ps rs)) (hp:ps.length=rs.length) (hz:z<rs.length) (hy:yi=(y:Int)) (hl:y<(ra rs z).length)
  (k:∀ h',Wd h0 h' (matL a l c ps (rs.set z ((ra rs z).set y v)))→K h'):M.idx (va (vals ps rs) z).1 (ra rs z).length yi fun b j=>M.put h (Addr.add b (j*1)) (.int .u8 (v:Int)) fun h'=>K h':=by
 subst hy
 have e:va (vals ps rs) z=rowV ps[z] rs[z]:=by rw [va_get (by rw [vals_len hp]; exact hz)]; simp [vals]
 have h1:(matL a l c ps rs)[z+1]? = some (rowC ps[z] rs[z]):=by
  rw [matL,List.getElem?_cons_succ]
  exact zw_get (List.getElem?_eq_getElem _) (List.getElem?_eq_getElem hz)
 rw [e]
 rw [ra_get hz] at hl k ⊢
 refine Wd.put1 (E:=eN) w (z+1) h1 rfl v rfl (by omega) (by omega) fun h' w'=>k h' ?_
 rw [matL,List.set_cons_succ,Int.toNat_natCast] at w'
 have e2:(Chunk.sl 5 1 (rowV ps[z] rs[z]).1 rs[z].length ps[z].2 (eN.row (rs[z].set y v)))=rowC ps[z] (rs[z].set y v):=by rw [rowC,List.length_set]; rfl
 have e3:vals ps (rs.set z (rs[z].set y v))=vals ps rs:=by
  apply List.ext_getElem
  ·simp [vals]
  ·intro i g1 g2
   simp only [vals,List.getElem_zipWith,List.getElem_set,rowV]
   split
   ·rename_i h; subst h; simp
   ·rfl
 rw [e2,zw_set,List.set_getElem_self] at w'
 rw [matL,e3]
 exact w'
theorem mat_row {z:Nat} {zi:Int} {K:H→Prop} {a2:Option Addr} {c2:Nat} {r2:List Nat} (w:Wd h0 h (matL a l c ps rs++[.sl 5 1 a2 r2.length c2 (eN.row r2)])) (hp:ps.length=rs.length) (hz:zi=(z:Int)) (hl:z<rs.length)
  (k:∀ h' ps',ps'.length=(rs.set z r2).length→Wd h0 h' (matL a l c ps' (rs.set z r2))→K h'):M.idx a l zi fun b j=>M.put h (Addr.add b (j*1)) (.slice a2 r2.length c2) fun h'=>K h':=by
 subst hz
 have hll:rs.length=l:=by
  have:=(w.ro (E:=eV) 0 rfl (by decide)).len
  rw [vals_len hp] at this; exact this
 refine Wd.put1 (E:=eV) w 0 rfl rfl (rowV (a2,c2) r2) rfl (by omega) (by omega) fun h' w'=>k h' (ps.set z (a2,c2)) (by simp [hp]) ?_
 rw [matL,List.cons_append,List.set_cons_zero,Int.toNat_natCast,vals,zw_set] at w'
 have h1:(List.zipWith rowC ps rs)[z]? = some (rowC ps[z] rs[z]):=zw_get (List.getElem?_eq_getElem _) (List.getElem?_eq_getElem hl)
 have w2:=w'.drop (i:=z+1) (by rw [List.getElem?_cons_succ,List.getElem?_append_left (by simp [hp]; omega)]; exact h1)
 rw [List.eraseIdx_cons_succ,List.eraseIdx_append_of_lt_length (by simp [hp]; omega)] at w2
 refine w2.perm ?_
 rw [matL,vals]
 refine List.Perm.cons _ ?_
 rw [←zw_set]
 exact List.perm_append_comm.trans (by
  rw [List.singleton_append]
  have:∀ (L:List Chunk) (i:Nat) (x:Chunk),i<L.length→(x::L.eraseIdx i).Perm (L.set i x):=by
   intro L
   induction L with
   | nil=>intro i x hi; simp at hi
   | cons y L ih=>
    intro i x hi
    cases i with
    | zero=>exact List.Perm.refl _
    | succ i=>exact (List.Perm.swap _ _ _).trans (List.Perm.cons _ (ih i x (by simpa using hi)))
  exact this _ _ _ (by simp [hp]; omega))
end
end Go.Proofs.YthegnmanjdlmjaaGreatDoor
namespace Go.Proofs.YthegnmanjdlmjaaGreatDoor
open Go.Sh Go.RowKit
def zM (n m:Nat):List (List Nat):=(List.range n).map fun _=>List.replicate m 0
def idM (n:Nat):List (List Nat):=(List.range n).map fun i=>(List.replicate n 0).set i 1
def vdM (n m:Nat):List (List Nat):=(List.range n).map fun r=>(List.range m).map fun c=>pN 2 (r*c)
def genM (k:Nat):List (List Nat):=idM k++vdM 2 k
theorem ra_map {n i:Nat} {f:Nat→List Nat} (hi:i<n):ra ((List.range n).map f) i=f i:=by rw [ra_get (by simpa using hi)]; simp
theorem na_map {n i:Nat} {f:Nat→Nat} (hi:i<n):na ((List.range n).map f) i=f i:=by rw [na_get (by simpa using hi)]; simp
theorem step_map {α:Type} {n m:Nat} {f g:Nat→α} (x:α) (hx:x=f m):((List.range n).map fun i=>if i<m then f i else g i).set m x=(List.range n).map fun i=>if i<m+1 then f i else g i:=by
 rw [set_map_range]
 apply List.map_congr_left
 intro i hi
 by_cases h1:i=m
 ·subst h1; rw [if_pos rfl,if_pos (by omega),hx]
 ·rw [if_neg h1]
  by_cases h2:i<m
  ·rw [if_pos h2,if_pos (by omega)]
  ·rw [if_neg h2,if_neg (by omega)]
theorem done_map {α:Type} {n m:Nat} {f g:Nat→α} (hm:n≤m):((List.range n).map fun i=>if i<m then f i else g i)=(List.range n).map f:=
 List.map_congr_left fun i hi=>if_pos (by have:=List.mem_range.1 hi; omega)
theorem none_map {α:Type} {n:Nat} {f g:Nat→α}:((List.range n).map fun i=>if i<0 then f i else g i)=(List.range n).map g:=
 List.map_congr_left fun i hi=>if_neg (by omega)
section
variable {h0 h:H} {L:List Chunk} {a:Option Addr} {l c:Nat} {ps:List (Option Addr × Nat)} {rs:List (List Nat)}
theorem nil_rows (e:TypeId) (w:Wd h0 h L):∀ n,Wd h0 h (L++List.replicate n (.sl e 1 none 0 0 []))
 | 0=>by simpa using w
 | n+1=>by
  have:=(nil_rows e w n).nilsl e 1
  rwa [List.append_assoc,←List.replicate_succ'] at this
theorem mMay_spec {x:Int} {Q:Bool→H→Prop} (k:Q (decide (1≤x∧x≤16)) h):matrix_may x h Q:=by
 unfold matrix_may
 refine M.jn ?_
 by_cases h1:1≤x
 ·refine cdt h1 ?_
  simpa [h1] using k
 ·refine cdf h1 ?_
  simpa [h1] using k
theorem mat_ldv {K:Option Addr→Nat→Nat→Prop} {z:Nat} {zi:Int} (f:RoM h a l (vals ps rs) rs) (hz:zi=(z:Int)) (hl:z<l)
  (k:K (va (vals ps rs) z).1 (ra rs z).length (va (vals ps rs) z).2.2):M.idx a l zi fun b j=>M.load h (Addr.add b (j*1)) fun v=>M.slc v K:=by
 subst hz
 refine f.out.atV (by omega) (by omega) fun b hc=>?_
 rw [Nat.mul_one,lc hc]
 rw [Int.toNat_natCast]
 exact ⟨_,_,_,rfl,by rw [(f.row z (by rw [f.rl]; exact hl)).1]; exact k⟩
theorem empty_spec {n m:Nat} {Q:Option Addr→Nat→Nat→H→Prop} (hn:n≤16) (hm:m≤16)
  (k:∀ a c h' ps,ps.length=n→Wd h h' (matL a n c ps (zM n m))→Q a n c h'):matrix_empty (n:Int) (m:Int) h Q:=by
 unfold matrix_empty
 refine M.mk_sl (size:=1) (Wd.start h) (by omega) (by omega) (by omega) (by omega) rfl fun a1 h1 w=>?_
 rw [Int.toNat_natCast] at w ⊢
 have w:=nil_rows 5 w n
 have e0:zerosOf [Value.slice none 0 0] n=eV.row (vals (List.replicate n (none,0)) (List.replicate n [])):=by
  rw [vals,List.zipWith_replicate,Nat.min_self,eV.row_rep]; rfl
 have e1:List.replicate n (Chunk.sl 5 1 none 0 0 [])=List.zipWith rowC (List.replicate n (none,0)) (List.replicate n []):=by
  rw [List.zipWith_replicate,Nat.min_self]; rfl
 rw [e0,e1] at w
 refine M.loop_of (I:=fun (i:Int) h'=>∃ x:Nat,x≤n∧i=(x:Int)∧∃ ps:List (Option Addr × Nat),ps.length=n∧Wd h h' (matL a1 n n ps ((List.range n).map fun i=>if i<x then List.replicate m 0 else []))) (μ:=fun i=>(n-i).toNat) ⟨0,by omega,rfl,List.replicate n (none,0),by simp,?_⟩ ?_
 ·have:(List.range n).map (fun i=>if i<0 then List.replicate m 0 else [])=List.replicate n ([]:List Nat):=by
   rw [none_map,List.map_const',List.length_range]
  rw [this]; exact w
 clear w
 rintro _ h2 J ⟨x,hx,rfl,ps,hp,w⟩ hJ
 by_cases hlt:x<n
 ·refine cdt (by omega) ?_
  have v2:IntKind.wrap .i64 ((x:Int)+1)=((x+1:Nat):Int):=by rw [IntKind.wrap_i64]; omega
  refine M.mk_sl (size:=1) w (by omega) (by omega) (by omega) (by omega) rfl fun a2 h3 w=>?_
  rw [Int.toNat_natCast] at w ⊢
  have e2:zerosOf [Value.int .u8 0] m=eN.row (List.replicate m 0):=(eN.row_rep m 0).symm
  have e3:Chunk.sl 5 1 a2 m m (zerosOf [Value.int .u8 0] m)=Chunk.sl 5 1 a2 (List.replicate m 0).length m (eN.row (List.replicate m 0)):=by rw [e2,List.length_replicate]
  rw [e3] at w
  have:=mat_row (z:=x) (zi:=x) (K:=fun h4=>M.val (IntKind.wrap .i64 ((x:Int)+1)) fun z=>J z h4) w (by simp [hp]) rfl (by simpa using hlt) fun h4 ps' hp' w=>?_
  ·rw [List.length_replicate] at this; exact this
  refine M.vis _ v2 (hJ _ _ ⟨x+1,by omega,rfl,ps',by simpa using hp',?_⟩ (by omega))
  rw [step_map (f:=fun _=>List.replicate m 0) (g:=fun _=>[]) _ rfl] at w
  exact w
 ·refine cdf (by omega) ?_
  rw [done_map (f:=fun _=>List.replicate m 0) (g:=fun _=>[]) (by omega)] at w
  exact k _ _ _ _ hp w
theorem Identity_spec {n:Nat} {Q:Option Addr→Nat→Nat→Int→H→Prop} (h1:1≤n) (hn:n≤16)
  (k:∀ a c h' ps,ps.length=n→Wd h h' (matL a n c ps (idM n))→Q a n c 0 h'):matrix_Identity (n:Int) h Q:=by
 unfold matrix_Identity matrix_Identity.g
 refine mMay_spec (cf (by simp; omega) ?_)
 refine empty_spec hn hn fun a1 c1 h2 ps hp w=>?_
 have e0:zM n n=(List.range n).map fun i=>if i<0 then (List.replicate n 0).set i 1 else List.replicate n 0:=by rw [none_map]; rfl
 rw [e0] at w
 refine M.jn ?_
 refine M.loop_of (I:=fun (i:Int) h'=>∃ x:Nat,x≤n∧i=(x:Int)∧Wd h h' (matL a1 n c1 ps ((List.range n).map fun i=>if i<x then (List.replicate n 0).set i 1 else List.replicate n 0))) (μ:=fun i=>(n-i).toNat) ⟨0,by omega,rfl,w⟩ ?_
 clear w
 rintro _ h3 J ⟨x,hx,rfl,w⟩ hJ
 by_cases hlt:x<n
 ·refine cdt (by omega) ?_
  have v2:IntKind.wrap .i64 ((x:Int)+1)=((x+1:Nat):Int):=by rw [IntKind.wrap_i64]; omega
  have hp':ps.length=((List.range n).map fun i=>if i<x then (List.replicate n 0).set i 1 else List.replicate n 0).length:=by simpa using hp
  have er:ra ((List.range n).map fun i=>if i<x then (List.replicate n 0).set i 1 else List.replicate n 0) x=List.replicate n 0:=by rw [ra_map hlt,if_neg (by omega)]
  refine mat_ldv (z:=x) (mat_ro w hp') rfl hlt ?_
  refine mat_put (z:=x) (y:=x) (v:=1) w hp' (by simpa using hlt) rfl (by rw [er,List.length_replicate]; exact hlt) fun h4 w=>?_
  rw [er,step_map (f:=fun i=>(List.replicate n 0).set i 1) (g:=fun _=>List.replicate n 0) _ rfl] at w
  exact M.vis _ v2 (hJ _ _ ⟨x+1,by omega,rfl,w⟩ (by omega))
 ·refine cdf (by omega) ?_
  rw [done_map (f:=fun i=>(List.replicate n 0).set i 1) (g:=fun _=>List.replicate n 0) (by omega)] at w
  exact k _ _ _ _ hp w
theorem Vandermonde_spec {n m:Nat} {Q:Option Addr→Nat→Nat→Int→H→Prop} (h1:1≤n) (hn:n≤16) (h2:1≤m) (hm:m≤16)
  (k:∀ a c h' ps,ps.length=n→Wd h h' (matL a n c ps (vdM n m))→Q a n c 0 h'):matrix_Vandermonde (n:Int) (m:Int) h Q:=by
 unfold matrix_Vandermonde matrix_Vandermonde.g
 refine M.jn ?_
 refine mMay_spec (cf (by simp; omega) ?_)
 refine mMay_spec ?_
 refine cf (by simp; omega) ?_
 refine empty_spec hn hm fun a1 c1 h2 ps hp w=>?_
 have e0:zM n m=(List.range n).map fun i=>if i<0 then (List.range m).map fun c=>pN 2 (i*c) else List.replicate m 0:=by rw [none_map]; rfl
 rw [e0] at w
 refine M.jn ?_
 refine M.loop_of (I:=fun (i:Int) h'=>∃ x:Nat,x≤n∧i=(x:Int)∧Wd h h' (matL a1 n c1 ps ((List.range n).map fun i=>if i<x then (List.range m).map fun c=>pN 2 (i*c) else List.replicate m 0))) (μ:=fun i=>(n-i).toNat) ⟨0,by omega,rfl,w⟩ ?_
 clear w
 rintro _ h3 J ⟨x,hx,rfl,w⟩ hJ
 by_cases hlt:x<n
 ·refine cdt (by omega) ?_
  have v2:IntKind.wrap .i64 ((x:Int)+1)=((x+1:Nat):Int):=by rw [IntKind.wrap_i64]; omega
  have e1:((List.range n).map fun i=>if i<x then (List.range m).map fun c=>pN 2 (i*c) else List.replicate m 0)=((List.range n).map fun i=>if i<x then (List.range m).map fun c=>pN 2 (i*c) else List.replicate m 0).set x ((List.range m).map fun c=>if c<0 then pN 2 (x*c) else 0):=by
   rw [none_map,set_map_range]
   apply List.map_congr_left
   intro i hi
   by_cases h1:i=x
   ·subst h1; rw [if_pos rfl,if_neg (by omega),List.map_const',List.length_range]
   ·rw [if_neg h1]
  rw [e1] at w
  generalize hR:((List.range n).map fun i=>if i<x then (List.range m).map fun c=>pN 2 (i*c) else List.replicate m 0)=R at w
  have hRl:R.length=n:=by rw [←hR]; simp
  refine M.loop_of (I:=fun (i:Int) h'=>∃ y:Nat,y≤m∧i=(y:Int)∧Wd h h' (matL a1 n c1 ps (R.set x ((List.range m).map fun c=>if c<y then pN 2 (x*c) else 0)))) (μ:=fun i=>(m-i).toNat) ⟨0,by omega,rfl,w⟩ ?_
  clear w
  rintro _ h4 J2 ⟨y,hy,rfl,w⟩ hJ2
  by_cases hly:y<m
  ·refine cdt (by omega) ?_
   have v3:IntKind.wrap .i64 ((y:Int)+1)=((y+1:Nat):Int):=by rw [IntKind.wrap_i64]; omega
   have v4:IntKind.wrap .i64 ((x:Int)*(y:Int))=((x*y:Nat):Int):=by
    rw [IntKind.wrap_i64]
    have:x*y≤16*16:=Nat.mul_le_mul (by omega) (by omega)
    have e:(x:Int)*(y:Int)=((x*y:Nat):Int):=by simp
    rw [e]; omega
   have hxy:x*y<1000000:=by
    have:x*y≤16*16:=Nat.mul_le_mul (by omega) (by omega)
    omega
   have hp':ps.length=(R.set x ((List.range m).map fun c=>if c<y then pN 2 (x*c) else 0)).length:=by simp [hp,hRl]
   have er:ra (R.set x ((List.range m).map fun c=>if c<y then pN 2 (x*c) else 0)) x=(List.range m).map fun c=>if c<y then pN 2 (x*c) else 0:=by
    rw [ra_get (by simp [hRl]; exact hlt),List.getElem_set_self]
   have f:=mat_ro w hp'
   refine f.out.atV (by omega) (by omega) fun b hc=>?_
   rw [Nat.mul_one,lc hc]
   rw [Int.toNat_natCast] at hc ⊢
   refine ⟨_,_,_,rfl,?_⟩
   refine M.vis _ v4 ?_
   refine gfPow_spec (a:=2) (by decide) hxy fun h5 k5=>?_
   refine M.still_c k5 hc ?_
   have g:=(f.row x (by simp [hRl]; exact hlt)).1
   rw [g]
   refine mat_put (z:=x) (y:=y) (v:=pN 2 (x*y)) (w.keeps k5) hp' (by simp [hRl]; exact hlt) rfl (by rw [er]; simpa using hly) fun h6 w=>?_
   rw [er,step_map (f:=fun c=>pN 2 (x*c)) (g:=fun _=>0) _ rfl,List.set_set] at w
   exact M.vis _ v3 (hJ2 _ _ ⟨y+1,by omega,rfl,w⟩ (by omega))
  ·refine cdf (by omega) ?_
   rw [done_map (f:=fun c=>pN 2 (x*c)) (g:=fun _=>0) (by omega),←hR,step_map (f:=fun i=>(List.range m).map fun c=>pN 2 (i*c)) (g:=fun _=>List.replicate m 0) _ rfl] at w
   exact M.vis _ v2 (hJ _ _ ⟨x+1,by omega,rfl,w⟩ (by omega))
 ·refine cdf (by omega) ?_
  rw [done_map (f:=fun i=>(List.range m).map fun c=>pN 2 (i*c)) (g:=fun _=>List.replicate m 0) (by omega)] at w
  exact k _ _ _ _ hp w
theorem generator_spec {n:Nat} {Q:Option Addr→Nat→Nat→H→Prop} (h1:1≤n) (hn:n≤8)
  (k:∀ a c ss h',Keep h h'→RoM h' a (n+2) ss (genM n)→Q a (n+2) c h'):rs_generator (n:Int) h Q:=by
 unfold rs_generator rs_generator.g
 refine Identity_spec h1 (by omega) fun a1 c1 hA ps1 hp1 w=>?_
 refine Vandermonde_spec (n:=2) (by decide) (by decide) h1 (by omega) fun a2 c2 h2 ps2 hp2 w'=>?_
 have w:=w.join w'
 clear w'
 have hl1:(idM n).length=n:=by simp [idM]
 have hl2:(vdM 2 n).length=2:=by simp [vdM]
 have i2:(matL a1 n c1 ps1 (idM n)++matL a2 2 c2 ps2 (vdM 2 n))[n+1]? = some (.sl 29 1 a2 2 c2 (eV.row (vals ps2 (vdM 2 n)))):=by
  have:(matL a1 n c1 ps1 (idM n)).length=n+1:=by simp [matL,hp1,hl1]
  rw [List.getElem?_append_right (by omega),this,Nat.sub_self]; rfl
 refine w.cells (n+1) i2 ?_
 have hv2:(vals ps2 (vdM 2 n)).length=2:=by rw [vals_len (by rw [hp2,hl2]),hl2]
 refine M.app_w w 0 rfl rfl (by rw [eV.row_len,hv2]; rfl) (eV.row_plain _) (by omega) (by omega) fun a3 c3 h3 w=>?_
 refine k a3 c3 (vals ps1 (idM n)++vals ps2 (vdM 2 n)) h3 w.keep ⟨?_,?_,fun i hi=>?_⟩
 ·refine w.ro (E:=eV) (e:=29) (c:=c3) 0 ?_ (by decide)
  rw [eV.row_app]; rfl
 ·rw [genM,List.length_append,List.length_append,vals_len (by rw [hp1,hl1]),hv2,hl1,hl2]
 ·rw [genM,List.length_append,hl1,hl2] at hi
  by_cases hi1:i<n
  ·have e:va (vals ps1 (idM n)++vals ps2 (vdM 2 n)) i=rowV ps1[i] (idM n)[i]:=by
    rw [va,List.getD_eq_getElem?_getD,List.getElem?_append_left (by rw [vals_len (by rw [hp1,hl1]),hl1]; exact hi1)]
    rw [vals,zw_get (List.getElem?_eq_getElem (by omega)) (List.getElem?_eq_getElem (by omega))]; rfl
   have e2:ra (genM n) i=(idM n)[i]:=by
    rw [ra_get (by rw [genM,List.length_append,hl1,hl2]; exact hi)]
    simp only [genM]
    rw [List.getElem_append_left (by omega)]
   rw [e,e2]
   refine ⟨rfl,w.ro (E:=eN) (e:=5) (c:=ps1[i].2) (i+1) ?_ (by decide)⟩
   show (_ :: (List.zipWith rowC ps1 (idM n)++matL a2 2 c2 ps2 (vdM 2 n)))[i+1]? = some (rowC ps1[i] (idM n)[i])
   rw [List.getElem?_cons_succ,List.getElem?_append_left (by simp [hp1,hl1]; exact hi1)]
   exact zw_get (List.getElem?_eq_getElem _) (List.getElem?_eq_getElem _)
  ·obtain ⟨j,rfl⟩:∃ j,i=n+j:=⟨i-n,by omega⟩
   have e:va (vals ps1 (idM n)++vals ps2 (vdM 2 n)) (n+j)=rowV ps2[j] (vdM 2 n)[j]:=by
    rw [va,List.getD_eq_getElem?_getD,List.getElem?_append_right (by rw [vals_len (by rw [hp1,hl1]),hl1]; omega),vals_len (by rw [hp1,hl1]),hl1,Nat.add_sub_cancel_left]
    rw [vals,zw_get (List.getElem?_eq_getElem (by omega)) (List.getElem?_eq_getElem (by omega))]; rfl
   have e2:ra (genM n) (n+j)=(vdM 2 n)[j]:=by
    rw [ra_get (by rw [genM,List.length_append,hl1,hl2]; exact hi)]
    simp only [genM]
    rw [List.getElem_append_right (by omega)]
    simp [hl1]
   rw [e,e2]
   refine ⟨rfl,w.ro (E:=eN) (e:=5) (c:=ps2[j].2) (n+1+(j+1)) ?_ (by decide)⟩
   show (_ :: (List.zipWith rowC ps1 (idM n)++matL a2 2 c2 ps2 (vdM 2 n)))[n+1+(j+1)]? = some (rowC ps2[j] (vdM 2 n)[j])
   rw [show n+1+(j+1)=(n+(j+1))+1 by omega,List.getElem?_cons_succ,List.getElem?_append_right (by simp [hp1,hl1])]
   rw [show (List.zipWith rowC ps1 (idM n)).length=n by simp [hp1,hl1],Nat.add_sub_cancel_left,matL,List.getElem?_cons_succ]
   exact zw_get (List.getElem?_eq_getElem _) (List.getElem?_eq_getElem _)
end
end Go.Proofs.YthegnmanjdlmjaaGreatDoor
namespace Go.Proofs.YthegnmanjdlmjaaGreatDoor
open Go.Sh Go.RowKit
def dotN:List Nat→List Nat→Nat
 | x::xs,y::ys=>gN x y ^^^ dotN xs ys
 | _,_=>0
def combN (m:Nat):List Nat→List (List Nat)→List Nat
 | x::xs,b::bs=>List.zipWith (fun u v=>gN x u ^^^ v) b (combN m xs bs)
 | _,_=>List.replicate m 0
def mulM (m:Nat) (A B:List (List Nat)):List (List Nat):=A.map fun r=>combN m r B
def vecM (A:List (List Nat)) (d:List Nat):List Nat:=A.map fun r=>dotN r d
def subR (f:Nat) (r p:List Nat):List Nat:=List.zipWith (fun x y=>x ^^^ gN f y) r p
def clrM (m:List (List Nat)) (row frm col:Nat):List (List Nat):=if row≠frm∧na (ra m row) col≠0 then m.set row (subR (na (ra m row) col) (ra m row) (ra m frm)) else m
def clrF (c:Nat):Nat→List (List Nat)→List (List Nat)
 | 0,m=>m
 | k+1,m=>clrM (clrF c k m) k c c
def pivM (m:List (List Nat)) (c:Nat):Option Nat:=(m.drop c).findIdx? fun r=>na r c != 0
def swpM (m:List (List Nat)) (c p:Nat):List (List Nat):=(m.set c (ra m p)).set p (ra m c)
def sclM (m:List (List Nat)) (c:Nat):List (List Nat):=m.set c ((ra m c).map (gN (pN (na (ra m c) c) 254)))
def colM (m:List (List Nat)) (c:Nat):Option (List (List Nat)):=
 match pivM m c with
 | none=>none
 | some p=>some (clrF c m.length (sclM (swpM m c (c+p)) c))
def elimM:Nat→Nat→List (List Nat)→Option (List (List Nat))
 | 0,_,m=>some m
 | k+1,c,m=>match colM m c with
  | none=>none
  | some m'=>elimM k (c+1) m'
def augM (n:Nat) (a:List (List Nat)):List (List Nat):=(List.range n).map fun r=>ra a r++(List.replicate n 0).set r 1
def invM (n:Nat) (a:List (List Nat)):Option (List (List Nat)):=(elimM n 0 (augM n a)).map fun m=>m.map fun r=>r.drop n
def selB {α:Type}:List Bool→List α → List α
 | true::bs,x::xs=>x::selB bs xs
 | false::bs,_ :: xs=>selB bs xs
 | _,_=>[]
/-! ### Laws -/
theorem dotN_lt:∀ {xs ys:List Nat},(∀ x ∈ xs,x<256)→dotN xs ys<256
 | [],_,_=>by cases ‹List Nat› <;> simp [dotN]
 | x::xs,[],_=>by simp [dotN]
 | x::xs,y::ys,h=>xlt (gN_lt (h x (by simp))) (dotN_lt fun z hz=>h z (by simp [hz]))
theorem combN_len {m:Nat}:∀ {xs:List Nat} {B:List (List Nat)},(∀ b ∈ B,b.length=m)→(combN m xs B).length=m
 | [],_,_=>by cases ‹List (List Nat)› <;> simp [combN]
 | x::xs,[],_=>by simp [combN]
 | x::xs,b::bs,h=>by
  simp only [combN,List.length_zipWith]
  rw [combN_len fun c hc=>h c (by simp [hc]),h b (by simp),Nat.min_self]
theorem dot_zip {a:Nat} (ha:a<256):∀ {u v d:List Nat},u.length=v.length→(∀ x ∈ u,x<256)→(∀ x ∈ v,x<256)→dotN (List.zipWith (fun p q=>gN a p ^^^ q) u v) d=gN a (dotN u d) ^^^ dotN v d
 | [],[],d,_,_,_=>by cases d <;> simp [dotN,gN_zero]
 | x::u,y::v,[],_,_,_=>by simp [dotN,gN_zero]
 | x::u,y::v,z::d,hl,hu,hv=>by
  simp only [List.zipWith_cons_cons,dotN]
  have hx:=hu x (by simp)
  have hy:=hv y (by simp)
  rw [dot_zip ha (by simpa using hl) (fun q hq=>hu q (by simp [hq])) (fun q hq=>hv q (by simp [hq])),gN_xorR,gN_xorL _ (gN_lt ha) hy,←gN_assoc _ ha hx,xor4]
theorem combN_lt {m:Nat}:∀ {xs:List Nat} {B:List (List Nat)},(∀ x ∈ xs,x<256)→(∀ b ∈ B,∀ y ∈ b,y<256)→∀ y ∈ combN m xs B,y<256
 | [],_,_,_,y,hy=>by
  have:y ∈ List.replicate m 0:=by cases ‹List (List Nat)› <;> simpa [combN] using hy
  rw [List.eq_of_mem_replicate this]; decide
 | x::xs,[],_,_,y,hy=>by rw [List.eq_of_mem_replicate (show y ∈ List.replicate m 0 from hy)]; decide
 | x::xs,b::bs,hx,hb,y,hy=>by
  simp only [combN] at hy
  obtain ⟨i,hi,rfl⟩:=List.mem_iff_getElem.1 hy
  rw [List.getElem_zipWith]
  exact xlt (gN_lt (hx x (by simp))) (combN_lt (fun z hz=>hx z (by simp [hz])) (fun c hc=>hb c (by simp [hc])) _ (List.getElem_mem _))
theorem dot_comb {m:Nat} {d:List Nat}:∀ {xs:List Nat} {B:List (List Nat)},(∀ x ∈ xs,x<256)→(∀ b ∈ B,b.length=m)→(∀ b ∈ B,∀ y ∈ b,y<256)→dotN (combN m xs B) d=dotN xs (vecM B d)
 | [],B,_,_,_=>by
  have:∀ (k:Nat) (d:List Nat),dotN (List.replicate k 0) d=0:=by
   intro k
   induction k with
   | zero=>intro d; cases d <;> rfl
   | succ k ih=>intro d; cases d with
    | nil=>rfl
    | cons y d=>rw [List.replicate_succ,dotN,ih,zero_gN]; rfl
  cases B <;> simp only [combN,this] <;> simp [dotN]
 | x::xs,[],_,_,_=>by
  have:∀ (k:Nat) (d:List Nat),dotN (List.replicate k 0) d=0:=by
   intro k
   induction k with
   | zero=>intro d; cases d <;> rfl
   | succ k ih=>intro d; cases d with
    | nil=>rfl
    | cons y d=>rw [List.replicate_succ,dotN,ih,zero_gN]; rfl
  simp [combN,this,vecM,dotN]
 | x::xs,b::bs,hx,hl,hb=>by
  have h1:b.length=m:=hl b (by simp)
  have h2:=combN_len (xs:=xs) fun c hc=>hl c (List.mem_cons_of_mem _ hc)
  rw [combN,dot_zip (hx x (by simp)) (by rw [h1,h2]) (fun y hy=>hb b (by simp) y hy) (combN_lt (fun z hz=>hx z (by simp [hz])) fun c hc=>hb c (by simp [hc])),
   dot_comb (fun z hz=>hx z (by simp [hz])) (fun c hc=>hl c (by simp [hc])) fun c hc=>hb c (by simp [hc])]
  rfl
theorem vec_mul {m:Nat} {A B:List (List Nat)} {d:List Nat} (ha:∀ r ∈ A,∀ x ∈ r,x<256) (hl:∀ b ∈ B,b.length=m) (hb:∀ b ∈ B,∀ y ∈ b,y<256):vecM (mulM m A B) d=vecM A (vecM B d):=by
 rw [vecM,mulM,List.map_map]
 exact List.map_congr_left fun r hr=>dot_comb (ha r hr) hl hb
def boolsN:Nat→List (List Bool)
 | 0=>[[]]
 | n+1=>(boolsN n).flatMap fun bs=>[true::bs,false::bs]
theorem boolsN_mem:∀ {n:Nat} {bs:List Bool},bs.length=n→bs ∈ boolsN n
 | 0,[],_=>by simp [boolsN]
 | n+1,b::bs,h=>by
  rw [boolsN,List.mem_flatMap]
  exact ⟨bs,boolsN_mem (by simpa using h),by cases b <;> simp⟩
def okInv (k:Nat) (bs:List Bool):Bool:=
 match invM k ((selB bs (genM k)).take k) with
 | none=>false
 | some v=>v.length == k && v.all (fun r=>r.length == k && r.all fun x=>Nat.blt x 256) && mulM k v ((selB bs (genM k)).take k) == idM k
theorem okInv_all:∀ k,k<9→(boolsN (k+2)).all (fun bs=>!(decide (k≤bs.count true)) || k == 0 || okInv k bs)=true:=by decide +kernel
theorem gen_inv {k:Nat} {bs:List Bool} (h1:1≤k) (h2:k≤8) (hl:bs.length=k+2) (hc:k≤bs.count true):
  ∃ v,invM k ((selB bs (genM k)).take k)=some v∧v.length=k∧(∀ r ∈ v,r.length=k∧∀ x ∈ r,x<256)∧mulM k v ((selB bs (genM k)).take k)=idM k:=by
 have h:=List.all_eq_true.1 (okInv_all k (by omega)) bs (boolsN_mem hl)
 rw [decide_eq_true hc] at h
 have hk:(k == 0)=false:=by simp; omega
 rw [hk] at h
 simp only [Bool.not_true,Bool.false_or] at h
 unfold okInv at h
 cases hv:invM k ((selB bs (genM k)).take k) with
 | none=>rw [hv] at h; simp at h
 | some v=>
  rw [hv] at h
  simp only [Bool.and_eq_true,beq_iff_eq,List.all_eq_true] at h
  obtain ⟨⟨g1,g2⟩,g3⟩:=h
  exact ⟨v,rfl,g1,fun r hr=>⟨(g2 r hr).1,fun x hx=>by simpa using (g2 r hr).2 x hx⟩,g3⟩
end Go.Proofs.YthegnmanjdlmjaaGreatDoor
namespace Go.Sh
open Go.RowKit
section
variable {h:H} {a:Option Addr} {l:Nat}
theorem RoM.lds {ss:List (Option Addr × Nat × Nat)} {rs:List (List Nat)} {z:Nat} {zi:Int} {K:Addr→Nat→Option Addr→Nat→Nat→Prop} (f:RoM h a l ss rs) (hz:zi=(z:Int)) (hl:z<l)
  (k:∀ b,h.cell (Addr.add b (z*1))=some (.slice (va ss z).1 (ra rs z).length (va ss z).2.2)→Ro eN h (va ss z).1 (ra rs z).length (ra rs z)→K b z (va ss z).1 (ra rs z).length (va ss z).2.2):
  M.idx a l zi fun b j=>M.load h (Addr.add b (j*1)) fun v=>M.slc v (K b j):=by
 subst hz
 obtain ⟨e1,e2⟩:=f.row z (by rw [f.rl]; exact hl)
 refine f.out.atV (by omega) (by omega) fun b hc=>?_
 rw [Int.toNat_natCast] at hc ⊢
 have hc':h.cell (Addr.add b (z*1))=some (.slice (va ss z).1 (ra rs z).length (va ss z).2.2):=by rw [Nat.mul_one,hc,e1]
 rw [lc hc']
 exact ⟨_,_,_,rfl,k b hc' e2⟩
theorem Ro.ldNs {xs:List Nat} {z:Nat} {zi:Int} {K:Addr→Nat→Int→Prop} (f:Ro eN h a l xs) (hz:zi=(z:Int)) (hl:z<l)
  (k:∀ b,h.cell (Addr.add b (z*1))=some (.int .u8 (na xs z))→K b z (na xs z)):M.idx a l zi fun b j=>M.load h (Addr.add b (j*1)) fun v=>M.int .u8 v (K b j):=by
 subst hz
 refine f.atN (by omega) (by omega) fun b hc=>?_
 rw [Int.toNat_natCast] at hc ⊢
 have hc':h.cell (Addr.add b (z*1))=some (.int .u8 (na xs z)):=by rw [Nat.mul_one,hc]
 rw [lc hc']
 exact ⟨_,rfl,k b hc'⟩
theorem Ro.drop {α:Type} {E:Enc α} {xs:List α} {m:Nat} (f:Ro E h a l xs) (hm:m≤l):Ro E h (a.map (·.add (m*E.sz))) (l-m) (xs.drop m):=by
 refine ⟨by rw [List.length_drop,f.len],fun e=>?_,fun b e i hi=>?_⟩
 ·have:=f.none (by simpa using e); omega
 ·cases a with
  | none=>simp at e
  | some x=>
   simp only [Option.map_some,Option.some.injEq] at e
   subst e
   have hx:E.row xs=E.row (xs.take m)++E.row (xs.drop m):=by rw [←E.row_app,List.take_append_drop]
   have hl:(E.row (xs.take m)).length=m*E.sz:=by rw [E.row_len,List.length_take,f.len,Nat.min_eq_left hm]
   have:=f.row x rfl (m*E.sz+i) (by rw [hx,List.length_append,hl]; omega)
   rw [add2,this,hx,List.getElem?_append_right (by omega),hl,Nat.add_sub_cancel_left]
end
theorem ra_drop (xs:List (List Nat)) (m i:Nat):ra (xs.drop m) i=ra xs (m+i):=by simp [ra]
theorem va_drop (xs:List (Option Addr × Nat × Nat)) (m i:Nat):va (xs.drop m) i=va xs (m+i):=by simp [va]
theorem RoM.drop {h:H} {a:Option Addr} {l m:Nat} {ss:List (Option Addr × Nat × Nat)} {rs:List (List Nat)} (f:RoM h a l ss rs) (hm:m≤l):RoM h (a.map (·.add (m*1))) (l-m) (ss.drop m) (rs.drop m):=
 ⟨f.out.drop hm,by rw [List.length_drop,List.length_drop,f.len],fun i hi=>by
  rw [va_drop,ra_drop]
  exact f.row _ (by rw [List.length_drop] at hi; omega)⟩
theorem map_na (xs:List Nat):(List.range xs.length).map (na xs)=xs:=by
 apply List.ext_getElem
 ·simp
 ·intro i h1 h2
  rw [List.getElem_map,List.getElem_range,na_get (by simpa using h1)]
theorem set_same {α:Type} (xs:List α) (i:Nat) (x:α) (h:xs[i]? = some x):xs.set i x=xs:=by
 apply List.ext_getElem?
 intro j
 rw [List.getElem?_set]
 by_cases e:i=j
 ·subst e
  have hi:i<xs.length:=by
   by_cases g:i<xs.length
   ·exact g
   ·rw [List.getElem?_eq_none (by omega)] at h; simp at h
  rw [if_pos rfl,if_pos hi,h]
 ·rw [if_neg e]
end Go.Sh
namespace Go.Proofs.YthegnmanjdlmjaaGreatDoor
open Go.Sh Go.RowKit
structure Gd (m n:Nat) (rs:List (List Nat)):Prop where
 rl:rs.length=m
 cl:∀ r ∈ rs,r.length=n
 lt:∀ r ∈ rs,∀ x ∈ r,x<256
namespace Gd
variable {m n:Nat} {rs:List (List Nat)} {r:List Nat} {i j c:Nat}
theorem mem (hi:i<rs.length):ra rs i ∈ rs:=by rw [ra_get hi]; exact List.getElem_mem _
theorem len (g:Gd m n rs) (hi:i<m):(ra rs i).length=n:=g.cl _ (mem (by rw [g.rl]; exact hi))
theorem na_lt (g:Gd m n rs) (hi:i<m):na (ra rs i) j<256:=by
 by_cases hj:j<(ra rs i).length
 ·rw [na_get hj]; exact g.lt _ (mem (by rw [g.rl]; exact hi)) _ (List.getElem_mem _)
 ·rw [na,List.getD_eq_getElem?_getD,List.getElem?_eq_none (by omega)]; decide
theorem set (g:Gd m n rs) (h1:r.length=n) (h2:∀ x ∈ r,x<256):Gd m n (rs.set i r):=
 ⟨by rw [List.length_set,g.rl],fun q hq=>by
  rcases List.mem_or_eq_of_mem_set hq with hq | rfl
  ·exact g.cl q hq
  ·exact h1,fun q hq=>by
  rcases List.mem_or_eq_of_mem_set hq with hq | rfl
  ·exact g.lt q hq
  ·exact h2⟩
theorem row (g:Gd m n rs) (hi:i<m):(ra rs i).length=n∧∀ x ∈ ra rs i,x<256:=⟨g.len hi,g.lt _ (mem (by rw [g.rl]; exact hi))⟩
theorem swp (g:Gd m n rs) (hi:i<m) (hj:j<m):Gd m n (swpM rs i j):=(g.set (g.row hj).1 (g.row hj).2).set (g.row hi).1 (g.row hi).2
theorem scl (g:Gd m n rs) (hi:i<m):Gd m n (sclM rs i):=g.set (by rw [List.length_map,g.len hi]) fun x hx=>by
 obtain ⟨y,hy,rfl⟩:=List.mem_map.1 hx
 exact gN_lt (pN_lt _ (g.na_lt hi))
theorem sub_len (g:Gd m n rs) (hi:i<m) (hj:j<m) (f:Nat):(subR f (ra rs i) (ra rs j)).length=n:=by rw [subR,List.length_zipWith,g.len hi,g.len hj,Nat.min_self]
theorem sub_lt (g:Gd m n rs) (hi:i<m) (hj:j<m) {f:Nat} (hf:f<256):∀ x ∈ subR f (ra rs i) (ra rs j),x<256:=fun x hx=>by
 obtain ⟨q,hq,rfl⟩:=List.mem_iff_getElem.1 hx
 simp only [subR,List.getElem_zipWith]
 exact xlt ((g.row hi).2 _ (List.getElem_mem _)) (gN_lt hf)
theorem clr (g:Gd m n rs) (hi:i<m) (hj:j<m):Gd m n (clrM rs i j c):=by
 unfold clrM
 split
 ·exact g.set (g.sub_len hi hj _) (g.sub_lt hi hj (g.na_lt hi))
 ·exact g
theorem clrF (g:Gd m n rs) (hc:c<m):∀ k,k≤m→Gd m n (clrF c k rs)
 | 0,_=>g
 | k+1,hk=>(clrF g hc k (by omega)).clr (by omega) hc
end Gd
theorem sub_map {r p:List Nat} {f:Nat} (h:r.length=p.length):subR f r p=(List.range r.length).map fun i=>na r i ^^^ gN f (na p i):=by
 apply List.ext_getElem
 ·simp [subR,h]
 ·intro i h1 h2
  have hi:i<r.length:=by simpa using h2
  rw [List.getElem_map,List.getElem_range,na_get hi,na_get (by rw [←h]; exact hi)]
  simp [subR]
section
variable {h0 h:H} {a:Option Addr} {l c:Nat} {ps:List (Option Addr × Nat)} {rs:List (List Nat)} {ss:List (Option Addr × Nat × Nat)} {m n:Nat}
theorem mat_open (w:Wd h0 h [matC a l c rs]):∃ ps,ps.length=rs.length∧Wd h0 h (matL a l c ps rs):=by
 obtain ⟨ps,hp,w⟩:=w.opn 0 rfl
 exact ⟨ps,hp,w⟩
theorem mat_close (w:Wd h0 h (matL a l c ps rs)) (hp:ps.length=rs.length):Wd h0 h [matC a l c rs]:=w.close 0 ps rfl hp
theorem clear_spec {Q:H→Prop} {row frm col:Nat} (w:Wd h0 h [matC a l c rs]) (g:Gd m n rs) (hr:row<m) (hf:frm<m) (hc:col<n) (hn:n≤100)
  (k:∀ h',Wd h0 h' [matC a l c (clrM rs row frm col)]→Q h'):matrix_clearRow a l c (row:Int) (frm:Int) (col:Int) h Q:=by
 unfold matrix_clearRow matrix_clearRow.g
 obtain ⟨ps,hp,w⟩:=mat_open w
 have f:=mat_ro w hp
 have hl:l=m:=by rw [←f.rl,g.rl]
 subst hl
 have lr:=g.len hr
 have lf:=g.len hf
 refine f.lds rfl hr fun b hb fr=>?_
 rw [lr] at fr hb ⊢
 refine fr.ldNs rfl hc fun b2 hb2=>?_
 refine M.jn ?_
 have hx:clrM rs row frm col=if row≠frm∧na (ra rs row) col≠0 then rs.set row (subR (na (ra rs row) col) (ra rs row) (ra rs frm)) else rs:=rfl
 rw [hx] at k
 clear hx
 have hfl:=g.na_lt (j:=col) hr
 generalize na (ra rs row) col=q at *
 by_cases e:row=frm
 ·rw [if_neg (by simp [e])] at k
  exact cf (by simp [e]) (cf rfl (k _ (mat_close w hp)))
 refine ct (by rw [bne_iff_ne]; omega) ?_
 by_cases e0:q=0
 ·rw [if_neg (by simp [e0])] at k
  exact cf (by simp [e0]) (k _ (mat_close w hp))
 rw [if_pos ⟨e,e0⟩] at k
 refine ct (by simpa using e0) ?_
 refine f.lds rfl hr fun b3 hb3 _=>?_
 rw [lr] at hb3 ⊢
 have es:subR q (ra rs row) (ra rs frm)=(List.range n).map fun i=>na (ra rs row) i ^^^ gN q (na (ra rs frm) i):=by rw [sub_map (by rw [lr,lf]),lr]
 rw [es] at k
 clear hb3 hb2 hb fr f
 have e1:rs=rs.set row ((List.range n).map fun i=>if i<0 then na (ra rs row) i ^^^ gN q (na (ra rs frm) i) else na (ra rs row) i):=by
  rw [none_map,←lr]
  rw [show (List.range (ra rs row).length).map (fun i=>na (ra rs row) i)=ra rs row from map_na _]
  exact (set_same _ _ _ (by rw [ra_get (by rw [g.rl]; exact hr)]; exact List.getElem?_eq_getElem _)).symm
 have hrl:=g.rl
 refine M.loop_of (I:=fun (i:Int) h'=>∃ x:Nat,x≤n∧i=(x:Int)∧Wd h0 h' (matL a l c ps (rs.set row ((List.range n).map fun i=>if i<x then na (ra rs row) i ^^^ gN q (na (ra rs frm) i) else na (ra rs row) i)))) (μ:=fun i=>(n-i).toNat) ⟨0,by omega,rfl,by rw [←e1]; exact w⟩ ?_
 clear w e1
 rintro _ h5 J ⟨x,hx,rfl,w⟩ hJ
 by_cases hlt:x<n
 ·refine cdt (by omega) ?_
  have v2:IntKind.wrap .i64 ((x:Int)+1)=((x+1:Nat):Int):=by rw [IntKind.wrap_i64]; omega
  have hp':ps.length=(rs.set row ((List.range n).map fun i=>if i<x then na (ra rs row) i ^^^ gN q (na (ra rs frm) i) else na (ra rs row) i)).length:=by rw [List.length_set]; exact hp
  have f:=mat_ro w hp'
  have er:ra (rs.set row ((List.range n).map fun i=>if i<x then na (ra rs row) i ^^^ gN q (na (ra rs frm) i) else na (ra rs row) i)) row=(List.range n).map fun i=>if i<x then na (ra rs row) i ^^^ gN q (na (ra rs frm) i) else na (ra rs row) i:=by
   rw [ra_get (by rw [List.length_set,hrl]; exact hr),List.getElem_set_self]
  have ef:ra (rs.set row ((List.range n).map fun i=>if i<x then na (ra rs row) i ^^^ gN q (na (ra rs frm) i) else na (ra rs row) i)) frm=ra rs frm:=by
   rw [ra,List.getD_eq_getElem?_getD,List.getElem?_set_ne e]; rfl
  have n1:na ((List.range n).map fun i=>if i<x then na (ra rs row) i ^^^ gN q (na (ra rs frm) i) else na (ra rs row) i) x=na (ra rs row) x:=by rw [na_map hlt,if_neg (by omega)]
  have hset:∀ z,(rs.set row ((List.range n).map fun i=>if i<x then na (ra rs row) i ^^^ gN q (na (ra rs frm) i) else na (ra rs row) i)).set row z=rs.set row z:=fun z=>List.set_set ..
  have st:=step_map (n:=n) (m:=x) (f:=fun i=>na (ra rs row) i ^^^ gN q (na (ra rs frm) i)) (g:=fun i=>na (ra rs row) i) _ rfl
  rw [←er] at n1 st
  generalize rs.set row ((List.range n).map fun i=>if i<x then na (ra rs row) i ^^^ gN q (na (ra rs frm) i) else na (ra rs row) i)=R at *
  have hRl:R.length=l:=by rw [←hp',hp,hrl]
  have lr2:(ra R row).length=n:=by rw [er]; simp
  refine f.lds rfl hr fun b hb _=>?_
  refine f.lds rfl hr fun b1 hb1 fr=>?_
  rw [lr2] at fr hb hb1 ⊢
  refine fr.ldNs rfl hlt fun b2 hb2=>?_
  refine f.lds rfl hf fun b3 hb3 ff=>?_
  rw [ef,lf] at ff hb3 ⊢
  refine ff.ldNs rfl hlt fun b4 hb4=>?_
  refine gfMul_spec hfl (g.na_lt hf) fun h6 k6=>?_
  refine M.still_c k6 hb2 (M.still_c k6 hb1 (M.still_c k6 hb ?_))
  rw [n1]
  refine gfAdd_spec (g.na_lt hr) (gN_lt hfl) fun h7 k7=>?_
  refine M.still_c (k6.trans k7) hb ?_
  have:=mat_put (z:=row) (y:=x) (v:=na (ra rs row) x ^^^ gN q (na (ra rs frm) x)) (yi:=(x:Int)) (K:=fun h'=>M.val (IntKind.wrap .i64 ((x:Int)+1)) fun z56=>J z56 h') (w.keeps (k6.trans k7)) hp' (by rw [hRl]; exact hr) rfl (by rw [lr2]; exact hlt) fun h8 w=>M.vis _ v2 (hJ _ _ ⟨x+1,by omega,rfl,?_⟩ (by omega))
  ·rw [lr2] at this
   exact this
  ·rw [st,hset] at w
   exact w
 ·refine cdf (by omega) ?_
  rw [done_map (by omega)] at w
  exact k _ (mat_close w (by rw [List.length_set]; exact hp))
end
end Go.Proofs.YthegnmanjdlmjaaGreatDoor
namespace Go.Proofs.YthegnmanjdlmjaaGreatDoor
open Go.Sh Go.RowKit
section
variable {h0 h:H} {a:Option Addr} {l c:Nat} {ps:List (Option Addr × Nat)} {rs:List (List Nat)} {ss:List (Option Addr × Nat × Nat)} {m n:Nat}
theorem good1_spec {Q:Bool→H→Prop} {b:Nat} {e:TypeId} {z:Nat × Nat} {x0:Option Addr} {x0L x0C:Nat} (f:RoM h a l ss rs) (hl:0<l) (hb:h b=some (.cells #[.slice a l c] e z)) (k:Q ((x0L:Int) != ((ra rs 0).length:Int)) h):
  matrix_Matrix_Good_1 x0 x0L x0C ⟨b,0,none⟩ h Q:=by
 unfold matrix_Matrix_Good_1
 exact M.load_in hb rfl ⟨_,_,_,rfl,f.lds (z:=0) rfl hl fun _ _ _=>k⟩
theorem idxGood_spec {Q:Int→H→Prop} {b:Nat} {e:TypeId} {z:Nat × Nat} (f:RoM h a l ss rs) (hl:0<l) (hl2:l≤100) (hn:∀ i,i<l→(ra rs i).length=n) (hb:h b=some (.cells #[.slice a l c] e z)) (k:Q (-1) h):
  slices_IndexFuncbyte_matrix_Matrix_Good_1 a l c ⟨b,0,none⟩ h Q:=by
 unfold slices_IndexFuncbyte_matrix_Matrix_Good_1 slices_IndexFuncbyte_matrix_Matrix_Good_1.g
 refine M.loop_of (I:=fun (i:Int) h'=>∃ x:Nat,x≤l∧i=(x:Int)∧h'=h) (μ:=fun i=>(l-i).toNat) ⟨0,by omega,rfl,rfl⟩ ?_
 rintro _ h5 J ⟨x,hx,rfl,rfl⟩ hJ
 by_cases hlt:x<l
 ·refine cdt (by omega) (f.lds rfl hlt fun _ _ _=>good1_spec f hl hb ?_)
  rw [hn x hlt,hn 0 hl]
  exact cf (by simp) (M.vis _ (show IntKind.wrap .i64 ((x:Int)+1)=((x+1:Nat):Int) by rw [IntKind.wrap_i64]; omega) (hJ _ _ ⟨x+1,by omega,rfl,rfl⟩ (by omega)))
 ·exact cdf (by omega) k
theorem mGood_spec {Q:Bool→H→Prop} (f:RoM h a l ss rs) (h1:1≤l) (h2:l≤16) (hn:∀ i,i<l→(ra rs i).length=n) (h3:1≤n) (h4:n≤16) (k:∀ h',Keep h h'→Q true h'):matrix_Matrix_Good a l c h Q:=by
 unfold matrix_Matrix_Good matrix_Matrix_Good.g
 refine M.new_w (Wd.start h) fun b h2 w=>?_
 have f:=f.keep w.keep
 have hb:=w.blk 0 rfl
 refine M.jn (M.load_in hb rfl ⟨_,_,_,rfl,mMay_spec (cf (by simp; omega) (M.load_in hb rfl ⟨_,_,_,rfl,f.lds (z:=0) rfl (by omega) fun _ _ _=>mMay_spec ?_⟩))⟩)
 rw [hn 0 (by omega)]
 rw [show (!decide (1≤(n:Int)∧(n:Int)≤16))=false by simp; omega]
 refine cf rfl (M.load_in hb rfl ⟨_,_,_,rfl,?_⟩)
 unfold slices_ContainsFuncbyte_matrix_Matrix_Good_1 slices_ContainsFuncbyte_matrix_Matrix_Good_1.g
 exact idxGood_spec f (by omega) (by omega) hn hb (k _ w.keep)
theorem clone_spec {Q:Option Addr→Nat→Nat→H→Prop} {xs:List Nat} (f:Ro eN h a l xs) (hl:l≤1000) (k:∀ a' c' h',Wd h h' [.sl 5 1 a' l c' (eN.row xs)]→Q a' l c' h'):slices_Clonebyte_byte a l c h Q:=by
 unfold slices_Clonebyte_byte
 cases ha:a with
 | none=>
  have:=f.none ha
  subst this
  have:xs=[]:=List.length_eq_zero_iff.1 f.len
  subst this
  exact ct rfl (k _ _ _ ((Wd.start h).nilsl _ _))
 | some x=>
  refine cf rfl ?_
  refine M.new_w (Wd.start h) fun b h2 w=>?_
  refine M.cellsOf_row (xs:=eN.row xs) (by rw [eN.row_len,f.len]; rfl) (fun e=>by simp at e) (fun y e=>w.keep.row (f.row y (by rw [ha]; exact e))) ?_
  have w:=w.blkSl (i:=0) (size:=1) rfl
  refine M.app_w w 0 rfl rfl (by rw [eN.row_len,f.len]; rfl) (eN.row_plain _) (by omega) (by omega) fun a' c' h3 w=>?_
  rw [Nat.zero_add] at w ⊢
  exact k _ _ _ w
theorem inv1_spec {Q:Bool→H→Prop} {b:Nat} {e:TypeId} {z:Nat × Nat} {x0:Option Addr} {x0L x0C col:Nat} {xs:List Nat} (f:Ro eN h x0 x0L xs) (hl:col<x0L) (hb:h b=some (.cells #[.int .i64 (col:Int)] e z)) (k:Q ((na xs col:Int) != 0) h):
  matrix_Invert_1 x0 x0L x0C ⟨b,0,none⟩ h Q:=by
 unfold matrix_Invert_1
 exact M.load_in hb rfl ⟨_,rfl,f.ldNs rfl hl fun _ _=>k⟩
theorem idxInv_spec {Q:Int→H→Prop} {b col p:Nat} {e:TypeId} {z:Nat × Nat} (f:RoM h a l ss rs) (hl2:l≤100) (hn:∀ i,i<l→col<(ra rs i).length) (hb:h b=some (.cells #[.int .i64 (col:Int)] e z))
  (hp:rs.findIdx? (fun r=>na r col != 0)=some p) (k:Q (p:Int) h):slices_IndexFuncbyte_matrix_Invert_1 a l c ⟨b,0,none⟩ h Q:=by
 unfold slices_IndexFuncbyte_matrix_Invert_1 slices_IndexFuncbyte_matrix_Invert_1.g
 obtain ⟨hpl,hp1,hp2⟩:=List.findIdx?_eq_some_iff_getElem.1 hp
 have hrl:=f.rl
 refine M.loop_of (I:=fun (i:Int) h'=>∃ x:Nat,x≤p∧i=(x:Int)∧h'=h) (μ:=fun i=>(l-i).toNat) ⟨0,by omega,rfl,rfl⟩ ?_
 rintro _ h5 J ⟨x,hx,rfl,rfl⟩ hJ
 refine cdt (by omega) (f.lds rfl (by omega) fun _ _ fr=>inv1_spec fr (hn x (by omega)) hb ?_)
 by_cases hlt:x<p
 ·have:=hp2 x hlt
  rw [ra_get (by omega)]
  exact cf (by simpa using this) (M.vis _ (show IntKind.wrap .i64 ((x:Int)+1)=((x+1:Nat):Int) by rw [IntKind.wrap_i64]; omega) (hJ _ _ ⟨x+1,by omega,rfl,rfl⟩ (by omega)))
 ·obtain rfl:x=p:=by omega
  rw [ra_get (by omega)]
  exact ct (by simpa using hp1) k
theorem swap_perm {α:Type} {L:List α} {i j:Nat} (hi:i<L.length) (hj:j<L.length):((L.set i L[j]).set j L[i]).Perm L:=List.set_set_perm hi hj
theorem swap_w {x z:Nat} (w:Wd h0 h (.sl 29 1 a l c (eV.row (((vals ps rs).set x (va (vals ps rs) z)).set z (va (vals ps rs) x)))::List.zipWith rowC ps rs)) (hp:ps.length=rs.length) (hx:x<rs.length) (hz:z<rs.length):
  ∃ ps',ps'.length=(swpM rs x z).length∧Wd h0 h (matL a l c ps' (swpM rs x z)):=by
 refine ⟨(ps.set x ps[z]).set z ps[x],by simp [swpM,hp],?_⟩
 have e:∀ i (hi:i<rs.length),va (vals ps rs) i=rowV ps[i] rs[i]:=fun i hi=>by rw [va_get (by rw [vals_len hp]; exact hi)]; simp [vals]
 refine w.perm ?_
 have hv:((vals ps rs).set x (va (vals ps rs) z)).set z (va (vals ps rs) x)=vals ((ps.set x ps[z]).set z ps[x]) ((rs.set x rs[z]).set z rs[x]):=by
  rw [e x hx,e z hz,vals,zw_set,zw_set]; rfl
 have hr:List.zipWith rowC ((ps.set x ps[z]).set z ps[x]) ((rs.set x rs[z]).set z rs[x])=((List.zipWith rowC ps rs).set x (rowC ps[z] rs[z])).set z (rowC ps[x] rs[x]):=by rw [zw_set,zw_set]
 rw [matL,swpM,ra_get hx,ra_get hz,hv,hr]
 refine List.Perm.cons _ ?_
 have hL:(List.zipWith rowC ps rs).length=rs.length:=by simp [hp]
 have:=swap_perm (L:=List.zipWith rowC ps rs) (i:=x) (j:=z) (by omega) (by omega)
 simp only [List.getElem_zipWith] at this
 exact this.symm
theorem mk_mat {K:Option Addr→Nat→Nat→H→Prop} (hn:n≤16) (k:∀ a h' ps,ps.length=n→Wd h h' (matL a n n ps (List.replicate n []))→K a n n h'):M.mk h 29 [.slice none 0 0] 24 (n:Int) (n:Int) K:=by
 refine M.mk_sl (size:=1) (Wd.start h) (by omega) (by omega) (by omega) (by omega) rfl fun a1 h1 w=>?_
 rw [Int.toNat_natCast] at w ⊢
 have w:=nil_rows 5 w n
 have e0:zerosOf [Value.slice none 0 0] n=eV.row (vals (List.replicate n (none,0)) (List.replicate n [])):=by
  rw [vals,List.zipWith_replicate,Nat.min_self,eV.row_rep]; rfl
 have e1:List.replicate n (Chunk.sl 5 1 none 0 0 [])=List.zipWith rowC (List.replicate n (none,0)) (List.replicate n []):=by
  rw [List.zipWith_replicate,Nat.min_self]; rfl
 rw [e0,e1] at w
 exact k _ _ _ (by simp) w
theorem bytes_row {s:ByteArray}:bytesOf s=eN.row ((List.range s.size).map (bN s)):=by
 rw [eN_bvs,List.map_map,bvs,List.map_map,bytesOf]
 apply List.ext_getElem
 ·rw [List.length_map,List.length_map,List.length_range,bsz]
 ·intro i h1 h2
  simp only [List.getElem_map,List.getElem_range,Function.comp,bN]
  rw [List.getD_eq_getElem?_getD,List.getElem?_eq_getElem (by simpa using h1)]
  rfl
theorem bN_ofB {r:List Nat} (h:∀ x ∈ r,x<256) (i:Nat):bN (ofBytes (r.map fun n:Nat=>(n:Int))) i=na r i:=by
 rw [bN,na,ofBytes,List.getD_eq_getElem?_getD,List.getD_eq_getElem?_getD]
 simp only [List.map_map,List.getElem?_map]
 by_cases hi:i<r.length
 ·rw [List.getElem?_eq_getElem hi]
  have:=h _ (List.getElem_mem hi)
  simp [UInt8.toNat_ofNat]
  omega
 ·rw [List.getElem?_eq_none (by omega)]; rfl
theorem ofB_len {r:List Nat}:(ofBytes (r.map fun n:Nat=>(n:Int))).size=r.length:=by simp [ofBytes,ByteArray.size]
theorem bN_byT {m i:Nat} {f:Nat→Nat} (hi:i<m) (hf:f i<256):bN (byT m fun i=>((f i:Nat):Int)) i=f i:=by
 have:=byteAt_byT m (fun i=>((f i:Nat):Int)) i hi (by show (0:Int)≤((f i:Nat):Int)∧((f i:Nat):Int)<256; omega)
 rw [bN_eq] at this
 exact_mod_cast this
theorem scT_row {r:List Nat} {q:Nat} (hq:q<256) (h:∀ x ∈ r,x<256):bytesOf (scT q (ofBytes (r.map fun n:Nat=>(n:Int))))=eN.row (r.map (gN q)):=by
 rw [bytes_row,scT_size,ofB_len]
 congr 1
 conv=>rhs; rw [←map_na r]
 rw [List.map_map]
 refine List.map_congr_left fun i hi=>?_
 have hi:=List.mem_range.1 hi
 rw [scT,ofB_len,bN_byT (f:=fun i=>gN q (bN (ofBytes (r.map fun n:Nat=>(n:Int))) i)) hi (gN_lt hq),bN_ofB h]
 rfl
end
end Go.Proofs.YthegnmanjdlmjaaGreatDoor
namespace Go.Sh
open Go.RowKit
section
variable {h:H} {a:Option Addr} {l:Nat}
theorem Ro.ldVs {xs:List (Option Addr × Nat × Nat)} {z:Nat} {zi:Int} {K:Addr→Nat→Option Addr→Nat→Nat→Prop} (f:Ro eV h a l xs) (hz:zi=(z:Int)) (hl:z<l)
  (k:∀ b,K b z (va xs z).1 (va xs z).2.1 (va xs z).2.2):M.idx a l zi fun b j=>M.load h (Addr.add b (j*1)) fun v=>M.slc v (K b j):=by
 subst hz
 refine f.atV (by omega) (by omega) fun b hc=>?_
 rw [Int.toNat_natCast] at hc ⊢
 have hc':h.cell (Addr.add b (z*1))=some (.slice (va xs z).1 (va xs z).2.1 (va xs z).2.2):=by rw [Nat.mul_one,hc]
 rw [lc hc']
 exact ⟨_,_,_,rfl,k b⟩
theorem Ro.b2sN {xs:List Nat} {K:ByteArray→Prop} (f:Ro eN h a l xs) (k:K (ofBytes (xs.map fun n:Nat=>(n:Int)))):M.b2s h a l K:=by
 refine ⟨fun e=>?_,fun b e=>⟨_,by rw [List.length_map,f.len],?_,k⟩⟩
 ·have h1:=f.none e
  have h2:=f.len
  obtain rfl:xs=[]:=List.length_eq_zero_iff.1 (by omega)
  exact k
 ·have:=f.row b e
  rw [eN_bvs] at this
  exact this
end
end Go.Sh
namespace Go.Proofs.YthegnmanjdlmjaaGreatDoor
open Go.Sh Go.RowKit
theorem slA {a:Option Addr} {m l s:Nat} (h:m≠l):sliceAddr a m l s=a.map (·.add (l*s)):=if_neg h
theorem M.sub_of {a:Option Addr} {cap size:Nat} {lo hi:Int} {K:Option Addr→Nat→Nat→Prop} (x y:Nat) (e1:lo=(x:Int)) (e2:hi=(y:Int)) (h1:x≤y) (h2:y≤cap) (h3:x<cap) (k:K (a.map (·.add (x*size))) (y-x) (cap-x)):M.sub a cap size lo hi K:=by
 subst e1 e2
 refine ⟨by omega,by omega,by omega,?_⟩
 rw [Int.toNat_natCast,Int.toNat_natCast]
 show K (sliceAddr a cap x size) (y-x) (cap-x)
 rw [slA (by omega)]
 exact k
theorem M.sub3_of {a:Option Addr} {cap size:Nat} {lo hi m:Int} {K:Option Addr→Nat→Nat→Prop} (x y:Nat) (e1:lo=(x:Int)) (e2:hi=(y:Int)) (e3:m=(y:Int)) (h1:x<y) (h2:y≤cap) (k:K (a.map (·.add (x*size))) (y-x) (y-x)):M.sub3 a cap size lo hi m K:=by
 subst e1 e2 e3
 refine ⟨by omega,by omega,by omega,by omega,?_⟩
 rw [Int.toNat_natCast,Int.toNat_natCast,slA (by omega)]
 exact k
theorem M.ldi {h:H} {b o:Nat} {c:Array Value} {e:TypeId} {f:Nat × Nat} {n:Int} {kd:IntKind} {K:Int→Prop} (hb:h b=some (.cells c e f)) (hv:c[o]? = some (.int kd n)) (k:K n):M.load h ⟨b,o,none⟩ fun v=>M.int kd v K:=M.load_in hb hv ⟨_,rfl,k⟩
section
variable {h0 h:H} {a:Option Addr} {l c:Nat} {ps:List (Option Addr × Nat)} {rs:List (List Nat)} {ss:List (Option Addr × Nat × Nat)} {m n:Nat}
theorem aug_gd (g:Gd n n rs):Gd n (2*n) (augM n rs):=by
 refine ⟨by simp [augM],fun r hr=>?_,fun r hr x hx=>?_⟩
 ·obtain ⟨i,hi,rfl⟩:=List.mem_map.1 hr
  rw [List.length_append,g.len (List.mem_range.1 hi),List.length_set,List.length_replicate]; omega
 ·obtain ⟨i,hi,rfl⟩:=List.mem_map.1 hr
  rcases List.mem_append.1 hx with hx | hx
  ·exact (g.row (List.mem_range.1 hi)).2 x hx
  ·rcases List.mem_or_eq_of_mem_set hx with hx | rfl
   ·rw [List.eq_of_mem_replicate hx]; decide
   ·decide
theorem set_last {r:List Nat} {x:Nat} (hr:r.length=n):(r++List.replicate n 0).set (n+x) 1=r++(List.replicate n 0).set x 1:=by
 rw [List.set_append_right _ _ (by omega),hr,Nat.add_sub_cancel_left]
theorem aug_step {J:Int→H→Prop} {h5:H} {x:Nat} {a1:Option Addr} (f:RoM h0 a n ss rs) (g:Gd n n rs) (h2:n≤16) (hlt:x<n)
  (w:Wd h0 h5 [matC a1 n n ((List.range n).map fun i=>if i<x then ra rs i++(List.replicate n 0).set i 1 else [])])
  (hJ:∀ h',Wd h0 h' [matC a1 n n ((List.range n).map fun i=>if i<x+1 then ra rs i++(List.replicate n 0).set i 1 else [])]→J ((x+1:Nat):Int) h'):
  M.idx a n (x:Int) fun a21 j22=>M.load h5 (Addr.add a21 (j22*1)) fun v23=>M.slc v23 fun a24 l25 c26=>slices_Clonebyte_byte a24 l25 c26 h5 fun a27 l28 c29 h30=>
   M.appz h30 5 1 1 [.int .u8 0] a27 l28 c29 (n:Int) fun a31 l32 c33 h34=>M.idx a1 n (x:Int) fun a35 j36=>M.put h34 (Addr.add a35 (j36*1)) (.slice a31 l32 c33) fun h37=>
   M.idx a1 n (x:Int) fun a38 j39=>M.load h37 (Addr.add a38 (j39*1)) fun v40=>M.slc v40 fun a41 l42 c43=>M.val (IntKind.wrap .i64 ((n:Int)+(x:Int))) fun z44=>M.idx a41 l42 z44 fun a45 j46=>
   M.put h37 (Addr.add a45 (j46*1)) (.int .u8 1) fun h47=>M.val (IntKind.wrap .i64 ((x:Int)+1)) fun z48=>J z48 h47:=by
 have v2:IntKind.wrap .i64 ((x:Int)+1)=((x+1:Nat):Int):=by rw [IntKind.wrap_i64]; omega
 have v3:IntKind.wrap .i64 ((n:Int)+(x:Int))=((n+x:Nat):Int):=by rw [IntKind.wrap_i64]; omega
 have lx:=g.len hlt
 refine (f.keep w.keep).lds rfl hlt fun _ _ fr=>?_
 rw [lx] at fr ⊢
 refine clone_spec fr (by omega) fun a2 c2 h6 w'=>?_
 have w:=w.join w'
 clear w'
 refine ⟨by omega,by omega,by omega,?_⟩
 have e:zerosOf [Value.int .u8 0] n=eN.row (List.replicate n 0):=(eN.row_rep n 0).symm
 rw [Int.toNat_natCast,e]
 refine M.app_w w 1 rfl rfl (by rw [eN.row_len,List.length_replicate]; rfl) (eN.row_plain _) (by omega) (by omega) fun a3 c3 h7 w=>?_
 rw [←eN.row_app] at w
 obtain ⟨ps,hp,w⟩:=w.opn 0 rfl
 have hsl:=set_last (x:=x) lx
 have hX:(ra rs x++List.replicate n 0).length=n+n:=by rw [List.length_append,lx,List.length_replicate]
 have st:=step_map (n:=n) (m:=x) (f:=fun i=>ra rs i++(List.replicate n 0).set i 1) (g:=fun _=>([]:List Nat)) _ rfl
 rw [←hsl] at st
 generalize ra rs x++List.replicate n 0=X at *
 have hRl:((List.range n).map fun i=>if i<x then ra rs i++(List.replicate n 0).set i 1 else []).length=n:=by simp
 generalize ((List.range n).map fun i=>if i<x then ra rs i++(List.replicate n 0).set i 1 else [])=R at *
 generalize ((List.range n).map fun i=>if i<x+1 then ra rs i++(List.replicate n 0).set i 1 else [])=R' at *
 have w:Wd h0 h7 (matL a1 n n ps R++[.sl 5 1 a3 (n+n) c3 (eN.row X)]):=w.mv (i:=0) rfl
 rw [←hX] at w ⊢
 refine mat_row w hp rfl (by omega) fun h8 ps' hp' w=>?_
 have hRx:ra (R.set x X) x=X:=by rw [ra_get (by rw [List.length_set]; omega),List.getElem_set_self]
 have e4:(R.set x X).set x (X.set (n+x) 1)=R':=by rw [List.set_set]; exact st
 refine (mat_ro w hp').lds rfl hlt fun _ _ _=>M.vis _ v3 ?_
 refine mat_put (z:=x) (y:=n+x) (v:=1) w hp' (by rw [List.length_set]; omega) rfl (by rw [hRx]; omega) fun h9 w=>M.vis _ v2 (hJ _ ?_)
 rw [hRx,e4] at w
 refine mat_close w ?_
 rw [hp',←e4]; simp
end
end Go.Proofs.YthegnmanjdlmjaaGreatDoor
namespace Go.Proofs.YthegnmanjdlmjaaGreatDoor
open Go.Sh Go.RowKit
section
variable {h0 h:H} {a:Option Addr} {l c:Nat} {ps:List (Option Addr × Nat)} {rs:List (List Nat)} {ss:List (Option Addr × Nat × Nat)} {m n:Nat}
theorem col_step {Q:Option Addr→Nat→Nat→Int→H→Prop} {J:Int→H→Prop} {x:Nat} {a1:Option Addr} {R R':List (List Nat)} (w:Wd h0 h [matC a1 n n R]) (g:Gd n (2*n) R) (hlt:x<n) (h2:n≤16) (hc:colM R x=some R')
  (hJ:∀ h',Gd n (2*n) R'→Wd h0 h' [matC a1 n n R']→J ((x+1:Nat):Int) h'):
  M.new h (.cells #[.int .i64 0] 3) fun b55 h56=>M.put h56 ⟨b55,0,none⟩ (.int .i64 (x:Int)) fun h57=>M.load h57 ⟨b55,0,none⟩ fun v58=>M.int .i64 v58 fun n59=>
   M.sub a1 n 1 n59 (n:Int) fun a60 l61 c62=>slices_IndexFuncbyte_matrix_Invert_1 a60 l61 c62 ⟨b55,0,none⟩ h57 fun n63 h64=>(bif (decide (n63<0)) then Q none 0 0 6 h64 else
   M.load h64 ⟨b55,0,none⟩ fun v65=>M.int .i64 v65 fun n66=>M.load h64 ⟨b55,0,none⟩ fun v67=>M.int .i64 v67 fun n68=>M.val (IntKind.wrap .i64 (n68+n63)) fun z69=>
   M.load h64 ⟨b55,0,none⟩ fun v70=>M.int .i64 v70 fun n71=>M.val (IntKind.wrap .i64 (n71+n63)) fun z72=>M.idx a1 n z72 fun a73 j74=>M.load h64 (Addr.add a73 (j74*1)) fun v75=>M.slc v75 fun a76 l77 c78=>
   M.load h64 ⟨b55,0,none⟩ fun v79=>M.int .i64 v79 fun n80=>M.idx a1 n n80 fun a81 j82=>M.load h64 (Addr.add a81 (j82*1)) fun v83=>M.slc v83 fun a84 l85 c86=>
   M.idx a1 n n66 fun a87 j88=>M.put h64 (Addr.add a87 (j88*1)) (.slice a76 l77 c78) fun h89=>M.still h64 ⟨b55,0,none⟩ 1 h89 (
   M.idx a1 n z69 fun a90 j91=>M.put h89 (Addr.add a90 (j91*1)) (.slice a84 l85 c86) fun h92=>M.load h92 ⟨b55,0,none⟩ fun v93=>M.int .i64 v93 fun n94=>
   M.idx a1 n n94 fun a95 j96=>M.load h92 (Addr.add a95 (j96*1)) fun v97=>M.slc v97 fun a98 l99 c100=>M.load h92 ⟨b55,0,none⟩ fun v101=>M.int .i64 v101 fun n102=>
   M.idx a98 l99 n102 fun a103 j104=>M.load h92 (Addr.add a103 (j104*1)) fun v105=>M.int .u8 v105 fun n106=>gf_Inv n106 h92 fun n107 n108 h109=>
   M.load h109 ⟨b55,0,none⟩ fun v110=>M.int .i64 v110 fun n111=>M.load h109 ⟨b55,0,none⟩ fun v112=>M.int .i64 v112 fun n113=>
   M.idx a1 n n113 fun a114 j115=>M.load h109 (Addr.add a114 (j115*1)) fun v116=>M.slc v116 fun a117 l118 c119=>M.b2s h109 a117 l118 fun s120=>M.still h109 ⟨b55,0,none⟩ 1 h109 (
   gf_Scale n107 s120 h109 fun s121 h122=>M.still h109 ⟨b55,0,none⟩ 1 h122 (M.s2b h122 5 s121 fun a123 l124 c125 h126=>M.still h109 ⟨b55,0,none⟩ 1 h126 (
   M.idx a1 n n111 fun a127 j128=>M.put h126 (Addr.add a127 (j128*1)) (.slice a123 l124 c125) fun h129=>
   M.loop (α:=Int) (fun J130 d131 h132=>(bif (decide (d131<(n:Int))) then M.load h132 ⟨b55,0,none⟩ fun v133=>M.int .i64 v133 fun n134=>M.load h132 ⟨b55,0,none⟩ fun v135=>M.int .i64 v135 fun n136=>
    matrix_clearRow a1 n n d131 n134 n136 h132 fun h137=>M.val (IntKind.wrap .i64 (d131+1)) fun z138=>J130 z138 h137
   else M.val (IntKind.wrap .i64 ((x:Int)+1)) fun z139=>J z139 h132)) 0 h129))))):=by
 have v2:IntKind.wrap .i64 ((x:Int)+1)=((x+1:Nat):Int):=by rw [IntKind.wrap_i64]; omega
 refine M.new_w w fun b hA w=>?_
 refine M.put_w w 1 rfl rfl (by simp) fun hB w=>?_
 obtain ⟨hx,g0,g1,wx,wr,bk⟩:=w.on (i:=0) rfl
 have hb0:hx b=some (.cells #[.int .i64 (x:Int)] 3 (0,0)):=wr.blk 0 rfl
 clear w
 refine M.ldi (g1 _ _ hb0) rfl (M.sub_of x n rfl rfl (by omega) (by omega) hlt ?_)
 unfold colM pivM at hc
 cases hp:(R.drop x).findIdx? fun r=>na r x != 0 with
 | none=>rw [hp] at hc; simp at hc
 | some p=>
  rw [hp] at hc
  simp only [Option.some.injEq] at hc
  obtain ⟨hpl,hpx,_⟩:=List.findIdx?_eq_some_iff_getElem.1 hp
  rw [List.length_drop,g.rl] at hpl
  have hpn:x+p<n:=by omega
  have hpv:na (ra R (x+p)) x≠0:=by
   rw [List.getElem_drop] at hpx
   rw [ra_get (by rw [g.rl]; omega)]
   simpa using hpx
  obtain ⟨ps,hps,w⟩:=mat_open wx
  have f:=mat_ro w hps
  refine idxInv_spec (f.drop (by omega)) (by omega) (fun i hi=>by rw [ra_drop,g.len (by omega)]; omega) (g1 _ _ hb0) hp ?_
  refine cdf (by omega) ?_
  have v3:IntKind.wrap .i64 ((x:Int)+(p:Int))=((x+p:Nat):Int):=by rw [IntKind.wrap_i64]; omega
  refine M.ldi (g1 _ _ hb0) rfl (M.ldi (g1 _ _ hb0) rfl (M.vis _ v3 (M.ldi (g1 _ _ hb0) rfl (M.vis _ v3 ?_))))
  refine f.out.ldVs rfl hpn fun _=>M.ldi (g1 _ _ hb0) rfl (f.out.ldVs rfl hlt fun _=>?_)
  have hRl:=g.rl
  have hvl:=vals_len hps
  refine Wd.put1 (E:=eV) w 0 rfl rfl (va (vals ps R) (x+p)) rfl (by omega) (by omega) fun hC w=>?_
  refine M.still_at (g1 _ _ hb0) (w.keep _ _ hb0) ?_
  refine Wd.put1 (E:=eV) w 0 rfl rfl (va (vals ps R) x) rfl (by omega) (by omega) fun hD w=>?_
  obtain ⟨ps1,hp1,w⟩:=swap_w (x:=x) (z:=x+p) w hps (by omega) (by omega)
  clear f
  have g1':=g.swp (i:=x) (j:=x+p) (by omega) (by omega)
  have hR1:na (ra (swpM R x (x+p)) x) x≠0:=by
   have:ra (swpM R x (x+p)) x=ra R (x+p):=by
    unfold swpM
    by_cases e:x+p=x
    ·rw [ra_get (by rw [List.length_set,List.length_set]; omega),List.getElem_set,if_pos e,e]
    ·rw [ra_get (by rw [List.length_set,List.length_set]; omega),List.getElem_set,if_neg e,List.getElem_set_self]
   rw [this]; exact hpv
  generalize swpM R x (x+p)=R1 at *
  have f:=mat_ro w hp1
  have l1:=g1'.len hlt
  refine M.ldi (w.keep _ _ hb0) rfl (f.lds rfl hlt fun _ _ fr=>M.ldi (w.keep _ _ hb0) rfl ?_)
  rw [l1] at fr ⊢
  refine fr.ldNs rfl (by omega) fun _ _=>?_
  refine gfInv_spec (g1'.na_lt hlt) hR1 fun hE kE=>?_
  have w:=w.keeps kE
  have hbE:=w.keep _ _ hb0
  refine M.ldi hbE rfl (M.ldi hbE rfl ((f.keep kE).lds rfl hlt fun _ _ fr=>?_))
  rw [l1] at fr ⊢
  refine fr.b2sN (M.still_at hbE hbE ?_)
  have hql:pN (na (ra R1 x) x) 254<256:=pN_lt _ (g1'.na_lt hlt)
  have es:sclM R1 x=R1.set x ((ra R1 x).map (gN (pN (na (ra R1 x) x) 254))):=rfl
  have g2:=g1'.scl (i:=x) hlt
  rw [es] at g2
  rw [es] at hc
  generalize pN (na (ra R1 x) x) 254=q at *
  refine Scale_spec hql (by rw [ofB_len,l1]; omega) fun hF kF=>?_
  have w:=w.keeps kF
  refine M.still_at hbE (w.keep _ _ hb0) ?_
  refine M.s2b_w w fun b1 c1 hG w=>?_
  refine M.still_at hbE (w.keep _ _ hb0) ?_
  rw [scT_row hql (g1'.row hlt).2,scT_size,ofB_len,←List.length_map (f:=gN q)] at w
  rw [scT_size,ofB_len,←List.length_map (f:=gN q)]
  have hR1l:=g1'.rl
  generalize (ra R1 x).map (gN q)=r2 at *
  refine mat_row w hp1 rfl (by omega) fun hI ps2 hp2 w=>?_
  have w:=mat_close w hp2
  rw [List.length_set] at hp2
  rw [hRl] at hc
  refine M.loop_of (I:=fun (i:Int) h'=>∃ y:Nat,y≤n∧i=(y:Int)∧Wd hx h' [matC a1 n n (clrF x y (R1.set x r2))]) (μ:=fun i=>(n-i).toNat) ⟨0,by omega,rfl,w⟩ ?_
  clear w
  rintro _ hK J2 ⟨y,hy,rfl,w⟩ hJ2
  by_cases hly:y<n
  ·refine cdt (by omega) ?_
   have hbK:=w.keep _ _ hb0
   refine M.ldi hbK rfl (M.ldi hbK rfl ?_)
   refine clear_spec w (g2.clrF hlt y (by omega)) hly hlt (by omega) (by omega) fun hL w=>?_
   exact M.vis _ (show IntKind.wrap .i64 ((y:Int)+1)=((y+1:Nat):Int) by rw [IntKind.wrap_i64]; omega) (hJ2 _ _ ⟨y+1,by omega,rfl,w⟩ (by omega))
  ·obtain rfl:y=n:=by omega
   have hlen:(swpM R x (x+p)).length=R.length:=by simp [swpM]
   refine cdf (by omega) (M.vis _ v2 (hJ _ ?_ ?_))
   ·rw [←hc]; exact g2.clrF hlt _ (Nat.le_refl _)
   ·rw [←hc]; exact (bk _ _ w).drop (i:=1) rfl
theorem elim_gd:∀ (k c:Nat) {R Z:List (List Nat)},Gd m n R→c+k≤m→elimM k c R=some Z→Gd m n Z
 | 0,c,R,Z,g,_,h=>by
  simp only [elimM,Option.some.injEq] at h
  exact h ▸ g
 | k+1,c,R,Z,g,hk,h=>by
  unfold elimM at h
  cases hc:colM R c with
  | none=>rw [hc] at h; simp at h
  | some R'=>
   rw [hc] at h
   refine elim_gd k (c+1) ?_ (by omega) h
   unfold colM at hc
   cases hp:pivM R c with
   | none=>rw [hp] at hc; simp at hc
   | some p=>
    rw [hp] at hc
    simp only [Option.some.injEq] at hc
    obtain ⟨hpl,_,_⟩:=List.findIdx?_eq_some_iff_getElem.1 hp
    rw [List.length_drop,g.rl] at hpl
    rw [←hc,g.rl]
    exact ((g.swp (by omega) (by omega)).scl (by omega)).clrF (by omega) _ (Nat.le_refl _)
theorem Invert_spec {Q:Option Addr→Nat→Nat→Int→H→Prop} {v:List (List Nat)} (f:RoM h a n ss rs) (g:Gd n n rs) (h1:1≤n) (h2:n≤16) (hv:invM n rs=some v)
  (k:∀ a' c' ss' h',Keep h h'→RoM h' a' n ss' v→Q a' n c' 0 h'):matrix_Invert a n c h Q:=by
 unfold matrix_Invert matrix_Invert.g
 refine mGood_spec f h1 h2 (fun i hi=>g.len hi) h1 h2 fun hA kA=>cf rfl ?_
 have f:=f.keep kA
 refine f.lds (z:=0) rfl (by omega) fun _ _ _=>?_
 rw [g.len (by omega)]
 refine cf (by simp) ?_
 refine mk_mat h2 fun a1 hB ps hp w=>?_
 have w:=mat_close w (by rw [List.length_replicate]; exact hp)
 have e0:List.replicate n ([]:List Nat)=(List.range n).map fun i=>if i<0 then ra rs i++(List.replicate n 0).set i 1 else []:=by rw [none_map,List.map_const',List.length_range]
 rw [e0] at w
 unfold invM at hv
 cases hM:elimM n 0 (augM n rs) with
 | none=>rw [hM] at hv; simp at hv
 | some Z=>
 rw [hM] at hv
 simp only [Option.map_some,Option.some.injEq] at hv
 subst hv
 have gM:=elim_gd n 0 (aug_gd g) (by omega) hM
 refine M.join_of (fun _ h'=>Wd hA h' [matC a1 n n (augM n rs)]) (fun J hJ=>?_) ?_
 ·refine M.loop_of (I:=fun (i:Int) h'=>∃ x:Nat,x≤n∧i=(x:Int)∧Wd hA h' [matC a1 n n ((List.range n).map fun i=>if i<x then ra rs i++(List.replicate n 0).set i 1 else [])]) (μ:=fun i=>(n-i).toNat) ⟨0,by omega,rfl,w⟩ ?_
  clear w
  rintro _ h5 J2 ⟨x,hx,rfl,w⟩ hJ2
  by_cases hlt:x<n
  ·exact cdt (by omega) (aug_step f g h2 hlt w fun h6 w=>hJ2 _ _ ⟨x+1,by omega,rfl,w⟩ (by omega))
  ·refine cdf (by omega) (hJ _ _ ?_)
   rw [done_map (by omega)] at w
   exact w
 clear w
 rintro _ hC w
 refine M.join_of (fun _ h'=>Wd hA h' [matC a1 n n Z]) (fun J hJ=>?_) ?_
 ·refine M.loop_of (I:=fun (i:Int) h'=>∃ x:Nat,x≤n∧i=(x:Int)∧∃ R,Gd n (2*n) R∧elimM (n-x) x R=some Z∧Wd hA h' [matC a1 n n R]) (μ:=fun i=>(n-i).toNat) ⟨0,by omega,rfl,_,aug_gd g,hM,w⟩ ?_
  clear w
  rintro _ h5 J2 ⟨x,hx,rfl,R,gR,hR,w⟩ hJ2
  by_cases hlt:x<n
  ·refine cdt (by omega) ?_
   obtain ⟨y,hy⟩:∃ y,n-x=y+1:=⟨n-x-1,by omega⟩
   rw [hy,elimM] at hR
   cases hc:colM R x with
   | none=>rw [hc] at hR; simp at hR
   | some R'=>
    rw [hc] at hR
    refine col_step w gR hlt h2 hc fun h6 g6 w=>hJ2 _ _ ⟨x+1,by omega,rfl,R',g6,?_,w⟩ (by omega)
    rw [show n-(x+1)=y by omega]; exact hR
  ·obtain rfl:x=n:=by omega
   rw [Nat.sub_self] at hR
   simp only [elimM,Option.some.injEq] at hR
   subst hR
   exact cdf (by omega) (hJ _ _ w)
 clear w
 rintro _ hD w
 obtain ⟨ps,hp,w⟩:=mat_open w
 have hMl:=gM.rl
 have hvl:=vals_len hp
 have ev:vals ps Z=(List.range n).map fun i=>if i<0 then ((va (vals ps Z) i).1.map (·.add (n*1)),2*n-n,2*n-n) else va (vals ps Z) i:=by
  rw [none_map]
  apply List.ext_getElem
  ·simp [hvl,hMl]
  ·intro i g1 g2
   rw [List.getElem_map,List.getElem_range,va_get g1]
 refine M.join_of (fun _ h'=>Wd hA h' (.sl 29 1 a1 n n (eV.row ((List.range n).map fun i=>((va (vals ps Z) i).1.map (·.add (n*1)),2*n-n,2*n-n)))::List.zipWith rowC ps Z)) (fun J hJ=>?_) ?_
 ·refine M.loop_of (I:=fun (i:Int) h'=>∃ x:Nat,x≤n∧i=(x:Int)∧Wd hA h' (.sl 29 1 a1 n n (eV.row ((List.range n).map fun i=>if i<x then ((va (vals ps Z) i).1.map (·.add (n*1)),2*n-n,2*n-n) else va (vals ps Z) i))::List.zipWith rowC ps Z)) (μ:=fun i=>(n-i).toNat) ⟨0,by omega,rfl,by rw [←ev]; exact w⟩ ?_
  clear w
  rintro _ h5 J2 ⟨x,hx,rfl,w⟩ hJ2
  by_cases hlt:x<n
  ·refine cdt (by omega) ?_
   have v2:IntKind.wrap .i64 ((x:Int)+1)=((x+1:Nat):Int):=by rw [IntKind.wrap_i64]; omega
   have v3:IntKind.wrap .i64 (2*(n:Int))=((2*n:Nat):Int):=by rw [IntKind.wrap_i64]; omega
   have fo:Ro eV h5 a1 n _:=w.ro 0 rfl (by decide)
   have e1:va ((List.range n).map fun i=>if i<x then ((va (vals ps Z) i).1.map (·.add (n*1)),2*n-n,2*n-n) else va (vals ps Z) i) x=va (vals ps Z) x:=by
    rw [va_get (by simpa using hlt)]; simp
   have hcap:2*n≤(va (vals ps Z) x).2.2:=by
    obtain ⟨s1,s2,_⟩:=w.slrow (x+1) (show _ = some (rowC ps[x] Z[x]) by rw [List.getElem?_cons_succ]; exact zw_get (List.getElem?_eq_getElem _) (List.getElem?_eq_getElem _))
    rw [va_get (by omega)]
    simp only [vals,List.getElem_zipWith,rowV]
    have:=gM.cl _ (List.getElem_mem (show x<Z.length by omega))
    omega
   refine fo.ldVs rfl hlt fun _=>M.vis _ v3 (M.vis _ v3 ?_)
   rw [e1]
   refine M.sub3_of n (2*n) rfl rfl rfl (by omega) hcap ?_
   refine Wd.put1 (E:=eV) w 0 rfl rfl ((va (vals ps Z) x).1.map (·.add (n*1)),2*n-n,2*n-n) rfl (by omega) (by omega) fun h6 w=>M.vis _ v2 (hJ2 _ _ ⟨x+1,by omega,rfl,?_⟩ (by omega))
   have st:=step_map (n:=n) (m:=x) (f:=fun i=>((va (vals ps Z) i).1.map (·.add (n*1)),2*n-n,2*n-n)) (g:=fun i=>va (vals ps Z) i) _ rfl
   rw [Int.toNat_natCast,st] at w
   exact w
  ·refine cdf (by omega) (hJ _ _ ?_)
   rw [done_map (by omega)] at w
   exact w
 clear w
 rintro _ hE w
 refine k _ _ ((List.range n).map fun i=>((va (vals ps Z) i).1.map (·.add (n*1)),2*n-n,2*n-n)) _ (kA.trans w.keep) ⟨w.ro 0 rfl (by decide),by simp [hMl],fun i hi=>?_⟩
 rw [List.length_map,hMl] at hi
 have hrow:ra (Z.map fun r=>r.drop n) i=Z[i].drop n:=by rw [ra_get (by simp [hMl]; exact hi)]; simp
 have hl2:=gM.cl _ (List.getElem_mem (show i<Z.length by omega))
 have fr:Ro eN hE ps[i].1 Z[i].length Z[i]:=w.ro (E:=eN) (e:=5) (c:=ps[i].2) (i+1) (show _ = some (rowC ps[i] Z[i]) by rw [List.getElem?_cons_succ]; exact zw_get (List.getElem?_eq_getElem _) (List.getElem?_eq_getElem _)) (by decide)
 have fd:=fr.drop (m:=n) (by omega)
 have e2:va ((List.range n).map fun i=>((va (vals ps Z) i).1.map (·.add (n*1)),2*n-n,2*n-n)) i=(ps[i].1.map (·.add (n*1)),2*n-n,2*n-n):=by
  rw [va_get (by simpa using hi)]
  simp only [List.getElem_map,List.getElem_range]
  rw [va_get (by omega)]; simp [vals,rowV]
 rw [e2,hrow,List.length_drop,hl2]
 rw [hl2] at fd
 exact ⟨rfl,fd⟩
end
end Go.Proofs.YthegnmanjdlmjaaGreatDoor
namespace Go.Sh
open Go.RowKit
section
variable {h:H} {a:Option Addr} {l:Nat} {xs:List ByteArray}
theorem Ro.ldSs {z:Nat} {zi:Int} {K:Addr→Nat→ByteArray→Prop} (f:Ro eS h a l xs) (hz:zi=(z:Int)) (hl:z<l)
  (k:∀ b,h.cell (Addr.add b (z*1))=some (.string (sa xs z))→K b z (sa xs z)):M.idx a l zi fun b j=>M.load h (Addr.add b (j*1)) fun v=>M.str v (K b j):=by
 subst hz
 refine f.atS (by omega) (by omega) fun b hc=>?_
 rw [Int.toNat_natCast] at hc ⊢
 have hc':h.cell (Addr.add b (z*1))=some (.string (sa xs z)):=by rw [Nat.mul_one,hc]
 rw [lc hc']
 exact ⟨_,rfl,k b hc'⟩
end
end Go.Sh
namespace Go.Proofs.YthegnmanjdlmjaaGreatDoor
open Go.Sh Go.RowKit
def nT (N:Nat) (f:Nat→Nat):ByteArray:=byT N fun t=>((f t:Nat):Int)
theorem nT_size (N:Nat) (f:Nat→Nat):(nT N f).size=N:=byT_size _ _
theorem bN_nT {N i:Nat} {f:Nat→Nat} (hi:i<N) (hf:f i<256):bN (nT N f) i=f i:=bN_byT hi hf
theorem nT_congr {N:Nat} {f g:Nat→Nat} (h:∀ i,i<N→f i=g i):nT N f=nT N g:=byT_congr fun i hi=>by rw [h i hi]
theorem nT_self (s:ByteArray):nT s.size (bN s)=s:=byT_self s
theorem nT_of {s:ByteArray} {N:Nat} (h:s.size=N):nT N (bN s)=s:=by rw [←h]; exact nT_self s
theorem xor_nT {N:Nat} {f g:Nat→Nat} (hf:∀ i,i<N→f i<256) (hg:∀ i,i<N→g i<256):xorT (nT N f) (nT N g)=nT N fun i=>f i ^^^ g i:=by
 rw [xorT,nT_size,nT_size,Nat.min_self]
 refine byT_congr fun i hi=>?_
 rw [bN_eq,bN_eq,bN_nT hi (hf i hi),bN_nT hi (hg i hi)]
 exact xor_u8 (hf i hi) (hg i hi)
theorem zero_nT (N:Nat):ofBytes (List.replicate N 0)=nT N fun _=>0:=by
 rw [nT,byT]
 congr 1
 rw [show (fun t:Nat=>(((fun _=>0:Nat→Nat) t:Nat):Int))=fun _=>(0:Int) from rfl,List.map_const',List.length_range]
theorem dot_nil (ys:List Nat):dotN [] ys=0:=by cases ys <;> rfl
theorem dot_snoc {x y:Nat}:∀ {xs ys:List Nat},xs.length=ys.length→dotN (xs++[x]) (ys++[y])=dotN xs ys ^^^ gN x y
 | [],[],_=>by simp [dotN]
 | a::xs,b::ys,h=>by
  simp only [List.cons_append,dotN]
  rw [dot_snoc (by simpa using h),Nat.xor_assoc]
theorem dot_take {r d:List Nat} {y:Nat} (h1:y<r.length) (h2:y<d.length):dotN (r.take (y+1)) (d.take (y+1))=dotN (r.take y) (d.take y) ^^^ gN (na r y) (na d y):=by
 rw [List.take_succ_eq_append_getElem h1,List.take_succ_eq_append_getElem h2,dot_snoc (by simp; omega),na_get h1,na_get h2]
theorem dotN_lt' {r d:List Nat} (h:∀ x ∈ r,x<256) (y:Nat):dotN (r.take y) (d.take y)<256:=dotN_lt fun x hx=>h x (List.mem_of_mem_take hx)
def colT (l:List ByteArray) (t:Nat):List Nat:=l.map fun s=>bN s t
def applyT (A:List (List Nat)) (l:List ByteArray) (N:Nat):List ByteArray:=A.map fun r=>nT N fun t=>dotN r (colT l t)
section
variable {h0 h:H} {a a2:Option Addr} {l c l2 c2:Nat} {rs:List (List Nat)} {ss:List (Option Addr × Nat × Nat)} {xs:List ByteArray} {m n N:Nat}
theorem app1_spec {Q:Bool→H→Prop} {b:Nat} {e:TypeId} {z:Nat × Nat} {s:ByteArray} (f:Ro eS h a l xs) (hl:0<l) (hb:h b=some (.cells #[.slice a l c] e z)) (k:Q ((s.size:Int) != ((sa xs 0).size:Int)) h):matrix_Apply_1 s ⟨b,0,none⟩ h Q:=by
 unfold matrix_Apply_1
 exact M.load_in hb rfl ⟨_,_,_,rfl,f.ldSs (z:=0) rfl hl fun _ _=>k⟩
theorem idxApp_spec {Q:Int→H→Prop} {b:Nat} {e:TypeId} {z:Nat × Nat} (f:Ro eS h a l xs) (hl:0<l) (hl2:l≤100) (hn:∀ i,i<l→(sa xs i).size=N) (hb:h b=some (.cells #[.slice a l c] e z)) (k:Q (-1) h):
  slices_IndexFuncstring_string_matrix_Apply_1 a l c ⟨b,0,none⟩ h Q:=by
 unfold slices_IndexFuncstring_string_matrix_Apply_1 slices_IndexFuncstring_string_matrix_Apply_1.g
 refine M.loop_of (I:=fun (i:Int) h'=>∃ x:Nat,x≤l∧i=(x:Int)∧h'=h) (μ:=fun i=>(l-i).toNat) ⟨0,by omega,rfl,rfl⟩ ?_
 rintro _ h5 J ⟨x,hx,rfl,rfl⟩ hJ
 by_cases hlt:x<l
 ·refine cdt (by omega) (f.ldSs rfl hlt fun _ _=>app1_spec f hl hb ?_)
  rw [hn x hlt,hn 0 hl]
  exact cf (by simp) (M.vis _ (show IntKind.wrap .i64 ((x:Int)+1)=((x+1:Nat):Int) by rw [IntKind.wrap_i64]; omega) (hJ _ _ ⟨x+1,by omega,rfl,rfl⟩ (by omega)))
 ·exact cdf (by omega) k
theorem mApply_spec {Q:Option Addr→Nat→Nat→Int→H→Prop} (f:RoM h a m ss rs) (g:Gd m n rs) (fx:Ro eS h a2 n xs) (h1:1≤m) (h2:m≤16) (h3:1≤n) (h4:n≤16) (hN:∀ i,i<n→(sa xs i).size=N) (hN2:N≤65536)
  (k:∀ a' c' h',Wd h h' [.sl 9 1 a' m c' (eS.row (applyT rs xs N))]→Q a' m c' 0 h'):matrix_Apply a m c a2 n c2 h Q:=by
 unfold matrix_Apply matrix_Apply.g
 have f1:=f
 have fz:=fx
 refine M.new_w (Wd.start h) fun b hA w=>?_
 have kA:=w.keep
 have hbA:=w.blk 0 rfl
 refine mGood_spec (f.keep kA) h1 h2 (fun i hi=>g.len hi) h3 h4 fun hB kB=>cf rfl ?_
 have w:=w.keeps kB
 have f:=f.keep w.keep
 have fx:=fx.keep w.keep
 have hb:=kB _ _ hbA
 refine M.join_of (fun d h'=>d=false∧h'=hB) (fun J hJ=>?_) ?_
 ·refine M.load_in hb rfl ⟨_,_,_,rfl,f.lds (z:=0) rfl (by omega) fun _ _ _=>?_⟩
  rw [g.len (by omega)]
  refine cf (by simp) (M.load_in hb rfl ⟨_,_,_,rfl,?_⟩)
  unfold slices_ContainsFuncstring_string_matrix_Apply_1 slices_ContainsFuncstring_string_matrix_Apply_1.g
  exact idxApp_spec fx (by omega) (by omega) hN hb (hJ _ _ ⟨rfl,rfl⟩)
 rintro _ _ ⟨rfl,rfl⟩
 refine cf rfl (M.load_in hb rfl ⟨_,_,_,rfl,fx.ldSs (z:=0) rfl (by omega) fun _ _=>?_⟩)
 rw [hN 0 (by omega)]
 refine cdf (by omega) ?_
 refine M.mk_sl (size:=1) w (by omega) (by omega) (by omega) (by omega) rfl fun a3 hC w=>?_
 rw [Int.toNat_natCast,zs.1] at w
 rw [Int.toNat_natCast]
 have e0:List.replicate m ByteArray.empty=(List.range m).map fun i=>if i<0 then nT N (fun t=>dotN (ra rs i) (colT xs t)) else ByteArray.empty:=by rw [none_map,List.map_const',List.length_range]
 rw [e0] at w
 clear e0 hb hbA
 have f0:=f
 have fx0:=fx
 have hfin:applyT rs xs N=(List.range m).map fun i=>nT N (fun t=>dotN (ra rs i) (colT xs t)):=by
  apply List.ext_getElem
  ·simp [applyT,g.rl]
  ·intro i g1 g2
   simp only [applyT,List.getElem_map,List.getElem_range]
   rw [ra_get (by rw [g.rl]; simpa using g2)]
 rw [hfin] at k
 clear hfin
 have kw:=w.keep
 refine M.join_of (fun _ h'=>Wd h h' [.blk b (.cells #[.slice a2 n c2] 28),.sl 9 1 a3 m m (eS.row ((List.range m).map fun i=>nT N (fun t=>dotN (ra rs i) (colT xs t))))]) (fun J hJ=>?_) ?_
 ·refine M.loop_of (I:=fun (i:Int) h'=>∃ x:Nat,x≤m∧i=(x:Int)∧Wd h h' [.blk b (.cells #[.slice a2 n c2] 28),.sl 9 1 a3 m m (eS.row ((List.range m).map fun i=>if i<x then nT N (fun t=>dotN (ra rs i) (colT xs t)) else ByteArray.empty))]) (μ:=fun i=>(m-i).toNat) ⟨0,by omega,rfl,w⟩ ?_
  clear w f fx f0 fx0
  rintro _ h5 J2 ⟨x,hx,rfl,w⟩ hJ2
  by_cases hlt:x<m
  ·refine cdt (by omega) ?_
   have v2:IntKind.wrap .i64 ((x:Int)+1)=((x+1:Nat):Int):=by rw [IntKind.wrap_i64]; omega
   refine M.load_in (w.blk 0 rfl) rfl ⟨_,_,_,rfl,(fz.keep w.keep).ldSs (z:=0) rfl (by omega) fun _ _=>?_⟩
   rw [hN 0 (by omega)]
   refine M.mk_sl (size:=1) w (by omega) (by omega) (by omega) (by omega) rfl fun a4 h6 w=>?_
   rw [Int.toNat_natCast,zs.2.2.1] at w
   rw [Int.toNat_natCast]
   refine w.textB 2 rfl ?_
   rw [zero_nT]
   refine Wd.put1 (E:=eS) w 1 rfl rfl (nT N fun _=>0) rfl (by omega) (by omega) fun h7 w=>?_
   have w:=w.drop (i:=2) rfl
   rw [Int.toNat_natCast] at w
   have lr:=g.len hlt
   have st:=step_map (n:=m) (m:=x) (f:=fun i=>nT N (fun t=>dotN (ra rs i) (colT xs t))) (g:=fun _=>ByteArray.empty) _ rfl
   have hOl:((List.range m).map fun i=>if i<x then nT N (fun t=>dotN (ra rs i) (colT xs t)) else ByteArray.empty).length=m:=by simp
   generalize ((List.range m).map fun i=>if i<x then nT N (fun t=>dotN (ra rs i) (colT xs t)) else ByteArray.empty)=O at *
   have ez:nT N (fun _=>0)=nT N fun t=>dotN ((ra rs x).take 0) ((colT xs t).take 0):=nT_congr fun i _=>by rw [List.take_zero,dot_nil]
   rw [ez] at w
   refine M.load_in (w.blk 0 rfl) rfl ⟨_,_,_,rfl,?_⟩
   refine M.loop_of (I:=fun (i:Int) h'=>∃ y:Nat,y≤n∧i=(y:Int)∧Wd h h' [.blk b (.cells #[.slice a2 n c2] 28),.sl 9 1 a3 m m (eS.row (O.set x (nT N fun t=>dotN ((ra rs x).take y) ((colT xs t).take y))))]) (μ:=fun i=>(n-i).toNat) ⟨0,by omega,rfl,w⟩ ?_
   clear w ez
   rintro _ h8 J3 ⟨y,hy,rfl,w⟩ hJ3
   have hxl:xs.length=n:=fz.len
   by_cases hly:y<n
   ·refine cdt (by omega) ((fz.keep w.keep).ldSs rfl hly fun _ _=>?_)
    have v3:IntKind.wrap .i64 ((y:Int)+1)=((y+1:Nat):Int):=by rw [IntKind.wrap_i64]; omega
    have fo:Ro eS h8 a3 m _:=w.ro 1 rfl (by decide)
    refine fo.ldSs rfl hlt fun b2 hb2=>?_
    have e1:sa (O.set x (nT N fun t=>dotN ((ra rs x).take y) ((colT xs t).take y))) x=nT N fun t=>dotN ((ra rs x).take y) ((colT xs t).take y):=by
     rw [sa_get (by rw [List.length_set]; omega),List.getElem_set_self]
    rw [e1] at hb2 ⊢
    refine (f1.keep w.keep).lds rfl hlt fun _ _ fr=>?_
    rw [lr] at fr ⊢
    refine fr.ldNs rfl hly fun _ _=>?_
    have hq:na (ra rs x) y<256:=g.na_lt hlt
    have hs:=hN y hly
    refine Scale_spec hq (by omega) fun h9 k9=>M.still_c k9 hb2 ?_
    refine Xor_spec (by rw [nT_size]; omega) fun h10 k10=>?_
    have e2:xorT (nT N fun t=>dotN ((ra rs x).take y) ((colT xs t).take y)) (scT (na (ra rs x) y) (sa xs y))=nT N fun t=>dotN ((ra rs x).take (y+1)) ((colT xs t).take (y+1)):=by
     have:scT (na (ra rs x) y) (sa xs y)=nT N fun t=>gN (na (ra rs x) y) (bN (sa xs y) t):=by rw [scT,hs]; rfl
     rw [this,xor_nT (fun i _=>dotN_lt' (g.row hlt).2 y) fun i _=>gN_lt hq]
     refine nT_congr fun t _=>?_
     rw [dot_take (by omega) (by simp [colT]; omega)]
     congr 2
     rw [na_get (by simp [colT]; omega),sa_get (by omega)]
     simp [colT]
    rw [e2]
    refine Wd.put1 (E:=eS) (w.keeps (k9.trans k10)) 1 rfl rfl (nT N fun t=>dotN ((ra rs x).take (y+1)) ((colT xs t).take (y+1))) rfl (by omega) (by omega) fun h11 w=>M.vis _ v3 (hJ3 _ _ ⟨y+1,by omega,rfl,?_⟩ (by omega))
    rw [Int.toNat_natCast,List.set_set] at w
    exact w
   ·obtain rfl:y=n:=by omega
    refine cdf (by omega) (M.vis _ v2 (hJ2 _ _ ⟨x+1,by omega,rfl,?_⟩ (by omega)))
    have e3:(nT N fun t=>dotN ((ra rs x).take y) ((colT xs t).take y))=nT N fun t=>dotN (ra rs x) (colT xs t):=nT_congr fun t _=>by
     rw [List.take_of_length_le (by omega),List.take_of_length_le (by simp [colT]; omega)]
    rw [e3,st] at w
    exact w
  ·refine cdf (by omega) (hJ _ _ ?_)
   rw [done_map (by omega)] at w
   exact w
 clear w
 rintro _ hD w
 exact k _ _ _ (w.drop (i:=0) rfl)
end
end Go.Proofs.YthegnmanjdlmjaaGreatDoor
namespace Go.Proofs.YthegnmanjdlmjaaGreatDoor
open Go.Sh Go.RowKit
def shapeM (xs:List ByteArray):Int:=if ∃ i,i<xs.length∧(sa xs i).size≠(sa xs 0).size then 7 else if xs≠[]∧65536<(sa xs 0).size then 5 else 0
open Classical in
theorem shape_zero {xs:List ByteArray} {N:Nat} (h:∀ i,i<xs.length→(sa xs i).size=N) (hN:N≤65536):shapeM xs=0:=by
 unfold shapeM
 rw [if_neg (fun ⟨i,hi,e⟩=>e (by rw [h i hi,h 0 (by omega)])),if_neg]
 rintro ⟨h1,h2⟩
 have:0<xs.length:=List.length_pos_iff.2 h1
 rw [h 0 this] at h2
 omega
def prT (r:List Nat) (l:List ByteArray) (N:Nat):ByteArray:=nT N fun t=>dotN r (colT l t)
def pW (k:Nat):List Nat:=(List.range k).map fun c=>pN 2 (0*c)
def qW (k:Nat):List Nat:=(List.range k).map fun c=>pN 2 (1*c)
def allT (l:List ByteArray) (N:Nat):List ByteArray:=l++[prT (pW l.length) l N,prT (qW l.length) l N]
section
variable {h0 h:H} {a a2:Option Addr} {l c l2 c2:Nat} {xs:List ByteArray} {k N:Nat}
theorem rsMay_spec {x:Int} {Q:Bool→H→Prop} (k:Q (decide (1≤x∧x≤8)) h):rs_may x h Q:=by
 unfold rs_may
 refine M.jn ?_
 by_cases h1:1≤x
 ·refine cdt h1 ?_
  simpa [h1] using k
 ·refine cdf h1 ?_
  simpa [h1] using k
theorem stMay_spec {x:Int} {Q:Bool→H→Prop} (k:Q (decide (2≤x∧x≤8)) h):stripe_may x h Q:=by
 unfold stripe_may
 refine M.jn ?_
 by_cases h1:2≤x
 ·refine cdt h1 ?_
  simpa [h1] using k
 ·refine cdf h1 ?_
  simpa [h1] using k
theorem rsShape_spec {Q:Int→H→Prop} (f:Ro eS h a l xs) (hl:l≤1000) (k:Q (shapeM xs) h):rs_shape a l c h Q:=by
 unfold rs_shape
 have hx:=f.len
 refine M.join_of (fun _ h'=>h'=h∧∀ i,i<l→(sa xs i).size=(sa xs 0).size) (fun J hJ=>?_) ?_
 ·refine M.loop_of (I:=fun (i:Int) h'=>∃ x:Nat,x≤l∧i=(x:Int)∧h'=h∧∀ i,i<x→(sa xs i).size=(sa xs 0).size) (μ:=fun i=>(l-i).toNat) ⟨0,by omega,rfl,rfl,fun i hi=>by omega⟩ ?_
  rintro _ _ J2 ⟨x,hx2,rfl,rfl,hs⟩ hJ2
  by_cases hlt:x<l
  ·refine cdt (by omega) (f.ldSs rfl hlt fun _ _=>f.ldSs (z:=0) rfl (by omega) fun _ _=>?_)
   by_cases e:(sa xs x).size=(sa xs 0).size
   ·refine cf (by simp [e]) (M.vis _ (show IntKind.wrap .i64 ((x:Int)+1)=((x+1:Nat):Int) by rw [IntKind.wrap_i64]; omega) (hJ2 _ _ ⟨x+1,by omega,rfl,rfl,fun i hi=>?_⟩ (by omega)))
    by_cases g:i=x
    ·rw [g]; exact e
    ·exact hs i (by omega)
   ·refine ct (by rw [bne_iff_ne]; omega) ?_
    have:shapeM xs=7:=by unfold shapeM; rw [if_pos ⟨x,by omega,e⟩]
    rw [this] at k
    exact k
  ·exact cdf (by omega) (hJ _ _ ⟨rfl,fun i hi=>hs i (by omega)⟩)
 rintro _ _ ⟨rfl,hs⟩
 have e1:¬ ∃ i,i<xs.length∧(sa xs i).size≠(sa xs 0).size:=fun ⟨i,hi,e⟩=>e (hs i (by omega))
 unfold shapeM at k
 rw [if_neg e1] at k
 refine M.jn ?_
 by_cases h0:0<l
 ·refine cdt (by omega) (f.ldSs (z:=0) rfl h0 fun _ _=>?_)
  have hne:xs≠[]:=fun e=>by rw [e] at hx; simp at hx; omega
  by_cases e:65536<(sa xs 0).size
  ·rw [if_pos ⟨hne,e⟩] at k
   exact cdt (by omega) k
  ·rw [if_neg (fun g=>e g.2)] at k
   exact cdf (by omega) k
 ·have:xs=[]:=List.length_eq_zero_iff.1 (by omega)
  rw [if_neg (fun g=>g.1 this)] at k
  exact cdf (by omega) (cf rfl k)
theorem pN_lt2 (n:Nat):pN 2 n<256:=pN_lt n (by decide)
theorem Encode_spec {Q:ByteArray→ByteArray→Int→H→Prop} (f:Ro eS h a l xs) (h1:1≤l) (h2:l≤8) (hN:∀ i,i<l→(sa xs i).size=N) (hN2:N≤65536) (k:∀ h',Keep h h'→Q (prT (pW l) xs N) (prT (qW l) xs N) 0 h'):rs_Encode a l c h Q:=by
 unfold rs_Encode rs_Encode.g
 have hxl:=f.len
 refine rsMay_spec (cf (by simp; omega) (rsShape_spec f (by omega) ?_))
 rw [shape_zero (fun i hi=>hN i (by omega)) hN2]
 refine cf rfl (f.ldSs (z:=0) rfl (by omega) fun _ _=>?_)
 rw [hN 0 (by omega)]
 refine M.mk_sl (size:=1) (Wd.start h) (by omega) (by omega) (by omega) (by omega) rfl fun a4 h6 w=>?_
 rw [Int.toNat_natCast,zs.2.2.1] at w
 rw [Int.toNat_natCast]
 refine w.textB 0 rfl ?_
 rw [zero_nT]
 have kk:=w.keep
 clear w
 refine M.jn ?_
 have ez:∀ r:List Nat,nT N (fun _=>0)=nT N fun t=>dotN (r.take 0) ((colT xs t).take 0):=fun r=>nT_congr fun i _=>by rw [List.take_zero,dot_nil]
 refine M.loop_of (I:=fun (p:ByteArray × ByteArray × Int) h'=>∃ y:Nat,y≤l∧p=(nT N (fun t=>dotN ((pW l).take y) ((colT xs t).take y)),nT N (fun t=>dotN ((qW l).take y) ((colT xs t).take y)),(y:Int))∧Keep h h') (μ:=fun p=>(l-p.2.2).toNat) ⟨0,by omega,by rw [←ez,←ez]; rfl,kk⟩ ?_
 rintro _ h8 J3 ⟨y,hy,rfl,kk⟩ hJ3
 by_cases hly:y<l
 ·refine cdt (by simp only []; omega) ((f.keep kk).ldSs rfl hly fun _ _=>?_)
  have v3:IntKind.wrap .i64 ((y:Int)+1)=((y+1:Nat):Int):=by rw [IntKind.wrap_i64]; omega
  have hs:=hN y hly
  refine Xor_spec (by rw [nT_size]; omega) fun h9 k9=>?_
  refine gfPow_spec (a:=2) (by decide) (by omega) fun h10 k10=>?_
  refine Scale_spec (pN_lt2 y) (by omega) fun h11 k11=>?_
  refine Xor_spec (by rw [nT_size]; omega) fun h12 k12=>M.vis _ v3 ?_
  have hP:∀ x ∈ pW l,x<256:=fun x hx=>by obtain ⟨i,_,rfl⟩:=List.mem_map.1 hx; exact pN_lt2 _
  have hQ:∀ x ∈ qW l,x<256:=fun x hx=>by obtain ⟨i,_,rfl⟩:=List.mem_map.1 hx; exact pN_lt2 _
  have cy:∀ t,na (colT xs t) y=bN (sa xs y) t:=fun t=>by
   rw [na_get (by simp [colT]; omega),sa_get (by omega)]; simp [colT]
  have e1:xorT (nT N fun t=>dotN ((pW l).take y) ((colT xs t).take y)) (sa xs y)=nT N fun t=>dotN ((pW l).take (y+1)) ((colT xs t).take (y+1)):=by
   rw [←nT_of hs,xor_nT (fun i _=>dotN_lt' hP y) fun i _=>bN_lt _ _]
   refine nT_congr fun t _=>?_
   rw [dot_take (by simp [pW]; omega) (by simp [colT]; omega),cy,pW,na_map hly,Nat.zero_mul]
   rw [show pN 2 0=1 from rfl,one_gN (bN_lt _ _)]
  have e2:xorT (nT N fun t=>dotN ((qW l).take y) ((colT xs t).take y)) (scT (pN 2 y) (sa xs y))=nT N fun t=>dotN ((qW l).take (y+1)) ((colT xs t).take (y+1)):=by
   have:scT (pN 2 y) (sa xs y)=nT N fun t=>gN (pN 2 y) (bN (sa xs y) t):=by rw [scT,hs]; rfl
   rw [this,xor_nT (fun i _=>dotN_lt' hQ y) fun i _=>gN_lt (pN_lt2 y)]
   refine nT_congr fun t _=>?_
   rw [dot_take (by simp [qW]; omega) (by simp [colT]; omega),cy,qW,na_map hly,Nat.one_mul]
  simp only [e1,e2]
  exact hJ3 _ _ ⟨y+1,by omega,rfl,kk.trans (k9.trans (k10.trans (k11.trans k12)))⟩ (by simp only []; omega)
 ·obtain rfl:y=l:=by omega
  refine cdf (by simp only []; omega) ?_
  have e3:∀ r:List Nat,r.length=y→(nT N fun t=>dotN (r.take y) ((colT xs t).take y))=prT r xs N:=fun r hr=>nT_congr fun t _=>by
   rw [List.take_of_length_le (by omega),List.take_of_length_le (by simp [colT]; omega)]
  simp only [e3 (pW y) (by simp [pW]),e3 (qW y) (by simp [qW])]
  exact k _ kk
end
end Go.Proofs.YthegnmanjdlmjaaGreatDoor
namespace Go.Proofs.YthegnmanjdlmjaaGreatDoor
open Go.Sh Go.RowKit
open Classical in
noncomputable def decM (xs:List ByteArray) (bs:List Bool):List ByteArray × Int:=
 if (selB bs xs).length<xs.length-2 then ([],24) else if shapeM (selB bs xs)≠0 then ([],shapeM (selB bs xs)) else
 (applyT (genM (xs.length-2)) (applyT ((invM (xs.length-2) ((selB bs (genM (xs.length-2))).take (xs.length-2))).getD []) ((selB bs xs).take (xs.length-2)) (sa (selB bs xs) 0).size) (sa (selB bs xs) 0).size,0)
theorem shape_of {xs:List ByteArray} (h:shapeM xs=0):(∀ i,i<xs.length→(sa xs i).size=(sa xs 0).size)∧(sa xs 0).size≤65536:=by
 unfold shapeM at h
 by_cases e1:∃ i,i<xs.length∧(sa xs i).size≠(sa xs 0).size
 ·rw [if_pos e1] at h; simp at h
 rw [if_neg e1] at h
 by_cases e2:xs≠[]∧65536<(sa xs 0).size
 ·rw [if_pos e2] at h; simp at h
 refine ⟨fun i hi=>Decidable.byContradiction fun e=>e1 ⟨i,hi,e⟩,?_⟩
 by_cases e3:xs=[]
 ·subst e3; decide
 ·exact Nat.le_of_not_lt fun e=>e2 ⟨e3,e⟩
theorem dot_zero:∀ (k:Nat) (d:List Nat),dotN (List.replicate k 0) d=0
 | 0,d=>dot_nil d
 | k+1,[]=>rfl
 | k+1,y::d=>by rw [List.replicate_succ,dotN,dot_zero k d,zero_gN]; rfl
theorem dot_unit:∀ {k i:Nat} {d:List Nat},i<k→d.length=k→(∀ x ∈ d,x<256)→dotN ((List.replicate k 0).set i 1) d=na d i
 | k+1,0,y::d,_,_,h=>by
  rw [List.replicate_succ,List.set_cons_zero,dotN,dot_zero,one_gN (h y (by simp)),Nat.xor_zero]; rfl
 | k+1,i+1,y::d,hi,hl,h=>by
  rw [List.replicate_succ,List.set_cons_succ,dotN,zero_gN,Nat.zero_xor,dot_unit (by omega) (by simpa using hl) fun x hx=>h x (by simp [hx])]
  simp [na]
theorem vec_id {k:Nat} {d:List Nat} (hl:d.length=k) (h:∀ x ∈ d,x<256):vecM (idM k) d=d:=by
 apply List.ext_getElem
 ·simp [vecM,idM,hl]
 ·intro i h1 h2
  simp only [vecM,idM,List.getElem_map,List.getElem_range]
  rw [dot_unit (by omega) hl h,na_get h2]
theorem colT_lt (l:List ByteArray) (t:Nat):∀ x ∈ colT l t,x<256:=fun x hx=>by
 obtain ⟨s,_,rfl⟩:=List.mem_map.1 hx
 exact bN_lt _ _
theorem colT_len (l:List ByteArray) (t:Nat):(colT l t).length=l.length:=by simp [colT]
theorem colT_apply {A:List (List Nat)} {l:List ByteArray} {N t:Nat} (ht:t<N) (hA:∀ r ∈ A,∀ x ∈ r,x<256):colT (applyT A l N) t=vecM A (colT l t):=by
 rw [colT,applyT,vecM,List.map_map]
 exact List.map_congr_left fun r hr=>bN_nT ht (dotN_lt (hA r hr))
theorem apply_vec {A:List (List Nat)} {l data:List ByteArray} {N:Nat} (hl:A.length=data.length) (hN:∀ i,i<data.length→(sa data i).size=N) (h:∀ t,t<N→vecM A (colT l t)=colT data t):applyT A l N=data:=by
 apply List.ext_getElem
 ·simp [applyT,hl]
 ·intro i h1 h2
  simp only [applyT,List.getElem_map]
  have hs:=hN i h2
  rw [sa_get h2] at hs
  rw [←nT_of hs]
  refine nT_congr fun t ht=>?_
  have e:=congrArg (fun L=>L[i]?) (h t ht)
  simp only [vecM,colT,List.getElem?_map,List.getElem?_eq_getElem h2,List.getElem?_eq_getElem (show i<A.length by omega),Option.map_some,Option.some.injEq] at e
  exact e
theorem apply_id {data:List ByteArray} {N k:Nat} (hk:data.length=k) (hN:∀ i,i<data.length→(sa data i).size=N):applyT (idM k) data N=data:=
 apply_vec (by simp [idM,hk]) hN fun t _=>vec_id (by rw [colT_len,hk]) (colT_lt _ _)
theorem idM_lt (k:Nat):∀ r ∈ idM k,∀ x ∈ r,x<256:=fun r hr x hx=>by
 obtain ⟨i,_,rfl⟩:=List.mem_map.1 hr
 rcases List.mem_or_eq_of_mem_set hx with hx | rfl
 ·rw [List.eq_of_mem_replicate hx]; decide
 ·decide
theorem genM_gd (k:Nat):Gd (k+2) k (genM k):=by
 refine ⟨by simp [genM,idM,vdM],fun r hr=>?_,fun r hr x hx=>?_⟩
 ·rcases List.mem_append.1 hr with hr | hr
  ·obtain ⟨i,_,rfl⟩:=List.mem_map.1 hr; simp
  ·obtain ⟨i,_,rfl⟩:=List.mem_map.1 hr; simp
 ·rcases List.mem_append.1 hr with hr | hr
  ·exact idM_lt k r hr x hx
  ·obtain ⟨i,_,rfl⟩:=List.mem_map.1 hr
   obtain ⟨j,_,rfl⟩:=List.mem_map.1 hx
   exact pN_lt2 _
theorem all_gen {data:List ByteArray} {N k:Nat} (hk:data.length=k) (hN:∀ i,i<data.length→(sa data i).size=N):applyT (genM k) data N=allT data N:=by
 have h1:applyT (genM k) data N=applyT (idM k) data N++applyT (vdM 2 k) data N:=by rw [applyT,genM,List.map_append]; rfl
 rw [h1,apply_id hk hN,allT,hk]
 rfl
theorem selB_map {α β:Type} (F:α → β):∀ (bs:List Bool) (xs:List α),selB bs (xs.map F)=(selB bs xs).map F
 | [],xs=>by cases xs <;> rfl
 | true::bs,[]=>rfl
 | false::bs,[]=>rfl
 | true::bs,x::xs=>by simp only [List.map_cons,selB]; rw [selB_map F bs xs]
 | false::bs,x::xs=>by simp only [List.map_cons,selB]; rw [selB_map F bs xs]
theorem selB_len {α:Type}:∀ {bs:List Bool} {xs:List α},bs.length=xs.length→(selB bs xs).length=bs.count true
 | [],[],_=>rfl
 | true::bs,x::xs,h=>by simp only [selB,List.length_cons,List.count_cons_self]; rw [selB_len (by simpa using h)]
 | false::bs,x::xs,h=>by simp only [selB]; rw [selB_len (by simpa using h)]; simp
theorem selB_le {α:Type}:∀ {bs:List Bool} {xs:List α},(selB bs xs).length≤xs.length
 | [],[]=>by simp [selB]
 | [],_ :: _=>by simp [selB]
 | true::bs,[]=>by simp [selB]
 | false::bs,[]=>by simp [selB]
 | true::bs,x::xs=>by simp only [selB,List.length_cons]; exact Nat.succ_le_succ selB_le
 | false::bs,x::xs=>by simp only [selB,List.length_cons]; exact Nat.le_succ_of_le selB_le
theorem selB_mem {α:Type} {x:α}:∀ {bs:List Bool} {xs:List α},x ∈ selB bs xs→x ∈ xs
 | [],[],h=>by simp [selB] at h
 | [],_ :: _,h=>by simp [selB] at h
 | true::bs,[],h=>by simp [selB] at h
 | false::bs,[],h=>by simp [selB] at h
 | true::bs,y::xs,h=>by
  simp only [selB,List.mem_cons] at h
  rcases h with rfl | h
  ·simp
  ·exact List.mem_cons_of_mem _ (selB_mem h)
 | false::bs,y::xs,h=>List.mem_cons_of_mem _ (selB_mem (by simpa [selB] using h))
theorem selB_same:∀ {bs:List Bool} {xs ys:List ByteArray},xs.length=bs.length→ys.length=bs.length→(∀ i,bs[i]? = some true→sa xs i=sa ys i)→selB bs xs=selB bs ys
 | [],[],[],_,_,_=>rfl
 | b::bs,x::xs,y::ys,h1,h2,h=>by
  have ih:=selB_same (bs:=bs) (xs:=xs) (ys:=ys) (by simpa using h1) (by simpa using h2) fun i hi=>by simpa [sa] using h (i+1) (by simpa using hi)
  cases b with
  | true=>
   have:=h 0 rfl
   simp only [sa,List.getD_cons_zero] at this
   simp only [selB,ih,this]
  | false=>simp only [selB,ih]
theorem sa_in {l:List ByteArray} {i:Nat} (h:i<l.length):sa l i ∈ l:=by rw [sa_get h]; exact List.getElem_mem _
theorem decM_good {k N:Nat} {data xs:List ByteArray} {bs:List Bool} (h1:1≤k) (h2:k≤8) (hd:data.length=k) (hN:∀ i,i<data.length→(sa data i).size=N) (hN2:N≤65536) (hb:bs.length=k+2) (hc:k≤bs.count true)
  (hx:xs.length=k+2) (hs:∀ i,bs[i]? = some true→sa xs i=sa (allT data N) i):decM xs bs=(allT data N,0):=by
 have ha:(allT data N).length=k+2:=by simp [allT,hd]
 have e1:selB bs xs=selB bs (allT data N):=selB_same (by omega) (by omega) hs
 have e2:selB bs (allT data N)=applyT (selB bs (genM k)) data N:=by rw [←all_gen hd hN,applyT,selB_map]; rfl
 have hsl:(selB bs (allT data N)).length=bs.count true:=selB_len (by omega)
 have hz:∀ s ∈ allT data N,s.size=N:=fun s hs=>by
  rcases List.mem_append.1 hs with hs | hs
  ·obtain ⟨i,hi,rfl⟩:=List.mem_iff_getElem.1 hs
   have:=hN i hi
   rwa [sa_get hi] at this
  ·simp only [List.mem_cons,List.not_mem_nil,or_false] at hs
   rcases hs with rfl | rfl <;> exact nT_size _ _
 have hsz:∀ i,i<(selB bs (allT data N)).length→(sa (selB bs (allT data N)) i).size=N:=fun i hi=>hz _ (selB_mem (sa_in hi))
 obtain ⟨v,hv,v1,v2,v3⟩:=gen_inv h1 h2 hb hc
 unfold decM
 rw [e1,hx,Nat.add_sub_cancel,if_neg (by omega),if_neg (by rw [shape_zero hsz hN2]; simp),hsz 0 (by omega),hv]
 simp only [Option.getD_some]
 have hgl:=genM_gd k
 have hrl:∀ r ∈ (selB bs (genM k)).take k,r.length=k:=fun r hr=>hgl.cl r (selB_mem (List.mem_of_mem_take hr))
 have hrt:∀ r ∈ (selB bs (genM k)).take k,∀ x ∈ r,x<256:=fun r hr=>hgl.lt r (selB_mem (List.mem_of_mem_take hr))
 have e3:(selB bs (allT data N)).take k=applyT ((selB bs (genM k)).take k) data N:=by rw [e2,applyT,applyT,List.map_take]
 rw [e3]
 have e4:applyT v (applyT ((selB bs (genM k)).take k) data N) N=data:=by
  refine apply_vec (by omega) hN fun t ht=>?_
  rw [colT_apply ht hrt,←vec_mul (m:=k) (fun r hr=>(v2 r hr).2) hrl hrt,v3]
  exact vec_id (by rw [colT_len,hd]) (colT_lt _ _)
 rw [e4,all_gen hd hN]
end Go.Proofs.YthegnmanjdlmjaaGreatDoor
namespace Go.Sh
open Go.RowKit
theorem RoM.ldsB {h h1:H} {a:Option Addr} {l:Nat} {ss:List (Option Addr × Nat × Nat)} {rs:List (List Nat)} {z:Nat} {zi:Int} {K:Addr→Nat→Option Addr→Nat→Nat→Prop} (f:RoM h a l ss rs) (kk:Keep h h1) (hz:zi=(z:Int)) (hl:z<l)
  (k:∀ b,h.cell (Addr.add b (z*1))=some (.slice (va ss z).1 (va ss z).2.1 (va ss z).2.2)→K b z (va ss z).1 (va ss z).2.1 (va ss z).2.2):
  M.idx a l zi fun b j=>M.load h1 (Addr.add b (j*1)) fun v=>M.slc v (K b j):=by
 subst hz
 refine f.out.atV (by omega) (by omega) fun b hc=>?_
 rw [Int.toNat_natCast] at hc ⊢
 have hc':h.cell (Addr.add b (z*1))=some (.slice (va ss z).1 (va ss z).2.1 (va ss z).2.2):=by rw [Nat.mul_one,hc]
 rw [lc (kk.cell hc')]
 exact ⟨_,_,_,rfl,k b hc'⟩
theorem M.still_2 {h h' h0:H} {x:Addr} {v:Value} {K:Prop} (k1:Keep h0 h) (k2:Keep h0 h') (hc:h0.cell x=some v) (q:K):M.still h x 1 h' K:=
 ⟨fun i hi=>by
  obtain rfl:i=0:=by omega
  rw [Addr.add_zero',k1.cell hc,k2.cell hc],q⟩
theorem Ro.tk {α:Type} {E:Enc α} {h:H} {a:Option Addr} {l:Nat} {xs:List α} (f:Ro E h a l xs) (n:Nat) (hn:n≤l):Ro E h a n (xs.take n):=
 ⟨by rw [List.length_take,f.len]; omega,fun e=>by have:=f.none e; omega,fun b e i hi=>by
  have h1:=f.row b e i (by rw [E.row_len] at hi ⊢; rw [List.length_take] at hi; exact Nat.lt_of_lt_of_le hi (Nat.mul_le_mul_right _ (Nat.min_le_right _ _)))
  rw [h1,←E.row_take]
  rw [E.row_len,List.length_take,f.len,Nat.min_eq_left hn] at hi
  rw [List.getElem?_take,if_pos hi]⟩
theorem RoM.tk {h:H} {a:Option Addr} {l m:Nat} {ss:List (Option Addr × Nat × Nat)} {rs:List (List Nat)} (f:RoM h a l ss rs) (hm:m≤l):RoM h a m (ss.take m) (rs.take m):=
 ⟨f.out.tk m hm,by rw [List.length_take,List.length_take,f.len],fun i hi=>by
  rw [List.length_take] at hi
  have e1:va (ss.take m) i=va ss i:=by simp only [va,List.getD_eq_getElem?_getD]; rw [List.getElem?_take,if_pos (by omega)]
  have e2:ra (rs.take m) i=ra rs i:=by simp only [ra,List.getD_eq_getElem?_getD]; rw [List.getElem?_take,if_pos (by omega)]
  rw [e1,e2]
  exact f.row i (by omega)⟩
theorem Ro.ldTs {h:H} {a:Option Addr} {l:Nat} {xs:List Bool} {z:Nat} {zi:Int} {K:Bool→Prop} (f:Ro eT h a l xs) (hz:zi=(z:Int)) (hl:z<l)
  (k:K (xs.getD z false)):M.idx a l zi fun b j=>M.load h (Addr.add b (j*1)) fun v=>M.bool v K:=by
 subst hz
 refine f.at1 rfl (by omega) (by omega) fun b hz hc=>?_
 simp only [Int.toNat_natCast] at hc ⊢
 have hlen:=f.len
 rw [Nat.mul_one,lc hc]
 refine ⟨_,rfl,?_⟩
 rw [List.getD_eq_getElem?_getD,List.getElem?_eq_getElem (by omega)] at k
 simpa using k
end Go.Sh
namespace Go.Proofs.YthegnmanjdlmjaaGreatDoor
open Go.Sh Go.RowKit
theorem selB_take {α:Type} {y:Nat}:∀ {bs:List Bool} {xs:List α} (h1:y<bs.length) (h2:y<xs.length),selB (bs.take (y+1)) xs=selB (bs.take y) xs++(if bs[y] then [xs[y]] else [])
 | true::bs,x::xs,h1,h2=>by
  cases y with
  | zero=>cases xs <;> simp [selB]
  | succ y=>simp only [List.take_succ_cons,selB,List.cons_append]; rw [selB_take (by simpa using h1) (by simpa using h2)]; simp
 | false::bs,x::xs,h1,h2=>by
  cases y with
  | zero=>cases xs <;> simp [selB]
  | succ y=>simp only [List.take_succ_cons,selB]; rw [selB_take (by simpa using h1) (by simpa using h2)]; simp
theorem selB_ra {bs:List Bool}:∀ {ss:List (Option Addr × Nat × Nat)} {rs:List (List Nat)} {h:H},ss.length=rs.length→(∀ i,i<rs.length→(va ss i).2.1=(ra rs i).length∧Ro eN h (va ss i).1 (ra rs i).length (ra rs i)) →
  ∀ i,i<(selB bs rs).length→(va (selB bs ss) i).2.1=(ra (selB bs rs) i).length∧Ro eN h (va (selB bs ss) i).1 (ra (selB bs rs) i).length (ra (selB bs rs) i):=by
 induction bs with
 | nil=>intro ss rs h hl hr i hi; cases rs <;> simp [selB] at hi
 | cons b bs ih=>
  intro ss rs h hl hr i hi
  cases rs with
  | nil=>cases b <;> simp [selB] at hi
  | cons r rs=>
   cases ss with
   | nil=>simp at hl
   | cons s ss=>
    have hr':∀ i,i<rs.length→(va ss i).2.1=(ra rs i).length∧Ro eN h (va ss i).1 (ra rs i).length (ra rs i):=fun i hi=>hr (i+1) (by simpa using hi)
    cases b with
    | true=>
     cases i with
     | zero=>exact hr 0 (by simp)
     | succ i=>exact ih (by simpa using hl) hr' i (by simpa [selB] using hi)
    | false=>exact ih (by simpa using hl) hr' i (by simpa [selB] using hi)
section
variable {h0 h:H} {a a2:Option Addr} {l c l2 c2 n:Nat} {xs:List ByteArray} {bs:List Bool}
theorem Decode_spec {Q:Option Addr→Nat→Nat→Int→H→Prop} (f:Ro eS h a n xs) (ft:Ro eT h a2 n bs) (h1:3≤n) (h2:n≤10)
  (k:∀ a' c' h',Wd h h' [.sl 9 1 a' (decM xs bs).1.length c' (eS.row (decM xs bs).1)]→Q a' (decM xs bs).1.length c' (decM xs bs).2 h'):rs_Decode a n c a2 n c2 h Q:=by
 unfold rs_Decode rs_Decode.g
 have hxl:=f.len
 have hbl:=ft.len
 obtain ⟨q,hq⟩:∃ q,n=q+2:=⟨n-2,by omega⟩
 refine M.vis (q:Int) (by rw [IntKind.wrap_i64]; omega) ?_
 refine M.join_of (fun d h'=>d=false∧h'=h) (fun J hJ=>?_) ?_
 ·exact rsMay_spec (cf (by simp; omega) (by rw [bne_self_eq_false]; exact hJ _ _ ⟨rfl,rfl⟩))
 rintro _ h9 ⟨rfl,e9⟩
 rw [e9]
 refine cf rfl (generator_spec (by omega) (by omega) fun ag cg ss hG kG fg=>?_)
 rw [←hq] at fg ⊢
 have hsl:ss.length=n:=fg.out.len
 have hgl:=genM_gd q
 refine M.join_of (fun (p:(Option Addr × Nat × Nat) × (Option Addr × Nat × Nat)) h'=>p.1.2.1=(selB bs xs).length∧p.2.2.1=(selB bs xs).length∧Wd hG h' [.sl 29 1 p.1.1 p.1.2.1 p.1.2.2 (eV.row (selB bs ss)),.sl 9 1 p.2.1 p.2.2.1 p.2.2.2 (eS.row (selB bs xs))]) (fun J hJ=>?_) ?_
 ·refine M.loop_of (I:=fun (p:(Option Addr × Nat × Nat) × (Option Addr × Nat × Nat) × Int) h'=>∃ y:Nat,y≤n∧p.2.2=(y:Int)∧p.1.2.1=(selB (bs.take y) ss).length∧p.2.1.2.1=(selB (bs.take y) xs).length ∧
   Wd hG h' [.sl 29 1 p.1.1 p.1.2.1 p.1.2.2 (eV.row (selB (bs.take y) ss)),.sl 9 1 p.2.1.1 p.2.1.2.1 p.2.1.2.2 (eS.row (selB (bs.take y) xs))]) (μ:=fun p=>(n-p.2.2).toNat) ⟨0,by omega,rfl,?_,?_,?_⟩ ?_
  ·cases ss <;> simp [selB]
  ·cases xs <;> simp [selB]
  ·have e1:selB (bs.take 0) ss=[]:=by cases ss <;> simp [selB]
   have e2:selB (bs.take 0) xs=[]:=by cases xs <;> simp [selB]
   rw [e1,e2]
   exact ((Wd.start hG).nilsl _ _).nilsl _ _
  rintro ⟨⟨a7,l7,c7⟩,⟨a8,l8,c8⟩,i⟩ h5 J2 ⟨y,hy,rfl,hl7,hl8,w⟩ hJ2
  simp only at hl7 hl8 w ⊢
  by_cases hly:y<n
  ·have v2:IntKind.wrap .i64 ((y:Int)+1)=((y+1:Nat):Int):=by rw [IntKind.wrap_i64]; omega
   have s1:=selB_take (bs:=bs) (xs:=ss) (y:=y) (by omega) (by omega)
   have s2:=selB_take (bs:=bs) (xs:=xs) (y:=y) (by omega) (by omega)
   have hl7n:l7≤20:=by
    have:(selB (bs.take y) ss).length≤ss.length:=selB_le
    omega
   have hl8n:l8≤20:=by
    have:(selB (bs.take y) xs).length≤xs.length:=selB_le
    omega
   refine cdt (by first | omega | (simp only []; omega)) ((f.keep (kG.trans w.keep)).ldSs rfl hly fun _ _=>(ft.keep (kG.trans w.keep)).ldTs rfl hly ?_)
   rw [List.getD_eq_getElem?_getD,List.getElem?_eq_getElem (by omega),Option.getD_some]
   by_cases hb:bs[y]=true
   ·rw [if_pos hb] at s1 s2
    refine ct hb ?_
    have ev:ss[y]=va ss y:=(va_get (by omega)).symm
    have ex:xs[y]=sa xs y:=(sa_get (by omega)).symm
    rw [ev] at s1
    rw [ex] at s2
    have fin:∀ a9 c9 a10 c10 h6,Wd hG h6 [.sl 29 1 a9 (l7+1) c9 (eV.row (selB (bs.take y) ss)++eV.row [va ss y]),.sl 9 1 a10 (l8+1) c10 (eS.row (selB (bs.take y) xs)++eS.row [sa xs y])] →
      J2 ((a9,l7+1,c9),(a10,l8+1,c10),((y+1:Nat):Int)) h6:=fun a9 c9 a10 c10 h6 w=>hJ2 _ _ ⟨y+1,by omega,rfl,by rw [s1,List.length_append,hl7]; rfl,by rw [s2,List.length_append,hl8]; rfl,by
       rw [s1,s2,eV.row_app,eS.row_app]; exact w⟩ (by first | omega | (simp only []; omega))
    refine M.join_of (fun (p:(Option Addr × Nat × Nat) × (Option Addr × Nat × Nat)) h'=>p.1.2.1=l7+1∧p.2.2.1=l8+1∧Wd hG h' [.sl 29 1 p.1.1 p.1.2.1 p.1.2.2 (eV.row (selB (bs.take y) ss)++eV.row [va ss y]),.sl 9 1 p.2.1 p.2.2.1 p.2.2.2 (eS.row (selB (bs.take y) xs)++eS.row [sa xs y])]) (fun J3 hJ3=>?_) ?_
    ·refine fg.ldsB w.keep rfl hly fun b hc=>?_
     have kw:=w.keep
     have fin2:∀ a9 c9 a10 c10 h6,Wd hG h6 [.sl 29 1 a9 (l7+1) c9 (eV.row (selB (bs.take y) ss)++eV.row [va ss y]),.sl 9 1 a10 (l8+1) c10 (eS.row (selB (bs.take y) xs)++eS.row [sa xs y])]→J3 ((a9,l7+1,c9),(a10,l8+1,c10)) h6:=fun a9 c9 a10 c10 h6 w=>hJ3 _ _ ⟨rfl,rfl,w⟩
     clear hJ3 fin hJ2 hJ
     refine ⟨M.new_w w fun b1 h6 w=>M.still_2 kw w.keep hc ⟨?_,?_⟩,M.new_w w fun b1 h6 w=>M.new_w w fun b2 h7 w=>M.still_2 kw w.keep hc ?_⟩
     ·refine cellsOf_in (w.blk 2 rfl) rfl (M.app_w w 1 rfl rfl rfl (eS.row_plain [sa xs y]) (by omega) (by omega) fun a9 c9 h8 w=>M.still_2 kw w.keep hc ?_)
      refine M.new_w w fun b2 h9 w=>cellsOf_in (w.blk 3 rfl) rfl (M.app_w w 0 rfl rfl rfl (eV.row_plain [va ss y]) (by omega) (by omega) fun a10 c10 h10 w=>?_)
      exact fin2 _ _ _ _ _ ((w.drop (i:=3) rfl).drop (i:=2) rfl)
     ·refine M.new_w w fun b2 h7 w=>cellsOf_in (w.blk 2 rfl) rfl (M.app_w w 1 rfl rfl rfl (eS.row_plain [sa xs y]) (by omega) (by omega) fun a9 c9 h8 w=>M.still_2 kw w.keep hc ?_)
      refine cellsOf_in (w.blk 3 rfl) rfl (M.app_w w 0 rfl rfl rfl (eV.row_plain [va ss y]) (by omega) (by omega) fun a10 c10 h10 w=>?_)
      exact fin2 _ _ _ _ _ ((w.drop (i:=3) rfl).drop (i:=2) rfl)
     ·refine cellsOf_in (w.blk 3 rfl) rfl (M.app_w w 1 rfl rfl rfl (eS.row_plain [sa xs y]) (by omega) (by omega) fun a9 c9 h8 w=>M.still_2 kw w.keep hc ?_)
      refine cellsOf_in (w.blk 2 rfl) rfl (M.app_w w 0 rfl rfl rfl (eV.row_plain [va ss y]) (by omega) (by omega) fun a10 c10 h10 w=>?_)
      exact fin2 _ _ _ _ _ ((w.drop (i:=3) rfl).drop (i:=2) rfl)
    rintro ⟨⟨a9,l9,c9⟩,a10,l10,c10⟩ h6 ⟨q1,q2,w⟩
    simp only at q1 q2 w ⊢
    subst q1 q2
    exact M.vis _ v2 (fin _ _ _ _ _ w)
   ·rw [if_neg hb,List.append_nil] at s1 s2
    exact cf (by simpa using hb) (M.vis _ v2 (hJ2 _ _ ⟨y+1,by omega,rfl,by rw [s1]; exact hl7,by rw [s2]; exact hl8,by rw [s1,s2]; exact w⟩ (by first | omega | (simp only []; omega))))
  ·obtain rfl:y=n:=by omega
   have e:bs.take y=bs:=List.take_of_length_le (by omega)
   rw [e] at w hl7 hl8
   have e2:(selB bs ss).length=(selB bs xs).length:=by rw [selB_len (by omega),selB_len (by omega)]
   exact cdf (by first | omega | (simp only []; omega)) (hJ _ _ ⟨by first | omega | (simp only []; omega),by first | omega | (simp only []; omega),w⟩)
 rintro ⟨⟨a7,l7,c7⟩,a8,l8,c8⟩ h5 ⟨hl7,hl8,w⟩
 simp only at hl7 hl8 w ⊢
 subst hl7 hl8
 have hSx:(selB bs xs).length=bs.count true:=selB_len (by omega)
 have hSg:(selB bs (genM q)).length=bs.count true:=selB_len (by rw [hgl.rl]; omega)
 have hnk:xs.length-2=q:=by omega
 unfold decM at k
 rw [hnk] at k
 by_cases hlq:(selB bs xs).length<q
 ·rw [if_pos hlq] at k
  exact cdt (by omega) (k _ _ _ (((Wd.start h).keeps (kG.trans w.keep)).nilsl _ _))
 rw [if_neg hlq] at k
 refine cdf (by omega) ?_
 have hle:(selB bs xs).length≤xs.length:=selB_le
 have fs:Ro eS h5 a8 _ (selB bs xs):=w.ro 1 rfl (by decide)
 refine rsShape_spec fs (by omega) ?_
 by_cases hsh:shapeM (selB bs xs)=0
 ·rw [if_neg (by simp [hsh])] at k
  rw [hsh]
  obtain ⟨hN,hN2⟩:=shape_of hsh
  generalize (sa (selB bs xs) 0).size=N at *
  obtain ⟨v,hv,v1,v2,_⟩:=gen_inv (k:=q) (bs:=bs) (by omega) (by omega) (by omega) (by omega)
  rw [hv,Option.getD_some] at k
  have c7l:(selB bs xs).length≤c7:=by
   have:=(w.slrow 0 rfl).2.1
   omega
  have c8l:(selB bs xs).length≤c8:=by
   have:=(w.slrow 1 rfl).2.1
   omega
  refine cf rfl (M.sub0 (by omega) (by omega) ?_)
  rw [Int.toNat_natCast]
  have fr:RoM h5 a7 (selB bs xs).length (selB bs ss) (selB bs (genM q)):=⟨w.ro 0 rfl (by decide),by rw [hSg,selB_len (by omega)],selB_ra (by rw [hsl,hgl.rl,hq]) (fun i hi=>by
   have:=fg.row i hi
   exact ⟨this.1,this.2.keep w.keep⟩)⟩
  have gk:Gd q q ((selB bs (genM q)).take q):=⟨by rw [List.length_take]; omega,fun r hr=>hgl.cl r (selB_mem (List.mem_of_mem_take hr)),fun r hr=>hgl.lt r (selB_mem (List.mem_of_mem_take hr))⟩
  refine Invert_spec (fr.tk (by omega)) gk (by omega) (by omega) hv fun a9 c9 s9 h6 k6 f6=>?_
  refine M.sub0 (by omega) (by omega) ?_
  rw [Int.toNat_natCast]
  have fx:Ro eS h6 a8 q ((selB bs xs).take q):=(fs.keep k6).tk q (by omega)
  have hNq:∀ i,i<q→(sa ((selB bs xs).take q) i).size=N:=fun i hi=>by
   have:sa ((selB bs xs).take q) i=sa (selB bs xs) i:=by simp only [sa,List.getD_eq_getElem?_getD]; rw [List.getElem?_take,if_pos hi]
   rw [this]; exact hN i (by omega)
  refine mApply_spec f6 ⟨v1,fun r hr=>(v2 r hr).1,fun r hr=>(v2 r hr).2⟩ fx (by omega) (by omega) (by omega) (by omega) hNq hN2 fun a10 c10 h7 w7=>?_
  have kk:Keep hG h7:=w.keep.trans (k6.trans w7.keep)
  have fd:Ro eS h7 a10 q _:=w7.ro 0 rfl (by decide)
  have hD:∀ i,i<q→(sa (applyT v ((selB bs xs).take q) N) i).size=N:=fun i hi=>by
   rw [sa_get (by simp [applyT,v1]; exact hi)]
   simp only [applyT,List.getElem_map]
   exact nT_size _ _
  have hgn:n=q+2:=hq
  refine mApply_spec (fg.keep kk) (by rw [hgn]; exact hgl) fd (by omega) (by omega) (by omega) (by omega) hD hN2 fun a11 c11 h8 w8=>?_
  have el:(applyT (genM q) (applyT v ((selB bs xs).take q) N) N).length=n:=by simp [applyT,hgl.rl,hq]
  simp only [el] at k
  refine k _ _ _ (w8.base (kG.trans kk))
 ·rw [if_pos hsh] at k
  refine ct (by simpa using hsh) ?_
  exact k _ _ _ (((Wd.start h).keeps (kG.trans w.keep)).nilsl _ _)
end
end Go.Proofs.YthegnmanjdlmjaaGreatDoor
namespace Go.Proofs.YthegnmanjdlmjaaGreatDoor
open Go.Sh Go.RowKit
theorem wordAt_left (big:Bool) (a b:ByteArray) (i:Nat) (h:4*i+3<a.size):wordAt big (a++b) i=wordAt big a i:=by
 unfold wordAt
 rw [byteAt_app,if_pos (by omega),byteAt_app,if_pos (by omega),byteAt_app,if_pos (by omega),byteAt_app,if_pos (by omega)]
theorem wordAt_right (big:Bool) (a b:ByteArray) (m i:Nat) (h:a.size=4*m):wordAt big (a++b) (m+i)=wordAt big b i:=by
 unfold wordAt
 rw [byteAt_app,if_neg (by omega),byteAt_app,if_neg (by omega),byteAt_app,if_neg (by omega),byteAt_app,if_neg (by omega),show 4*(m+i)-a.size=4*i by omega,show 4*(m+i)+1-a.size=4*i+1 by omega,show 4*(m+i)+2-a.size=4*i+2 by omega,show 4*(m+i)+3-a.size=4*i+3 by omega]
theorem wordsOf_app (big:Bool) (a b:ByteArray) (h:a.size % 4=0):wordsOf big (a++b)=wordsOf big a++wordsOf big b:=by
 obtain ⟨m,hm⟩:∃ m,a.size=4*m:=⟨a.size / 4,by omega⟩
 unfold wordsOf
 rw [ByteArray.size_append,show (a.size+b.size) / 4=m+b.size / 4 by omega,show a.size / 4=m by omega,List.range_add,List.map_append,List.map_map]
 congr 1
 ·exact List.map_congr_left fun i hi=>wordAt_left _ _ _ _ (by have:=List.mem_range.1 hi; omega)
 ·exact List.map_congr_left fun i hi=>wordAt_right _ _ _ _ _ hm
def sigW:List U:=[0x61707865,0x3320646e,0x79622d32,0x6b206574]
def cha0 (key nonce:ByteArray) (c:U):List U:=((sigW++wordsOf false key)++[c])++wordsOf false nonce
def finL (D S:List U):List U:=(List.range 16).map fun i=>at0 D i+at0 S i
def blockT (key nonce:ByteArray) (c:U):ByteArray:=textOf false (finL (dblN (cha0 key nonce c) 10) (cha0 key nonce c))
theorem blockT_size (key nonce:ByteArray) (c:U):(blockT key nonce c).size=64:=by rw [blockT,textOf_size]; simp [finL]
theorem cha0_len {key nonce:ByteArray} {c:U} (hk:key.size=32) (hn:nonce.size=12):(cha0 key nonce c).length=16:=by
 simp [cha0,wordsOf_len,hk,hn,sigW]
theorem fin_set (D S:List U) (hD:D.length=16) (m:Nat) (hm:m<16):((List.range 16).map fun i=>if i<m then at0 D i+at0 S i else at0 D i).set m (at0 D m+at0 S m)=(List.range 16).map fun i=>if i<m+1 then at0 D i+at0 S i else at0 D i:=by
 rw [set_map_range]
 apply List.map_congr_left
 intro i hi
 by_cases h1:i=m
 ·subst h1; rw [if_pos rfl,if_pos (by omega)]
 ·rw [if_neg h1]
  by_cases h2:i<m
  ·rw [if_pos h2,if_pos (by omega)]
  ·rw [if_neg h2,if_neg (by omega)]
theorem self_range (D:List U) (hD:D.length=16):D=(List.range 16).map fun i=>if i<0 then at0 D i+0 else at0 D i:=by
 apply List.ext_getElem
 ·simp [hD]
 ·intro i h1 h2
  simp [at0_get D i h1]
theorem sig_words:wordsOf false (⟨#[101,120,112,97,110,100,32,51,50,45,98,121,116,101,32,107]⟩:ByteArray)=sigW:=by decide
section
variable {h:H} {key nonce:ByteArray} {c:U}
theorem stream_spec {Q:ByteArray→H→Prop} (hk:key.size=32) (hn:nonce.size=12) (k:∀ h',Keep h h'→Q (blockT key nonce c) h'):chacha_stream key nonce (ui c) h Q:=by
 unfold chacha_stream chacha_stream.g
 unfold blockT at k
 have hz:((⟨#[101,120,112,97,110,100,32,51,50,45,98,121,116,101,32,107]⟩:ByteArray)++key).size=48:=by rw [ByteArray.size_append,hk]; rfl
 have w:=Wd.start h
 refine ⟨(by simp only [szs]; omega),?_⟩
 refine Little_spec (by omega) (by omega) fun a1 c1 h1 w'=>?_
 have w:=w.join w'
 clear w'
 refine Little_spec (by omega) (by omega) fun a2 c2 h2 w'=>?_
 have w:=w.join w'
 clear w'
 rw [hz] at w ⊢
 rw [hn] at w ⊢
 rw [wordsOf_app _ _ _ (by rfl),sig_words] at w
 have hkl:(sigW++wordsOf false key).length=12:=by simp [wordsOf_len,hk,sigW]
 have hnl:(wordsOf false nonce).length=3:=by simp [wordsOf_len,hn]
 have hS:=cha0_len (c:=c) hk hn
 have hSd:cha0 key nonce c=((sigW++wordsOf false key)++[c])++wordsOf false nonce:=rfl
 generalize sigW++wordsOf false key=ws at *
 generalize wordsOf false nonce=ns at *
 simp only [Nat.reduceDiv] at w ⊢
 refine M.new_w w fun b4 h3 w=>?_
 refine M.sub_in 0 16 rfl rfl (by decide) (by decide) (by decide) ?_
 simp only [Nat.reduceAdd,Nat.reduceMul,Nat.reduceSub]
 refine Wd.push w 0 rfl rfl rfl (by simp [isPlainCell]) (by omega) (by omega) fun a7 c8 h5 w=>?_
 refine w.cells 1 rfl ?_
 refine M.app_w w 0 rfl rfl (by simp [uvs_len,bvs_len]; omega) (uvs_plain _) (by omega) (by omega) fun a9 c10 h11 w=>?_
 simp only [bs,Nat.reduceAdd] at w
 refine w.cells 0 rfl ?_
 have hS':(uvs ws++[Value.int .u32 (ui c)]++uvs ns)=uvs (cha0 key nonce c):=by rw [hSd,uvs_app,uvs_app]; rfl
 rw [hS']
 refine M.copy_all w 2 rfl (uvs_plain _) (by rw [uvs_len,hS]; rfl) fun h12 w=>?_
 generalize cha0 key nonce c=S at *
 refine M.row_all (w.blk 2 rfl) (by rw [List.size_toArray,uvs_len,hS]) ?_
 have hsz:(uvs S).toArray.toList.toArray.size=16:=by simp [uvs_len,hS]
 refine M.new_w w fun b5 h4 w=>?_
 refine ⟨(by assumption),?_⟩
 refine M.puts_w0 w 3 rfl (uvs_plain _) (by simp [uvs_len,hS]) fun h13 w=>?_
 have w:=(w.drop (i:=0) rfl).drop (i:=0) rfl
 obtain ⟨R,hR0,hRs,hR10⟩:∃ R:Nat→List U,R 0=S∧(∀ n,R (n+1)=dbl (R n))∧dblN S 10=R 10:=⟨dblN S,rfl,fun _=>rfl,rfl⟩
 have hRl:∀ n,(R n).length=16:=by
  intro n
  induction n with
  | zero=>rw [hR0,hS]
  | succ n ih=>rw [hRs,dbl_len,ih]
 rw [hR10] at k
 refine M.jn ?_
 refine M.loop_of (I:=fun (i:Int) h'=>∃ m:Nat,m≤10∧i=(m:Int)∧Wd h h' [.blk b4 (.cells (uvs S).toArray 274),.blk b5 (.cells (uvs (R m)).toArray 274)]) (μ:=fun i=>(10-i).toNat) ⟨0,by omega,rfl,by rw [hR0]; exact w⟩ ?_
 clear w
 rintro _ h14 J ⟨m,hm,rfl,w⟩ hJ
 by_cases hlt:m<10
 ·refine cdt (by omega) ?_
  have v1:IntKind.wrap .i64 ((m:Int)+1)=((m+1:Nat):Int):=by rw [IntKind.wrap_i64]; omega
  have hl:=hRl m
  refine M.jn (M.times 5 ?_)
  refine M.iter_s ?_
  refine cdt (by omega) ?_
  refine M.vis (4) (by decide) ?_
  refine M.vis (8) (by decide) ?_
  refine M.vis (12) (by decide) ?_
  obtain ⟨hx,k0,k1,wx,wr,back⟩:=w.on (i:=1) rfl
  refine quarter_spec wx (by assumption) (by omega) (by omega) (by omega) (by omega) fun h6 w_=>?_
  have w:=back _ _ w_
  clear w_ back wr wx k1 k0 hx
  simp only [bs,Int.reduceToNat] at w
  refine M.vis (1) (by decide) ?_
  refine M.iter_s ?_
  refine cdt (by omega) ?_
  refine M.vis (5) (by decide) ?_
  refine M.vis (9) (by decide) ?_
  refine M.vis (13) (by decide) ?_
  obtain ⟨hx,k0,k1,wx,wr,back⟩:=w.on (i:=1) rfl
  refine quarter_spec wx (by simp only [qS_len,hl]) (by omega) (by omega) (by omega) (by omega) fun h7 w_=>?_
  have w:=back _ _ w_
  clear w_ back wr wx k1 k0 hx
  simp only [bs,Int.reduceToNat] at w
  refine M.vis (2) (by decide) ?_
  refine M.iter_s ?_
  refine cdt (by omega) ?_
  refine M.vis (6) (by decide) ?_
  refine M.vis (10) (by decide) ?_
  refine M.vis (14) (by decide) ?_
  obtain ⟨hx,k0,k1,wx,wr,back⟩:=w.on (i:=1) rfl
  refine quarter_spec wx (by simp only [qS_len,hl]) (by omega) (by omega) (by omega) (by omega) fun h8 w_=>?_
  have w:=back _ _ w_
  clear w_ back wr wx k1 k0 hx
  simp only [bs,Int.reduceToNat] at w
  refine M.vis (3) (by decide) ?_
  refine M.iter_s ?_
  refine cdt (by omega) ?_
  refine M.vis (7) (by decide) ?_
  refine M.vis (11) (by decide) ?_
  refine M.vis (15) (by decide) ?_
  obtain ⟨hx,k0,k1,wx,wr,back⟩:=w.on (i:=1) rfl
  refine quarter_spec wx (by simp only [qS_len,hl]) (by omega) (by omega) (by omega) (by omega) fun h9 w_=>?_
  have w:=back _ _ w_
  clear w_ back wr wx k1 k0 hx
  simp only [bs,Int.reduceToNat] at w
  refine M.vis (4) (by decide) ?_
  refine M.iter_s ?_
  refine cdf (by omega) ?_
  refine M.times 5 ?_
  refine M.iter_s ?_
  simp only [v1]
  refine cdt (by omega) ?_
  refine M.vis (1) (by decide) ?_
  refine ⟨(by omega),?_⟩
  refine M.vis (1) (by decide) ?_
  refine M.vis (5) (by decide) ?_
  refine M.vis (2) (by decide) ?_
  refine ⟨(by omega),?_⟩
  refine M.vis (2) (by decide) ?_
  refine M.vis (10) (by decide) ?_
  refine M.vis (3) (by decide) ?_
  refine ⟨(by omega),?_⟩
  refine M.vis (3) (by decide) ?_
  refine M.vis (15) (by decide) ?_
  obtain ⟨hx,k0,k1,wx,wr,back⟩:=w.on (i:=1) rfl
  refine quarter_spec wx (by simp only [qS_len,hl,v1]) (by omega) (by omega) (by omega) (by omega) fun h10 w_=>?_
  have w:=back _ _ w_
  clear w_ back wr wx k1 k0 hx
  simp only [bs,Int.reduceToNat] at w
  refine M.vis (1) (by decide) ?_
  refine M.iter_s ?_
  refine cdt (by omega) ?_
  refine M.vis (2) (by decide) ?_
  refine ⟨(by omega),?_⟩
  refine M.vis (2) (by decide) ?_
  refine M.vis (6) (by decide) ?_
  refine M.vis (3) (by decide) ?_
  refine ⟨(by omega),?_⟩
  refine M.vis (3) (by decide) ?_
  refine M.vis (11) (by decide) ?_
  refine M.vis (4) (by decide) ?_
  refine ⟨(by omega),?_⟩
  refine M.vis (0) (by decide) ?_
  refine M.vis (12) (by decide) ?_
  obtain ⟨hx,k0,k1,wx,wr,back⟩:=w.on (i:=1) rfl
  refine quarter_spec wx (by simp only [qS_len,hl,v1]) (by omega) (by omega) (by omega) (by omega) fun h15 w_=>?_
  have w:=back _ _ w_
  clear w_ back wr wx k1 k0 hx
  simp only [bs,Int.reduceToNat] at w
  refine M.vis (2) (by decide) ?_
  refine M.iter_s ?_
  refine cdt (by omega) ?_
  refine M.vis (3) (by decide) ?_
  refine ⟨(by omega),?_⟩
  refine M.vis (3) (by decide) ?_
  refine M.vis (7) (by decide) ?_
  refine M.vis (4) (by decide) ?_
  refine ⟨(by omega),?_⟩
  refine M.vis (0) (by decide) ?_
  refine M.vis (8) (by decide) ?_
  refine M.vis (5) (by decide) ?_
  refine ⟨(by omega),?_⟩
  refine M.vis (1) (by decide) ?_
  refine M.vis (13) (by decide) ?_
  obtain ⟨hx,k0,k1,wx,wr,back⟩:=w.on (i:=1) rfl
  refine quarter_spec wx (by simp only [qS_len,hl,v1]) (by omega) (by omega) (by omega) (by omega) fun h16 w_=>?_
  have w:=back _ _ w_
  clear w_ back wr wx k1 k0 hx
  simp only [bs,Int.reduceToNat] at w
  refine M.vis (3) (by decide) ?_
  refine M.iter_s ?_
  refine cdt (by omega) ?_
  refine M.vis (4) (by decide) ?_
  refine ⟨(by omega),?_⟩
  refine M.vis (0) (by decide) ?_
  refine M.vis (4) (by decide) ?_
  refine M.vis (5) (by decide) ?_
  refine ⟨(by omega),?_⟩
  refine M.vis (1) (by decide) ?_
  refine M.vis (9) (by decide) ?_
  refine M.vis (6) (by decide) ?_
  refine ⟨(by omega),?_⟩
  refine M.vis (2) (by decide) ?_
  refine M.vis (14) (by decide) ?_
  obtain ⟨hx,k0,k1,wx,wr,back⟩:=w.on (i:=1) rfl
  refine quarter_spec wx (by simp only [qS_len,hl,v1]) (by omega) (by omega) (by omega) (by omega) fun h17 w_=>?_
  have w:=back _ _ w_
  clear w_ back wr wx k1 k0 hx
  simp only [bs,Int.reduceToNat] at w
  refine M.vis (4) (by decide) ?_
  refine M.iter_s ?_
  refine cdf (by omega) ?_
  refine M.vin ?_
  refine hJ _ _ ⟨m+1,by omega,rfl,?_⟩ (by omega)
  rw [hRs,dbl]
  exact w
 ·refine cdf (by omega) ?_
  obtain rfl:m=10:=by omega
  have hl:=hRl 10
  generalize R 10=D at *
  have hDr:D=(List.range 16).map fun i=>if i<0 then at0 D i+at0 S i else at0 D i:=by
   refine (self_range D hl).trans ?_
   apply List.map_congr_left
   intro i hi
   rw [if_neg (by omega),if_neg (by omega)]
  refine M.jn ?_
  refine M.loop_of (I:=fun (i:Int) h'=>∃ m:Nat,m≤16∧i=(m:Int)∧Wd h h' [.blk b4 (.cells (uvs S).toArray 274),.blk b5 (.cells (uvs ((List.range 16).map fun i=>if i<m then at0 D i+at0 S i else at0 D i)).toArray 274)]) (μ:=fun i=>(16-i).toNat) ⟨0,by omega,rfl,by rw [←hDr]; exact w⟩ ?_
  clear w
  rintro _ h15 J2 ⟨m,hm,rfl,w⟩ hJ2
  have hml:((List.range 16).map fun i=>if i<m then at0 D i+at0 S i else at0 D i).length=16:=by simp
  by_cases hlt:m<16
  ·refine cdt (by omega) ?_
   have hm0:at0 ((List.range 16).map fun i=>if i<m then at0 D i+at0 S i else at0 D i) m=at0 D m:=by
    rw [at0_get _ _ (by omega)]; simp
   refine ld_row (row_blk (w.blk 1 rfl)) m rfl hlt hml ?_
   refine ld_row (row_blk (w.blk 0 rfl)) m rfl hlt hS ?_
   rw [hm0,add_ui]
   refine M.vin (blk_put w 1 rfl m rfl hlt hml _ fun h16 w=>?_)
   refine M.vis ((m+1:Nat):Int) (by rw [IntKind.wrap_i64]; omega) ?_
   refine hJ2 _ _ ⟨m+1,by omega,rfl,?_⟩ (by omega)
   rw [fin_set D S hl m hlt] at w
   exact w
  ·refine cdf (by omega) ?_
   obtain rfl:m=16:=by omega
   refine M.sub_in 0 16 rfl rfl (by decide) (by decide) (by decide) ?_
   simp only [Nat.reduceAdd,Nat.reduceMul,Nat.reduceSub]
   have e:((List.range 16).map fun i=>if i<16 then at0 D i+at0 S i else at0 D i)=finL D S:=List.map_congr_left fun i hi=>if_pos (List.mem_range.1 hi)
   rw [e] at w
   refine FromLittle_spec (words_blk (us:=finL D S) (rest:=[]) (by rw [List.append_nil]; exact w.blk 1 rfl) (by simp [finL])) fun h16 k16=>?_
   exact k _ (w.keep.trans k16)
theorem shape_spec {Q:Bool→H→Prop} (hk:key.size=32) (hn:nonce.size=12) (k:Q true h):chacha_shape key nonce h Q:=by
 unfold chacha_shape
 refine M.jn ?_
 refine ct (by rw [hk]; rfl) ?_
 rw [hn]
 exact k
theorem Block_spec {Q:ByteArray→Int→H→Prop} (hk:key.size=32) (hn:nonce.size=12) (k:∀ h',Keep h h'→Q (blockT key nonce c) 0 h'):chacha_Block key nonce (ui c) h Q:=by
 unfold chacha_Block chacha_Block.g
 have w:=Wd.start h
 refine shape_spec (by assumption) (by assumption) ?_
 refine cf (rfl) ?_
 refine stream_spec (by assumption) (by assumption) fun h1 k_=>?_
 have w:=w.keeps k_
 clear k_
 exact k _ w.keep
end
end Go.Proofs.YthegnmanjdlmjaaGreatDoor

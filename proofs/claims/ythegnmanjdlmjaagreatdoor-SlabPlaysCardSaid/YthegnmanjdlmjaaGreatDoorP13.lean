/- Layer 17's rows: what the row's list gives, and what an act reads as. Layer 17's rows: what a claim asks of the program's text, fact by fact. The slab's law in plain words: whatever is done to the cells, a chunk is had as it was put, or an error is told. The document's poly: numbers byte by byte. The document's poly: sums and products. The document's poly: products, clamping. The document's poly: its tag is the program's. The document's aead is the program's. The document's slab: sealing, what is had, what is bad. The document's slab: a chunk that is had, which chunks are not. The document's slab: Prepare, the plain part. The document's slab: Prepare. A bank that has room, whatever is done to it. Layer 17's laws: a change of both slabs. -/
import Derived.Test.YthegnmanjdlmjaaGreatDoorP12
import Derived.Test.YthegnmanjdlmjaaGreatDoorCards
import Derived.Test.YthegnmanjdlmjaaGreatDoorTie
import Derived.OpenShut
import Derived.Deep.DeepHandedRow
import Derived.Lib.LaidTab
import Derived.Stop.LaidErr
import Derived.Test.YthegnmanjdlmjaaGreatDoorP09
set_option linter.unusedSimpArgs false
set_option linter.unusedVariables false
namespace Go.Proofs.YthegnmanjdlmjaaGreatDoor
open Go.Sh Go.RowKit Go.ChangeShapes Go.WideShapes Go.ChangeAt
theorem Tryz.own:ownKnob Tryz.prog.godebug=none:=by kernel_rfl
theorem Tryz.laidOut:laidOutB Tryz.prog=true:=by kernel_rfl
theorem row_of_tab {W:World} {name:String} {k:IntKind} {zs:List Int} {g:Nat} (h:Lib.TabIs Tryz.prog W name k zs) (hg:Tryz.prog.globalNamed name=some g):Sh.rowAt (hp W) ⟨g,0,none⟩ (zs.map (Value.int k)):=by
 intro i hi
 rw [List.length_map] at hi
 have:=h.cell hg i hi
 rw [addr_add,Nat.zero_add]
 rw [List.getElem?_map,List.getElem?_eq_getElem hi]
 have e:zs.getD i 0=zs[i]:=by simp [List.getD,hi]
 rw [e] at this
 exact this
theorem g_f0:Tryz.prog.globalNamed "cofferdam/sha.first" = some 0:=by kernel_rfl
theorem g_k1:Tryz.prog.globalNamed "cofferdam/sha.round" = some 1:=by kernel_rfl
theorem g_f2:Tryz.prog.globalNamed "cofferdam/cofferdamref05.first" = some 2:=by kernel_rfl
theorem g_k3:Tryz.prog.globalNamed "cofferdam/cofferdamref05.round" = some 3:=by kernel_rfl
theorem g_tz:Tryz.prog.globalNamed "math/bits.deBruijn64tab" = some 5:=by kernel_rfl
def u32s (l:List U):List Int:=l.map ui
theorem l_f0:(Rows.laid_cofferdam_sha_first:DataW Unit)=Lib.tabData .u32 (u32s S8.first.l):=by kernel_rfl
theorem l_k1:(Rows.laid_cofferdam_sha_round:DataW Unit)=Lib.tabData .u32 (u32s shaK):=by kernel_rfl
theorem l_f2:(Rows.laid_cofferdam_cofferdamref05_first:DataW Unit)=Lib.tabData .u32 (u32s S8.first.l):=by kernel_rfl
theorem l_k3:(Rows.laid_cofferdam_cofferdamref05_round:DataW Unit)=Lib.tabData .u32 (u32s shaK):=by kernel_rfl
theorem l_tz:(Rows.laid_math_bits_deBruijn64tab:DataW Unit)=Lib.tabData .u8 tzT:=by kernel_rfl
def tz32:List Int:=[0,1,28,2,29,14,24,3,30,22,20,15,25,17,4,8,31,27,13,23,21,19,16,7,26,12,18,6,11,5,10,9]
theorem u32_row (l:List U):(u32s l).map (Value.int .u32)=uvs l:=by rw [u32s,List.map_map]; rfl
theorem laid_tabs {W:World} (h:laidMetH Tryz.prog [("cofferdam/cofferdamref05.first",Rows.laid_cofferdam_cofferdamref05_first),("cofferdam/cofferdamref05.round",Rows.laid_cofferdam_cofferdamref05_round),("math/bits.deBruijn32tab",Rows.laid_math_bits_deBruijn32tab),("math/bits.deBruijn64tab",Rows.laid_math_bits_deBruijn64tab),("cofferdam/sha.first",Rows.laid_cofferdam_sha_first),("cofferdam/sha.round",Rows.laid_cofferdam_sha_round)] W):Tabs (hp W):=by
 have h:laidMet Tryz.prog [("cofferdam/cofferdamref05.first",Rows.laid_cofferdam_cofferdamref05_first),("cofferdam/cofferdamref05.round",Rows.laid_cofferdam_cofferdamref05_round),("math/bits.deBruijn32tab",Rows.laid_math_bits_deBruijn32tab),("math/bits.deBruijn64tab",Rows.laid_math_bits_deBruijn64tab),("cofferdam/sha.first",Rows.laid_cofferdam_sha_first),("cofferdam/sha.round",Rows.laid_cofferdam_sha_round)] W:=h
 rw [l_f0,l_k1,l_f2,l_k3,l_tz] at h
 have t2:=Lib.tabIs_of_head g_f2 (by kernel_rfl) Tryz.underlying204 Tryz.underlying178 (by kernel_rfl) (by kernel_rfl) h
 have h:=laidMet.tail h
 have t3:=Lib.tabIs_of_head g_k3 (by kernel_rfl) Tryz.underlying251 Tryz.underlying178 (by kernel_rfl) (by kernel_rfl) h
 have h:=laidMet.tail (laidMet.tail h)
 have t5:=Lib.tabIs_of_head g_tz (by kernel_rfl) Tryz.underlying310 Tryz.underlying5 (by kernel_rfl) (by kernel_rfl) h
 have h:=laidMet.tail h
 have t0:=Lib.tabIs_of_head g_f0 (by kernel_rfl) Tryz.underlying204 Tryz.underlying178 (by kernel_rfl) (by kernel_rfl) h
 have h:=laidMet.tail h
 have t1:=Lib.tabIs_of_head g_k1 (by kernel_rfl) Tryz.underlying251 Tryz.underlying178 (by kernel_rfl) (by kernel_rfl) h
 have r0:=row_of_tab t0 g_f0
 have r1:=row_of_tab t1 g_k1
 have r2:=row_of_tab t2 g_f2
 have r3:=row_of_tab t3 g_k3
 rw [u32_row] at r0 r1 r2 r3
 exact ⟨r0,r1,r2,r3,row_of_tab t5 g_tz⟩
theorem list_of {α:Type} {l:Nat} {R:Nat→α → Prop} (h:∀ i,i<l→∃ x,R i x):∃ xs:List α,xs.length=l∧∀ i x,xs[i]? = some x→R i x:=by
 induction l with
 | zero=>exact ⟨[],rfl,fun i x hx=>by simp at hx⟩
 | succ l ih=>
  obtain ⟨xs,hl,hr⟩:=ih fun i hi=>h i (by omega)
  obtain ⟨y,hy⟩:=h l (by omega)
  refine ⟨xs++[y],by simp [hl],fun i x hx=>?_⟩
  by_cases hi:i<xs.length
  ·rw [List.getElem?_append_left hi] at hx
   exact hr i x hx
  ·rw [List.getElem?_append_right (by omega)] at hx
   have:i-xs.length=0:=by
    have:=(List.getElem?_eq_some_iff.1 hx).1
    simp at this; omega
   rw [this] at hx
   simp only [List.getElem?_cons_zero,Option.some.injEq] at hx
   subst hx
   rw [show i=l by omega]; exact hy
noncomputable def laidWorld (os:Os):World:=
 let put (hp:Array Obj) (g:Nat) (vs:Array Value):Array Obj:=hp.modify g fun
   | .cells _ t frozen=>.cells vs t frozen
   | o=>o
 let w:=World.holding Tryz.prog os ⟨#[],#[],[]⟩
 { w with heap:=put (put (put (put (put (put w.heap 0 (uvs S8.first.l).toArray) 1 (uvs shaK).toArray) 2 (uvs S8.first.l).toArray) 3 (uvs shaK).toArray)
   4 (bvs tz32).toArray) 5 (bvs tzT).toArray }
end Go.Proofs.YthegnmanjdlmjaaGreatDoor
namespace Go.Proofs.YthegnmanjdlmjaaGreatDoor
open Go.Sh Go.RowKit Go.ChangeShapes Go.WideShapes Go.ChangeAt
theorem p3:mapsRowed Tryz.prog=true:=by kernel_rfl
theorem p7:(Tryz.prog.stops == [])=true:=by kernel_rfl
theorem p9:(Tryz.prog.stopKnobs == [])=true:=by kernel_rfl
theorem p22:(Rows.slabQuietRow.plainKeys == Tryz.prog.plainKeys)=true:=by kernel_rfl
theorem p23b:Tryz.prog.stopsHeard=true:=by kernel_rfl
theorem p24:Tryz.prog.mayEnter=true:=by kernel_rfl
theorem p24b:(Rows.slabQuietRow.lifted == Tryz.prog.liftsFinal)=true:=by kernel_rfl
theorem p24c:(Tryz.prog.make == some Rows.slabQuietRow.make)=true:=by kernel_rfl
theorem andt {a b:Bool} (h1:a=true) (h2:b=true):(a && b)=true:=by rw [h1,h2]; rfl
set_option maxRecDepth 100000 in
theorem facts_of {f:FuncId} {fn:Func} {s:ChangeSpec} {c:OpenClaim} (k1:c.wf (OpenSpec.ofChange s)=true) (k4:fn.params.all (Tryz.prog.readableRec ·)=true) (k5:namedTie Tryz.prog c.named s.vars=true) (k6:(c.stops == [])=true) (k8:(c.knobs == [])=true) (k10:(c.inPlace == Tryz.prog.inPlace f)=true) (k11:(c.unfollowed == Tryz.prog.unfollowed f)=true) (k12:(c.recurses == Tryz.prog.recurses f)=true) (k13:(c.named == Tryz.prog.varsNamed f)=true) (k14:(c.maps == (fn.params.toList++s.plain.varTypes Tryz.prog).any (Tryz.prog.mapsRec ·))=true) (k15:(c.ifaces == (fn.params.toList++s.plain.varTypes Tryz.prog).any (Tryz.prog.ifacesRec ·))=true) (k16:(c.mapsOut == Tryz.prog.mapsAmong fn.resultTypes.toList)=true) (k17:(c.loops == (fn.params.toList++s.plain.varTypes Tryz.prog).any (Tryz.prog.loopsFrom ·))=true) (k17b:(c.wideKeys == (fn.params.toList++s.plain.varTypes Tryz.prog++fn.resultTypes.toList).any (Tryz.prog.wideKeysFrom ·))=true) (k18:s.vars.all (Tryz.prog.varReadable ·)=true) (k19:fn.resultTypes.all (fun t=>Tryz.prog.readableRec t && decide (t<Tryz.prog.types.size))=true) (k20:(c.ifacesOut == fn.resultTypes.toList.any (Tryz.prog.ifacesRec ·))=true) (k21:(c.loopsOut == fn.resultTypes.toList.any (Tryz.prog.loopsFrom ·))=true) (e22:c.plainKeys=Rows.slabQuietRow.plainKeys) (k23:c.shortTexts.isNone=true) (e24b:c.lifted=Rows.slabQuietRow.lifted) (e24c:c.make=Rows.slabQuietRow.make) (k25:(c.kinds == (if c.domain.isEmpty then [] else fn.params.toList.map fun t=>match Tryz.prog.underlying t with | some (.int k)=>some k | _=>none))=true) (k26:(c.pinned == c.pinnedBy)=true) (k27:(c.veiled == (fn.params.toList++s.plain.varTypes Tryz.prog++fn.resultTypes.toList).any (Tryz.prog.veiledRec ·))=true) (k28:c.veiledFits Tryz.prog fn.params.toList (fn.params.toList++s.plain.varTypes Tryz.prog++fn.resultTypes.toList)=true):joinedFacts Tryz.prog f fn s c=true:=by
 have k2:=Tryz.laidOut
 have k3:=p3
 have k7:=p7
 have k9:=p9
 have k23b:=p23b
 have k24:=p24
 have k22:=p22
 have k24b:=p24b
 have k24c:=p24c
 rw [←e22] at k22
 rw [←e24b] at k24b
 rw [←e24c] at k24c
 unfold joinedFacts
 exact (andt (andt (andt (andt (andt (andt (andt (andt (andt (andt (andt (andt (andt (andt (andt (andt (andt (andt (andt (andt (andt (andt (andt (andt (andt (andt (andt (andt (andt (andt (andt k1 k2) k3) k4) k5) k6) k7) k8) k9) k10) k11) k12) k13) k14) k15) k16) k17) k17b) k18) k19) k20) k21) k22) k23) k23b) k24) k24b) k24c) k25) k26) k27) k28)
end Go.Proofs.YthegnmanjdlmjaaGreatDoor
namespace Go.Proofs.YthegnmanjdlmjaaGreatDoor
open Go.Sh Go.RowKit
def pre (k:UInt8) (t:ByteArray):ByteArray:=⟨#[k]⟩++t
section
variable {B B':BankM} {d n:Int} {top key:ByteArray} {s:Nat}
theorem tamper_facts (D:DiskM) (a:Int) (s:ByteArray):(D.tamper a s).2.dead=D.dead∧(D.tamper a s).2.N.length=D.N.length∧(D.tamper a s).2.W.length≤D.W.length ∧
  ((∀ t ∈ D.N,t.size≤2048)→(∀ t ∈ D.L,t.size≤2048)→(∀ p ∈ D.W,p.2.size≤2048)→(∀ t ∈ (D.tamper a s).2.N,t.size≤2048)∧(∀ t ∈ (D.tamper a s).2.L,t.size≤2048)∧∀ p ∈ (D.tamper a s).2.W,p.2.size≤2048):=by
 unfold DiskM.tamper
 split
 ·exact ⟨rfl,rfl,Nat.le_refl _,fun h1 h2 h3=>⟨h1,h2,h3⟩⟩
 ·rename_i h
  refine ⟨rfl,by simp,List.length_filter_le _ _,fun h1 h2 h3=>⟨set_size h1 (by omega),set_size h2 (by omega),fun p hp=>h3 p (List.mem_filter.1 hp).1⟩⟩
end
end Go.Proofs.YthegnmanjdlmjaaGreatDoor
namespace Go.Proofs.YthegnmanjdlmjaaGreatDoor
open Go.Sh Go.RowKit
def vl:List Int→Int
 | []=>0
 | x::r=>x+256*vl r
def Dg (l:List Int):Prop:=l.length=17∧∀ x ∈ l,0≤x∧x<256
def iA (l:List Int):Array Value:=(l.map (Value.int .i64)).toArray
def pw (k:Nat):Int:=((256 ^ k:Nat):Int)
theorem pw_succ (k:Nat):pw (k+1)=256*pw k:=by unfold pw; rw [Nat.pow_succ]; omega
theorem pw_zero:pw 0=1:=rfl
theorem pw_pos (k:Nat):0<pw k:=by
 have:0<256 ^ k:=Nat.pow_pos (by decide)
 unfold pw; omega
theorem vl_push (v:Int):∀ l:List Int,vl (l++[v])=vl l+v*pw l.length
 | []=>by simp [vl,pw_zero]
 | x::r=>by
  rw [List.cons_append,vl,vl,vl_push v r,List.length_cons,pw_succ,Int.mul_add,Int.mul_left_comm 256 v]
  omega
theorem vl_bnd:∀ {l:List Int},(∀ x ∈ l,0≤x∧x<256)→0≤vl l∧vl l<pw l.length
 | [],_=>⟨Int.le_refl _,by decide⟩
 | x::r,h=>by
  have h1:=h x (by simp)
  have h2:=vl_bnd (l:=r) fun y hy=>h y (by simp [hy])
  rw [vl,List.length_cons,pw_succ]
  omega
theorem take_next {l:List Int} {k:Nat} (h:k<l.length):vl (l.take (k+1))=vl (l.take k)+za l k*pw k:=by
 rw [za_get h,←List.take_append_getElem h,vl_push,List.length_take,Nat.min_eq_left (by omega)]
theorem take_set {l:List Int} {k:Nat} {v:Int} (h:k<l.length):vl ((l.set k v).take (k+1))=vl (l.take k)+v*pw k:=by
 have h':k<(l.set k v).length:=by rw [List.length_set]; exact h
 rw [take_next h',za_get h',List.getElem_set_self,List.take_set_of_le (Nat.le_refl _)]
theorem za_set {l:List Int} {k j:Nat} {v:Int} (h:k<l.length) (hj:j≠k):za (l.set k v) j=za l j:=by
 unfold za
 rw [List.getD_eq_getElem?_getD,List.getElem?_set_ne (fun e=>hj e.symm),List.getD_eq_getElem?_getD]
theorem Dg.za {l:List Int} (d:Dg l) (k:Nat):0≤za l k∧za l k<256:=by
 by_cases h:k<l.length
 ·rw [za_get h]; exact d.2 _ (List.getElem_mem h)
 ·unfold Go.Sh.za
  rw [List.getD_eq_getElem?_getD,List.getElem?_eq_none (by omega)]
  decide
theorem Dg.set {l:List Int} (d:Dg l) (k:Nat) {v:Int} (hv:0≤v∧v<256):Dg (l.set k v):=
 ⟨by rw [List.length_set]; exact d.1,fun x hx=>by
  rcases List.mem_or_eq_of_mem_set hx with hx | rfl
  ·exact d.2 x hx
  ·exact hv⟩
theorem Dg.bnd {l:List Int} (d:Dg l):0≤vl l∧vl l<pw 17:=by have:=vl_bnd d.2; rw [d.1] at this; exact this
def PI:Int:=1361129467683753853853498429727072845819
def pD:List Int:=[251,255,255,255,255,255,255,255,255,255,255,255,255,255,255,255,3]
theorem pD_za (k:Nat) (h:k<17):za pD k=if k=0 then 251 else if k=16 then 3 else 255:=by
 have:∀ k:Fin 17,za pD k.val=if k.val=0 then 251 else if k.val=16 then 3 else 255:=by decide
 exact this ⟨k,h⟩
theorem Dg.all {l:List Int} (d:Dg l):∃ a0 a1 a2 a3 a4 a5 a6 a7 a8 a9 a10 a11 a12 a13 a14 a15 a16,l=[a0,a1,a2,a3,a4,a5,a6,a7,a8,a9,a10,a11,a12,a13,a14,a15,a16]:=by
 have h:=d.1
 match l,h with
 | [a0,a1,a2,a3,a4,a5,a6,a7,a8,a9,a10,a11,a12,a13,a14,a15,a16],_=>exact ⟨_,_,_,_,_,_,_,_,_,_,_,_,_,_,_,_,_,rfl⟩
theorem low16 {l:List Int} (d:Dg l):0≤vl (l.take 16)∧vl (l.take 16)<340282366920938463463374607431768211456∧vl l=vl (l.take 16)+za l 16*340282366920938463463374607431768211456:=by
 have h1:=vl_bnd (l:=l.take 16) fun x hx=>d.2 x (List.mem_of_mem_take hx)
 have h2:=take_next (l:=l) (k:=16) (by rw [d.1]; decide)
 rw [List.length_take,d.1] at h1
 have h3:l.take 17=l:=List.take_of_length_le (by rw [d.1]; decide)
 have h4:pw 16=340282366920938463463374607431768211456:=by decide
 have h5:pw (min 16 17)=340282366920938463463374607431768211456:=by decide
 rw [h3,h4] at h2
 rw [h5] at h1
 exact ⟨h1.1,h1.2,h2⟩
theorem vl_gap:∀ {l:List Int},(∀ x ∈ l,0≤x∧x<256)→∀ i,i<l.length→za l i≠255→vl l+pw i<pw l.length
 | [],_,i,h,_=>by simp at h
 | x::r,h,0,_,hx=>by
  have h1:=h x (by simp)
  have hx:x≠255:=hx
  have h2:=vl_bnd (l:=r) fun y hy=>h y (by simp [hy])
  rw [vl,List.length_cons,pw_succ,pw_zero]
  omega
 | x::r,h,i+1,hi,hx=>by
  have h1:=h x (by simp)
  have h2:=vl_gap (l:=r) (fun y hy=>h y (by simp [hy])) i (by simpa using hi) hx
  rw [vl,List.length_cons,pw_succ,pw_succ]
  omega
theorem pw_ge {i:Nat} (h:1≤i):256≤pw i:=by
 obtain ⟨j,rfl⟩:∃ j,i=j+1:=⟨i-1,by omega⟩
 rw [pw_succ]
 have:=pw_pos j
 omega
theorem lt_of_gap {l:List Int} (d:Dg l) (h16:za l 16=3) {i:Nat} (h1:1≤i) (h2:i≤15) (hi:za l i≠255):vl l<PI:=by
 obtain ⟨a1,a2,a3⟩:=low16 d
 have hl:(l.take 16).length=16:=by rw [List.length_take,d.1]; rfl
 have e:za (l.take 16) i=za l i:=by
  unfold Go.Sh.za
  rw [List.getD_eq_getElem?_getD,List.getElem?_take,if_pos (by omega),List.getD_eq_getElem?_getD]
 have g:=vl_gap (l:=l.take 16) (fun x hx=>d.2 x (List.mem_of_mem_take hx)) i (by omega) (by rw [e]; exact hi)
 rw [hl] at g
 have h4:pw 16=340282366920938463463374607431768211456:=by decide
 have:=pw_ge h1
 rw [h16] at a3
 unfold PI
 omega
theorem vl_full {l:List Int} (d:Dg l) (h16:za l 16=3) (h:∀ j,1≤j→j≤15→za l j=255):vl l=za l 0-251+PI:=by
 obtain ⟨a0,a1,a2,a3,a4,a5,a6,a7,a8,a9,a10,a11,a12,a13,a14,a15,a16,rfl⟩:=d.all
 have e:∀ j:Nat,j<17→za [a0,a1,a2,a3,a4,a5,a6,a7,a8,a9,a10,a11,a12,a13,a14,a15,a16] j=[a0,a1,a2,a3,a4,a5,a6,a7,a8,a9,a10,a11,a12,a13,a14,a15,a16].getD j 0:=fun _ _=>rfl
 have f1:a1=255:=h 1 (by decide) (by decide)
 have f2:a2=255:=h 2 (by decide) (by decide)
 have f3:a3=255:=h 3 (by decide) (by decide)
 have f4:a4=255:=h 4 (by decide) (by decide)
 have f5:a5=255:=h 5 (by decide) (by decide)
 have f6:a6=255:=h 6 (by decide) (by decide)
 have f7:a7=255:=h 7 (by decide) (by decide)
 have f8:a8=255:=h 8 (by decide) (by decide)
 have f9:a9=255:=h 9 (by decide) (by decide)
 have f10:a10=255:=h 10 (by decide) (by decide)
 have f11:a11=255:=h 11 (by decide) (by decide)
 have f12:a12=255:=h 12 (by decide) (by decide)
 have f13:a13=255:=h 13 (by decide) (by decide)
 have f14:a14=255:=h 14 (by decide) (by decide)
 have f15:a15=255:=h 15 (by decide) (by decide)
 have f16:a16=3:=h16
 show vl _ = a0-251+PI
 simp only [vl,f1,f2,f3,f4,f5,f6,f7,f8,f9,f10,f11,f12,f13,f14,f15,f16,PI]
 omega
section
variable {h0 h:H} {L:List Chunk} {b:Nat} {l:List Int}
theorem iA_size (l:List Int):(iA l).size=l.length:=by simp [iA]
theorem iA_get {i:Nat} (h:i<l.length):(iA l)[i]? = some (.int .i64 (za l i)):=by simp [iA,za_get h,h]
theorem iA_set (l:List Int) (i:Nat) (v:Int):(iA l).setIfInBounds i (.int .i64 v)=iA (l.set i v):=by simp [iA,List.map_set]
theorem ldN {e:TypeId} {f:Nat × Nat} {z:Int} {j:Nat} {K:Int→Prop} (hb:h b=some (.cells (iA l) e f)) (hl:l.length=17) (hz:z=(j:Int)) (hj:j<17) (k:K (za l j)):M.aidx 17 z fun j=>M.load h (Addr.add ⟨b,0,none⟩ (j*1)) fun v=>M.int .i64 v K:=by
 subst hz
 refine ⟨by omega,by omega,?_⟩
 simp only [Int.toNat_natCast,Nat.mul_one,addr_add,Nat.zero_add]
 rw [load_eq,cell_in hb,iA_get (by omega)]
 simp only [some_and,int_eq]
 exact k
theorem putN {e:TypeId} {z v:Int} {i j:Nat} {K:H→Prop} (w:Wd h0 h L) (hi:L[i]? = some (.blk b (.cells (iA l) e (0,0)))) (hl:l.length=17) (hz:z=(j:Int)) (hj:j<17) (k:∀ h',Wd h0 h' (L.set i (.blk b (.cells (iA (l.set j v)) e (0,0))))→K h'):
  M.aidx 17 z fun j=>M.put h (Addr.add ⟨b,0,none⟩ (j*1)) (.int .i64 v) K:=by
 subst hz
 refine ⟨by omega,by omega,?_⟩
 simp only [Int.toNat_natCast,Nat.mul_one,addr_add,Nat.zero_add]
 refine M.put_w w i hi rfl (by rw [iA_size]; omega) fun h' w'=>?_
 rw [iA_set] at w'
 exact k _ w'
theorem rowN {e:TypeId} {K:List Value→Prop} (hb:h b=some (.cells (iA l) e (0,0))) (hl:l.length=17) (k:K (l.map (Value.int .i64))):M.row h ⟨b,0,none⟩ 17 K:=by
 refine M.row_all hb (by rw [iA_size,hl]) ?_
 exact k
end
theorem rBelow {h:H} {l:List Int} {Q:Bool→H→Prop} (d:Dg l) (k:∀ h',Keep h h'→Q (decide (vl l<PI)) h'):ref07_below (iA l) h Q:=by
 unfold ref07_below
 have w:=Wd.start h
 refine M.new_w w fun b2 h3 w=>?_
 have hb:=w.blk 0 rfl
 refine ldN hb d.1 rfl (j:=16) (by decide) ?_
 obtain ⟨a1,a2,a3⟩:=low16 d
 have z16:=d.za 16
 by_cases h16:za l 16=3
 ·refine cf (by rw [h16]; rfl) ?_
  refine M.jn ?_
  refine M.loop_of (I:=fun (i:Int) h'=>∃ m:Nat,i=(m:Int)∧m≤15∧h'=h3∧∀ j,m<j→j≤15→za l j=255) (μ:=fun i=>i.toNat) ⟨15,rfl,by omega,rfl,fun j h1 h2=>by omega⟩ ?_
  rintro _ _ J ⟨m,rfl,hm,rfl,hall⟩ hJ
  by_cases h1:1≤m
  ·refine cdt (by omega) ?_
   refine ldN hb d.1 rfl (by omega) ?_
   by_cases e:za l m=255
   ·refine cf (by rw [e]; rfl) ?_
    refine M.vis ((m-1:Nat):Int) (by rw [IntKind.wrap_i64]; omega) ?_
    refine hJ _ _ ⟨m-1,rfl,by omega,rfl,fun j g1 g2=>?_⟩ (by omega)
    by_cases ej:j=m
    ·rw [ej]; exact e
    ·exact hall j (by omega) g2
   ·refine ct (by rw [bne_iff_ne]; exact e) ?_
    have:=lt_of_gap d h16 h1 hm e
    rw [decide_eq_true this] at k
    exact k _ w.keep
  ·refine cdf (by omega) ?_
   refine ldN hb d.1 rfl (j:=0) (by decide) ?_
   have:=vl_full d h16 fun j g1 g2=>hall j (by omega) g2
   have e:decide (za l 0<251)=decide (vl l<PI):=by rw [decide_eq_decide]; omega
   rw [e]
   exact k _ w.keep
 ·refine ct (by rw [bne_iff_ne]; exact h16) ?_
  refine ldN hb d.1 rfl (j:=16) (by decide) ?_
  have e:decide (za l 16<3)=decide (vl l<PI):=by
   rw [decide_eq_decide]
   unfold PI
   omega
  rw [e]
  exact k _ w.keep
end Go.Proofs.YthegnmanjdlmjaaGreatDoor
namespace Go.Proofs.YthegnmanjdlmjaaGreatDoor
open Go.Sh Go.RowKit
theorem iA_zero:Array.replicate 17 (Value.int .i64 0)=iA (List.replicate 17 0):=rfl
theorem dg_zero:Dg (List.replicate 17 0):=⟨rfl,fun x hx=>by rw [List.eq_of_mem_replicate hx]; decide⟩
theorem vl_zero:vl (List.replicate 17 0)=0:=by decide
theorem iA_plain (l:List Int):∀ v ∈ (l.map (Value.int .i64)),isPlainCell v=true:=by
 intro v hv
 obtain ⟨x,_,rfl⟩:=List.mem_map.1 hv
 rfl
theorem pw17:pw 17=87112285931760246646623899502532662132736:=by decide
theorem keep_za {l l2:List Int} {kk:Nat} {v:Int} (h:kk<l2.length) (hj:∀ j,kk≤j→j<17→za l2 j=za l j):∀ j,kk+1≤j→j<17→za (l2.set kk v) j=za l j:=fun j h1 h2=>by
 rw [za_set h (by omega)]
 exact hj j (by omega) h2
theorem sub_step {x y z t a p b m:Int} (h:x=y-z+b*m) (hv:t=a-p-b):x+t*m=y+a*m-(z+p*m):=by
 subst hv
 rw [h,Int.sub_mul,Int.sub_mul]
 omega
theorem sub_step2 {x y z t a p b m:Int} (h:x=y-z+b*m) (hv:t=a-p-b+256):x+t*m=y+a*m-(z+p*m)+256*m:=by
 subst hv
 rw [h,Int.add_mul,Int.sub_mul,Int.sub_mul]
 omega
section
variable {h:H} {l a b:List Int} {Q:Array Value→H→Prop}
theorem rLess (d:Dg l) (hl:vl l<64*PI) (k:∀ l' h',Keep h h'→Dg l'→vl l'=vl l % PI→Q (iA l') h'):ref07_less (iA l) h Q:=by
 unfold ref07_less ref07_less.g
 have w:=Wd.start h
 refine M.new_w w fun b2 h3 w=>?_
 refine M.new_w w fun b4 h5 w=>?_
 rw [iA_zero] at w
 try simp only [bs] at w
 refine M.loop_of (I:=fun (i:Int) h'=>∃ (m:Nat) (l':List Int),i=(m:Int)∧m≤64∧Dg l'∧vl l'=vl l-m*PI∧Wd h h' [.blk b2 (.cells (iA l') 323),.blk b4 (.cells (iA (List.replicate 17 0)) 323)]) (μ:=fun i=>(64-i).toNat) ⟨0,l,rfl,by omega,d,by omega,w⟩ ?_
 clear w
 rintro _ h6 J ⟨m,l',rfl,hm,d',hv,w⟩ hJ
 have hb':=d'.bnd
 by_cases hlt:m<64
 ·refine cdt (by omega) ?_
  have v1:IntKind.wrap .i64 ((m:Int)+1)=((m+1:Nat):Int):=by rw [IntKind.wrap_i64]; omega
  refine M.join_of (fun _ h'=>∃ l2,Dg l2∧vl l2=vl l'-PI∧Wd h h' [.blk b2 (.cells (iA l2) 323),.blk b4 (.cells (iA (List.replicate 17 0)) 323)]) (fun J9 hJ9=>?_) ?_
  ·refine rowN (w.blk 0 rfl) d'.1 ?_
   refine rBelow d' fun h7 kk=>?_
   have w:=w.keeps kk
   clear kk
   by_cases hlow:vl l'<PI
   ·refine ct (decide_eq_true hlow) ?_
    refine rowN (w.blk 0 rfl) d'.1 ?_
    refine ⟨by simp [d'.1],?_⟩
    refine M.puts_w0 w 1 rfl (iA_plain l') (by simp [d'.1,iA_size]) fun h8 w=>?_
    refine rowN (l:=l') (w.blk 1 rfl) d'.1 ?_
    refine k l' _ w.keep d' ?_
    rw [hv]
    have:vl l=(vl l-m*PI)+m*PI:=by omega
    rw [this,Int.add_mul_emod_self_right]
    rw [Int.add_sub_cancel,Int.emod_eq_of_lt (by omega) (by omega)]
   ·refine cf (decide_eq_false hlow) ?_
    refine M.loop_of (I:=fun (p:Int × Int) h'=>∃ (kk:Nat) (l2:List Int),p.2=(kk:Int)∧kk≤17∧(p.1=0∨p.1=1)∧Dg l2∧vl (l2.take kk)=vl (l'.take kk)-vl (pD.take kk)+p.1*pw kk∧(∀ j,kk≤j→j<17→za l2 j=za l' j)∧Wd h h' [.blk b2 (.cells (iA l2) 323),.blk b4 (.cells (iA (List.replicate 17 0)) 323)]) (μ:=fun p=>(17-p.2).toNat)
     ⟨0,l',rfl,by omega,.inl rfl,d',by simp [vl],fun _ _ _=>rfl,w⟩ ?_
    clear w
    rintro ⟨c,_⟩ h7 J3 ⟨kk,l2,hk,hk17,hc,d2,hs,hz,w⟩ hJ3
    simp only at hk hc hs ⊢
    subst hk
    by_cases hkl:kk<17
    ·refine cdt (by omega) ?_
     have hpd:=pD_za kk hkl
     refine M.join_of (fun (p:Int) h'=>(kk≠16→p=za pD kk)∧Wd h h' [.blk b2 (.cells (iA l2) 323),.blk b4 (.cells (iA (List.replicate 17 0)) 323)]) (fun J4 hJ4=>?_) ?_
     ·refine cc (fun e=>hJ4 _ _ ⟨fun hn=>?_,w⟩) fun e=>hJ4 _ _ ⟨fun hn=>?_,w⟩
      ·have e:=beq_iff_eq.1 e
       rw [hpd,if_pos (by omega)]
      ·have e:=beq_eq_false_iff_ne.1 e
       rw [hpd,if_neg (by omega),if_neg hn]
     clear w
     rintro p h8 ⟨hp,w⟩
     refine M.join_of (fun (p:Int) h'=>p=za pD kk∧Wd h h' [.blk b2 (.cells (iA l2) 323),.blk b4 (.cells (iA (List.replicate 17 0)) 323)]) (fun J4 hJ4=>?_) ?_
     ·refine cc (fun e=>hJ4 _ _ ⟨?_,w⟩) fun e=>hJ4 _ _ ⟨?_,w⟩
      ·have e:=beq_iff_eq.1 e
       rw [hpd,if_neg (by omega),if_pos (by omega)]
      ·have e:=beq_eq_false_iff_ne.1 e
       exact hp (by omega)
     clear w
     rintro _ h9 ⟨rfl,w⟩
     refine ldN (w.blk 0 rfl) d2.1 rfl hkl ?_
     have z1:=d2.za kk
     have z2:0≤za pD kk∧za pD kk<256:=by rw [hpd]; split <;> (try split) <;> omega
     have hl2:kk<l2.length:=by rw [d2.1]; exact hkl
     have hl1:kk<l'.length:=by rw [d'.1]; exact hkl
     refine M.vis (za l2 kk-za pD kk) (by rw [IntKind.wrap_i64]; omega) ?_
     refine M.vis (za l2 kk-za pD kk-c) (by rw [IntKind.wrap_i64]; omega) ?_
     have v3:IntKind.wrap .i64 ((kk:Int)+1)=((kk+1:Nat):Int):=by rw [IntKind.wrap_i64]; omega
     have t1:=take_next hl1
     have t2:=take_next (l:=pD) (k:=kk) (by exact hkl)
     have t3:=hz kk (Nat.le_refl _) hkl
     refine M.join_of (fun (q:Int × Int) h'=>(q.1=0∨q.1=1)∧(0≤q.2∧q.2<256)∧vl (l2.take kk)+q.2*pw kk=vl (l'.take (kk+1))-vl (pD.take (kk+1))+q.1*pw (kk+1)∧Wd h h' [.blk b2 (.cells (iA l2) 323),.blk b4 (.cells (iA (List.replicate 17 0)) 323)]) (fun J4 hJ4=>?_) ?_
     ·refine cd (fun e=>?_) fun e=>?_
      ·refine M.vis (za l2 kk-za pD kk-c+256) (by rw [IntKind.wrap_i64]; omega) (hJ4 _ _ ⟨.inr rfl,by simp only; omega,?_,w⟩)
       rw [t1,t2,pw_succ,←t3,Int.one_mul]
       exact sub_step2 hs rfl
      ·refine hJ4 _ _ ⟨.inl rfl,by simp only; omega,?_,w⟩
       rw [t1,t2,←t3,Int.zero_mul,Int.add_zero]
       exact sub_step hs rfl
     clear w
     rintro ⟨c2,v⟩ h10 ⟨hc2,hv2,hs2,w⟩
     simp only at hc2 hv2 hs2 ⊢
     refine putN w (i:=0) rfl d2.1 rfl hkl fun h8 w=>?_
     refine M.vis _ v3 (hJ3 _ _ ⟨kk+1,l2.set kk v,rfl,by omega,hc2,d2.set kk hv2,?_,keep_za hl2 hz,w⟩ (by simp only; omega))
     rw [take_set hl2]
     exact hs2
    ·refine cdf (by omega) ?_
     obtain rfl:kk=17:=by omega
     have e1:l2.take 17=l2:=List.take_of_length_le (by rw [d2.1]; decide)
     have e2:l'.take 17=l':=List.take_of_length_le (by rw [d'.1]; decide)
     have e3:vl (pD.take 17)=PI:=by decide
     rw [e1,e2,e3] at hs
     have hb2:=d2.bnd
     refine hJ9 _ _ ⟨l2,d2,?_,w⟩
     rcases hc with rfl | rfl <;> omega
  clear w
  rintro _ h7 ⟨l2,d2,hv2,w⟩
  refine M.vis _ v1 (hJ _ _ ⟨m+1,l2,rfl,by omega,d2,?_,w⟩ (by omega))
  rw [hv2,hv]
  have:((m+1:Nat):Int)*PI=m*PI+PI:=by rw [Int.natCast_add,Int.add_mul]; simp
  omega
 ·obtain rfl:m=64:=by omega
  omega
theorem rSum (da:Dg a) (db:Dg b) (hl:vl a+vl b<64*PI) (k:∀ l' h',Keep h h'→Dg l'→vl l'=(vl a+vl b) % PI→Q (iA l') h'):ref07_sum (iA a) (iA b) h Q:=by
 unfold ref07_sum ref07_sum.g
 have w:=Wd.start h
 refine M.new_w w fun b2 h3 w=>?_
 refine M.new_w w fun b4 h5 w=>?_
 refine M.new_w w fun b6 h7 w=>?_
 rw [iA_zero] at w
 try simp only [bs] at w
 refine M.join_of (fun _ h'=>∃ l2,Dg l2∧vl l2=vl a+vl b∧Wd h h' [.blk b2 (.cells (iA l2) 323),.blk b4 (.cells (iA b) 323),.blk b6 (.cells (iA (List.replicate 17 0)) 323)]) (fun J hJ=>?_) ?_
 ·refine M.loop_of (I:=fun (p:Int × Int) h'=>∃ (kk:Nat) (l2:List Int),p.2=(kk:Int)∧kk≤17∧(p.1=0∨p.1=1)∧Dg l2∧vl (l2.take kk)+p.1*pw kk=vl (a.take kk)+vl (b.take kk)∧(∀ j,kk≤j→j<17→za l2 j=za a j)∧Wd h h' [.blk b2 (.cells (iA l2) 323),.blk b4 (.cells (iA b) 323),.blk b6 (.cells (iA (List.replicate 17 0)) 323)]) (μ:=fun p=>(17-p.2).toNat)
   ⟨0,a,rfl,by omega,.inl rfl,da,by simp [vl],fun _ _ _=>rfl,w⟩ ?_
  clear w
  rintro ⟨c,_⟩ h7 J3 ⟨kk,l2,hk,hk17,hc,d2,hs,hz,w⟩ hJ3
  simp only at hk hc hs ⊢
  subst hk
  by_cases hkl:kk<17
  ·refine cdt (by omega) ?_
   have z1:=d2.za kk
   have z2:=db.za kk
   have hl2:kk<l2.length:=by rw [d2.1]; exact hkl
   refine ldN (w.blk 0 rfl) d2.1 rfl hkl ?_
   refine M.vis (c+za l2 kk) (by rw [IntKind.wrap_i64]; omega) ?_
   refine ldN (w.blk 1 rfl) db.1 rfl hkl ?_
   refine M.vis (c+za l2 kk+za b kk) (by rw [IntKind.wrap_i64]; omega) ⟨by decide,?_⟩
   have hm:Int.tmod (c+za l2 kk+za b kk) 256=(c+za l2 kk+za b kk) % 256:=Int.tmod_eq_emod_of_nonneg (by omega)
   have hd:Int.tdiv (c+za l2 kk+za b kk) 256=(c+za l2 kk+za b kk) / 256:=Int.tdiv_eq_ediv_of_nonneg (by omega)
   refine M.vis _ hm ?_
   refine putN w (i:=0) rfl d2.1 rfl hkl fun h8 w=>⟨by decide,?_⟩
   refine M.vis ((c+za l2 kk+za b kk) / 256) (by rw [hd,IntKind.wrap_i64]; omega) ?_
   refine M.vis ((kk+1:Nat):Int) (by rw [IntKind.wrap_i64]; omega) ?_
   refine hJ3 _ _ ⟨kk+1,_,rfl,by omega,by simp only; omega,d2.set kk (by omega),?_,keep_za hl2 hz,w⟩ (by simp only; omega)
   have t1:=take_next (l:=a) (k:=kk) (by rw [da.1]; exact hkl)
   have t2:=take_next (l:=b) (k:=kk) (by rw [db.1]; exact hkl)
   have t3:=hz kk (Nat.le_refl _) hkl
   rw [take_set hl2,t1,t2,←t3,pw_succ]
   simp only
   have e:(c+za l2 kk+za b kk) % 256*pw kk+(c+za l2 kk+za b kk) / 256*(256*pw kk)=c*pw kk+za l2 kk*pw kk+za b kk*pw kk:=by
    rw [←Int.mul_assoc,←Int.add_mul,Int.mul_comm ((c+za l2 kk+za b kk) / 256) 256,Int.emod_add_mul_ediv,Int.add_mul,Int.add_mul]
   omega
  ·refine cdf (by omega) ?_
   obtain rfl:kk=17:=by omega
   have e1:l2.take 17=l2:=List.take_of_length_le (by rw [d2.1]; decide)
   have e2:a.take 17=a:=List.take_of_length_le (by rw [da.1]; decide)
   have e3:b.take 17=b:=List.take_of_length_le (by rw [db.1]; decide)
   rw [e1,e2,e3,pw17] at hs
   have hb2:=d2.bnd
   unfold PI at hl
   refine hJ _ _ ⟨l2,d2,?_,w⟩
   rcases hc with rfl | rfl <;> omega
 clear w
 rintro _ h7 ⟨l2,d2,hv2,w⟩
 refine rowN (w.blk 0 rfl) d2.1 ?_
 refine rLess d2 (by omega) fun l3 h8 kk d3 hv3=>?_
 have w:=w.keeps kk
 refine ⟨by rw [iA_size]; exact d3.1,?_⟩
 refine M.puts_w0 w 2 rfl (by simpa [iA] using iA_plain l3) (by simp [iA_size,d3.1]) fun h9 w=>?_
 refine rowN (l:=l3) (w.blk 2 rfl) d3.1 ?_
 exact k l3 _ w.keep d3 (by rw [hv3,hv2])
end
end Go.Proofs.YthegnmanjdlmjaaGreatDoor
namespace Go.Proofs.YthegnmanjdlmjaaGreatDoor
open Go.Sh Go.RowKit
theorem bits8 (bk:Nat) (hb:bk<256):∀ i,i<8→0<128 / 2 ^ i∧128 / 2 ^ i≤128∧128 / 2 ^ (i+1)=128 / 2 ^ i / 2∧bk / 2 ^ (8-(i+1))=bk / (128 / 2 ^ i)∧bk / 2 ^ (8-i)=bk / (128 / 2 ^ i) / 2∧bk / (128 / 2 ^ i)<256
 | 0,_=>⟨by decide,by decide,by decide,rfl,by show bk / 256=bk / 128 / 2; omega,by show bk / 128<256; omega⟩
 | 1,_=>⟨by decide,by decide,by decide,rfl,by show bk / 128=bk / 64 / 2; omega,by show bk / 64<256; omega⟩
 | 2,_=>⟨by decide,by decide,by decide,rfl,by show bk / 64=bk / 32 / 2; omega,by show bk / 32<256; omega⟩
 | 3,_=>⟨by decide,by decide,by decide,rfl,by show bk / 32=bk / 16 / 2; omega,by show bk / 16<256; omega⟩
 | 4,_=>⟨by decide,by decide,by decide,rfl,by show bk / 16=bk / 8 / 2; omega,by show bk / 8<256; omega⟩
 | 5,_=>⟨by decide,by decide,by decide,rfl,by show bk / 8=bk / 4 / 2; omega,by show bk / 4<256; omega⟩
 | 6,_=>⟨by decide,by decide,by decide,rfl,by show bk / 4=bk / 2 / 2; omega,by show bk / 2<256; omega⟩
 | 7,_=>⟨by decide,by decide,by decide,rfl,by show bk / 2=bk / 1 / 2; omega,by show bk / 1<256; omega⟩
 | n+8,h=>by omega
theorem drop_next {l:List Int} {m:Nat} (h:m<l.length):vl (l.drop m)=za l m+256*vl (l.drop (m+1)):=by
 rw [List.drop_eq_getElem_cons h,vl,za_get h]
theorem PI_pos:0<PI:=by decide
section
variable {h:H} {a b:List Int} {Q:Array Value→H→Prop}
def parT (V:Int) (bk i:Nat):Int:=V*((2 ^ i:Nat):Int)+((bk / 2 ^ (8-i):Nat):Int)
theorem rProduct (da:Dg a) (db:Dg b) (ha:vl a<PI) (k:∀ l' h',Keep h h'→Dg l'→vl l'=(vl b*vl a) % PI→Q (iA l') h'):ref07_product (iA a) (iA b) h Q:=by
 unfold ref07_product ref07_product.g
 have w:=Wd.start h
 have ha0:=da.bnd
 have hpp:=PI_pos
 refine M.new_w w fun b2 h3 w=>?_
 refine M.new_w w fun b4 h5 w=>?_
 refine M.new_w w fun b6 h7 w=>?_
 refine M.new_w w fun b8 h9 w=>?_
 rw [iA_zero] at w
 try simp only [bs] at w
 refine M.loop_of (I:=fun (i:Int) h'=>∃ (m:Nat) (lo:List Int),i=(m:Int)-1∧m≤17∧Dg lo∧vl lo=(vl (b.drop m)*vl a) % PI∧Wd h h' [.blk b2 (.cells (iA a) 323),.blk b4 (.cells (iA b) 323),.blk b6 (.cells (iA (List.replicate 17 0)) 323),.blk b8 (.cells (iA lo) 323)]) (μ:=fun i=>(i+1).toNat)
  ⟨17,_,rfl,by omega,dg_zero,by rw [vl_zero,List.drop_of_length_le (by rw [db.1]; decide),vl,Int.zero_mul]; rfl,w⟩ ?_
 clear w
 rintro _ h10 J ⟨m,lo,rfl,hm,d,hv,w⟩ hJ
 by_cases h1:1≤m
 ·refine cdt (by omega) ?_
  obtain ⟨q,rfl⟩:∃ q,m=q+1:=⟨m-1,by omega⟩
  have zq:=db.za q
  obtain ⟨bk,hbk⟩:∃ bk:Nat,za b q=(bk:Int):=⟨(za b q).toNat,by omega⟩
  have hb256:bk<256:=by omega
  refine M.join_of (fun _ h'=>∃ lo,Dg lo∧vl lo=(vl (b.drop q)*vl a) % PI∧Wd h h' [.blk b2 (.cells (iA a) 323),.blk b4 (.cells (iA b) 323),.blk b6 (.cells (iA (List.replicate 17 0)) 323),.blk b8 (.cells (iA lo) 323)]) (fun J1 hJ1=>?_) ?_
  ·refine M.loop_of (I:=fun (p:Int × Int) h'=>∃ (i:Nat) (lo:List Int),p.2=(i:Int)∧i≤8∧p.1=((128 / 2 ^ i:Nat):Int)∧Dg lo∧vl lo=(parT (vl (b.drop (q+1))) bk i*vl a) % PI∧Wd h h' [.blk b2 (.cells (iA a) 323),.blk b4 (.cells (iA b) 323),.blk b6 (.cells (iA (List.replicate 17 0)) 323),.blk b8 (.cells (iA lo) 323)]) (μ:=fun p=>(8-p.2).toNat)
    ⟨0,lo,rfl,by omega,rfl,d,?_,w⟩ ?_
   ·have:bk / 2 ^ (8-0)=0:=Nat.div_eq_of_lt (by omega)
    rw [hv,parT,this,Nat.pow_zero]
    simp
   clear w hv d lo
   rintro ⟨_,_⟩ h11 J3 ⟨i,lo,hi,hi8,hp,d,hv,w⟩ hJ3
   simp only at hi hp ⊢
   subst hi hp
   by_cases hlt:i<8
   ·refine cdt (by omega) ?_
    obtain ⟨p0,p1,p2,p3,p4,p5⟩:=bits8 bk hb256 i hlt
    obtain ⟨P,hP⟩:∃ P,128 / 2 ^ i=P:=⟨_,rfl⟩
    rw [hP] at p0 p1 p2 p3 p4 p5 ⊢
    obtain ⟨u,hu⟩:∃ u,bk / P=u:=⟨_,rfl⟩
    rw [hu] at p3 p4 p5
    have hlo:vl lo<PI:=by rw [hv]; exact Int.emod_lt_of_pos _ hpp
    refine rowN (w.blk 3 rfl) d.1 ?_
    refine rowN (w.blk 3 rfl) d.1 ?_
    refine rSum d d (by omega) fun l3 h12 kk d3 hv3=>?_
    have w:=w.keeps kk
    clear kk
    refine ⟨by rw [iA_size]; exact d3.1,?_⟩
    refine M.puts_w0 w 3 rfl (by simpa [iA] using iA_plain l3) (by simp [iA_size,d3.1,d.1]) fun h13 w=>?_
    have w:Wd h h13 [.blk b2 (.cells (iA a) 323),.blk b4 (.cells (iA b) 323),.blk b6 (.cells (iA (List.replicate 17 0)) 323),.blk b8 (.cells (iA l3) 323)]:=w
    have hl3:vl l3<PI:=by rw [hv3]; exact Int.emod_lt_of_pos _ hpp
    have e2:vl l3=(2*parT (vl (b.drop (q+1))) bk i*vl a) % PI:=by
     rw [hv3,hv,←Int.add_emod]
     congr 1
     rw [Int.mul_assoc]
     omega
    have e3:parT (vl (b.drop (q+1))) bk (i+1)=2*parT (vl (b.drop (q+1))) bk i+((u % 2:Nat):Int):=by
     rw [parT,parT,p3,p4,Nat.pow_succ]
     have:vl (b.drop (q+1))*((2 ^ i*2:Nat):Int)=2*(vl (b.drop (q+1))*((2 ^ i:Nat):Int)):=by
      rw [Int.natCast_mul,←Int.mul_assoc]; omega
     rw [this]
     omega
    have v2:IntKind.wrap .i64 (Int.tdiv (P:Int) 2)=((P / 2:Nat):Int):=by
     rw [Int.tdiv_eq_ediv_of_nonneg (by omega),IntKind.wrap_i64]; omega
    have v3:IntKind.wrap .i64 ((i:Int)+1)=((i+1:Nat):Int):=by rw [IntKind.wrap_i64]; omega
    have v4:IntKind.wrap .i64 (Int.tdiv (za b q) (P:Int))=((u:Nat):Int):=by
     rw [hbk,Int.tdiv_eq_ediv_of_nonneg (by omega),IntKind.wrap_i64]
     have:(bk:Int) / (P:Int)=((bk / P:Nat):Int):=rfl
     rw [this,hu]
     omega
    have v5:Int.tmod ((u:Nat):Int) 2=((u % 2:Nat):Int):=by rw [Int.tmod_eq_emod_of_nonneg (by omega)]; rfl
    refine M.join_of (fun _ h'=>∃ lo,Dg lo∧vl lo=(parT (vl (b.drop (q+1))) bk (i+1)*vl a) % PI∧Wd h h' [.blk b2 (.cells (iA a) 323),.blk b4 (.cells (iA b) 323),.blk b6 (.cells (iA (List.replicate 17 0)) 323),.blk b8 (.cells (iA lo) 323)]) (fun J4 hJ4=>?_) ?_
    ·refine ldN (j:=q) (w.blk 1 rfl) db.1 (by omega) (by omega) ⟨by omega,M.vis _ v4 ⟨by decide,M.vis _ v5 ?_⟩⟩
     by_cases hbit:u % 2=1
     ·refine ct (by rw [hbit]; rfl) ?_
      refine rowN (w.blk 3 rfl) d3.1 ?_
      refine rowN (w.blk 0 rfl) da.1 ?_
      refine rSum d3 da (by omega) fun l4 h14 kk d4 hv4=>?_
      have w:=w.keeps kk
      refine ⟨by rw [iA_size]; exact d4.1,?_⟩
      refine M.puts_w0 w 3 rfl (by simpa [iA] using iA_plain l4) (by simp [iA_size,d4.1,d3.1]) fun h15 w=>?_
      refine hJ4 _ _ ⟨l4,d4,?_,w⟩
      rw [hv4,e2,Int.emod_add_emod,e3,hbit,Int.add_mul]
      congr 1
      simp
     ·refine cf (by rw [beq_eq_false_iff_ne]; omega) ?_
      refine hJ4 _ _ ⟨l3,d3,?_,w⟩
      have h0:u % 2=0:=by omega
      rw [e2,e3,h0]
      simp
    ·clear w
     rintro _ h14 ⟨l4,d4,hv4,w⟩
     refine ⟨by decide,M.vis _ v2 (M.vis _ v3 (hJ3 _ _ ⟨i+1,l4,rfl,by omega,?_,d4,hv4,w⟩ (by simp only; omega)))⟩
     rw [p2]
   ·refine cdf (by omega) ?_
    obtain rfl:i=8:=by omega
    refine hJ1 _ _ ⟨lo,d,?_,w⟩
    rw [hv,drop_next (l:=b) (m:=q) (by rw [db.1]; omega),hbk]
    have e:parT (vl (b.drop (q+1))) bk 8=(bk:Int)+256*vl (b.drop (q+1)):=by
     have e1:bk / 2 ^ (8-8)=bk:=Nat.div_one bk
     have e2:((2 ^ 8:Nat):Int)=256:=rfl
     rw [parT,e1,e2]; omega
    rw [e]
  ·clear w
   rintro _ h11 ⟨l4,d4,hv4,w⟩
   refine M.vis ((q:Int)-1) (by rw [IntKind.wrap_i64]; omega) (hJ _ _ ⟨q,l4,rfl,by omega,d4,hv4,w⟩ (by omega))
 ·refine cdf (by omega) ?_
  obtain rfl:m=0:=by omega
  refine rowN (w.blk 3 rfl) d.1 ?_
  refine ⟨by simp [d.1],?_⟩
  refine M.puts_w0 w 2 rfl (by simpa using iA_plain lo) (by simp [iA_size,d.1]) fun h11 w=>?_
  refine rowN (l:=lo) (w.blk 2 rfl) d.1 ?_
  exact k lo _ w.keep d hv
end
section
variable {h:H} {r:ByteArray}
theorem rClamp {Q:ByteArray→Int→H→Prop} (hr:r.size=16) (k:∀ h',Keep h h'→Q (clampT r) 0 h'):ref07_Clamp r h Q:=by
 unfold ref07_Clamp
 refine cf (by rw [hr]; rfl) ?_
 refine M.s2b_w (Wd.start h) fun b3 c3 h1 w=>?_
 rw [bytesOf_row r 16 hr,hr] at w
 rw [hr]
 have hb:∀ i,i<16→za ((List.range 16).map (byteAt r)) i=byteAt r i:=fun i hi=>by
  rw [za_get (by simpa using hi)]; simp
 have hlen:((List.range 16).map (byteAt r)).length=16:=by simp
 generalize (List.range 16).map (byteAt r)=lz at *
 refine M.join_of (fun _ h'=>∃ lz:List Int,lz.length=16∧(∀ i,i<16→za lz i=if i % 4=3 then byteAt r i % 16 else byteAt r i)∧Wd h h' [.sl 5 1 (some ⟨b3,0,none⟩) 16 c3 (eB.row lz)]) (fun J hJ=>?_) ?_
 ·refine M.loop_of (I:=fun (i:Int) h'=>∃ (t:Nat) (lz:List Int),t≤4∧i=((3+4*t:Nat):Int)∧lz.length=16∧(∀ i,i<16→za lz i=if i % 4=3∧i<3+4*t then byteAt r i % 16 else byteAt r i)∧Wd h h' [.sl 5 1 (some ⟨b3,0,none⟩) 16 c3 (eB.row lz)]) (μ:=fun i=>(20-i).toNat)
   ⟨0,lz,by omega,rfl,hlen,fun i hi=>by rw [hb i hi,if_neg (by omega)],w⟩ ?_
  clear w hb hlen lz
  rintro _ h2 J3 ⟨t,lz,ht,rfl,hlen,hz,w⟩ hJ3
  by_cases hlt:t<4
  ·refine cdt (by omega) ?_
   have hzt:=hz (3+4*t) (by omega)
   rw [if_neg (by omega)] at hzt
   have hbt:=byteAt_lt r (3+4*t)
   have v1:IntKind.wrap .i64 (((3+4*t:Nat):Int)+4)=((3+4*(t+1):Nat):Int):=by rw [IntKind.wrap_i64]; omega
   have v2:Int.tmod (byteAt r (3+4*t)) 16=byteAt r (3+4*t) % 16:=Int.tmod_eq_emod_of_nonneg (by omega)
   refine Ro.ldB (w.ro 0 rfl (by decide)) (by omega) (by omega) ?_
   rw [Int.toNat_natCast,hzt]
   refine ⟨by decide,M.vis _ v2 ?_⟩
   refine w.put1 0 rfl rfl _ rfl (by omega) (by omega) fun h3 w=>?_
   refine M.vis _ v1 (hJ3 _ _ ⟨t+1,_,by omega,rfl,by rw [List.length_set]; exact hlen,fun i hi=>?_,w⟩ (by omega))
   rw [Int.toNat_natCast]
   by_cases e:i=3+4*t
   ·subst e
    rw [if_pos (by omega),za_get (by rw [List.length_set]; omega),List.getElem_set_self]
   ·rw [za_set (by omega) e,hz i hi]
    by_cases e2:i % 4=3∧i<3+4*t
    ·rw [if_pos e2,if_pos (by omega)]
    ·rw [if_neg e2,if_neg (by omega)]
  ·refine cdf (by omega) ?_
   refine hJ _ _ ⟨lz,hlen,fun i hi=>?_,w⟩
   rw [hz i hi]
   by_cases e:i % 4=3
   ·rw [if_pos (by omega),if_pos e]
   ·rw [if_neg (by omega),if_neg e]
 clear w hb hlen lz
 rintro _ h2 ⟨lz,hlen,hb,w⟩
 refine M.join_of (fun _ h'=>Wd h h' [.sl 5 1 (some ⟨b3,0,none⟩) 16 c3 (eB.row ((List.range 16).map fun i=>clB (byteAt r i) i))]) (fun J hJ=>?_) ?_
 ·refine M.loop_of (I:=fun (i:Int) h'=>∃ (t:Nat) (lz:List Int),t≤3∧i=((4+4*t:Nat):Int)∧lz.length=16∧(∀ i,i<16→za lz i=if i % 4=3∨i<4+4*t then clB (byteAt r i) i else byteAt r i)∧Wd h h' [.sl 5 1 (some ⟨b3,0,none⟩) 16 c3 (eB.row lz)]) (μ:=fun i=>(20-i).toNat)
   ⟨0,lz,by omega,rfl,hlen,fun i hi=>?_,w⟩ ?_
  ·rw [hb i hi]
   unfold clB
   by_cases e:i % 4=3
   ·rw [if_pos e,if_pos (.inl e),if_pos e]
   ·rw [if_neg e]
    by_cases e2:i<4
    ·rw [if_pos (.inr (by omega)),if_neg e,if_neg (by omega)]
    ·rw [if_neg (by omega)]
  clear w hb hlen lz
  rintro _ h2 J3 ⟨t,lz,ht,rfl,hlen,hz,w⟩ hJ3
  by_cases hlt:t<3
  ·refine cdt (by omega) ?_
   have hzt:=hz (4+4*t) (by omega)
   rw [if_neg (by omega)] at hzt
   have hbt:=byteAt_lt r (4+4*t)
   have v1:IntKind.wrap .i64 (((4+4*t:Nat):Int)+4)=((4+4*(t+1):Nat):Int):=by rw [IntKind.wrap_i64]; omega
   have v2:Int.tmod (byteAt r (4+4*t)) 4=byteAt r (4+4*t) % 4:=Int.tmod_eq_emod_of_nonneg (by omega)
   refine Ro.ldB (w.ro 0 rfl (by decide)) (by omega) (by omega) ?_
   refine Ro.ldB (w.ro 0 rfl (by decide)) (by omega) (by omega) ?_
   rw [Int.toNat_natCast,hzt]
   refine ⟨by decide,M.vis _ v2 ?_⟩
   refine M.vis (byteAt r (4+4*t)-byteAt r (4+4*t) % 4) (by rw [IntKind.wrap_u8]; omega) ?_
   refine w.put1 0 rfl rfl _ rfl (by omega) (by omega) fun h3 w=>?_
   refine M.vis _ v1 (hJ3 _ _ ⟨t+1,_,by omega,rfl,by rw [List.length_set]; exact hlen,fun i hi=>?_,w⟩ (by omega))
   rw [Int.toNat_natCast]
   by_cases e:i=4+4*t
   ·subst e
    rw [if_pos (by omega),za_get (by rw [List.length_set]; omega),List.getElem_set_self]
    unfold clB
    rw [if_neg (by omega),if_pos (by omega)]
   ·rw [za_set (by omega) e,hz i hi]
    by_cases e2:i % 4=3∨i<4+4*t
    ·rw [if_pos e2,if_pos (by omega)]
    ·rw [if_neg e2]
     by_cases e3:i % 4=3∨i<4+4*(t+1)
     ·rw [if_pos e3]
      unfold clB
      rw [if_neg (by omega),if_neg (by omega)]
     ·rw [if_neg e3]
  ·refine cdf (by omega) ?_
   refine hJ _ _ ?_
   have e:lz=(List.range 16).map fun i=>clB (byteAt r i) i:=by
    refine List.ext_getElem (by rw [hlen]; simp) fun i h1 h2=>?_
    have:=hz i (by omega)
    rw [if_pos (by omega),za_get h1] at this
    rw [this]; simp
   rw [←e]
   exact w
 clear w
 rintro _ h3 w
 exact w.textB 0 rfl (k _ w.keep)
end
end Go.Proofs.YthegnmanjdlmjaaGreatDoor
namespace Go.Proofs.YthegnmanjdlmjaaGreatDoor
open Go.Sh Go.RowKit
theorem vl_tail {l:List Int} {m:Nat} (h:∀ j,m≤j→j<l.length→za l j=0):∀ k,m+k≤l.length→vl (l.take (m+k))=vl (l.take m)
 | 0,_=>rfl
 | k+1,hk=>by
  rw [←Nat.add_assoc,take_next (by omega),h (m+k) (by omega) (by omega),vl_tail h k (by omega)]
  simp
theorem vl_all {l:List Int} {m:Nat} (h:∀ j,m≤j→j<l.length→za l j=0) (hm:m≤l.length):vl l=vl (l.take m):=by
 have:=vl_tail h (l.length-m) (by omega)
 rw [show m+(l.length-m)=l.length by omega,List.take_length] at this
 exact this
theorem vl_digit:∀ {l:List Int},(∀ x ∈ l,0≤x∧x<256)→∀ (M:Int) (i:Nat),i<l.length→((vl l+M*pw l.length) / pw i) % 256=za l i
 | [],_,_,i,h=>by simp at h
 | x::r,h,M,0,_=>by
  have h1:=h x (by simp)
  have e:M*pw (x::r).length=256*(M*pw r.length):=by rw [List.length_cons,pw_succ,Int.mul_left_comm]
  have e2:za (x::r) 0=x:=rfl
  rw [e,e2,pw_zero,Int.ediv_one,vl]
  omega
 | x::r,h,M,i+1,hi=>by
  have h1:=h x (by simp)
  have ih:=vl_digit (l:=r) (fun y hy=>h y (by simp [hy])) M i (by simpa using hi)
  have e:M*pw (x::r).length=256*(M*pw r.length):=by rw [List.length_cons,pw_succ,Int.mul_left_comm]
  have e2:za (x::r) (i+1)=za r i:=rfl
  have e4:∀ a p:Int,a / (256*p)=a / 256 / p:=fun a p=>by rw [Int.ediv_ediv,if_neg (fun hh=>absurd hh.1 (by decide)),Int.sub_zero]
  rw [e,e2,vl,pw_succ,e4]
  have e3:(x+256*vl r+256*(M*pw r.length)) / 256=vl r+M*pw r.length:=by omega
  rw [e3]
  exact ih
theorem leN_next (s:ByteArray) (n:Nat):((leN s (n+1):Nat):Int)=(leN s n:Int)+byteAt s n*pw n:=by
 have:=byteAt_lt s n
 rw [leN,pw,Int.natCast_add,Int.natCast_mul,Int.toNat_of_nonneg this.1]
theorem za_zero (j:Nat):za (List.replicate 17 0) j=0:=by
 unfold za
 rw [List.getD_eq_getElem?_getD,List.getElem?_replicate]
 split <;> rfl
theorem PI_is:PI=(L5.P:Int):=rfl
section
variable {h:H} {key s:ByteArray}
theorem rPolySum {Q:ByteArray→Int→H→Prop} (hk:key.size=32) (hs:s.size≤65536) (k:∀ h',Keep h h'→Q (tagT key s) 0 h'):ref07_Sum key s h Q:=by
 unfold ref07_Sum ref07_Sum.g
 refine cf (by rw [hk]; rfl) (cdf (by omega) ⟨by omega,by omega,by omega,?_⟩)
 unfold tagT at k
 have hk1:(key.extract 0 16).size=16:=by rw [ByteArray.size_extract]; omega
 refine rClamp hk1 fun h1 k1=>?_
 have hcs:(clampT (key.extract 0 16)).size=16:=byT_size _ _
 have hkx:∀ i,i<16→byteAt (key.extract 16 32) i=byteAt key (16+i):=fun i hi=>byteAt_ext key 16 32 i (by omega) (by omega)
 have ecl:clampT (key.extract (Int.toNat 0) (Int.toNat 16))=clampT (key.extract 0 16):=rfl
 try rw [ecl]
 generalize clampT (key.extract 0 16)=cl at *
 have w:=(Wd.start h).keeps k1
 refine M.new_w w fun b7 h8 w=>?_
 refine M.new_w w fun b9 h10 w=>?_
 rw [iA_zero] at w
 try simp only [bs] at w
 refine M.join_of (fun _ h'=>∃ lr,Dg lr∧vl lr=(leN cl 16:Int)∧Wd h h' [.blk b7 (.cells (iA lr) 323),.blk b9 (.cells (iA (List.replicate 17 0)) 323)]) (fun J hJ=>?_) ?_
 ·refine M.loop_of (I:=fun (i:Int) h'=>∃ (kk:Nat) (lr:List Int),i=(kk:Int)∧kk≤16∧Dg lr∧vl (lr.take kk)=(leN cl kk:Int)∧(∀ j,kk≤j→j<17→za lr j=0)∧Wd h h' [.blk b7 (.cells (iA lr) 323),.blk b9 (.cells (iA (List.replicate 17 0)) 323)]) (μ:=fun i=>(16-i).toNat)
   ⟨0,_,rfl,by omega,dg_zero,rfl,fun j _ _=>za_zero j,w⟩ ?_
  clear w
  rintro _ h11 J3 ⟨kk,lr,rfl,hkk,d,hv,hz,w⟩ hJ3
  by_cases hlt:kk<16
  ·refine cdt (by omega) ⟨by omega,by omega,?_⟩
   rw [Int.toNat_natCast]
   have hb:=byteAt_lt cl kk
   refine M.vis (byteAt cl kk) (by rw [IntKind.wrap_i64]; omega) ?_
   refine putN w (i:=0) rfl d.1 rfl (by omega) fun h12 w=>?_
   refine M.vis ((kk+1:Nat):Int) (by rw [IntKind.wrap_i64]; omega) (hJ3 _ _ ⟨kk+1,_,rfl,by omega,d.set kk hb,?_,fun j h1 h2=>?_,w⟩ (by omega))
   ·rw [take_set (by rw [d.1]; omega),hv,leN_next]
   ·rw [za_set (by rw [d.1]; omega) (by omega)]
    exact hz j (by omega) h2
  ·refine cdf (by omega) ?_
   obtain rfl:kk=16:=by omega
   refine hJ _ _ ⟨lr,d,?_,w⟩
   rw [vl_all (m:=16) (fun j h1 h2=>hz j h1 (by rw [←d.1]; exact h2)) (by rw [d.1]; decide),hv]
 clear w
 rintro _ h11 ⟨lr,dr,hR,w⟩
 obtain ⟨R,eR⟩:∃ R,leN cl 16=R:=⟨_,rfl⟩
 rw [eR] at hR k
 refine M.join_of (fun _ h'=>∃ la,Dg la∧vl la=(accN R s ((s.size+15) / 16):Int)∧Wd h h' [.blk b7 (.cells (iA lr) 323),.blk b9 (.cells (iA la) 323)]) (fun J hJ=>?_) ?_
 ·refine M.loop_of (I:=fun (i:Int) h'=>∃ (j:Nat) (la:List Int),i=((16*j:Nat):Int)∧16*j≤s.size+15∧Dg la∧vl la=(accN R s j:Int)∧Wd h h' [.blk b7 (.cells (iA lr) 323),.blk b9 (.cells (iA la) 323)]) (μ:=fun i=>(s.size+16-i).toNat)
   ⟨0,_,rfl,by omega,dg_zero,vl_zero,w⟩ ?_
  clear w
  rintro _ h12 J3 ⟨j,la,rfl,hj,da,hva,w⟩ hJ3
  by_cases hlt:16*j<s.size
  ·refine cdt (by omega) ?_
   refine M.join_of (fun _ h'=>∃ la,Dg la∧vl la=(accN R s (j+1):Int)∧Wd h h' [.blk b7 (.cells (iA lr) 323),.blk b9 (.cells (iA la) 323)]) (fun J4 hJ4=>?_) ?_
   ·refine M.new_w w fun b27 h13 w=>?_
    rw [iA_zero] at w
    try simp only [bs] at w
    obtain ⟨N,hN⟩:∃ N,min 16 (s.size-16*j)=N:=⟨_,rfl⟩
    have hch:chunkN s j=leN (s.extract (16*j) s.size) N+256 ^ N:=by rw [chunkN,hN]
    have hbx:∀ i,i<N→byteAt (s.extract (16*j) s.size) i=byteAt s (16*j+i):=fun i hi=>byteAt_ext s (16*j) s.size i (by omega) (by omega)
    generalize s.extract (16*j) s.size=t at hch hbx
    refine M.join_of (fun (q:Int) h'=>∃ lb,q=(N:Int)∧Dg lb∧vl (lb.take N)=(leN t N:Int)∧(∀ i,N≤i→i<17→za lb i=0)∧Wd h h' [.blk b7 (.cells (iA lr) 323),.blk b9 (.cells (iA la) 323),.blk b27 (.cells (iA lb) 323)]) (fun J5 hJ5=>?_) ?_
    ·refine M.loop_of (I:=fun (q:Int) h'=>∃ (n:Nat) (lb:List Int),q=(n:Int)∧n≤N∧Dg lb∧vl (lb.take n)=(leN t n:Int)∧(∀ i,n≤i→i<17→za lb i=0)∧Wd h h' [.blk b7 (.cells (iA lr) 323),.blk b9 (.cells (iA la) 323),.blk b27 (.cells (iA lb) 323)]) (μ:=fun q=>(N-q).toNat)
      ⟨0,_,rfl,by omega,dg_zero,rfl,fun j _ _=>za_zero j,w⟩ ?_
     clear w
     rintro _ h14 J6 ⟨n,lb,rfl,hn,db,hvb,hz,w⟩ hJ6
     have v1:IntKind.wrap .i64 (((16*j:Nat):Int)+(n:Int))=((16*j+n:Nat):Int):=by rw [IntKind.wrap_i64]; omega
     refine M.join_of (fun (q:Bool) h'=>q=decide (n<N)∧Wd h h' [.blk b7 (.cells (iA lr) 323),.blk b9 (.cells (iA la) 323),.blk b27 (.cells (iA lb) 323)]) (fun J7 hJ7=>?_) ?_
     ·refine cd (fun e=>?_) fun e=>?_
      ·refine M.vis _ v1 (hJ7 _ _ ⟨by rw [decide_eq_decide]; omega,w⟩)
      ·exact hJ7 _ _ ⟨by symm; rw [decide_eq_false_iff_not]; omega,w⟩
     clear w
     rintro _ h15 ⟨rfl,w⟩
     by_cases hnl:n<N
     ·refine cdt hnl (M.vis _ v1 ⟨by omega,by omega,?_⟩)
      rw [Int.toNat_natCast]
      have hb:=byteAt_lt s (16*j+n)
      refine M.vis (byteAt s (16*j+n)) (by rw [IntKind.wrap_i64]; omega) ?_
      refine putN w (i:=2) rfl db.1 rfl (by omega) fun h16 w=>?_
      refine M.vis ((n+1:Nat):Int) (by rw [IntKind.wrap_i64]; omega) (hJ6 _ _ ⟨n+1,_,rfl,by omega,db.set n hb,?_,fun i h1 h2=>?_,w⟩ (by omega))
      ·rw [take_set (by rw [db.1]; omega),hvb,leN_next,hbx n hnl]
      ·rw [za_set (by rw [db.1]; omega) (by omega)]
       exact hz i (by omega) h2
     ·refine cdf hnl ?_
      obtain rfl:n=N:=by omega
      exact hJ5 _ _ ⟨lb,rfl,db,hvb,hz,w⟩
    clear w
    rintro _ h14 ⟨lb,rfl,db,hvb,hz,w⟩
    refine putN w (i:=2) rfl db.1 rfl (by omega) fun h15 w=>?_
    have db2:=db.set N (v:=1) (by decide)
    have hvb2:vl (lb.set N 1)=(chunkN s j:Int):=by
     rw [vl_all (m:=N+1) (fun i h1 h2=>?_) (by rw [db2.1]; omega),take_set (by rw [db.1]; omega),hvb,hch,Int.one_mul,pw,Int.natCast_add]
     rw [za_set (by rw [db.1]; omega) (by omega)]
     exact hz i (by omega) (by rw [←db2.1]; exact h2)
    have w:Wd h h15 [.blk b7 (.cells (iA lr) 323),.blk b9 (.cells (iA la) 323),.blk b27 (.cells (iA (lb.set N 1)) 323)]:=w
    generalize lb.set N 1=lc at *
    refine rowN (w.blk 1 rfl) da.1 ?_
    refine rowN (w.blk 2 rfl) db2.1 ?_
    have hac:=accN_lt R s j
    have hcl:(chunkN s j:Int)<2*340282366920938463463374607431768211456:=by
     have h1:=leN_lt t N
     have h2:256 ^ N≤256 ^ 16:=Nat.pow_le_pow_right (by decide) (by omega)
     have h3:(256:Nat) ^ 16=340282366920938463463374607431768211456:=by decide
     rw [hch]; omega
    have hPI:(accN R s j:Int)<PI:=by rw [PI_is]; omega
    refine rSum da db2 (by rw [hva,hvb2]; unfold PI at hPI ⊢; omega) fun l3 h16 kk d3 hv3=>?_
    have w:=w.keeps kk
    clear kk
    refine ⟨by rw [iA_size]; exact d3.1,?_⟩
    refine M.puts_w0 w 1 rfl (by simpa [iA] using iA_plain l3) (by simp [iA_size,d3.1,da.1]) fun h17 w=>?_
    have w:Wd h h17 [.blk b7 (.cells (iA lr) 323),.blk b9 (.cells (iA l3) 323),.blk b27 (.cells (iA lc) 323)]:=w
    refine rowN (w.blk 1 rfl) d3.1 ?_
    refine rowN (w.blk 0 rfl) dr.1 ?_
    refine rProduct d3 dr (by rw [hv3]; exact Int.emod_lt_of_pos _ PI_pos) fun l4 h18 kk d4 hv4=>?_
    have w:=w.keeps kk
    clear kk
    refine ⟨by rw [iA_size]; exact d4.1,?_⟩
    refine M.puts_w0 w 1 rfl (by simpa [iA] using iA_plain l4) (by simp [iA_size,d4.1,d3.1]) fun h19 w=>?_
    have w:Wd h h19 [.blk b7 (.cells (iA lr) 323),.blk b9 (.cells (iA l4) 323),.blk b27 (.cells (iA lc) 323)]:=w
    refine hJ4 _ _ ⟨l4,d4,?_,w.drop (i:=2) rfl⟩
    rw [hv4,hv3,hva,hvb2,hR,PI_is,accN]
    rw [Int.mul_emod,Int.emod_emod_of_dvd _ (Int.dvd_refl _),←Int.mul_emod,Int.mul_comm]
    simp only [Int.natCast_emod,Int.natCast_mul,Int.natCast_add]
   ·clear w
    rintro _ h13 ⟨la,da,hva,w⟩
    refine M.vis ((16*(j+1):Nat):Int) (by rw [IntKind.wrap_i64]; omega) (hJ3 _ _ ⟨j+1,la,rfl,by omega,da,hva,w⟩ (by omega))
  ·refine cdf (by omega) ?_
   obtain rfl:j=(s.size+15) / 16:=by omega
   exact hJ _ _ ⟨la,da,hva,w⟩
 clear w
 rintro _ h12 ⟨la,da,hva,w⟩
 obtain ⟨A,eA⟩:∃ A,accN R s ((s.size+15) / 16)=A:=⟨_,rfl⟩
 rw [eA] at hva k
 refine M.join_of (fun (q:Option Addr × Nat × Nat) h'=>∃ (lo:List Int) (c:Int),q.2.1=lo.length∧lo.length=16∧(∀ x ∈ lo,0≤x∧x<256)∧vl lo+c*pw 16=vl (la.take 16)+(leN (key.extract 16 32) 16:Int)∧Wd h h' [.blk b7 (.cells (iA lr) 323),.blk b9 (.cells (iA la) 323),.sl 5 1 q.1 q.2.1 q.2.2 (eB.row lo)]) (fun J hJ=>?_) ?_
 ·refine M.loop_of (I:=fun (q:(Option Addr × Nat × Nat) × Int × Int) h'=>∃ (kk:Nat) (lo:List Int),q.2.2=(kk:Int)∧kk≤16∧(q.2.1=0∨q.2.1=1)∧q.1.2.1=lo.length∧lo.length=kk∧(∀ x ∈ lo,0≤x∧x<256)∧vl lo+q.2.1*pw kk=vl (la.take kk)+(leN (key.extract 16 32) kk:Int)∧Wd h h' [.blk b7 (.cells (iA lr) 323),.blk b9 (.cells (iA la) 323),.sl 5 1 q.1.1 q.1.2.1 q.1.2.2 (eB.row lo)]) (μ:=fun q=>(16-q.2.2).toNat)
   ⟨0,[],rfl,by omega,.inl rfl,rfl,rfl,fun x hx=>by simp at hx,by simp [vl,leN],w.nilsl _ _⟩ ?_
  clear w
  rintro ⟨⟨a6,l6,c6⟩,c,_⟩ h13 J3 ⟨kk,lo,hi,hkk,hc,hl,hlk,hlo,hs2,w⟩ hJ3
  simp only at hi hc hl hs2 w ⊢
  subst hi hl
  by_cases hlt:kk<16
  ·refine cdt (by omega) ?_
   have za1:=da.za kk
   have hb:=byteAt_lt key (16+kk)
   refine ldN (j:=kk) (w.blk 1 rfl) da.1 rfl (by omega) ?_
   refine M.vis (c+za la kk) (by rw [IntKind.wrap_i64]; omega) ?_
   refine M.vis ((16+kk:Nat):Int) (by rw [IntKind.wrap_i64]; omega) ⟨by omega,by omega,?_⟩
   simp only [Int.toNat_natCast]
   refine M.vis (byteAt key (16+kk)) (by rw [IntKind.wrap_i64]; omega) ⟨fun _ _=>rfl,?_⟩
   have hm:Int.tmod (c+za la kk+byteAt key (16+kk)) 256=(c+za la kk+byteAt key (16+kk)) % 256:=Int.tmod_eq_emod_of_nonneg (by omega)
   have hd:Int.tdiv (c+za la kk+byteAt key (16+kk)) 256=(c+za la kk+byteAt key (16+kk)) / 256:=Int.tdiv_eq_ediv_of_nonneg (by omega)
   refine M.vis (c+za la kk+byteAt key (16+kk)) (by rw [IntKind.wrap_i64]; omega) ⟨by decide,M.vis _ hm ?_⟩
   refine M.vis ((c+za la kk+byteAt key (16+kk)) % 256) (by rw [IntKind.wrap_u8]; omega) ?_
   refine Wd.push w 2 rfl rfl rfl (by simp [isPlainCell]) (by omega) (by omega) fun a14 c14 h14 w=>⟨by decide,?_⟩
   refine M.vis ((c+za la kk+byteAt key (16+kk)) / 256) (by rw [hd,IntKind.wrap_i64]; omega) ?_
   refine M.vis ((kk+1:Nat):Int) (by rw [IntKind.wrap_i64]; omega) ?_
   refine hJ3 _ _ ⟨kk+1,lo++[(c+za la kk+byteAt key (16+kk)) % 256],rfl,by omega,by simp only; omega,by simp,by simp [hlk],fun x hx=>?_,?_,?_⟩ (by simp only; omega)
   ·rcases List.mem_append.1 hx with hx | hx
    ·exact hlo x hx
    ·rw [List.mem_singleton.1 hx]; omega
   ·rw [vl_push,take_next (by rw [da.1]; omega),leN_next,hlk,hkx kk hlt,pw_succ]
    simp only
    have e:(c+za la kk+byteAt key (16+kk)) % 256*pw kk+(c+za la kk+byteAt key (16+kk)) / 256*(256*pw kk)=c*pw kk+za la kk*pw kk+byteAt key (16+kk)*pw kk:=by
     rw [←Int.mul_assoc,←Int.add_mul,Int.mul_comm ((c+za la kk+byteAt key (16+kk)) / 256) 256,Int.emod_add_mul_ediv,Int.add_mul,Int.add_mul]
    omega
   ·rw [eB.row_app,eB.row_one]
    exact w
  ·refine cdf (by omega) ?_
   obtain rfl:kk=16:=by omega
   exact hJ _ _ ⟨lo,c,rfl,hlk,hlo,hs2,w⟩
 clear w
 rintro ⟨a6,l6,c6⟩ h13 ⟨lo,c,hl,hl16,hlo,hs2,w⟩
 simp only at hl w ⊢
 subst hl
 refine w.textB 2 rfl ?_
 have hA:=(low16 da).2.2
 have h4:pw 16=340282366920938463463374607431768211456:=by decide
 have hsum:((A+leN (key.extract 16 32) 16:Nat):Int)=vl lo+(c+za la 16)*pw lo.length:=by
  rw [hl16,Int.add_mul,Int.natCast_add,←hva,hA]
  rw [h4] at hs2 ⊢
  omega
 have e:lo=(List.range 16).map fun i=>(((A+leN (key.extract 16 32) 16) / 256 ^ i % 256:Nat):Int):=by
  refine List.ext_getElem (by rw [hl16]; simp) fun i h1 h2=>?_
  have:=vl_digit hlo (c+za la 16) i h1
  rw [←hsum,za_get h1] at this
  rw [←this]
  simp [pw]
 have e2:ofBytes lo=leT (A+leN (key.extract 16 32) 16):=by rw [e]; rfl
 rw [e2]
 exact k _ w.keep
end
end Go.Proofs.YthegnmanjdlmjaaGreatDoor
namespace Go.Proofs.YthegnmanjdlmjaaGreatDoor
open Go.Sh Go.RowKit
def le8 (n:Nat):List Int:=(List.range 8).map fun i=>((n / 256 ^ i % 256:Nat):Int)
theorem le8_len (n:Nat):(le8 n).length=8:=by simp [le8]
theorem le8_words (n:Nat) (h:n≤65536):le8 n=wzs false [BitVec.ofNat 32 n,BitVec.ofNat 32 (n / 4294967296)]:=by
 have e1:(BitVec.ofNat 32 n).toNat=n:=by simp; omega
 have e2:(BitVec.ofNat 32 (n / 4294967296)).toNat=0:=by simp; omega
 have e3:n / 4294967296=0:=by omega
 simp only [wzs,List.flatMap_cons,List.flatMap_nil,wz,cond_false,byt,e1,e2,le8,List.range,List.range.loop,List.map_cons,List.map_nil,List.append_nil,List.cons_append,List.nil_append]
 refine List.ext_getElem rfl fun i h1 h2=>?_
 have hi:i<8:=h1
 match i,hi with
 | 0,_=>rfl
 | 1,_=>rfl
 | 2,_=>rfl
 | 3,_=>rfl
 | 4,_=>show ((n / 256 ^ 4 % 256:Nat):Int)=((0 / 256 ^ 0 % 256:Nat):Int); have:n / 256 ^ 4=0:=Nat.div_eq_of_lt (by omega); rw [this]
 | 5,_=>show ((n / 256 ^ 5 % 256:Nat):Int)=((0 / 256 ^ 1 % 256:Nat):Int); have:n / 256 ^ 5=0:=Nat.div_eq_of_lt (by omega); rw [this]
 | 6,_=>show ((n / 256 ^ 6 % 256:Nat):Int)=((0 / 256 ^ 2 % 256:Nat):Int); have:n / 256 ^ 6=0:=Nat.div_eq_of_lt (by omega); rw [this]
 | 7,_=>show ((n / 256 ^ 7 % 256:Nat):Int)=((0 / 256 ^ 3 % 256:Nat):Int); have:n / 256 ^ 7=0:=Nat.div_eq_of_lt (by omega); rw [this]
theorem lenA_le8 (a b:ByteArray) (ha:a.size≤65536) (hb:b.size≤65536):lenA a b=ofBytes (le8 a.size++le8 b.size):=by
 rw [le8_words _ ha,le8_words _ hb,lenA,textOf]
 rfl
section
variable {h0 h:H} {L:List Chunk} {a:Option Addr} {c:Nat} {zs:List Int} {Q:Option Addr→Nat→Nat→H→Prop}
theorem rFill (w:Wd h0 h [.sl 5 1 a zs.length c (eB.row zs)]) (hl:zs.length≤100000)
  (k:∀ a' c' h',Wd h0 h' [.sl 5 1 a' (zs++List.replicate ((16-zs.length % 16) % 16) 0).length c' (eB.row (zs++List.replicate ((16-zs.length % 16) % 16) 0))]→Q a' (zs++List.replicate ((16-zs.length % 16) % 16) 0).length c' h'):ref08_fill a zs.length c h Q:=by
 unfold ref08_fill
 obtain ⟨n,hn⟩:∃ n,(16-zs.length % 16) % 16=n:=⟨_,rfl⟩
 rw [hn] at k
 refine M.loop_of (I:=fun (q:Option Addr × Nat × Nat) h'=>∃ m:Nat,m≤n∧q.2.1=zs.length+m∧Wd h0 h' [.sl 5 1 q.1 q.2.1 q.2.2 (eB.row (zs++List.replicate m 0))]) (μ:=fun q=>zs.length+n-q.2.1) ⟨0,by omega,rfl,by simpa using w⟩ ?_
 clear w
 rintro ⟨a2,l2,c2⟩ h2 J ⟨m,hm,hl2,w⟩ hJ
 simp only at hl2 w ⊢
 subst hl2
 have v1:Int.tmod ((zs.length+m:Nat):Int) 16=(((zs.length+m) % 16:Nat):Int):=by rw [Int.tmod_eq_emod_of_nonneg (by omega)]; omega
 refine ⟨by decide,M.vis _ v1 ?_⟩
 by_cases hlt:m<n
 ·refine ct (by rw [bne_iff_ne]; omega) ?_
  refine Wd.push w 0 rfl rfl rfl (by simp [isPlainCell]) (by omega) (by omega) fun a3 c3 h3 w=>?_
  refine hJ _ _ ⟨m+1,by omega,by simp only; omega,?_⟩ (by simp only; omega)
  rw [List.replicate_succ',←List.append_assoc,eB.row_app,eB.row_one]
  exact w
 ·obtain rfl:m=n:=by omega
  refine cf (by rw [bne_eq_false_iff_eq]; omega) ?_
  have e:zs.length+m=(zs++List.replicate m 0).length:=by simp
  rw [e] at w ⊢
  exact k _ _ _ w
theorem rSize (n:Nat) (hn:n≤65536) (w:Wd h0 h [.sl 5 1 a zs.length c (eB.row zs)]) (hl:zs.length≤100000)
  (k:∀ a' c' h',Wd h0 h' [.sl 5 1 a' (zs++le8 n).length c' (eB.row (zs++le8 n))]→Q a' (zs++le8 n).length c' h'):ref08_size a zs.length c (n:Int) h Q:=by
 unfold ref08_size
 refine M.loop_of (I:=fun (q:(Option Addr × Nat × Nat) × Int × Int) h'=>∃ m:Nat,m≤8∧q.2.2=(m:Int)∧q.2.1=((n / 256 ^ m:Nat):Int)∧q.1.2.1=zs.length+m∧Wd h0 h' [.sl 5 1 q.1.1 q.1.2.1 q.1.2.2 (eB.row (zs++(le8 n).take m))]) (μ:=fun q=>(8-q.2.2).toNat) ⟨0,by omega,rfl,by simp,rfl,by simpa using w⟩ ?_
 clear w
 rintro ⟨⟨a2,l2,c2⟩,z,_⟩ h2 J ⟨m,hm,hi,hz,hl2,w⟩ hJ
 simp only at hi hz hl2 w ⊢
 subst hi hl2 hz
 by_cases hlt:m<8
 ·obtain ⟨u,hu⟩:∃ u,n / 256 ^ m=u:=⟨_,rfl⟩
  have hun:u≤n:=by rw [←hu]; exact Nat.div_le_self _ _
  have hu2:n / 256 ^ (m+1)=u / 256:=by rw [Nat.pow_succ,←Nat.div_div_eq_div_mul,hu]
  have he:(le8 n).take (m+1)=(le8 n).take m++[((u % 256:Nat):Int)]:=by
   have h8:m<(le8 n).length:=by rw [le8_len]; exact hlt
   rw [←List.take_append_getElem h8]
   congr 2
   simp only [le8,List.getElem_map,List.getElem_range,hu]
  rw [hu]
  have v1:Int.tmod (u:Int) 256=((u % 256:Nat):Int):=by rw [Int.tmod_eq_emod_of_nonneg (by omega)]; omega
  have v2:Int.tdiv (u:Int) 256=((u / 256:Nat):Int):=by rw [Int.tdiv_eq_ediv_of_nonneg (by omega)]; omega
  refine cdt (by omega) ⟨by decide,M.vis _ v1 ?_⟩
  refine M.vis ((u % 256:Nat):Int) (by rw [IntKind.wrap_u8]; omega) ?_
  refine Wd.push w 0 rfl rfl rfl (by simp [isPlainCell]) (by omega) (by omega) fun a3 c3 h3 w=>⟨by decide,?_⟩
  refine M.vis ((u / 256:Nat):Int) (by rw [v2,IntKind.wrap_i64]; omega) ?_
  refine M.vis ((m+1:Nat):Int) (by rw [IntKind.wrap_i64]; omega) ?_
  refine hJ _ _ ⟨m+1,by omega,rfl,by rw [hu2],by simp only; omega,?_⟩ (by simp only; omega)
  rw [he,←List.append_assoc,eB.row_app,eB.row_one]
  exact w
 ·refine cdf (by omega) ?_
  obtain rfl:m=8:=by omega
  rw [List.take_of_length_le (by rw [le8_len]; decide)] at w
  have e:zs.length+8=(zs++le8 n).length:=by simp [le8_len]
  rw [e] at w ⊢
  exact k _ _ _ w
end
section
variable {h:H} {key nonce wi se pl s:ByteArray}
theorem intsOf_len (s:ByteArray):(intsOf s).length=s.size:=by rw [intsOf,List.length_map]; exact (bsz s).symm
theorem intsOf_row (s:ByteArray):bytesOf s=eB.row (intsOf s):=by rw [bytesOf_bvs,bvs_row]
theorem intsOf_za (s:ByteArray) {i:Nat} (h:i<s.size):(intsOf s)[i]'(by rw [intsOf_len]; exact h)=byteAt s i:=by
 have e:=intsOf' s
 have e2:intsOf s=(List.range s.size).map (byteAt s):=e.symm
 simp [e2]
theorem rTag {Q:ByteArray→H→Prop} (hk:key.size=32) (hn:nonce.size=12) (hw:wi.size≤16384) (hs:se.size≤16384) (k:∀ h',Keep h h'→Q (tagA key nonce wi se) h'):ref08_Tag key nonce wi se h Q:=by
 unfold ref08_Tag ref08_Tag.g
 have e0:(0:Int)=ui 0:=rfl
 have hb0:=blockT_size key nonce 0
 have et:tagA key nonce wi se=tagT ((blockT key nonce 0).extract (Int.toNat 0) (Int.toNat 32)) (padA wi++padA se++lenA wi se):=rfl
 generalize hB:blockT key nonce 0=B at *
 refine refBlock6_spec (c:=0) hk hn fun h1 k1=>?_
 rw [hB]
 refine M.s2b_w (Wd.start h1) fun b5 c5 h5 w=>?_
 have w:=w.base k1
 rw [intsOf_row,List.nil_append] at w
 rw [←intsOf_len wi] at w ⊢
 refine rFill w (by rw [intsOf_len]; omega) fun a6 c6 h6 w=>?_
 have hz1:ofBytes (intsOf wi++List.replicate ((16-(intsOf wi).length % 16) % 16) 0)=padA wi:=by rw [ofBytes_app,ofBytes_intsOf,intsOf_len]; rfl
 have hl1:(intsOf wi++List.replicate ((16-(intsOf wi).length % 16) % 16) 0).length % 16=0∧(intsOf wi++List.replicate ((16-(intsOf wi).length % 16) % 16) 0).length≤16400:=by rw [List.length_append,List.length_replicate,intsOf_len]; omega
 generalize intsOf wi++List.replicate ((16-(intsOf wi).length % 16) % 16) 0=z1 at *
 refine M.join_of (fun (q:Option Addr × Nat × Nat) h'=>q.2.1=(z1++intsOf se).length∧Wd h h' [.sl 5 1 q.1 q.2.1 q.2.2 (eB.row (z1++intsOf se))]) (fun J hJ=>?_) ?_
 ·refine M.loop_of (I:=fun (q:(Option Addr × Nat × Nat) × Int) h'=>∃ m:Nat,m≤se.size∧q.2=(m:Int)∧q.1.2.1=z1.length+m∧Wd h h' [.sl 5 1 q.1.1 q.1.2.1 q.1.2.2 (eB.row (z1++(intsOf se).take m))]) (μ:=fun q=>(se.size-q.2).toNat) ⟨0,by omega,rfl,rfl,by simpa using w⟩ ?_
  clear w
  rintro ⟨⟨a7,l7,c7⟩,_⟩ h7 J3 ⟨m,hm,hi,hl,w⟩ hJ3
  simp only at hi hl w ⊢
  subst hi hl
  by_cases hlt:m<se.size
  ·refine cdt (by omega) ⟨by omega,by omega,?_⟩
   simp only [Int.toNat_natCast]
   refine Wd.push w 0 rfl rfl rfl (by simp [isPlainCell]) (by omega) (by omega) fun a8 c8 h8 w=>?_
   refine M.vis ((m+1:Nat):Int) (by rw [IntKind.wrap_i64]; omega) (hJ3 _ _ ⟨m+1,by omega,rfl,by simp only; omega,?_⟩ (by simp only; omega))
   have h9:m<(intsOf se).length:=by rw [intsOf_len]; exact hlt
   rw [←List.take_append_getElem h9,intsOf_za se hlt,←List.append_assoc,eB.row_app,eB.row_one]
   exact w
  ·refine cdf (by omega) ?_
   obtain rfl:m=se.size:=by omega
   rw [List.take_of_length_le (by rw [intsOf_len]; exact Nat.le_refl _)] at w
   exact hJ _ _ ⟨by simp [intsOf_len],w⟩
 clear w
 rintro ⟨a7,l7,c7⟩ h7 ⟨hl,w⟩
 simp only at hl w ⊢
 subst hl
 have hl2:(z1++intsOf se).length=z1.length+se.size:=by rw [List.length_append,intsOf_len]
 refine rFill w (by omega) fun a8 c8 h8 w=>?_
 have hp:(16-(z1++intsOf se).length % 16) % 16=(16-se.size % 16) % 16:=by rw [hl2]; omega
 rw [hp] at w ⊢
 have hz2:ofBytes (z1++intsOf se++List.replicate ((16-se.size % 16) % 16) 0)=padA wi++padA se:=by
  rw [ofBytes_app,ofBytes_app,hz1,ofBytes_intsOf,ByteArray.append_assoc]; rfl
 have hl3:(z1++intsOf se++List.replicate ((16-se.size % 16) % 16) 0).length≤40000:=by rw [List.length_append,hl2,List.length_replicate]; omega
 generalize z1++intsOf se++List.replicate ((16-se.size % 16) % 16) 0=z2 at *
 rw [intsOf_len wi]
 refine rSize wi.size (by omega) w (by omega) fun a9 c9 h9 w=>?_
 refine rSize se.size (by omega) w (by rw [List.length_append,le8_len]; omega) fun a10 c10 h10 w=>?_
 refine ⟨by omega,by omega,by omega,?_⟩
 refine w.textB 0 rfl ?_
 have hz3:ofBytes (z2++le8 wi.size++le8 se.size)=padA wi++padA se++lenA wi se:=by
  rw [List.append_assoc,ofBytes_app,hz2,lenA_le8 _ _ (by omega) (by omega)]
 rw [hz3]
 have p1:=padA_size wi
 have p2:=padA_size se
 have p3:=lenA_size wi se
 refine rPolySum (by rw [ByteArray.size_extract]; simp; omega) (by rw [ByteArray.size_append,ByteArray.size_append]; omega) fun h11 k11=>?_
 have:=k h11 (w.keep.trans k11)
 rw [et] at this
 exact this
theorem rSealA {Q:ByteArray→Int→H→Prop} (hk:key.size=32) (hn:nonce.size=12) (hw:wi.size≤16384) (hp:pl.size≤16384) (k:∀ h',Keep h h'→Q (sealA key nonce wi pl) 0 h'):ref08_Seal key nonce wi pl h Q:=by
 unfold ref08_Seal ref08_Seal.g
 have w:=Wd.start h
 have p1:=cryptT_size key nonce 1 pl
 have p2:=tagA_size key nonce wi (cryptT key nonce 1 pl)
 refine M.jn (cf (by rw [hk]; rfl) ?_)
 refine cf (by rw [hn]; rfl) ?_
 refine M.jn (cdf (by omega) (cdf (by omega) ?_))
 refine refCrypt_spec (c:=1) hk hn (by omega) fun h2 k2=>?_
 refine rTag hk hn hw (by omega) fun h3 k3=>?_
 refine ⟨?_,k _ (k2.trans k3)⟩
 have:IntKind.i64.max=9223372036854775807:=rfl
 omega
theorem rOpenA {Q:ByteArray→Int→H→Prop} (hk:key.size=32) (hn:nonce.size=12) (hw:wi.size≤16384) (hs:s.size≤16384) (k:∀ h',Keep h h'→Q (openA key nonce wi s).1 (openA key nonce wi s).2 h'):ref08_Open key nonce wi s h Q:=by
 unfold ref08_Open ref08_Open.g
 refine M.jn (cf (by rw [hk]; rfl) ?_)
 refine cf (by rw [hn]; rfl) ?_
 by_cases h16:s.size<16
 ·rw [openA_short h16] at k
  refine cdt (by omega) (k _ (Keep.refl h))
 ·refine cdf (by omega) ?_
  refine M.vis ((s.size-16:Nat):Int) (by rw [IntKind.wrap_i64]; omega) ?_
  refine M.jn (cdf (by omega) (cdf (by omega) ?_))
  have p1:(s.extract 0 (s.size-16)).size=s.size-16:=by rw [ByteArray.size_extract]; omega
  have o1:=@openA_ok key nonce wi s h16
  have o2:=@openA_bad key nonce wi s h16
  refine ⟨by omega,by omega,by omega,?_⟩
  simp only [Int.toNat_natCast,Int.toNat_zero]
  refine rTag hk hn hw (by omega) fun h3 k3=>⟨by omega,by omega,by omega,?_⟩
  simp only [Int.toNat_natCast]
  by_cases e:tagA key nonce wi (s.extract 0 (s.size-16))=s.extract (s.size-16) s.size
  ·rw [o1 e] at k
   refine cf (by rw [strEq_dec,e]; simp) ⟨by omega,by omega,by omega,?_⟩
   simp only [Int.toNat_natCast,Int.toNat_zero]
   refine refCrypt_spec (c:=1) hk hn (by omega) fun h4 k4=>?_
   exact k _ (k3.trans k4)
  ·rw [o2 e] at k
   refine ct (by rw [strEq_dec]; simp [e]) (k _ k3)
end
end Go.Proofs.YthegnmanjdlmjaaGreatDoor
namespace Go.Proofs.YthegnmanjdlmjaaGreatDoor
open Go.Sh Go.RowKit
theorem be8 (n:Nat) (hn:n<18446744073709551616):wzs true [BitVec.ofNat 32 (n / 4294967296),BitVec.ofNat 32 n]=(List.range 8).map fun i=>((n / 256 ^ (7-i) % 256:Nat):Int):=by
 have e1:(BitVec.ofNat 32 n).toNat=n % 4294967296:=by simp
 have e2:(BitVec.ofNat 32 (n / 4294967296)).toNat=n / 4294967296:=by simp; omega
 simp only [wzs,List.flatMap_cons,List.flatMap_nil,wz,cond_true,byt,e1,e2,List.append_nil,List.cons_append,List.nil_append]
 refine List.ext_getElem rfl fun i h1 h2=>?_
 have hi:i<8:=h1
 match i,hi with
 | 0,_=>show ((n / 4294967296 / 16777216 % 256:Nat):Int)=((n / 72057594037927936 % 256:Nat):Int); congr 1; omega
 | 1,_=>show ((n / 4294967296 / 65536 % 256:Nat):Int)=((n / 281474976710656 % 256:Nat):Int); congr 1; omega
 | 2,_=>show ((n / 4294967296 / 256 % 256:Nat):Int)=((n / 1099511627776 % 256:Nat):Int); congr 1; omega
 | 3,_=>show ((n / 4294967296 / 1 % 256:Nat):Int)=((n / 4294967296 % 256:Nat):Int); congr 1; omega
 | 4,_=>show ((n % 4294967296 / 16777216 % 256:Nat):Int)=((n / 16777216 % 256:Nat):Int); congr 1; omega
 | 5,_=>show ((n % 4294967296 / 65536 % 256:Nat):Int)=((n / 65536 % 256:Nat):Int); congr 1; omega
 | 6,_=>show ((n % 4294967296 / 256 % 256:Nat):Int)=((n / 256 % 256:Nat):Int); congr 1; omega
 | 7,_=>show ((n % 4294967296 / 1 % 256:Nat):Int)=((n / 1 % 256:Nat):Int); congr 1; omega
theorem rNum {h:H} {n:Nat} {Q:ByteArray→H→Prop} (hn:n<18446744073709551616) (k:∀ h',Keep h h'→Q (num8 n) h'):ref13_Num (n:Int) h Q:=by
 unfold ref13_Num
 refine M.new_w (Wd.start h) fun b2 h3 w=>?_
 have w:Wd h h3 [.blk b2 (.cells (bvs (List.replicate 8 0)).toArray 290)]:=w
 refine M.join_of (fun _ h'=>Wd h h' [.blk b2 (.cells (bvs ((List.range 8).map fun i=>((n / 256 ^ (7-i) % 256:Nat):Int))).toArray 290)]) (fun J hJ=>?_) ?_
 ·refine M.loop_of (I:=fun (p:Int × Int) h'=>∃ (m:Nat) (lz:List Int),p.2=(m:Int)-1∧m≤8∧p.1=((n / 256 ^ (8-m):Nat):Int)∧lz.length=8∧(∀ j,m≤j→j<8→za lz j=((n / 256 ^ (7-j) % 256:Nat):Int))∧Wd h h' [.blk b2 (.cells (bvs lz).toArray 290)]) (μ:=fun p=>(p.2+1).toNat) ⟨8,_,rfl,by omega,by simp,rfl,fun j h1 h2=>by omega,w⟩ ?_
  clear w
  rintro ⟨z,_⟩ h4 J3 ⟨m,lz,hi,hm,hz,hl,hall,w⟩ hJ3
  simp only at hi hz ⊢
  subst hi hz
  by_cases h1:1≤m
  ·obtain ⟨q,rfl⟩:∃ q,m=q+1:=⟨m-1,by omega⟩
   obtain ⟨u,hu⟩:∃ u,n / 256 ^ (8-(q+1))=u:=⟨_,rfl⟩
   have hun:u≤n:=by rw [←hu]; exact Nat.div_le_self _ _
   have hu2:n / 256 ^ (8-q)=u / 256:=by rw [show 8-q=(8-(q+1))+1 by omega,Nat.pow_succ,←Nat.div_div_eq_div_mul,hu]
   have hu3:n / 256 ^ (7-q)=u:=by rw [←hu,show 7-q=8-(q+1) by omega]
   rw [hu]
   have v1:Int.tmod (u:Int) 256=((u % 256:Nat):Int):=by rw [Int.tmod_eq_emod_of_nonneg (by omega)]; omega
   have v2:Int.tdiv (u:Int) 256=((u / 256:Nat):Int):=by rw [Int.tdiv_eq_ediv_of_nonneg (by omega)]; omega
   refine cdt (by omega) ⟨by decide,M.vis _ v1 ?_⟩
   refine M.vis ((u % 256:Nat):Int) (by rw [IntKind.wrap_u8]; omega) ⟨by omega,by omega,?_⟩
   have eq:(((q+1:Nat):Int)-1).toNat=q:=by omega
   rw [eq]
   simp only [Nat.mul_one,addr_add,Nat.zero_add]
   refine M.put_w w 0 rfl rfl (by rw [List.size_toArray,bvs_len,hl]; omega) fun h5 w=>⟨by decide,?_⟩
   rw [bvs_set] at w
   refine M.vis ((u / 256:Nat):Int) (by rw [v2,IntKind.wrap_u64]; omega) ?_
   refine M.vis ((q:Int)-1) (by rw [IntKind.wrap_i64]; omega) ?_
   refine hJ3 _ _ ⟨q,_,rfl,by omega,by rw [hu2],by rw [List.length_set]; exact hl,fun j g1 g2=>?_,w⟩ (by simp only; omega)
   by_cases e:j=q
   ·subst e
    rw [za_get (by rw [List.length_set]; omega),List.getElem_set_self,hu3]
   ·rw [za_set (by omega) e]
    exact hall j (by omega) g2
  ·refine cdf (by omega) ?_
   obtain rfl:m=0:=by omega
   refine hJ _ _ ?_
   have e:lz=(List.range 8).map fun i=>((n / 256 ^ (7-i) % 256:Nat):Int):=by
    refine List.ext_getElem (by rw [hl]; simp) fun i g1 g2=>?_
    have:=hall i (by omega) (by omega)
    rw [za_get g1] at this
    rw [this]
    simp only [List.getElem_map,List.getElem_range]
   rw [←e]
   exact w
 ·clear w
  rintro _ h4 w
  refine M.sub_in 0 8 rfl rfl (by decide) (by decide) (by decide) ?_
  refine M.b2s_at (w.blk 0 rfl) (by simp) ?_
  have e:ofBytes ((((List.range 8).map fun i=>((n / 256 ^ (7-i) % 256:Nat):Int)).drop (0+0*1)).take (8-0))=num8 n:=by
   rw [num8,textOf,be8 n hn,List.drop_zero,List.take_of_length_le (by simp)]
  rw [e]
  exact k _ w.keep
section
variable {hx h0 h:H} {b:Nat} {B:BankM} {d n slot:Int} {key top nonce pl:ByteArray}
theorem rWith {p:Option Addr} {Q:ByteArray→H→Prop} (hd:0≤d∧d≤1000) (hs:0≤slot∧slot≤1000) (k:∀ h',Keep h h'→Q (withB d slot) h'):ref17_With p d n key slot h Q:=by
 unfold ref17_With ref17_With.g
 have w:=Wd.start h
 have v1:IntKind.wrap .u64 d=(d.toNat:Int):=by rw [IntKind.wrap_u64]; omega
 have v2:IntKind.wrap .u64 slot=(slot.toNat:Int):=by rw [IntKind.wrap_u64]; omega
 have z1:=num8_size d.toNat
 have z2:=num8_size slot.toNat
 refine M.new_w w fun b2 h1 w=>?_
 simp only [bs,v1,v2,lb (w.blk 0 rfl)]
 refine M.vin ?_
 refine rNum (by omega) fun h3 k_=>?_
 have w:=w.keeps k_
 clear k_
 refine M.vin ?_
 refine rNum (by omega) fun h4 k_=>?_
 have w:=w.keeps k_
 clear k_
 refine ⟨(by simp; omega),?_⟩
 simp only []
 exact k _ w.keep
theorem rSeal17 {Q:ByteArray→Int→H→Prop} (wx:Wd hx h [rbankC b B]) (k:∀ h',Keep h h'→Q (sealM (goodS B d n key) key d n slot nonce pl).1 (sealM (goodS B d n key) key d n slot nonce pl).2 h'):
  ref17_Seal (some ⟨b,0,none⟩) d n key slot nonce pl h Q:=by
 unfold ref17_Seal ref17_Seal.g
 have w:=Wd.start h
 have ok:=rbank_ok wx
 refine M.new_w w fun b2 h1 w=>?_
 simp only [bs,lb (w.blk 0 rfl)]
 refine rGood_spec (wx.keeps w.keep) fun h2 k2=>?_
 have w:=w.keeps k2
 unfold sealM at k
 by_cases g:goodS B d n key
 ·have hd:=g.1
  have hk:=g.2.1
  have hb:=g.2.2
  refine cf (by simp [g]) ?_
  have hn:=dep_small hd
  have hb':=BankM.not_bad.1 hb
  have hsm:=ok.small
  refine M.join_of (fun q h'=>q=decide (slot<0∨slot ≥ n)∧Wd h h' [.blk b2 (.cells #[.pointer (some ⟨b,0,none⟩),.int .i64 d,.int .i64 n,.string key] 40)]) (fun J hJ=>?_) ?_
  ·refine cd (fun e=>hJ _ _ ⟨(decide_eq_true (.inl e)).symm,w⟩) fun e=>?_
   simp only [bs,lb (w.blk 0 rfl)]
   exact hJ _ _ ⟨by rw [decide_eq_decide]; omega,w⟩
  clear w
  rintro _ h3 ⟨rfl,w⟩
  by_cases hs:slot<0∨slot ≥ n
  ·have e:mayZ (goodS B d n key) n slot=2:=by unfold mayZ; rw [if_neg (by simp [g]),if_pos hs]
   rw [e,if_pos (by decide)] at k
   exact cdt hs (k _ w.keep)
  ·have e:mayZ (goodS B d n key) n slot=0:=by unfold mayZ; rw [if_neg (by simp [g]),if_neg hs]
   rw [e,if_neg (by decide)] at k
   refine cdf hs ?_
   by_cases h1:nonce.size=12∧pl.size=32
   ·rw [if_neg (by omega)] at k
    refine M.jn (cf (by rw [h1.1]; rfl) ?_)
    refine cf (by rw [h1.2]; rfl) ?_
    have z:=withB_size d slot
    have z2:=sealA_size key nonce (withB d slot) pl
    have z3:=h1.1
    have z4:=h1.2
    simp only [bs,lb (w.blk 0 rfl)]
    refine rWith (by omega) (by omega) fun h4 k_=>?_
    have w:=w.keeps k_
    clear k_
    simp only [bs,lb (w.blk 0 rfl)]
    refine rSealA (by assumption) (by assumption) (by omega) (by omega) fun h5 k_=>?_
    have w:=w.keeps k_
    clear k_
    refine ⟨(by simp; omega),?_⟩
    simp only []
    exact k _ w.keep
   ·rw [if_pos (by omega)] at k
    refine M.jn ?_
    by_cases h2:nonce.size=12
    ·exact cf (by rw [h2]; rfl) (ct (by rw [bne_iff_ne]; omega) (k _ w.keep))
    ·exact ct (by rw [bne_iff_ne]; omega) (k _ w.keep)
 ·have e:mayZ (goodS B d n key) n slot=4:=by unfold mayZ; rw [if_pos g]
  rw [e,if_pos (by decide)] at k
  exact ct (by simp [g]) (k _ w.keep)
def gC (ca:List ByteArray) (y:Int):Option ByteArray:=if 0≤y∧sa ca y.toNat≠ByteArray.empty then some (sa ca y.toNat) else none
theorem gC_none (y:Int):gC (List.replicate 16 ByteArray.empty) y=none:=by
 unfold gC
 rw [if_neg]
 rintro ⟨_,h⟩
 refine h ?_
 unfold sa
 rw [List.getD_eq_getElem?_getD,List.getElem?_replicate]
 split <;> rfl
theorem ldT {ca:List ByteArray} {e:TypeId} {f:Nat × Nat} {z:Int} {K:ByteArray→Prop} (hb:h b=some (.cells (strs ca) e f)) (hl:ca.length=16) (h0:0≤z) (h1:z<16) (k:K (sa ca z.toNat)):M.aidx 16 z fun j=>M.load h (Addr.add ⟨b,0,none⟩ (j*1)) fun v=>M.str v K:=by
 refine ⟨h0,h1,?_⟩
 have hi:z.toNat<ca.length:=by omega
 simp only [Nat.mul_one,addr_add,Nat.zero_add]
 rw [load_eq,cell_in hb,strs_get,List.getElem?_eq_getElem hi]
 simp only [Option.map_some,some_and,str_eq]
 rw [←sa_get hi]
 exact k
theorem ldT2 {ca:List ByteArray} {e:TypeId} {f:Nat × Nat} {z:Int} {K:ByteArray→Prop} (hb:h b=some (.cells (strs ca) e f)) (hl:ca.length=16) (h0:0≤z) (h1:z<16) (k:K (sa ca z.toNat)):M.aidx 16 z fun j=>M.load h (⟨b,j*1,none⟩:Addr) fun v=>M.str v K:=by
 refine ⟨h0,h1,?_⟩
 have hi:z.toNat<ca.length:=by omega
 simp only [Nat.mul_one]
 rw [load_eq,cell_in hb,strs_get,List.getElem?_eq_getElem hi]
 simp only [Option.map_some,some_and,str_eq]
 rw [←sa_get hi]
 exact k
theorem rOver {ca:List ByteArray} {Q:Option Addr→Nat→Nat→ByteArray→Int→H→Prop} (wx:Wd hx h [rbankC b B]) (hca:ca.length=16) (hd:dep n≠0) (hs:0≤slot∧slot<n) (sm:B.Sm) (hW:(B.disk d).W.length<1000000000) (hg:∀ q ∈ ca,q.size≤500000) (tb:Tabs h)
  (k:∀ a c h',Wd h h' [.sl 9 1 a (overM B d n (gC ca) top slot).1.length c (eS.row (overM B d n (gC ca) top slot).1)]→Q a (overM B d n (gC ca) top slot).1.length c (overM B d n (gC ca) top slot).2.1 (overM B d n (gC ca) top slot).2.2 h'):
  ref17_over (some ⟨b,0,none⟩) d n key top slot (strs ca) h Q:=by
 unfold ref17_over ref17_over.g
 have w:=Wd.start h
 refine M.new_w w fun b1 h1 w=>?_
 refine M.new_w w fun b3 h3 w=>?_
 simp only [bs,Nat.reduceMul,lb (w.blk 0 rfl)]
 refine refPath_spec hd hs fun a2 c2 h2 w'=>?_
 have w:=w.join w'
 clear w'
 have hpl:=pathN_len n slot
 have hple:=path_le hd hs
 have hdl:=dep_le n
 have hpow:=dep_pow hd
 have hof:overM B d n (gC ca) top slot=if (gath (pairOf B d (gC ca)) [] (pathN n slot)).2≠0 then ([],ByteArray.empty,(gath (pairOf B d (gC ca)) [] (pathN n slot)).2) else ((gath (pairOf B d (gC ca)) [] (pathN n slot)).1,(follow top slot.toNat (gath (pairOf B d (gC ca)) [] (pathN n slot)).1).1,(follow top slot.toNat (gath (pairOf B d (gC ca)) [] (pathN n slot)).1).2):=rfl
 rw [hof] at k
 clear hof
 have hgs:∀ y p,gC ca y=some p→p.size≤500000:=fun y p hp=>by
  unfold gC at hp
  split at hp
  ·rw [←Option.some.inj hp]; exact sa_le hg _
  ·cases hp
 have hall:=gath_all (p:=fun q=>q.size≤500000) (f:=pairOf B d (gC ca)) (fun x _=>pairOf_size sm hgs x) (l:=pathN n slot) (acc:=[]) (by simp)
 generalize hG:gath (pairOf B d (gC ca)) [] (pathN n slot)=G at *
 try simp only [bs] at w
 refine M.jn ?_
 refine M.loop_of (I:=fun (p:(Option Addr × Nat × Nat) × Int) h'=>∃ (m:Nat) (ps:List ByteArray),m≤dep n∧p.2=(m:Int)∧p.1.2.1=m∧ps.length=m∧G=gath (pairOf B d (gC ca)) ps ((pathN n slot).drop m) ∧
   Wd h h' [.blk b1 (.cells #[.pointer (some ⟨b,0,none⟩),.int .i64 d,.int .i64 n,.string key] 40),.blk b3 (.cells (strs ca) 218),.sl 3 1 a2 (dep n) c2 (eI.row (pathN n slot)),.sl 9 1 p.1.1 p.1.2.1 p.1.2.2 (eS.row ps)]) (μ:=fun p=>(dep n-p.2).toNat) ⟨0,[],by omega,rfl,rfl,rfl,hG.symm,w.nilsl _ _⟩ ?_
 clear w
 rintro ⟨⟨a3,l3,c3⟩,_⟩ h3 J ⟨m,ps,hm,hi,hl,hps,hg2,w⟩ hJ
 simp only at hi hl w ⊢
 subst hi hl
 by_cases hlt:l3<dep n
 ·refine cdt (by omega) ?_
  refine Ro.ldI (w.ro 2 rfl (by decide)) (by omega) (by omega) ?_
  rw [Int.toNat_natCast]
  have hnd:0≤za (pathN n slot) l3∧za (pathN n slot) l3≤15:=by rw [za_get (by omega)]; exact hple _ (List.getElem_mem _)
  have hg3:G=if (pairOf B d (gC ca) (za (pathN n slot) l3)).2≠0 then ([],(pairOf B d (gC ca) (za (pathN n slot) l3)).2) else gath (pairOf B d (gC ca)) (ps++[(pairOf B d (gC ca) (za (pathN n slot) l3)).1]) ((pathN n slot).drop (l3+1)):=by
   rw [hg2,drop_za (by omega)]; rfl
  obtain ⟨nd,end_⟩:∃ nd,za (pathN n slot) l3=nd:=⟨_,rfl⟩
  rw [end_] at hnd hg3 ⊢
  refine ldT2 (w.blk 1 rfl) hca hnd.1 (by omega) ?_
  have v1:IntKind.wrap .i64 ((l3:Int)+1)=((l3+1:Nat):Int):=by rw [IntKind.wrap_i64]; omega
  refine M.join_of (fun d' h'=>d'=(pairOf B d (gC ca) nd).1∧(pairOf B d (gC ca) nd).2=0∧Wd h h' [.blk b1 (.cells #[.pointer (some ⟨b,0,none⟩),.int .i64 d,.int .i64 n,.string key] 40),.blk b3 (.cells (strs ca) 218),.sl 3 1 a2 (dep n) c2 (eI.row (pathN n slot)),.sl 9 1 a3 l3 c3 (eS.row ps)]) (fun J2 hJ2=>?_) ?_
  ·by_cases hgn:sa ca nd.toNat=ByteArray.empty
   ·have hpo:pairOf B d (gC ca) nd=B.read d (100+nd):=by unfold pairOf gC; rw [if_neg (by simp [hgn])]
    rw [hpo] at hJ2 hg3
    have v:IntKind.wrap .i64 (100+nd)=100+nd:=by rw [IntKind.wrap_i64]; omega
    refine ct (strEq_iff.2 hgn) ?_
    simp only [bs,lb (w.blk 0 rfl)]
    refine Ro.ldI (w.ro 2 rfl (by decide)) (by omega) (by omega) ?_
    rw [Int.toNat_natCast,end_]
    refine M.vis _ v ?_
    refine rbRead (wx.keeps w.keep) hW ?_
    by_cases e:(B.read d (100+nd)).2=0
    ·exact cf (by rw [bne_eq_false_iff_eq]; exact e) (hJ2 _ _ ⟨rfl,e,w⟩)
    ·refine ct (by rw [bne_iff_ne]; exact e) ?_
     rw [if_pos e] at hg3
     have e2:G.2=(B.read d (100+nd)).2:=by rw [hg3]
     rw [e2,if_pos e] at k
     exact k none 0 _ ((((w.drop (i:=0) rfl).drop (i:=0) rfl).drop (i:=0) rfl).drop (i:=0) rfl |>.nilsl _ _)
   ·have hpo:pairOf B d (gC ca) nd=(sa ca nd.toNat,0):=by unfold pairOf gC; rw [if_pos ⟨hnd.1,hgn⟩]
    rw [hpo] at hJ2
    exact cf (by rw [Bool.eq_false_iff]; exact fun e=>hgn (strEq_iff.1 e)) (hJ2 _ _ ⟨rfl,rfl,w⟩)
  clear w
  rintro _ h4 ⟨rfl,e,w⟩
  rw [if_neg (by rw [e]; simp)] at hg3
  refine Wd.push w 3 rfl rfl rfl (by simp [isPlainCell]) (by omega) (by omega) fun a7 c8 h5 w=>?_
  simp only [v1]
  refine M.vin ?_
  refine hJ _ _ ⟨l3+1,ps++[(pairOf B d (gC ca) nd).1],by omega,rfl,rfl,by simp [hps],hg3,?_⟩ (by simp only; omega)
  rw [eS.row_app,eS.row_one]
  exact w
 ·refine cdf (by omega) ?_
  have hl:l3=dep n:=by omega
  have hG2:G=(ps,0):=by rw [hg2,List.drop_of_length_le (by omega)]; rfl
  rw [hG2] at k hall
  simp only at k hall
  rw [if_neg (by simp)] at k
  have hsl:slot=(slot.toNat:Int):=by omega
  rw [hsl]
  refine refFollow_spec (w.ro 3 rfl (by decide)) (by omega) ?_ hall (tb.keep w.keep) fun h4 k4=>?_
  ·rw [hl]; omega
  have w:=w.keeps k4
  have:=k a3 c3 h4
  simp only [hps] at this
  exact this (((w.drop (i:=0) rfl).drop (i:=0) rfl).drop (i:=0) rfl)
end
end Go.Proofs.YthegnmanjdlmjaaGreatDoor
namespace Go.Proofs.YthegnmanjdlmjaaGreatDoor
open Go.Sh Go.RowKit
theorem strs_none:(#[.string ByteArray.empty,.string ByteArray.empty,.string ByteArray.empty,.string ByteArray.empty,.string ByteArray.empty,.string ByteArray.empty,.string ByteArray.empty,.string ByteArray.empty,.string ByteArray.empty,.string ByteArray.empty,.string ByteArray.empty,.string ByteArray.empty,.string ByteArray.empty,.string ByteArray.empty,.string ByteArray.empty,.string ByteArray.empty]:Array Value)=strs (List.replicate 16 ByteArray.empty):=rfl
theorem row_strs {h:H} {b:Nat} {ca:List ByteArray} {e:TypeId} {K:List Value→Prop} (hb:h b=some (.cells (strs ca) e (0,0))) (hl:ca.length=16) (k:K (ca.map Value.string)):M.row h ⟨b,0,none⟩ 16 K:=by
 refine M.row_all hb (by rw [strs_size,hl]) ?_
 exact k
section
variable {hx h0 h:H} {b:Nat} {B:BankM} {d n slot:Int} {key top nonce pl:ByteArray}
theorem rGet {Q:ByteArray→Int→H→Prop} (wx:Wd hx h [rbankC b B]) (sm:B.Sm) (hW:(B.disk d).W.length<1000000000) (tb:Tabs h) (k:∀ h',Keep h h'→Q (getM B key d n top slot).1 (getM B key d n top slot).2 h'):ref17_Get (some ⟨b,0,none⟩) d n key top slot h Q:=by
 unfold ref17_Get ref17_Get.g
 have w:=Wd.start h
 have ok:=rbank_ok wx
 refine M.new_w w fun b3 h3 w=>?_
 simp only [bs,lb (w.blk 0 rfl)]
 refine rGood_spec (wx.keeps w.keep) fun h2 k2=>?_
 have w:=w.keeps k2
 unfold getM at k
 by_cases g:goodS B d n key
 ·have hd:=g.1
  have hk:=g.2.1
  have hb:=g.2.2
  refine cf (by simp [g]) ?_
  have hn:=dep_small hd
  have hb':=BankM.not_bad.1 hb
  have hsm:=ok.small
  refine M.join_of (fun q h'=>q=decide (slot<0∨slot ≥ n)∧Wd h h' [.blk b3 (.cells #[.pointer (some ⟨b,0,none⟩),.int .i64 d,.int .i64 n,.string key] 40)]) (fun J hJ=>?_) ?_
  ·refine cd (fun e=>hJ _ _ ⟨(decide_eq_true (.inl e)).symm,w⟩) fun e=>?_
   simp only [bs,lb (w.blk 0 rfl)]
   exact hJ _ _ ⟨by rw [decide_eq_decide]; omega,w⟩
  clear w
  rintro _ h4 ⟨rfl,w⟩
  by_cases hs:slot<0∨slot ≥ n
  ·have e:mayZ (goodS B d n key) n slot=2:=by unfold mayZ; rw [if_neg (by simp [g]),if_pos hs]
   rw [e,if_pos (by decide)] at k
   exact cdt hs (k _ w.keep)
  ·have e:mayZ (goodS B d n key) n slot=0:=by unfold mayZ; rw [if_neg (by simp [g]),if_neg hs]
   rw [e,if_neg (by decide)] at k
   clear e
   refine cdf hs ?_
   refine M.new_w w fun b20 h20 w=>?_
   rw [strs_none] at w
   simp only [bs,lb (w.blk 0 rfl)]
   refine row_strs (w.blk 1 rfl) (by simp) ?_
   refine rOver (ca:=List.replicate 16 ByteArray.empty) (wx.keeps w.keep) (by simp) hd ⟨by omega,by omega⟩ sm hW (fun q hq=>by rw [List.eq_of_mem_replicate hq]; decide) (tb.keep w.keep) fun a5 c5 h5 w'=>?_
   have w:=w.join w'
   clear w'
   have eg:gC (List.replicate 16 ByteArray.empty)=fun _=>none:=funext gC_none
   rw [eg] at w ⊢
   have e1:getG B key d n top slot=if (overM B d n (fun _=>none) top slot).2.2≠0 then (ByteArray.empty,(overM B d n (fun _=>none) top slot).2.2) else cellM key d slot (overM B d n (fun _=>none) top slot).2.1 (B.read d (120+slot)):=rfl
   rw [e1] at k
   clear e1
   generalize overM B d n (fun _=>none) top slot=o at *
   by_cases ho:o.2.2=0
   ·rw [if_neg (by simp [ho])] at k
    refine cf (by rw [bne_eq_false_iff_eq]; exact ho) ?_
    have v:IntKind.wrap .i64 (120+slot)=120+slot:=by rw [IntKind.wrap_i64]; omega
    simp only [bs,v,lb (w.blk 0 rfl)]
    refine M.vin ?_
    refine rbRead (wx.keeps w.keep) hW ?_
    have hcs:=sm d (120+slot)
    generalize B.read d (120+slot)=c at *
    unfold cellM at k
    by_cases h0:c.2=0
    ·rw [if_neg (by simp [h0])] at k
     refine cf (by rw [bne_eq_false_iff_eq]; exact h0) ?_
     refine refKind_spec (by decide) (by omega) (tb.keep w.keep) fun h6 k6=>?_
     have w:=w.keeps k6
     have hlf:kindT (UInt8.ofNat (Int.toNat 0)) c.1=leafT c.1:=rfl
     rw [hlf,strEq_dec]
     by_cases h1:leafT c.1=o.2.1
     ·rw [if_neg (by simp [h1])] at k
      refine cf (by simp [h1]) ?_
      rw [strEq_dec]
      by_cases h2:c.1=ByteArray.empty
      ·rw [if_pos h2] at k
       refine cdt h2 ?_
       refine M.mk_sl w (by omega) (by omega) (by omega) (by omega) rfl fun a1 h7 w=>?_
       simp only [zs] at w ⊢
       refine w.textB 3 rfl ?_
       exact k _ w.keep
      ·rw [if_neg h2] at k
       refine cdf h2 ?_
       by_cases h3:c.1.size<12
       ·rw [if_pos h3] at k
        exact cdt (by omega) (k _ w.keep)
       ·rw [if_neg h3] at k
        refine cdf (by omega) ?_
        have hs0:=w.blk 0 rfl
        have z:=withB_size d slot
        have z1:(c.1.extract (Int.toNat 0) (Int.toNat 12)).size=12:=by rw [ByteArray.size_extract]; show min 12 _ - 0=12; omega
        have z2:(c.1.extract (Int.toNat 12) c.1.size).size=c.1.size-12:=by rw [ByteArray.size_extract]; show min _ _ - 12=_; omega
        simp only [bs,lb (w.blk 0 rfl)]
        refine rWith (by omega) (by omega) fun h7 k_=>?_
        have w:=w.keeps k_
        clear k_
        simp only [bs,lb (w.blk 0 rfl)]
        refine ⟨(by omega),(by omega),(by omega),?_⟩
        simp only []
        refine ⟨(by omega),(by omega),(by omega),?_⟩
        simp only [Int.toNat_natCast]
        refine rOpenA (by omega) (by omega) (by omega) (by omega) fun h9 k_=>?_
        have w:=w.keeps k_
        clear k_
        exact k _ w.keep
     ·rw [if_pos h1] at k
      exact ct (by simp [h1]) (k _ w.keep)
    ·rw [if_pos h0] at k
     exact ct (by rw [bne_iff_ne]; exact h0) (k _ w.keep)
   ·rw [if_pos ho] at k
    exact ct (by rw [bne_iff_ne]; exact ho) (k _ w.keep)
 ·have e:mayZ (goodS B d n key) n slot=4:=by unfold mayZ; rw [if_pos g]
  rw [e,if_pos (by decide)] at k
  exact ct (by simp [g]) (k _ w.keep)
theorem rBad {Q:Option Addr→Nat→Nat→H→Prop} (wx:Wd hx h [rbankC b B]) (sm:B.Sm) (hW:(B.disk d).W.length<1000000000) (tb:Tabs h) (k:∀ a c h',Wd h h' [.sl 3 1 a (badM B key d n top).length c (eI.row (badM B key d n top))]→Q a (badM B key d n top).length c h'):
  ref17_Bad (some ⟨b,0,none⟩) d n key top h Q:=by
 unfold ref17_Bad ref17_Bad.g
 have w:=Wd.start h
 refine M.new_w w fun b4 h4 w=>?_
 simp only [bs,Nat.reduceMul,lb (w.blk 0 rfl)]
 refine rGood_spec (wx.keeps w.keep) fun h2 k2=>?_
 have w:=w.keeps k2
 unfold badM at k
 by_cases g:goodS B d n key
 ·rw [if_neg (by simp [g])] at k
  have hn:=dep_small g.1
  refine cf (by simp [g]) ?_
  refine M.loop_of (I:=fun (p:(Option Addr × Nat × Nat) × Int) h'=>∃ m:Nat,m≤n.toNat∧p.2=(m:Int)∧p.1.2.1=(((List.range m).filter fun i=>(getM B key d n top (i:Nat)).2≠0).map fun i=>((i:Nat):Int)).length ∧
   Wd h h' [.blk b4 (.cells #[.pointer (some ⟨b,0,none⟩),.int .i64 d,.int .i64 n,.string key] 40),.sl 3 1 p.1.1 p.1.2.1 p.1.2.2 (eI.row (((List.range m).filter fun i=>(getM B key d n top (i:Nat)).2≠0).map fun i=>((i:Nat):Int)))]) (μ:=fun p=>(n-p.2).toNat) ⟨0,by omega,rfl,rfl,w.nilsl _ _⟩ ?_
  clear w
  rintro ⟨⟨a3,l3,c3⟩,_⟩ h3 J ⟨m,hm,hi,hl,w⟩ hJ
  simp only at hi hl w ⊢
  subst hi
  have hlm:l3≤m:=by
   rw [hl,List.length_map]
   exact Nat.le_trans (List.length_filter_le _ _) (by simp)
  simp only [bs,lb (w.blk 0 rfl)]
  by_cases hlt:(m:Int)<n
  ·refine cdt hlt ?_
   have v1:IntKind.wrap .i64 ((m:Int)+1)=((m+1:Nat):Int):=by rw [IntKind.wrap_i64]; omega
   refine M.join_of (fun (q:Option Addr × Nat × Nat) h'=>q.2.1=(((List.range (m+1)).filter fun i=>(getM B key d n top (i:Nat)).2≠0).map fun i=>((i:Nat):Int)).length∧Wd h h' [.blk b4 (.cells #[.pointer (some ⟨b,0,none⟩),.int .i64 d,.int .i64 n,.string key] 40),.sl 3 1 q.1 q.2.1 q.2.2 (eI.row (((List.range (m+1)).filter fun i=>(getM B key d n top (i:Nat)).2≠0).map fun i=>((i:Nat):Int)))]) (fun J2 hJ2=>?_) ?_
   ·
    refine rGet (wx.keeps w.keep) sm hW (tb.keep w.keep) fun h4 k4=>?_
    have w:=w.keeps k4
    by_cases e:(getM B key d n top (m:Nat)).2=0
    ·refine cf (by rw [bne_eq_false_iff_eq]; exact e) ?_
     have er:(List.range (m+1)).filter (fun i=>(getM B key d n top (i:Nat)).2≠0)=(List.range m).filter fun i=>(getM B key d n top (i:Nat)).2≠0:=by
      rw [List.range_succ,List.filter_append,List.filter_cons_of_neg (by simpa using e)]; simp
     exact hJ2 _ _ ⟨by rw [er]; exact hl,by rw [er]; exact w⟩
    ·refine ct (by rw [bne_iff_ne]; exact e) ?_
     have er:(List.range (m+1)).filter (fun i=>(getM B key d n top (i:Nat)).2≠0)=((List.range m).filter fun i=>(getM B key d n top (i:Nat)).2≠0)++[m]:=by
      rw [List.range_succ,List.filter_append,List.filter_cons_of_pos (by simpa using e)]; rfl
     refine Wd.push w 1 rfl rfl rfl (by simp [isPlainCell]) (by omega) (by omega) fun a4 c5 h1 w=>?_
     refine hJ2 _ _ ⟨by rw [er,List.map_append,List.length_append,←hl]; rfl,?_⟩
     rw [er,List.map_append,eI.row_app]
     exact w
   ·clear w
    rintro ⟨a5,l5,c5⟩ h5 ⟨hl5,w⟩
    exact M.vis _ v1 (hJ _ _ ⟨m+1,by omega,rfl,hl5,w⟩ (by simp only; omega))
  ·refine cdf hlt ?_
   obtain rfl:m=n.toNat:=by omega
   subst hl
   exact k _ _ _ (w.drop (i:=0) rfl)
 ·rw [if_pos g] at k
  exact ct (by simp [g]) (k none 0 _ ((w.drop (i:=0) rfl).nilsl _ _))
end
end Go.Proofs.YthegnmanjdlmjaaGreatDoor
namespace Go.Proofs.YthegnmanjdlmjaaGreatDoor
open Go.Sh Go.RowKit
theorem ssort_eq:∀ {a b:List Int},a.Pairwise (· < ·)→b.Pairwise (· < ·)→(∀ x,x ∈ a↔x ∈ b)→a=b
 | [],[],_,_,_=>rfl
 | [],y::b,_,_,h=>by have:=(h y).2 (by simp); simp at this
 | x::a,[],_,_,h=>by have:=(h x).1 (by simp); simp at this
 | x::a,y::b,ha,hb,h=>by
  rw [List.pairwise_cons] at ha hb
  have e:x=y:=by
   have h1:=(h x).1 (by simp)
   have h2:=(h y).2 (by simp)
   rcases List.mem_cons.1 h1 with h1 | h1
   ·exact h1
   ·rcases List.mem_cons.1 h2 with h2 | h2
    ·exact h2.symm
    ·have:=ha.1 y h2
     have:=hb.1 x h1
     omega
  subst e
  rw [ssort_eq ha.2 hb.2 fun z=>?_]
  have hz:=h z
  constructor
  ·intro hm
   have h1:=ha.1 z hm
   rcases List.mem_cons.1 (hz.1 (List.mem_cons_of_mem _ hm)) with e | e
   ·omega
   ·exact e
  ·intro hm
   have h1:=hb.1 z hm
   rcases List.mem_cons.1 (hz.2 (List.mem_cons_of_mem _ hm)) with e | e
   ·omega
   ·exact e
theorem sortZ_lt {l:List Int} (h:l.Nodup):(sortZ l).Pairwise (· < ·):=by
 have h1:(sortZ l).Pairwise fun a b=>(decide (a≤b))=true:=List.pairwise_mergeSort (fun a b c h1 h2=>by simp only [decide_eq_true_eq] at *; omega) (fun a b=>by simp only [Bool.or_eq_true,decide_eq_true_eq]; omega) l
 have h2:(sortZ l).Nodup:=(List.mergeSort_perm l _).nodup_iff.2 h
 refine List.Pairwise.imp ?_ (List.Pairwise.and h1 h2)
 intro a b hab
 have h3:a≤b:=of_decide_eq_true hab.1
 have h4:a≠b:=hab.2
 omega
theorem range_lt (n:Nat):((List.range n).map fun i:Nat=>(i:Int)).Pairwise (· < ·):=by
 rw [List.pairwise_map]
 exact List.Pairwise.imp (fun h=>by omega) List.pairwise_lt_range
def outR (base:Int) (g:Int→Option ByteArray) (k:Nat):KV:=(List.range k).filterMap fun j:Nat=>(g (j:Int)).map fun v=>(base+(j:Int),v)
theorem outR_succ (base:Int) (g:Int→Option ByteArray) (k:Nat):outR base g (k+1)=outR base g k++((g (k:Int)).map fun v=>(base+(k:Int),v)).toList:=by
 rw [outR,outR,List.range_succ,List.filterMap_append]
 congr 1
theorem outR_len (base:Int) (g:Int→Option ByteArray) (k:Nat):(outR base g k).length≤k:=by
 have:=List.length_filterMap_le (fun j:Nat=>(g (j:Int)).map fun v=>(base+(j:Int),v)) (List.range k)
 simpa [outR] using this
theorem outs_range {base:Int} {s:Nat} {m:KV} (o:OkA s m):outs base m=outR base (getA m) 16:=by
 have hk:sortZ (m.map (·.1))=((List.range 16).map fun i:Nat=>(i:Int)).filter fun x=>decide (x ∈ m.map (·.1)):=by
  refine ssort_eq (sortZ_lt o.nd) ((range_lt 16).filter _) fun x=>?_
  rw [sortZ_mem,List.mem_filter,decide_eq_true_iff]
  constructor
  ·intro hx
   refine ⟨?_,hx⟩
   obtain ⟨q,hq,rfl⟩:=List.mem_map.1 hx
   have:=(o.all q hq).1
   exact List.mem_map.2 ⟨q.1.toNat,List.mem_range.2 (by omega),by omega⟩
  ·exact fun h=>h.2
 rw [outs,hk,outR]
 generalize List.range 16=L
 induction L with
 | nil=>rfl
 | cons i L ih=>
  rw [List.map_cons,List.filterMap_cons]
  by_cases hi:(i:Int) ∈ m.map (·.1)
  ·obtain ⟨v,hv⟩:=getA_some hi
   rw [List.filter_cons_of_pos (by simpa using hi),List.map_cons,ih,hv]
   rfl
  ·rw [List.filter_cons_of_neg (by simpa using hi),ih,getA_none hi]
   rfl
def gS (cc:List ByteArray) (st:List Bool) (y:Int):Option ByteArray:=if 0≤y∧st.getD y.toNat false=true then some (sa cc y.toNat) else none
theorem gS_none (cc:List ByteArray) (y:Int):gS cc (List.replicate 16 false) y=none:=by
 unfold gS
 rw [if_neg]
 rintro ⟨_,h⟩
 rw [List.getD_eq_getElem?_getD,List.getElem?_replicate] at h
 split at h <;> simp at h
theorem gC_set {ca:List ByteArray} {s:Nat} {v:ByteArray} (hs:s<ca.length) (hv:v≠ByteArray.empty) (y:Int):gC (ca.set s v) y=if y=(s:Int) then some v else gC ca y:=by
 unfold gC
 rw [sa_set hs]
 by_cases e:y=(s:Int)
 ·subst e
  rw [Int.toNat_natCast,if_pos rfl,if_pos ⟨by omega,hv⟩,if_pos rfl]
 ·rw [if_neg e]
  by_cases h0:0≤y
  ·rw [if_neg (show ¬ y.toNat=s by omega)]
  ·rw [if_neg (fun h=>h0 h.1),if_neg (fun h=>h0 h.1)]
theorem gS_set {cc:List ByteArray} {st:List Bool} {s:Nat} {v:ByteArray} (hs:s<cc.length) (ht:s<st.length) (y:Int):gS (cc.set s v) (st.set s true) y=if y=(s:Int) then some v else gS cc st y:=by
 unfold gS
 rw [sa_set hs]
 have e2:∀ j:Nat,(st.set s true).getD j false=if j=s then true else st.getD j false:=fun j=>by
  rw [List.getD_eq_getElem?_getD,List.getElem?_set,List.getD_eq_getElem?_getD]
  by_cases h:s=j
  ·subst h; rw [if_pos rfl,if_pos ht,if_pos rfl]; rfl
  ·rw [if_neg h,if_neg (fun e=>h e.symm)]
 rw [e2]
 by_cases e:y=(s:Int)
 ·subst e
  rw [Int.toNat_natCast,if_pos rfl,if_pos rfl,if_pos ⟨by omega,rfl⟩,if_pos rfl]
 ·rw [if_neg e]
  by_cases h0:0≤y
  ·rw [if_neg (show ¬ y.toNat=s by omega),if_neg (show ¬ y.toNat=s by omega)]
  ·rw [if_neg (fun h=>h0 h.1),if_neg (fun h=>h0 h.1)]
theorem ins_fun {m:KV} {k:Int} {v:ByteArray}:getA (insA m k v)=fun y=>if y=k then some v else getA m y:=funext fun _=>insA_get
end Go.Proofs.YthegnmanjdlmjaaGreatDoor
namespace Go.Proofs.YthegnmanjdlmjaaGreatDoor
open Go.Sh Go.RowKit
theorem Wd.firstn {h0 h:H} {L:List Chunk} (w:Wd h0 h L) (n:Nat):Wd h0 h (L.take n):=by
 obtain ⟨h1,k0,_,w1,_⟩:=w.split n
 exact w1.base k0
def bools (l:List Bool):Array Value:=(l.map Value.bool).toArray
theorem bools_none:(#[.bool false,.bool false,.bool false,.bool false,.bool false,.bool false,.bool false,.bool false,.bool false,.bool false,.bool false,.bool false,.bool false,.bool false,.bool false,.bool false]:Array Value)=bools (List.replicate 16 false):=rfl
section
variable {h0 h:H} {L:List Chunk} {b:Nat}
theorem ldBo {st:List Bool} {e:TypeId} {f:Nat × Nat} {z:Int} {j:Nat} {K:Bool→Prop} (hb:h b=some (.cells (bools st) e f)) (hl:st.length=16) (hz:z=(j:Int)) (hj:j<16) (k:K (st.getD j false)):M.aidx 16 z fun j=>M.load h (⟨b,j*1,none⟩:Addr) fun v=>M.bool v K:=by
 subst hz
 refine ⟨by omega,by omega,?_⟩
 have hi:j<st.length:=by omega
 simp only [Int.toNat_natCast,Nat.mul_one]
 rw [load_eq,cell_in hb,bools,List.getElem?_toArray,List.getElem?_map,List.getElem?_eq_getElem hi]
 simp only [Option.map_some,some_and,bool_eq]
 rw [List.getD_eq_getElem?_getD,List.getElem?_eq_getElem hi] at k
 exact k
theorem putT16 {ca:List ByteArray} {e:TypeId} {z:Int} {v:ByteArray} {i j:Nat} {K:H→Prop} (w:Wd h0 h L) (hi:L[i]? = some (.blk b (.cells (strs ca) e (0,0)))) (hl:ca.length=16) (hz:z=(j:Int)) (hj:j<16) (k:∀ h',Wd h0 h' (L.set i (.blk b (.cells (strs (ca.set j v)) e (0,0))))→K h'):
  M.aidx 16 z fun j=>M.put h (⟨b,j*1,none⟩:Addr) (.string v) K:=by
 subst hz
 refine ⟨by omega,by omega,?_⟩
 simp only [Int.toNat_natCast,Nat.mul_one]
 refine M.put_w w i hi rfl (by rw [strs_size]; omega) fun h' w'=>?_
 rw [strs_set] at w'
 exact k _ w'
theorem putB16 {st:List Bool} {e:TypeId} {z:Int} {v:Bool} {i j:Nat} {K:H→Prop} (w:Wd h0 h L) (hi:L[i]? = some (.blk b (.cells (bools st) e (0,0)))) (hl:st.length=16) (hz:z=(j:Int)) (hj:j<16) (k:∀ h',Wd h0 h' (L.set i (.blk b (.cells (bools (st.set j v)) e (0,0))))→K h'):
  M.aidx 16 z fun j=>M.put h (⟨b,j*1,none⟩:Addr) (.bool v) K:=by
 subst hz
 refine ⟨by omega,by omega,?_⟩
 simp only [Int.toNat_natCast,Nat.mul_one]
 refine M.put_w w i hi rfl (by simp [bools,hl]; omega) fun h' w'=>?_
 have e:(bools st).setIfInBounds j (.bool v)=bools (st.set j v):=by simp [bools,List.map_set]
 rw [e] at w'
 exact k _ w'
end
section
variable {hx h:H} {b:Nat} {B:BankM} {d n:Int} {key top:ByteArray} {xs:List (Int × ByteArray)} {a:Option Addr} {l c:Nat}
theorem rPrepare {Q:Option Addr→Nat→Nat→ByteArray→Int→H→Prop} (wx:Wd hx h [rbankC b B]) (f:Ro eP h a l xs) (hl9:l<1000000000) (sm:B.Sm) (hW:(B.disk d).W.length<1000000000) (tb:Tabs h)
  (k:∀ a c h',Wd h h' [.sl 173 2 a (prepM B key d n top xs).1.length c (eP.row (prepM B key d n top xs).1)]→Q a (prepM B key d n top xs).1.length c (prepM B key d n top xs).2.1 (prepM B key d n top xs).2.2 h'):
  ref17_Prepare (some ⟨b,0,none⟩) d n key top a l c h Q:=by
 unfold ref17_Prepare ref17_Prepare.g
 have w:=Wd.start h
 have hlen:=f.len
 refine M.new_w w fun b6 h6 w=>?_
 simp only [bs,Nat.reduceMul,lb (w.blk 0 rfl)]
 refine rGood_spec (wx.keeps w.keep) fun h2 k2=>?_
 have w:=w.keeps k2
 unfold prepM checkM at k
 by_cases g:goodS B d n key
 ·rw [if_neg (show ¬ ¬ goodS B d n key by simp [g])] at k
  refine cf (by simp [g]) ?_
  have hd:=g.1
  have hn:=dep_small hd
  have hdl:=dep_le n
  have hd1:=dep_pow hd
  refine M.join_of (fun _ h'=>chkL (goodS B d n key) n xs=0∧Wd h h' [.blk b6 (.cells #[.pointer (some ⟨b,0,none⟩),.int .i64 d,.int .i64 n,.string key] 40)]) (fun J hJ=>?_) ?_
  ·refine M.loop_of (I:=fun (i:Int) h'=>∃ m:Nat,m≤l∧i=(m:Int)∧chkL (goodS B d n key) n xs=chkL (goodS B d n key) n (xs.drop m)∧Wd h h' [.blk b6 (.cells #[.pointer (some ⟨b,0,none⟩),.int .i64 d,.int .i64 n,.string key] 40)]) (μ:=fun i=>(l-i).toNat) ⟨0,by omega,rfl,rfl,w⟩ ?_
   clear w
   rintro _ h3 J3 ⟨m,hm,rfl,hw,w⟩ hJ3
   by_cases hlt:m<l
   ·refine cdt (by omega) ?_
    have v1:IntKind.wrap .i64 ((m:Int)+1)=((m+1:Nat):Int):=by rw [IntKind.wrap_i64]; omega
    rw [drop_pa (by omega),chkL] at hw
    refine M.join_of (fun q h'=>q=decide ((pa xs m).1<0∨(pa xs m).1 ≥ n)∧Wd h h' [.blk b6 (.cells #[.pointer (some ⟨b,0,none⟩),.int .i64 d,.int .i64 n,.string key] 40)]) (fun J4 hJ4=>?_) ?_
    ·refine Ro.ldP1 (f.keep w.keep) (by omega) (by omega) ?_
     rw [Int.toNat_natCast]
     refine cd (fun e=>hJ4 _ _ ⟨(decide_eq_true (.inl e)).symm,w⟩) fun e=>?_
     refine Ro.ldP1 (f.keep w.keep) (by omega) (by omega) ?_
     rw [Int.toNat_natCast]
     simp only [bs,lb (w.blk 0 rfl)]
     exact hJ4 _ _ ⟨by rw [decide_eq_decide]; omega,w⟩
    clear w
    rintro _ h4 ⟨rfl,w⟩
    by_cases hs:(pa xs m).1<0∨(pa xs m).1 ≥ n
    ·have e:mayZ (goodS B d n key) n (pa xs m).1=2:=by unfold mayZ; rw [if_neg (by simp [g]),if_pos hs]
     rw [e,if_pos (by decide)] at hw
     rw [hw,if_pos (by decide)] at k
     exact cdt hs (k none 0 _ ((w.drop (i:=0) rfl).nilsl _ _))
    ·have e:mayZ (goodS B d n key) n (pa xs m).1=0:=by unfold mayZ; rw [if_neg (by simp [g]),if_neg hs]
     rw [e,if_neg (by decide)] at hw
     refine cdf hs ?_
     refine Ro.ldP2 (f.keep w.keep) (by omega) (by omega) ?_
     rw [Int.toNat_natCast]
     by_cases hz:(pa xs m).2.size > 2032
     ·rw [if_pos hz] at hw
      rw [hw,if_pos (by decide)] at k
      exact cdt (by omega) (k none 0 _ ((w.drop (i:=0) rfl).nilsl _ _))
     ·rw [if_neg hz] at hw
      exact cdf (by omega) (M.vis _ v1 (hJ3 _ _ ⟨m+1,by omega,rfl,hw,w⟩ (by omega)))
   ·refine cdf (by omega) ?_
    rw [List.drop_of_length_le (by omega),chkL] at hw
    exact hJ _ _ ⟨hw,w⟩
  clear w
  rintro _ h3 ⟨hck,w⟩
  have hall:=chkL_all hck
  rw [hck,if_neg (by decide)] at k
  refine M.new_w w fun b42 h42 w=>?_
  refine M.new_w w fun b44 h44 w=>?_
  refine M.new_w w fun b46 h46 w=>?_
  rw [strs_none,bools_none] at w
  try simp only [bs] at w
  have ec0:getA []=gC (List.replicate 16 ByteArray.empty):=funext fun y=>(gC_none y).symm
  have es0:getA []=gS (List.replicate 16 ByteArray.empty) (List.replicate 16 false):=funext fun y=>(gS_none _ y).symm
  refine M.join_of (fun tp h'=>∃ ch ce ca cc st,prepS B d n top [] [] xs=(ch,ce,tp,0)∧OkA 64 ch∧OkA 2032 ce∧ca.length=16∧cc.length=16∧st.length=16∧getA ch=gC ca∧getA ce=gS cc st∧Wd h h' [.blk b6 (.cells #[.pointer (some ⟨b,0,none⟩),.int .i64 d,.int .i64 n,.string key] 40),.blk b42 (.cells (strs ca) 218),.blk b44 (.cells (strs cc) 218),.blk b46 (.cells (bools st) 254)]) (fun J0 hJ0=>?_) ?_
  ·refine M.loop_of (I:=fun (p:ByteArray × Int) h'=>∃ (m:Nat) (ch ce:KV) (ca cc:List ByteArray) (st:List Bool),m≤l∧p.2=(m:Int)∧prepS B d n top [] [] xs=prepS B d n p.1 ch ce (xs.drop m)∧OkA 64 ch∧OkA 2032 ce∧ca.length=16∧cc.length=16∧st.length=16∧(∀ q ∈ ca,q.size≤64)∧getA ch=gC ca∧getA ce=gS cc st∧Wd h h' [.blk b6 (.cells #[.pointer (some ⟨b,0,none⟩),.int .i64 d,.int .i64 n,.string key] 40),.blk b42 (.cells (strs ca) 218),.blk b44 (.cells (strs cc) 218),.blk b46 (.cells (bools st) 254)]) (μ:=fun p=>(l-p.2).toNat)
    ⟨0,[],[],_,_,_,by omega,rfl,rfl,.nil _,.nil _,by simp,by simp,by simp,fun q hq=>by rw [List.eq_of_mem_replicate hq]; decide,ec0,es0,w⟩ ?_
   clear w ec0 es0
   rintro ⟨tp,_⟩ h5 J ⟨m,ch,ce,ca,cc,st,hm,hi,hw,oc,oe,lca,lcc,lst,hcz,ec,es,w⟩ hJ
   simp only at hi hw ⊢
   subst hi
   by_cases hlt:m<l
   ·refine cdt (by omega) ?_
    have v1:IntKind.wrap .i64 ((m:Int)+1)=((m+1:Nat):Int):=by rw [IntKind.wrap_i64]; omega
    have hp:0≤(pa xs m).1∧(pa xs m).1<n∧(pa xs m).2.size≤2032:=by rw [pa_get (by omega)]; exact hall _ (List.getElem_mem _)
    rw [drop_pa (by omega),prepS] at hw
    obtain ⟨s,hs⟩:=Int.eq_ofNat_of_zero_le hp.1
    obtain ⟨qc,hqc⟩:∃ qc,(pa xs m).2=qc:=⟨_,rfl⟩
    rw [hqc] at hp hw
    rw [hs] at hp hw
    rw [Int.toNat_natCast] at hw
    refine M.join_of (fun tp2 h'=>∃ (ch ce:KV) (ca cc:List ByteArray) (st:List Bool),prepS B d n top [] [] xs=prepS B d n tp2 ch ce (xs.drop (m+1))∧OkA 64 ch∧OkA 2032 ce∧ca.length=16∧cc.length=16∧st.length=16∧(∀ q ∈ ca,q.size≤64)∧getA ch=gC ca∧getA ce=gS cc st∧Wd h h' [.blk b6 (.cells #[.pointer (some ⟨b,0,none⟩),.int .i64 d,.int .i64 n,.string key] 40),.blk b42 (.cells (strs ca) 218),.blk b44 (.cells (strs cc) 218),.blk b46 (.cells (bools st) 254)]) (fun J9 hJ9=>?_) ?_
    ·simp only [bs,lb (w.blk 0 rfl)]
     refine Ro.ldP1 (f.keep w.keep) (by omega) (by omega) ?_
     rw [Int.toNat_natCast,hs]
     refine row_strs (w.blk 1 rfl) lca ?_
     have hov:=@over_64 B d n s (getA ch) tp
     rw [ec] at hov hw
     refine rOver (ca:=ca) (wx.keeps w.keep) lca hd ⟨hp.1,hp.2.1⟩ sm hW (fun q hq=>by have:=hcz q hq; omega) (tb.keep w.keep) fun a5 c5 h8 w'=>?_
     have w:=w.join w'
     clear w'
     generalize overM B d n (gC ca) tp s=o at *
     by_cases e:o.2.2=0
     ·rw [if_neg (by simp [e])] at hw
      refine cf (by rw [bne_eq_false_iff_eq]; exact e) ?_
      obtain ⟨ho1,ho2⟩:=hov e
      refine Ro.ldP2 (f.keep w.keep) (by omega) (by omega) ?_
      rw [Int.toNat_natCast,hqc]
      refine refKind_spec (by decide) (by omega) (tb.keep w.keep) fun h9 k9=>?_
      have w:=w.keeps k9
      have hlf:kindT (UInt8.ofNat (Int.toNat 0)) qc=kindT 0 qc:=rfl
      rw [hlf]
      refine Ro.ldP1 (f.keep w.keep) (by omega) (by omega) ?_
      rw [Int.toNat_natCast,hs]
      rw [ho1] at w ⊢
      refine refPut_spec (w.ro 4 rfl (by decide)) ⟨by omega,hdl⟩ (by omega) ho2 (kindT_size _ _) (tb.keep w.keep) fun a6 c6 h10 w'=>?_
      have w:=w.join w'
      clear w'
      simp only [bs,lb (w.blk 0 rfl)]
      refine Ro.ldP1 (f.keep w.keep) (by omega) (by omega) ?_
      rw [Int.toNat_natCast,hs]
      have hpl:=pathN_len n s
      have hple:=path_le hd (s:=(s:Int)) ⟨by omega,by omega⟩
      refine refPath_spec hd ⟨by omega,by omega⟩ fun a7 c7 h11 w'=>?_
      have w:=w.join w'
      clear w'
      have hkz:=kindT_size 0 qc
      have h64:=putT_64 (slot:=s) hkz o.1 ho2
      have hpn:=putT_len s (kindT 0 qc) o.1
      generalize putT s (kindT 0 qc) o.1=pt at *
      generalize pathN n s=pth at *
      rw [ho1] at hpn
      try simp only [bs] at w
      have w:=w.drop (i:=4) rfl
      try simp only [bs] at w
      refine M.join_of (fun _ h'=>∃ ca,ca.length=16∧(∀ q ∈ ca,q.size≤64)∧getA (putAll ch pth pt.1)=gC ca∧Wd h h' [.blk b6 (.cells #[.pointer (some ⟨b,0,none⟩),.int .i64 d,.int .i64 n,.string key] 40),.blk b42 (.cells (strs ca) 218),.blk b44 (.cells (strs cc) 218),.blk b46 (.cells (bools st) 254),.sl 9 1 a6 (dep n) c6 (eS.row pt.1),.sl 3 1 a7 (dep n) c7 (eI.row pth)]) (fun J1 hJ1=>?_) ?_
      ·refine M.loop_of (I:=fun (p:Int) h'=>∃ (j:Nat) (ch':KV) (ca:List ByteArray),j≤dep n∧p=(j:Int)∧putAll ch pth pt.1=putAll ch' (pth.drop j) (pt.1.drop j)∧ca.length=16∧(∀ q ∈ ca,q.size≤64)∧getA ch'=gC ca ∧
         Wd h h' [.blk b6 (.cells #[.pointer (some ⟨b,0,none⟩),.int .i64 d,.int .i64 n,.string key] 40),.blk b42 (.cells (strs ca) 218),.blk b44 (.cells (strs cc) 218),.blk b46 (.cells (bools st) 254),.sl 9 1 a6 (dep n) c6 (eS.row pt.1),.sl 3 1 a7 (dep n) c7 (eI.row pth)]) (μ:=fun p=>(dep n-p).toNat) ⟨0,ch,ca,by omega,rfl,rfl,lca,hcz,ec,w⟩ ?_
       clear w lca hcz ec
       rintro _ h12 J3 ⟨j,ch',ca,hj,rfl,hpa,lca,hcz,ec,w⟩ hJ3
       by_cases hlj:j<dep n
       ·refine cdt (by omega) ?_
        have v2:IntKind.wrap .i64 ((j:Int)+1)=((j+1:Nat):Int):=by rw [IntKind.wrap_i64]; omega
        rw [drop_za (by omega),drop_sa (by omega),putAll] at hpa
        have hzz:0≤za pth j∧za pth j≤15:=bnd_rows hple (by omega)
        have hsz:(sa pt.1 j).size=64:=by rw [sa_get (by omega)]; exact h64 _ (List.getElem_mem _)
        have hne:sa pt.1 j≠ByteArray.empty:=fun e=>by rw [e] at hsz; simp at hsz
        refine Ro.ldI (w.ro 5 rfl (by decide)) (by omega) (by omega) ?_
        refine Ro.ldS (w.ro 4 rfl (by decide)) (by omega) (by omega) ?_
        simp only [Int.toNat_natCast]
        obtain ⟨y,hy⟩:=Int.eq_ofNat_of_zero_le hzz.1
        rw [hy] at hpa hzz ⊢
        refine putT16 w (i:=1) rfl lca rfl (by omega) fun h13 w=>?_
        refine M.vis _ v2 (hJ3 _ _ ⟨j+1,_,_,by omega,rfl,hpa,by rw [List.length_set]; exact lca,set_size hcz (by omega),?_,w⟩ (by omega))
        rw [ins_fun]
        exact funext fun z=>by rw [gC_set (by omega) hne,ec]
       ·refine cdf (by omega) ?_
        rw [List.drop_of_length_le (by omega),List.drop_of_length_le (by omega)] at hpa
        have hpa2:putAll ch pth pt.1=ch':=hpa
        exact hJ1 _ _ ⟨ca,lca,hcz,by rw [hpa2]; exact ec,w⟩
      ·clear w lca hcz ec
       rintro _ h12 ⟨ca,lca,hcz,ec,w⟩
       refine Ro.ldP1 (f.keep w.keep) (by omega) (by omega) ?_
       refine Ro.ldP2 (f.keep w.keep) (by omega) (by omega) ?_
       simp only [Int.toNat_natCast]
       rw [hs,hqc]
       refine putT16 w (i:=2) rfl lcc rfl (by omega) fun h13 w=>?_
       refine Ro.ldP1 (f.keep w.keep) (by omega) (by omega) ?_
       simp only [Int.toNat_natCast]
       rw [hs]
       refine putB16 w (i:=3) rfl lst rfl (by omega) fun h14 w=>?_
       refine hJ9 _ _ ⟨putAll ch pth pt.1,insA ce s qc,ca,_,_,hw,oc.puts hple fun v hv=>Nat.le_of_eq (h64 v hv),oe.ins (by omega) hp.2.2,lca,by rw [List.length_set]; exact lcc,by rw [List.length_set]; exact lst,hcz,ec,?_,Wd.firstn w 4⟩
       rw [ins_fun]
       exact funext fun z=>by rw [gS_set (by omega) (by omega),es]
     ·rw [if_pos e] at hw
      rw [hw,if_pos e] at k
      refine ct (by rw [bne_iff_ne]; exact e) (k none 0 _ ?_)
      exact Wd.nilsl (Wd.firstn w 0) _ _
    ·clear w oc oe lca lcc lst hcz ec es hw
     rintro tp2 h12 ⟨ch,ce,ca,cc,st,hw,oc,oe,lca,lcc,lst,hcz,ec,es,w⟩
     exact M.vis _ v1 (hJ _ _ ⟨m+1,ch,ce,ca,cc,st,by omega,rfl,hw,oc,oe,lca,lcc,lst,hcz,ec,es,w⟩ (by simp only; omega))
   ·refine cdf (by omega) ?_
    rw [List.drop_of_length_le (by omega),prepS] at hw
    exact hJ0 _ _ ⟨ch,ce,ca,cc,st,hw,oc,oe,lca,lcc,lst,ec,es,w⟩
  clear w
  rintro tp h5 ⟨ch,ce,ca,cc,st,hpr,oc,oe,lca,lcc,lst,ec,es,w⟩
  rw [hpr,if_neg (by simp)] at k
  simp only at k
  clear hpr
  rw [outs_range oc,outs_range oe,ec,es] at k
  refine M.join_of (fun (p:Option Addr × Nat × Nat) h'=>p.2.1=(outR 100 (gC ca) 16).length∧Wd h h' [.blk b6 (.cells #[.pointer (some ⟨b,0,none⟩),.int .i64 d,.int .i64 n,.string key] 40),.blk b42 (.cells (strs ca) 218),.blk b44 (.cells (strs cc) 218),.blk b46 (.cells (bools st) 254),.sl 173 2 p.1 p.2.1 p.2.2 (eP.row (outR 100 (gC ca) 16))]) (fun J0 hJ0=>?_) ?_
  ·refine M.loop_of (I:=fun (p:(Option Addr × Nat × Nat) × Int) h'=>∃ j:Nat,j≤16∧p.2=(j:Int)∧p.1.2.1=(outR 100 (gC ca) j).length∧Wd h h' [.blk b6 (.cells #[.pointer (some ⟨b,0,none⟩),.int .i64 d,.int .i64 n,.string key] 40),.blk b42 (.cells (strs ca) 218),.blk b44 (.cells (strs cc) 218),.blk b46 (.cells (bools st) 254),.sl 173 2 p.1.1 p.1.2.1 p.1.2.2 (eP.row (outR 100 (gC ca) j))]) (μ:=fun p=>(16-p.2).toNat) ⟨0,by omega,rfl,rfl,w.nilsl _ _⟩ ?_
   clear w
   rintro ⟨⟨a9,l9,c9⟩,_⟩ h7 J ⟨j,hj,hi,hl,w⟩ hJ
   simp only at hi hl w ⊢
   subst hi hl
   have hol:=outR_len 100 (gC ca) j
   by_cases hlt:j<16
   ·refine cdt (by omega) ?_
    have v1:IntKind.wrap .i64 ((j:Int)+1)=((j+1:Nat):Int):=by rw [IntKind.wrap_i64]; omega
    have v2:IntKind.wrap .i64 (100+(j:Int))=100+(j:Int):=by rw [IntKind.wrap_i64]; omega
    refine M.join_of (fun (p:Option Addr × Nat × Nat) h'=>p.2.1=(outR 100 (gC ca) (j+1)).length∧Wd h h' [.blk b6 (.cells #[.pointer (some ⟨b,0,none⟩),.int .i64 d,.int .i64 n,.string key] 40),.blk b42 (.cells (strs ca) 218),.blk b44 (.cells (strs cc) 218),.blk b46 (.cells (bools st) 254),.sl 173 2 p.1 p.2.1 p.2.2 (eP.row (outR 100 (gC ca) (j+1)))]) (fun J2 hJ2=>?_) ?_
    ·refine ldT2 (w.blk 1 rfl) lca (by omega) (by omega) ?_
     rw [Int.toNat_natCast]
     have hg:gC ca (j:Int)=if sa ca j≠ByteArray.empty then some (sa ca j) else none:=by
      unfold gC
      rw [Int.toNat_natCast]
      by_cases e:sa ca j≠ByteArray.empty
      ·rw [if_pos ⟨by omega,e⟩,if_pos e]
      ·rw [if_neg (fun h=>e h.2),if_neg e]
     by_cases e:sa ca j=ByteArray.empty
     ·refine cf (by rw [strEq_iff.2 e]; rfl) ?_
      rw [if_neg (by simp [e])] at hg
      have eo:outR 100 (gC ca) (j+1)=outR 100 (gC ca) j:=by rw [outR_succ,hg]; simp
      exact hJ2 _ _ ⟨by rw [eo],by rw [eo]; exact w⟩
     ·rw [if_pos e] at hg
      have eo:outR 100 (gC ca) (j+1)=outR 100 (gC ca) j++[(100+(j:Int),sa ca j)]:=by rw [outR_succ,hg]; rfl
      refine ct (by rw [strEq_dec]; simp [e]) (M.vis _ v2 ?_)
      refine ldT2 (w.blk 1 rfl) lca (by omega) (by omega) ?_
      rw [Int.toNat_natCast]
      refine Wd.push w 4 rfl rfl rfl (by simp [isPlainCell]) (by omega) (by omega) fun a10 c10 h8 w=>?_
      refine hJ2 _ _ ⟨by rw [eo]; simp,?_⟩
      rw [eo,eP.row_app,eP.row_one]
      exact w
    ·clear w
     rintro ⟨a10,l10,c10⟩ h8 ⟨hl,w⟩
     exact M.vis _ v1 (hJ _ _ ⟨j+1,by omega,rfl,hl,w⟩ (by simp only; omega))
   ·refine cdf (by omega) ?_
    obtain rfl:j=16:=by omega
    exact hJ0 _ _ ⟨rfl,w⟩
  clear w
  rintro ⟨a0,l0,c0⟩ h6 ⟨hl0,w⟩
  simp only at hl0 w ⊢
  subst hl0
  have ho16:=outR_len 100 (gC ca) 16
  refine M.join_of (fun (p:Option Addr × Nat × Nat) h'=>p.2.1=(outR 100 (gC ca) 16++outR 120 (gS cc st) 16).length∧Wd h h' [.blk b6 (.cells #[.pointer (some ⟨b,0,none⟩),.int .i64 d,.int .i64 n,.string key] 40),.blk b42 (.cells (strs ca) 218),.blk b44 (.cells (strs cc) 218),.blk b46 (.cells (bools st) 254),.sl 173 2 p.1 p.2.1 p.2.2 (eP.row (outR 100 (gC ca) 16++outR 120 (gS cc st) 16))]) (fun J0 hJ0=>?_) ?_
  ·refine M.loop_of (I:=fun (p:(Option Addr × Nat × Nat) × Int) h'=>∃ j:Nat,j≤16∧p.2=(j:Int)∧p.1.2.1=(outR 100 (gC ca) 16++outR 120 (gS cc st) j).length∧Wd h h' [.blk b6 (.cells #[.pointer (some ⟨b,0,none⟩),.int .i64 d,.int .i64 n,.string key] 40),.blk b42 (.cells (strs ca) 218),.blk b44 (.cells (strs cc) 218),.blk b46 (.cells (bools st) 254),.sl 173 2 p.1.1 p.1.2.1 p.1.2.2 (eP.row (outR 100 (gC ca) 16++outR 120 (gS cc st) j))]) (μ:=fun p=>(16-p.2).toNat) ⟨0,by omega,rfl,by simp [outR],by simpa [outR] using w⟩ ?_
   clear w
   rintro ⟨⟨a9,l9,c9⟩,_⟩ h7 J ⟨j,hj,hi,hl,w⟩ hJ
   simp only at hi hl w ⊢
   subst hi hl
   have hol:=outR_len 120 (gS cc st) j
   have hle:(outR 100 (gC ca) 16++outR 120 (gS cc st) j).length≤32:=by rw [List.length_append]; omega
   by_cases hlt:j<16
   ·refine cdt (by omega) ?_
    have v1:IntKind.wrap .i64 ((j:Int)+1)=((j+1:Nat):Int):=by rw [IntKind.wrap_i64]; omega
    have v2:IntKind.wrap .i64 (120+(j:Int))=120+(j:Int):=by rw [IntKind.wrap_i64]; omega
    refine M.join_of (fun (p:Option Addr × Nat × Nat) h'=>p.2.1=(outR 100 (gC ca) 16++outR 120 (gS cc st) (j+1)).length∧Wd h h' [.blk b6 (.cells #[.pointer (some ⟨b,0,none⟩),.int .i64 d,.int .i64 n,.string key] 40),.blk b42 (.cells (strs ca) 218),.blk b44 (.cells (strs cc) 218),.blk b46 (.cells (bools st) 254),.sl 173 2 p.1 p.2.1 p.2.2 (eP.row (outR 100 (gC ca) 16++outR 120 (gS cc st) (j+1)))]) (fun J2 hJ2=>?_) ?_
    ·refine ldBo (w.blk 3 rfl) lst rfl (by omega) ?_
     have hg:gS cc st (j:Int)=if st.getD j false=true then some (sa cc j) else none:=by
      unfold gS
      rw [Int.toNat_natCast]
      by_cases e:st.getD j false=true
      ·rw [if_pos ⟨by omega,e⟩,if_pos e]
      ·rw [if_neg (fun h=>e h.2),if_neg e]
     refine Go.Sh.cc (fun e=>?_) fun e=>?_
     ·rw [if_pos e] at hg
      have eo:outR 120 (gS cc st) (j+1)=outR 120 (gS cc st) j++[(120+(j:Int),sa cc j)]:=by rw [outR_succ,hg]; rfl
      refine M.vis _ v2 ?_
      refine ldT2 (w.blk 2 rfl) lcc (by omega) (by omega) ?_
      rw [Int.toNat_natCast]
      refine Wd.push w 4 rfl rfl rfl (by simp [isPlainCell]) (by omega) (by omega) fun a10 c10 h8 w=>?_
      refine hJ2 _ _ ⟨by rw [eo]; simp; omega,?_⟩
      rw [eo,←List.append_assoc,eP.row_app,eP.row_one]
      exact w
     ·rw [if_neg (by rw [e]; decide)] at hg
      have eo:outR 120 (gS cc st) (j+1)=outR 120 (gS cc st) j:=by rw [outR_succ,hg]; simp
      exact hJ2 _ _ ⟨by rw [eo],by rw [eo]; exact w⟩
    ·clear w
     rintro ⟨a10,l10,c10⟩ h8 ⟨hl,w⟩
     exact M.vis _ v1 (hJ _ _ ⟨j+1,by omega,rfl,hl,w⟩ (by simp only; omega))
   ·refine cdf (by omega) ?_
    obtain rfl:j=16:=by omega
    exact hJ0 _ _ ⟨rfl,w⟩
  clear w
  rintro ⟨a1,l1,c1⟩ h7 ⟨hl1,w⟩
  simp only at hl1 w ⊢
  subst hl1
  exact k _ _ _ ((((w.drop (i:=0) rfl).drop (i:=0) rfl).drop (i:=0) rfl).drop (i:=0) rfl)
 ·rw [if_pos g,if_pos (by decide)] at k
  exact ct (by simp [g]) (k none 0 _ ((w.drop (i:=0) rfl).nilsl _ _))
end
end Go.Proofs.YthegnmanjdlmjaaGreatDoor
namespace Go.Proofs.YthegnmanjdlmjaaGreatDoor
open Go.Sh Go.RowKit
structure Pl (B:BankM) (k:Nat):Prop where
 ti:B.Tiny
 rm:Room B k
section
variable {B:BankM} {d n:Int} {top key:ByteArray} {k:Nat}
theorem tiny_writesM:∀ {l:KV} {B:BankM},B.Tiny→(writesM B d l).2.Tiny
 | [],B,t=>by rw [writesM]; exact t.flush d
 | p::l,B,t=>by
  rw [writesM]
  by_cases e:(B.write d p.1 p.2).1≠0
  ·rw [if_pos e]; exact t.write _ _ _
  ·rw [if_neg e]; exact tiny_writesM (t.write _ _ _)
theorem Pl.mono {m:Nat} (p:Pl B k) (h:m≤k):Pl B m:=⟨p.ti,p.rm.mono h⟩
theorem Pl.apply (p:Pl B (k+40)) (o:B.Ok) {l:KV} (hl:l.length≤32):Pl (applyM B key d n l).2 k:=by
 unfold applyM
 by_cases g:goodS B d n key
 ·rw [if_neg (by simp [g])]
  exact ⟨tiny_writesM p.ti,room_writesM o (p.rm.mono (by omega))⟩
 ·rw [if_pos g]
  exact p.mono (by omega)
theorem Pl.tamper (p:Pl B k) (hb:¬ B.bad d) (a:Int) (s:ByteArray):Pl (B.set d ((B.disk d).tamper a s).2) k:=by
 obtain ⟨g1,g2,g3,g4⟩:=tamper_facts (B.disk d) a s
 obtain ⟨t1,t2,t3⟩:=p.ti.disk d
 refine ⟨p.ti.set rfl (g4 t1 t2 t3),⟨p.rm.steps,p.rm.left,fun D hD=>?_⟩⟩
 simp only [BankM.set] at hD
 rcases List.mem_or_eq_of_mem_set hD with hD | rfl
 ·exact p.rm.waits D hD
 ·have:=p.rm.waits _ (disk_mem hb); omega
theorem Pl.cut (p:Pl B k) {m:Int} (hm:m≤9223372036854775807):Pl (B.cut m) k:=
 ⟨p.ti,⟨p.rm.steps,by show mx 0 m≤_; unfold mx; split <;> omega,p.rm.waits⟩⟩
theorem crash_nil (D:DiskM):D.crash []=if D.dead=true then D else { D with N:=D.L,W:=[] }:=by
 unfold DiskM.crash
 split
 ·rfl
 ·have:DiskM.crashL D.W [] D.L=D.L:=by
   cases D.W <;> rfl
  rw [this]
theorem Pl.crash (p:Pl B k):Pl (B.crash []) k:=by
 have key:∀ D ∈ (B.crash []).ds,∃ D0 ∈ B.ds,D=D0.crash []:=fun D hD=>by
  simp only [BankM.crash,List.mem_mapIdx] at hD
  obtain ⟨j,hj,rfl⟩:=hD
  exact ⟨_,List.getElem_mem hj,rfl⟩
 refine ⟨fun D hD=>?_,⟨p.rm.steps,by simp [BankM.crash],fun D hD=>?_⟩⟩
 ·obtain ⟨D0,h0,rfl⟩:=key D hD
  obtain ⟨t1,t2,t3⟩:=p.ti D0 h0
  rw [crash_nil]
  split
  ·exact ⟨t1,t2,t3⟩
  ·exact ⟨t2,t2,by simp⟩
 ·obtain ⟨D0,h0,rfl⟩:=key D hD
  have:=p.rm.waits D0 h0
  rw [crash_nil]
  split
  ·exact this
  ·simp only [List.length_nil]; omega
theorem prepS_ok (hd:dep n≠0):∀ {l:KV} {top:ByteArray} {ch ce:KV},Chs n l→OkA 64 ch→OkA 2032 ce→(prepS B d n top ch ce l).2.2.2=0→OkA 64 (prepS B d n top ch ce l).1∧OkA 2032 (prepS B d n top ch ce l).2.1
 | [],top,ch,ce,_,o1,o2,_=>⟨o1,o2⟩
 | p::r,top,ch,ce,hc,o1,o2,h=>by
  have hp:=hc p (by simp)
  have hsm:=dep_small hd
  rw [prepS] at h ⊢
  by_cases e:(overM B d n (getA ch) top p.1).2.2≠0
  ·rw [if_pos e] at h; exact absurd h e
  ·rw [if_neg e] at h ⊢
   obtain ⟨h1,h2⟩:=over_64 (Decidable.not_not.1 e)
   have h64:=putT_64 (slot:=p.1.toNat) (kindT_size 0 p.2) _ h2
   exact prepS_ok hd (fun q hq=>hc q (by simp [hq])) (o1.puts (path_le hd ⟨hp.1,hp.2.1⟩) fun v hv=>Nat.le_of_eq (h64 v hv)) (o2.ins (by omega) hp.2.2) h
theorem prepM_len (l:KV):(prepM B key d n top l).1.length≤32:=by
 unfold prepM
 by_cases h1:checkM (goodS B d n key) n l≠0
 ·rw [if_pos h1]; simp
 ·rw [if_neg h1]
  by_cases h2:(prepS B d n top [] [] l).2.2.2≠0
  ·rw [if_pos h2]; simp
  ·rw [if_neg h2]
   obtain ⟨g,hall⟩:=checkM_all (Decidable.not_not.1 h1)
   obtain ⟨o1,o2⟩:=prepS_ok (B:=B) (d:=d) g.1 hall (.nil 64) (.nil 2032) (Decidable.not_not.1 h2)
   have:=o1.len
   have:=o2.len
   simp only [List.length_append,outs_len]
   omega
end
end Go.Proofs.YthegnmanjdlmjaaGreatDoor
namespace Go.Proofs.YthegnmanjdlmjaaGreatDoor
open Go.Sh Go.RowKit
section
variable {h0 h:H} {B:BankM} {d n:Int} {key tp:ByteArray} {p r x k0:Nat} {xs:KV} {a1 a2:Option Addr} {l c1 c2:Nat}
theorem change_spec {Q:Bool→H→Prop} (w:Wd h0 h [bankC p B,rbankC r B,.blk x (.cells #[.pointer (some ⟨p,0,none⟩),.int .i64 d,.int .i64 n,.string key,.pointer (some ⟨r,0,none⟩),.int .i64 d,.int .i64 n,.string key,.string tp] 42)]) (f1:Ro eP h a1 l xs) (f2:Ro eP h a2 l xs) (hl9:l<1000000000) (tb:Tabs h0) (pl:Pl B (k0+40))
  (k:∀ h' B' tp,Wd h0 h' [bankC p B',rbankC r B',.blk x (.cells #[.pointer (some ⟨p,0,none⟩),.int .i64 d,.int .i64 n,.string key,.pointer (some ⟨r,0,none⟩),.int .i64 d,.int .i64 n,.string key,.string tp] 42)]→Pl B' k0→Q true h'):law17_both_change (some ⟨x,0,none⟩) a1 l c1 a2 l c2 h Q:=by
 unfold law17_both_change law17_both_change.g
 have hok:=bank_ok (w.on (i:=0) rfl).choose_spec.2.2.1
 have kk0:=Keep.refl h
 simp only [bs,Nat.reduceAdd,lb (w.blk 2 rfl)]
 obtain ⟨hx,g0,g1,wx,wr,bk⟩:=w.on (i:=0) rfl
 refine Prepare_spec wx f1 hl9 pl.ti.sm (tb.keep w.keep) fun a3 c3 h3 w'=>?_
 have f2:=f2.keep w'.keep
 have w:=w.join w'
 clear bk wr wx g1 g0 hx w'
 simp only [bs,lb (w.blk 2 rfl)]
 obtain ⟨hx,g0,g1,wx,wr,bk⟩:=w.on (i:=1) rfl
 refine rPrepare wx f2 hl9 pl.ti.sm (pl.rm.disk d) (tb.keep w.keep) fun a4 c4 h4 w'=>?_
 have w:=w.join w'
 clear bk wr wx g1 g0 hx w'
 have hlen:=@prepM_len B d n tp key xs
 generalize prepM B key d n tp xs=pm at *
 obtain ⟨ws,tp',er⟩:=pm
 simp only at hlen w ⊢
 try simp only [bs] at w
 refine M.join_of (fun (q:Bool) h'=>q=false∧h'=h4) (fun J hJ=>?_) ?_
 ·refine same_spec (w.ro 3 rfl (by decide)) (w.ro 4 rfl (by decide)) (by omega) ?_
  refine cf rfl ?_
  refine cf (by rw [strEq_iff.2 rfl]; rfl) ?_
  exact hJ _ _ ⟨by simp,rfl⟩
 rintro _ _ ⟨rfl,rfl⟩
 refine cf rfl ?_
 refine cbe (fun e=>?_) fun e=>k _ _ _ (Wd.firstn w 3) (pl.mono (by omega))
 simp only [bs,lb (w.blk 2 rfl)]
 obtain ⟨hx,g0,g1,wx,wr,bk⟩:=w.on (i:=0) rfl
 refine Apply_spec wx (wr.ro 2 rfl (by decide)) (pl.rm.mono (by omega)) (tb.keep g0) fun h5 w1=>?_
 have w:=bk _ _ w1
 clear bk wr wx g1 g0 hx w1
 try simp only [bs] at w
 simp only [bs,lb (w.blk 2 rfl)]
 obtain ⟨hx,g0,g1,wx,wr,bk⟩:=w.on (i:=1) rfl
 refine rApply_spec wx (wr.ro 3 rfl (by decide)) (pl.rm.mono (by omega)) fun h6 w1=>?_
 have w:=bk _ _ w1
 clear bk wr wx g1 g0 hx w1
 try simp only [bs] at w
 have pl2:=pl.apply hok (key:=key) (d:=d) (n:=n) hlen
 refine cf (by simp) ?_
 refine cbe (fun e=>?_) fun e=>k _ _ _ (Wd.firstn w 3) pl2
 refine M.put_w w 2 rfl rfl (by simp) fun h1 w=>?_
 simp only [bs] at w
 exact k _ _ _ (Wd.firstn w 3) pl2
end
end Go.Proofs.YthegnmanjdlmjaaGreatDoor

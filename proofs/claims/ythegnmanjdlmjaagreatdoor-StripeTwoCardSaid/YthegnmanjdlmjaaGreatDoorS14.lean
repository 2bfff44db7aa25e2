/- The slab's law in plain words: what a disk's cells have, and what is had of them. The slab's law in plain words: a slab that is begun, changed, and had. A bank of several slabs in plain words: what is done to one disk leaves what is had of the others. A stripe's shelves: what is had of one, of all, and of each. A stripe's shelves: each chunk, and whether all fit. Stripes: all chunks of blocks; the laws' blocks; chunks that are alike. Stripes: the laws' blocks, walked. A stripe that is laid, in plain words. Disks: what the stripe's laws need besides. A stripe that is laid, walked. A stripe in plain words: what is had of disks that failed, and of all. A stripe's disks are tampered with, or fail; what the laws begin with. StripeThree, walked. What is done to the disks of a stripe, walked. -/
import Derived.Test.YthegnmanjdlmjaaGreatDoorS13
import Derived.Test.YthegnmanjdlmjaaGreatDoorS11
set_option linter.unusedSimpArgs false
set_option linter.unusedVariables false
namespace Go.Proofs.YthegnmanjdlmjaaGreatDoor
open Go.Sh Go.RowKit
def BankM.Tiny (B:BankM):Prop:=∀ D ∈ B.ds,(∀ s ∈ D.N,s.size≤2048)∧(∀ s ∈ D.L,s.size≤2048)∧∀ p ∈ D.W,p.2.size≤2048
theorem getD_size {l:List ByteArray} {m:Nat} (h:∀ s ∈ l,s.size≤m) (i:Nat):(l.getD i ByteArray.empty).size≤m:=by
 rw [List.getD_eq_getElem?_getD]
 cases e:l[i]? with
 | none=>simp
 | some s=>exact h s (List.mem_of_getElem? e)
theorem BankM.Tiny.disk {B:BankM} (t:B.Tiny) (d:Int):(∀ s ∈ (B.disk d).N,s.size≤2048)∧(∀ s ∈ (B.disk d).L,s.size≤2048)∧∀ p ∈ (B.disk d).W,p.2.size≤2048:=by
 unfold BankM.disk
 rw [List.getD_eq_getElem?_getD]
 cases e:B.ds[d.toNat]? with
 | none=>simp
 | some D=>exact t D (List.mem_of_getElem? e)
theorem BankM.Tiny.sm {B:BankM} (t:B.Tiny):B.Sm:=by
 intro d a
 unfold BankM.read DiskM.read
 split
 ·simp
 ·split
  ·simp
  ·split
   ·simp
   ·exact getD_size (t.disk d).1 _
theorem BankM.Tiny.set {B B1:BankM} {i:Int} {D:DiskM} (t:B.Tiny) (h1:B1.ds=B.ds) (hD:(∀ s ∈ D.N,s.size≤2048)∧(∀ s ∈ D.L,s.size≤2048)∧∀ p ∈ D.W,p.2.size≤2048):(B1.set i D).Tiny:=by
 intro D' hm
 simp only [BankM.set,h1] at hm
 rcases List.mem_or_eq_of_mem_set hm with hm | rfl
 ·exact t D' hm
 ·exact hD
theorem set_size {l:List ByteArray} {m i:Nat} {x:ByteArray} (h:∀ s ∈ l,s.size≤m) (hx:x.size≤m):∀ s ∈ l.set i x,s.size≤m:=by
 intro s hs
 rcases List.mem_or_eq_of_mem_set hs with hs | rfl
 ·exact h s hs
 ·exact hx
theorem BankM.Tiny.write {B:BankM} (t:B.Tiny) (d a:Int) (s:ByteArray):(B.write d a s).2.Tiny:=by
 unfold BankM.write
 split
 ·exact t
 ·split
  ·exact t
  ·refine t.set B.spend_ds ?_
   have h:=t.disk d
   unfold DiskM.write
   split
   ·exact h
   ·split
    ·exact h
    ·refine ⟨set_size h.1 (by omega),h.2.1,fun p hp=>?_⟩
     rcases List.mem_append.1 hp with hp | hp
     ·exact h.2.2 p hp
     ·rw [List.mem_singleton.1 hp]; simp only; omega
theorem BankM.Tiny.flush {B:BankM} (t:B.Tiny) (d:Int):(B.flush d).2.Tiny:=by
 unfold BankM.flush
 split
 ·exact t
 ·split
  ·exact t
  ·refine t.set B.spend_ds ?_
   have h:=t.disk d
   unfold DiskM.flush
   split
   ·exact h
   ·exact ⟨h.1,h.1,by simp⟩
theorem tiny_new (n c:Int):(BankM.new n c).Tiny:=by
 intro D hm
 have hm:=List.eq_of_mem_replicate hm
 subst hm
 have:∀ (k:Nat),∀ s ∈ List.replicate k ByteArray.empty,s.size≤2048:=fun k s hs=>by rw [List.eq_of_mem_replicate hs]; decide
 exact ⟨this _,this _,by simp [DiskM.new]⟩
structure Lv (B:BankM) (d:Int):Prop where
 nb:¬ B.bad d
 pw:B.fails=false
 al:(B.disk d).dead=false
 ln:140≤(B.disk d).N.length
 ti:B.Tiny
def cel (B:BankM) (d a:Int):ByteArray:=(B.disk d).N.getD a.toNat ByteArray.empty
section
variable {B:BankM} {d n a:Int} {s:ByteArray}
theorem Lv.np (v:Lv B d):¬ B.noPower:=by simp [BankM.noPower,v.pw]
theorem read_cel (v:Lv B d) (ha:0≤a∧a<140):B.read d a=(cel B d a,0):=by
 have hu:(B.disk d).usable a=0:=DiskM.usable_zero.2 ⟨v.al,ha.1,by have:=v.ln; omega⟩
 unfold BankM.read DiskM.read
 rw [if_neg v.nb,if_neg v.np,if_neg (by simp [hu])]
 rfl
theorem disk_set {B1:BankM} {D:DiskM} (h1:B1.ds=B.ds) (hb:¬ B.bad d):(B1.set d D).disk d=D:=by
 have:=BankM.not_bad.1 hb
 simp only [BankM.disk,BankM.set,h1,List.getD_eq_getElem?_getD]
 rw [List.getElem?_set_self (by omega)]
 rfl
theorem bad_set {B1:BankM} {D:DiskM} (h1:B1.ds=B.ds) {i:Int} (hb:¬ B.bad d):¬ (B1.set i D).bad d:=by
 have:=BankM.not_bad.1 hb
 rw [BankM.not_bad]
 simp only [BankM.set,h1,List.length_set]
 exact this
theorem spend_live (v:Lv B d):B.spend.2 = { B with steps:=B.steps+1 }:=by
 unfold BankM.spend
 rw [if_neg v.np]
 simp [v.pw]
theorem write_live (v:Lv B d) (ha:0≤a∧a<140) (hs:s.size≤2048):
  (B.write d a s).1=0∧Lv (B.write d a s).2 d∧(∀ x,cel (B.write d a s).2 d x=if x.toNat=a.toNat then s else cel B d x)∧(B.write d a s).2.steps=B.steps+1∧(B.write d a s).2.left=B.left:=by
 have hu:(B.disk d).usable a=0:=DiskM.usable_zero.2 ⟨v.al,ha.1,by have:=v.ln; omega⟩
 have hw:(B.disk d).write a s=(0,{ B.disk d with N:=(B.disk d).N.set a.toNat s,W:=(B.disk d).W++[(a,s)] }):=by
  unfold DiskM.write
  rw [if_neg (by simp [hu]),if_neg (by omega)]
 have hB:B.write d a s=(0,({ B with steps:=B.steps+1 }:BankM).set d { B.disk d with N:=(B.disk d).N.set a.toNat s,W:=(B.disk d).W++[(a,s)] }):=by
  unfold BankM.write
  rw [if_neg v.nb,if_neg v.np,hw,spend_live v]
 have ht:=v.ti.write d a s
 rw [hB] at ht ⊢
 have hd:=disk_set (B:=B) (B1:={ B with steps:=B.steps+1 }) (D:={ B.disk d with N:=(B.disk d).N.set a.toNat s,W:=(B.disk d).W++[(a,s)] }) rfl v.nb
 refine ⟨rfl,⟨bad_set rfl v.nb,v.pw,by rw [hd]; exact v.al,by rw [hd]; simp only [List.length_set]; exact v.ln,ht⟩,fun x=>?_,rfl,rfl⟩
 simp only [cel,hd,List.getD_eq_getElem?_getD]
 by_cases h:x.toNat=a.toNat
 ·rw [if_pos h,h,List.getElem?_set_self (by have:=v.ln; omega)]; rfl
 ·rw [if_neg h,List.getElem?_set_ne (fun e=>h e.symm)]
theorem flush_live (v:Lv B d):(B.flush d).1=0∧Lv (B.flush d).2 d∧(∀ x,cel (B.flush d).2 d x=cel B d x)∧(B.flush d).2.steps=B.steps+1∧(B.flush d).2.left=B.left∧((B.flush d).2.disk d).W=[]:=by
 have hw:(B.disk d).flush=(0,{ B.disk d with L:=(B.disk d).N,W:=[] }):=by
  unfold DiskM.flush
  rw [if_neg (by simp [v.al])]
 have hB:B.flush d=(0,({ B with steps:=B.steps+1 }:BankM).set d { B.disk d with L:=(B.disk d).N,W:=[] }):=by
  unfold BankM.flush
  rw [if_neg v.nb,if_neg v.np,hw,spend_live v]
 have ht:=v.ti.flush d
 rw [hB] at ht ⊢
 have hd:=disk_set (B:=B) (B1:={ B with steps:=B.steps+1 }) (D:={ B.disk d with L:=(B.disk d).N,W:=[] }) rfl v.nb
 refine ⟨rfl,⟨bad_set rfl v.nb,v.pw,by rw [hd]; exact v.al,by rw [hd]; exact v.ln,ht⟩,fun x=>?_,rfl,rfl,by rw [hd]⟩
 simp only [cel,hd]
def lastW (l:KV) (x:Int) (c:ByteArray):ByteArray:=l.foldl (fun c p=>if p.1=x then p.2 else c) c
theorem lastW_cons (p:Int × ByteArray) (l:KV) (x:Int) (c:ByteArray):lastW (p::l) x c=lastW l x (if p.1=x then p.2 else c):=rfl
theorem lastW_app (l l':KV) (x:Int) (c:ByteArray):lastW (l++l') x c=lastW l' x (lastW l x c):=List.foldl_append
theorem lastW_none {x:Int}:∀ {l:KV} {c:ByteArray},(∀ p ∈ l,p.1≠x)→lastW l x c=c
 | [],_,_=>rfl
 | p::l,c,h=>by rw [lastW_cons,if_neg (h p (by simp)),lastW_none fun q hq=>h q (by simp [hq])]
theorem lastW_same {x:Int} {v:ByteArray}:∀ {l:KV},(∀ p ∈ l,p.1=x→p.2=v)→lastW l x v=v
 | [],_=>rfl
 | p::l,h=>by
  rw [lastW_cons]
  by_cases e:p.1=x
  ·rw [if_pos e,h p (by simp) e,lastW_same fun q hq=>h q (by simp [hq])]
  ·rw [if_neg e,lastW_same fun q hq=>h q (by simp [hq])]
theorem lastW_all {x:Int} {v:ByteArray}:∀ {l:KV} {c:ByteArray},(∀ p ∈ l,p.1=x→p.2=v)→(∃ p ∈ l,p.1=x)→lastW l x c=v
 | [],_,_,h=>by obtain ⟨p,hp,_⟩:=h; simp at hp
 | p::l,c,h,h2=>by
  rw [lastW_cons]
  by_cases e:p.1=x
  ·rw [if_pos e,h p (by simp) e,lastW_same fun q hq=>h q (by simp [hq])]
  ·rw [if_neg e]
   obtain ⟨q,hq,hx⟩:=h2
   rcases List.mem_cons.1 hq with rfl | hq
   ·exact absurd hx e
   ·exact lastW_all (fun q hq=>h q (by simp [hq])) ⟨q,hq,hx⟩
theorem getA_none {m:KV} {x:Int}:x ∉ m.map (·.1)→getA m x=none:=by
 induction m with
 | nil=>intro _; rfl
 | cons q r ih=>
  intro h
  simp only [List.map_cons,List.mem_cons,not_or] at h
  unfold getA
  rw [if_neg h.1,ih h.2]
theorem getA_some {m:KV} {x:Int}:x ∈ m.map (·.1)→∃ v,getA m x=some v:=by
 induction m with
 | nil=>intro h; simp at h
 | cons q r ih=>
  intro h
  unfold getA
  by_cases e:x=q.1
  ·exact ⟨q.2,by rw [if_pos e]⟩
  ·rw [if_neg e]
   simp only [List.map_cons,List.mem_cons] at h
   exact ih (h.resolve_left e)
theorem lastW_outs (base:Int) (m:KV) (y:Int) (c:ByteArray):lastW (outs base m) (base+y) c=(getA m y).getD c:=by
 by_cases h:y ∈ m.map (·.1)
 ·obtain ⟨v,hv⟩:=getA_some h
  rw [hv]
  refine lastW_all (fun p hp e=>?_) ⟨(base+y,(getA m y).getD ByteArray.empty),?_,rfl⟩
  ·rw [outs,List.mem_map] at hp
   obtain ⟨z,hz,rfl⟩:=hp
   simp only at e ⊢
   obtain rfl:z=y:=by omega
   rw [hv]; rfl
  ·rw [outs,List.mem_map]
   exact ⟨y,sortZ_mem.2 h,rfl⟩
 ·rw [getA_none h]
  refine lastW_none fun p hp e=>h ?_
  rw [outs,List.mem_map] at hp
  obtain ⟨z,hz,rfl⟩:=hp
  simp only at e
  obtain rfl:z=y:=by omega
  exact sortZ_mem.1 hz
theorem outs_mem {base:Int} {s:Nat} {m:KV} (o:OkA s m):∀ p ∈ outs base m,(base≤p.1∧p.1≤base+15)∧p.2.size≤s:=by
 intro p hp
 rw [outs,List.mem_map] at hp
 obtain ⟨z,hz,rfl⟩:=hp
 have hz:=sortZ_mem.1 hz
 obtain ⟨v,hv⟩:=getA_some hz
 have:=o.all _ (getA_mem hv)
 simp only [hv] at this ⊢
 exact ⟨by omega,this.2⟩
def FitW (l:KV):Prop:=∀ p ∈ l,(0≤p.1∧p.1<140)∧p.2.size≤2048
theorem writesM_live:∀ {l:KV} {B:BankM},Lv B d→FitW l→(writesM B d l).1=0∧Lv (writesM B d l).2 d∧(∀ x,0≤x→cel (writesM B d l).2 d x=lastW l x (cel B d x)) ∧
  (writesM B d l).2.steps=B.steps+l.length+1∧(writesM B d l).2.left=B.left∧((writesM B d l).2.disk d).W=[]
 | [],B,v,_=>by
  obtain ⟨h1,h2,h3,h4,h5,h6⟩:=flush_live v
  rw [writesM]
  exact ⟨h1,h2,fun x _=>h3 x,by rw [h4]; simp,h5,h6⟩
 | p::r,B,v,h=>by
  have hp:=h p (by simp)
  obtain ⟨h1,h2,h3,h4,h5⟩:=write_live v hp.1 hp.2
  obtain ⟨g1,g2,g3,g4,g5,g6⟩:=writesM_live (l:=r) h2 fun q hq=>h q (by simp [hq])
  rw [writesM,if_neg (by simp [h1])]
  refine ⟨g1,g2,fun x hx=>?_,by rw [g4,h4,List.length_cons]; omega,by rw [g5,h5],g6⟩
  rw [g3 x hx,h3 x,lastW_cons]
  congr 1
  by_cases e:p.1=x
  ·rw [if_pos e,if_pos (by rw [e])]
  ·rw [if_neg e,if_neg (by omega)]
end
structure Has (B:BankM) (d n:Int) (g:Int→Option ByteArray) (top:ByteArray) (ls:List ByteArray):Prop where
 hd:dep n≠0
 len:ls.length=2 ^ dep n
 sz:∀ p ∈ ls,p.size=32
 top:top=nodeD ls 1
 pairs:∀ i:Nat,0<i→i<2 ^ dep n→pairOf B d g i=(pairD ls i,0)
theorem wayN_mem {X y:Nat}:∀ {m:Nat},y ∈ wayN X m↔∃ t,1≤t∧t≤m∧y=X / 2 ^ t
 | 0=>⟨fun h=>by simp [wayN] at h,fun ⟨t,h1,h2,_⟩=>by omega⟩
 | m+1=>by
  rw [wayN,List.mem_cons,wayN_mem]
  constructor
  ·rintro (h | ⟨t,h1,h2,h3⟩)
   ·exact ⟨m+1,by omega,by omega,h⟩
   ·exact ⟨t,h1,by omega,h3⟩
  ·rintro ⟨t,h1,h2,h3⟩
   by_cases e:t=m+1
   ·exact .inl (by rw [h3,e])
   ·exact .inr ⟨t,h1,by omega,h3⟩
theorem gath_ok {f:Int→ByteArray × Int} {q:Int→ByteArray}:∀ {l:List Int} {acc:List ByteArray},(∀ x ∈ l,f x=(q x,0))→gath f acc l=(acc++l.map q,0)
 | [],acc,_=>by simp [gath]
 | x::r,acc,h=>by
  rw [gath,h x (by simp),if_neg (by simp),gath_ok fun y hy=>h y (by simp [hy])]
  simp
theorem getA_putAll {F:Int→ByteArray} {x:Int}:∀ {ks:List Int} {m:KV},getA (putAll m ks (ks.map F)) x=if x ∈ ks then some (F x) else getA m x
 | [],m=>by rw [putAll]; simp; simp
 | k::ks,m=>by
  rw [List.map_cons,putAll,getA_putAll,insA_get]
  by_cases h1:x ∈ ks
  ·rw [if_pos h1,if_pos (by simp [h1])]
  ·rw [if_neg h1]
   by_cases h2:x=k
   ·subst h2; rw [if_pos rfl,if_pos (by simp)]
   ·rw [if_neg h2,if_neg (by simp [h1,h2])]
section
variable {B:BankM} {d n:Int} {g:Int→Option ByteArray} {top key:ByteArray} {ls:List ByteArray} {s:Nat}
theorem Has.path (hh:Has B d n g top ls) (hs:s<2 ^ dep n):pathN n s=(wayN (2 ^ dep n+s) (dep n)).map fun i:Nat=>(i:Int):=pathN_way hh.hd
theorem way_bnd {k:Nat} (hs:s<2 ^ k) {y:Nat} (hy:y ∈ wayN (2 ^ k+s) k):0<y∧y<2 ^ k:=by
 obtain ⟨t,h1,h2,rfl⟩:=wayN_mem.1 hy
 have:=wayN_bound hs h2
 exact ⟨this.1,this.2.1 (by omega)⟩
theorem over_has (hh:Has B d n g top ls) (hs:s<2 ^ dep n):overM B d n g top s=((wayN (2 ^ dep n+s) (dep n)).map (pairD ls),sa ls s,0):=by
 have e:gath (pairOf B d g) [] (pathN n s)=((wayN (2 ^ dep n+s) (dep n)).map (pairD ls),0):=by
  rw [gath_ok (q:=fun x=>pairD ls x.toNat),hh.path hs,List.map_map,List.nil_append]
  ·rfl
  ·intro x hx
   rw [hh.path hs,List.mem_map] at hx
   obtain ⟨y,hy,rfl⟩:=hx
   have:=way_bnd hs hy
   exact hh.pairs y this.1 this.2
 have f:=follow_way hh.len hh.sz hs (dep n) (Nat.le_refl _)
 have e1:(2 ^ dep n+s) / 2 ^ dep n=1:=by
  rw [Nat.add_div_left _ (Nat.pow_pos (by decide)),Nat.div_eq_of_lt hs]
 rw [e1,←hh.top] at f
 unfold overM
 simp only [e,Int.toNat_natCast,f]
 simp
theorem way_hit {k i:Nat} (hs:s<2 ^ k) (h0:0<i) (hi:i<2 ^ k):i ∉ wayN (2 ^ k+s) k→∀ m,(2 ^ k+s) / 2 ^ m≠i:=by
 intro hn m e
 by_cases h1:m=0
 ·subst h1; rw [Nat.pow_zero,Nat.div_one] at e; omega
 ·by_cases h2:m≤k
  ·exact hn (wayN_mem.2 ⟨m,by omega,h2,e.symm⟩)
  ·have h3:2 ^ (k+1)≤2 ^ m:=Nat.pow_le_pow_right (by decide) (by omega)
   rw [Nat.pow_succ] at h3
   have h4:(2 ^ k+s) / 2 ^ m=0:=Nat.div_eq_of_lt (by omega)
   omega
theorem put_has {ch:KV} {x:ByteArray} (hh:Has B d n (getA ch) top ls) (hs:s<2 ^ dep n) (hx:x.size=32):
  Has B d n (getA (putAll ch (pathN n s) (putT s x ((wayN (2 ^ dep n+s) (dep n)).map (pairD ls))).1)) (putT s x ((wayN (2 ^ dep n+s) (dep n)).map (pairD ls))).2 (ls.set s x) ∧
  ∀ v ∈ (putT s x ((wayN (2 ^ dep n+s) (dep n)).map (pairD ls))).1,v.size≤64:=by
 have e:=put_way (x:=x) hh.len hh.sz hs (dep n) (Nat.le_refl _)
 have e1:(2 ^ dep n+s) / 2 ^ dep n=1:=by
  rw [Nat.add_div_left _ (Nat.pow_pos (by decide)),Nat.div_eq_of_lt hs]
 rw [e1] at e
 have hz:∀ p ∈ ls.set s x,p.size=32:=fun p hp=>by
  rcases List.mem_or_eq_of_mem_set hp with hp | rfl
  ·exact hh.sz p hp
  ·exact hx
 have hl:(ls.set s x).length=2 ^ dep n:=by rw [List.length_set]; exact hh.len
 have ep:(wayN (2 ^ dep n+s) (dep n)).map (pairD (ls.set s x))=(pathN n s).map fun z=>pairD (ls.set s x) z.toNat:=by
  rw [hh.path hs,List.map_map]; rfl
 rw [e]
 refine ⟨⟨hh.hd,hl,hz,rfl,fun i h0 hi=>?_⟩,fun v hv=>?_⟩
 ·simp only [ep]
  unfold pairOf
  rw [getA_putAll]
  by_cases hm:(i:Int) ∈ pathN n s
  ·rw [if_pos hm]; rfl
  ·rw [if_neg hm]
   have hm2:i ∉ wayN (2 ^ dep n+s) (dep n):=fun h=>hm (by rw [hh.path hs,List.mem_map]; exact ⟨i,h,rfl⟩)
   have:=hh.pairs i h0 hi
   rw [pairD_off (by rw [hh.len]; exact hs) h0 (by rw [hh.len]; exact way_hit hs h0 hi hm2)]
   unfold pairOf at this
   exact this
 ·obtain ⟨y,hy,rfl⟩:=List.mem_map.1 hv
  have:=way_bnd hs hy
  exact Nat.le_of_eq (pairD_size hz this.1 (by rw [hl]; exact this.2))
def setL (ls:List ByteArray) (l:KV):List ByteArray:=l.foldl (fun ls p=>ls.set p.1.toNat (kindT 0 p.2)) ls
def setC (cs:List ByteArray) (l:KV):List ByteArray:=l.foldl (fun ls p=>ls.set p.1.toNat p.2) cs
def Chs (n:Int) (l:KV):Prop:=∀ p ∈ l,0≤p.1∧p.1<n∧p.2.size≤2032
theorem prepS_has:∀ {l:KV} {top:ByteArray} {ch ce:KV} {ls:List ByteArray},Has B d n (getA ch) top ls→Chs n l→OkA 64 ch→OkA 2032 ce →
  ∃ ch' ce' top',prepS B d n top ch ce l=(ch',ce',top',0)∧Has B d n (getA ch') top' (setL ls l)∧OkA 64 ch'∧OkA 2032 ce'∧∀ y c,(getA ce' y).getD c=lastW l y ((getA ce y).getD c)
 | [],top,ch,ce,ls,hh,_,o1,o2=>⟨ch,ce,top,rfl,hh,o1,o2,fun _ _=>rfl⟩
 | p::r,top,ch,ce,ls,hh,hc,o1,o2=>by
  obtain ⟨q,x⟩:=p
  have hp:=hc (q,x) (by simp)
  simp only at hp
  obtain ⟨s,rfl⟩:=Int.eq_ofNat_of_zero_le hp.1
  have hn:=dep_pow hh.hd
  have hs:s<2 ^ dep n:=by
   generalize 2 ^ dep n=w at hn ⊢
   omega
  have ho:=over_has hh hs
  obtain ⟨h1,h2⟩:=put_has (x:=kindT 0 x) hh hs (kindT_size _ _)
  have hpl:=path_le hh.hd (s:=(s:Int)) ⟨hp.1,hp.2.1⟩
  have hsm:=dep_small hh.hd
  obtain ⟨ch',ce',top',g1,g2,g3,g4,g5⟩:=prepS_has (l:=r) h1 (fun p hp=>hc p (by simp [hp])) (o1.puts hpl h2) (o2.ins (k:=(s:Int)) (v:=x) (by omega) hp.2.2)
  refine ⟨ch',ce',top',?_,g2,g3,g4,fun y c=>?_⟩
  ·rw [prepS]
   simp only [ho,Int.toNat_natCast]
   rw [if_neg (by simp)]
   exact g1
  ·rw [g5,lastW_cons,insA_get]
   congr 1
   by_cases e:y=(s:Int)
   ·rw [if_pos e,if_pos e.symm]; rfl
   ·rw [if_neg e,if_neg (fun h=>e h.symm)]
theorem setL_map (l:KV):∀ (cs:List ByteArray),setL (cs.map (kindT 0)) l=(setC cs l).map (kindT 0):=by
 induction l with
 | nil=>intro cs; rfl
 | cons p r ih=>
  intro cs
  show setL ((cs.map (kindT 0)).set p.1.toNat (kindT 0 p.2)) r=(setC (cs.set p.1.toNat p.2) r).map (kindT 0)
  rw [←List.map_set,ih]
theorem setC_len (l:KV):∀ (cs:List ByteArray),(setC cs l).length=cs.length:=by
 induction l with
 | nil=>intro cs; rfl
 | cons p r ih=>intro cs; show (setC (cs.set p.1.toNat p.2) r).length=_; rw [ih,List.length_set]
theorem sa_setC:∀ {l:KV} {cs:List ByteArray},(∀ p ∈ l,0≤p.1∧p.1<cs.length)→∀ i:Nat,sa (setC cs l) i=lastW l i (sa cs i)
 | [],cs,_,i=>rfl
 | p::r,cs,h,i=>by
  have hp:=h p (by simp)
  show sa (setC (cs.set p.1.toNat p.2) r) i=_
  rw [sa_setC (fun q hq=>by rw [List.length_set]; exact h q (by simp [hq])),lastW_cons,sa_set (by omega)]
  congr 1
  by_cases e:p.1=(i:Int)
  ·rw [if_pos e,if_pos (by omega)]
  ·rw [if_neg e,if_neg (by omega)]
structure Holds (B:BankM) (d n:Int) (top:ByteArray) (cs:List ByteArray):Prop where
 has:Has B d n (fun _=>none) top (cs.map (kindT 0))
 cell:∀ i:Nat,i<2 ^ dep n→cel B d (120+(i:Int))=sa cs i
theorem Holds.len {cs:List ByteArray} (o:Holds B d n top cs):cs.length=2 ^ dep n:=by rw [←o.has.len,List.length_map]
theorem apply_holds {ch ce:KV} {cs l:List ByteArray} (v:Lv B d) (hh:Has B d n (getA ch) top (l.map (kindT 0))) (o1:OkA 64 ch) (o2:OkA 2032 ce) (hl:l.length=2 ^ dep n)
  (hc:∀ i:Nat,i<2 ^ dep n→(getA ce i).getD (cel B d (120+(i:Int)))=sa l i):
  FitW (outs 100 ch++outs 120 ce)∧Holds (writesM B d (outs 100 ch++outs 120 ce)).2 d n top l:=by
 have fit:FitW (outs 100 ch++outs 120 ce):=by
  intro p hp
  rcases List.mem_append.1 hp with hp | hp
  ·have:=outs_mem o1 p hp; omega
  ·have:=outs_mem o2 p hp; omega
 obtain ⟨h1,h2,h3,h4,h5,h6⟩:=writesM_live v fit
 have hsm:=dep_small hh.hd
 have hn:=dep_pow hh.hd
 refine ⟨fit,⟨⟨hh.hd,hh.len,hh.sz,hh.top,fun i h0 hi=>?_⟩,fun i hi=>?_⟩⟩
 ·have hi16:(i:Int)<16:=by
   generalize 2 ^ dep n=w at hn hi
   omega
  have hp:=hh.pairs i h0 hi
  show BankM.read _ _ _ = _
  rw [read_cel h2 (by omega),h3 _ (by omega),lastW_app,lastW_outs]
  rw [lastW_none (l:=outs 120 ce) fun p hp=>by have:=outs_mem o2 p hp; omega]
  unfold pairOf at hp
  cases e:getA ch i with
  | none=>
   rw [e] at hp
   simp only at hp
   rw [read_cel v (by omega)] at hp
   exact hp
  | some p=>rw [e] at hp; exact hp
 ·have hi16:(i:Int)<16:=by
   generalize 2 ^ dep n=w at hn hi
   omega
  rw [h3 _ (by omega),lastW_app,lastW_outs,lastW_none (l:=outs 100 ch) fun p hp=>by have:=outs_mem o1 p hp; omega]
  exact hc i hi
theorem Holds.none0 {cs:List ByteArray} (o:Holds B d n top cs):Has B d n (getA []) top (cs.map (kindT 0)):=o.has
theorem prep_law {cs:List ByteArray} {l:KV} (v:Lv B d) (hk:key.size=32) (o:Holds B d n top cs) (hc:Chs n l):
  ∃ ws top',prepM B key d n top l=(ws,top',0)∧FitW ws∧ws.length≤32∧Holds (writesM B d ws).2 d n top' (setC cs l):=by
 have g:goodS B d n key:=⟨o.has.hd,hk,v.nb⟩
 have hn:=dep_pow o.has.hd
 obtain ⟨ch,ce,top',h1,h2,h3,h4,h5⟩:=prepS_has o.none0 hc (.nil 64) (.nil 2032)
 rw [setL_map] at h2
 obtain ⟨h6,h7⟩:=apply_holds (cs:=cs) v h2 h3 h4 (by rw [setC_len,o.len]) fun i hi=>by
  rw [h5,sa_setC fun p hp=>by have:=hc p hp; have:=o.len; omega,←o.cell i hi]; rfl
 refine ⟨_,top',?_,h6,?_,h7⟩
 ·have hck:checkM (goodS B d n key) n l=0:=by
   unfold checkM
   rw [if_neg (by simp [g])]
   clear h1 h2 h3 h4 h5 h6 h7
   induction l with
   | nil=>rfl
   | cons p r ih=>
    have hp:=hc p (by simp)
    rw [chkL,if_neg (by simp [mayZ_zero.2 ⟨g,hp.1,hp.2.1⟩]),if_neg (by omega)]
    exact ih fun q hq=>hc q (by simp [hq])
  unfold prepM
  rw [if_neg (by simp [hck]),h1,if_neg (by simp)]
 ·rw [List.length_append,outs_len,outs_len]
  have:=h3.len
  have:=h4.len
  omega
theorem over_holds {cs:List ByteArray} (o:Holds B d n top cs) (hs:s<2 ^ dep n):(overM B d n (fun _=>none) top s).2=(kindT 0 (sa cs s),0):=by
 rw [over_has o.has hs]
 have:s<cs.length:=by rw [o.len]; exact hs
 rw [sa_get (by rw [List.length_map]; exact this),sa_get this,List.getElem_map]
theorem get_holds {cs:List ByteArray} (v:Lv B d) (hk:key.size=32) (o:Holds B d n top cs) (hs:s<2 ^ dep n):getM B key d n top s=cellM key d s (kindT 0 (sa cs s)) (sa cs s,0):=by
 have g:goodS B d n key:=⟨o.has.hd,hk,v.nb⟩
 have hn:=dep_pow o.has.hd
 have hsm:=dep_small o.has.hd
 have h1:0≤(s:Int)∧(s:Int)<n:=by
  generalize 2 ^ dep n=w at hn hs
  omega
 unfold getM getG
 rw [if_neg (by simp [mayZ_zero.2 ⟨g,h1⟩]),over_holds o hs,if_neg (by simp),read_cel v (by omega),o.cell s hs]
theorem cell_empty {slot:Int}:cellM key d slot (kindT 0 ByteArray.empty) (ByteArray.empty,0)=(zerosT 32,0):=by
 unfold cellM leafT
 rw [if_neg (by simp),if_neg (by simp),if_pos rfl]
theorem cell_sealed {slot:Int} {nonce pl:ByteArray} (hz:nonce.size=12):cellM key d slot (kindT 0 (cellOf key d slot nonce pl)) (cellOf key d slot nonce pl,0)=(pl,0):=by
 have h1:=cellOf_size key d slot nonce pl
 unfold cellM leafT
 rw [if_neg (by simp),if_neg (by simp),if_neg (fun e=>by have e:cellOf key d slot nonce pl=ByteArray.empty:=e; rw [e] at h1; simp at h1),if_neg (by simp only; omega)]
 have e1:(cellOf key d slot nonce pl).extract 0 12=nonce:=by
  rw [cellOf,←hz]; exact ByteArray.extract_append_eq_left rfl
 have e2:(cellOf key d slot nonce pl).extract 12 (cellOf key d slot nonce pl).size=sealA key nonce (withB d slot) pl:=by
  rw [cellOf,←hz]; exact ByteArray.extract_append_eq_right rfl (by rw [ByteArray.size_append])
 simp only [e1,e2,openA_seal]
theorem blank_fit (hd:dep n≠0):FitW (blankW n):=by
 have hsm:=dep_small hd
 intro p hp
 rw [blankW,List.mem_append,List.mem_map,List.mem_map] at hp
 rcases hp with ⟨i,hi,rfl⟩ | ⟨i,hi,rfl⟩
 ·have hi:=List.mem_range.1 hi
  have:(pairD (blankL n) (i+1)).size=64:=pairD_size (blankL_size n) (by omega) (by rw [blankL_len]; omega)
  simp only
  omega
 ·have hi:=List.mem_range.1 hi
  have:ByteArray.empty.size=0:=rfl
  simp only
  omega
theorem blank_law (v:Lv B d) (hd:dep n≠0):Holds (writesM B d (blankW n)).2 d n (blankT n) (List.replicate n.toNat ByteArray.empty):=by
 obtain ⟨h1,h2,h3,h4,h5,h6⟩:=writesM_live v (blank_fit hd)
 have hsm:=dep_small hd
 have hn:=dep_pow hd
 have hN:n.toNat=2 ^ dep n:=by
  generalize 2 ^ dep n=w at hn ⊢
  omega
 have hL:(List.replicate n.toNat ByteArray.empty).map (kindT 0)=blankL n:=by rw [List.map_replicate]; rfl
 refine ⟨⟨hd,by rw [List.length_map,List.length_replicate,hN],fun p hp=>?_,?_,fun i h0 hi=>?_⟩,fun i hi=>?_⟩
 ·rw [hL] at hp; exact blankL_size n p hp
 ·rw [hL]; rfl
 ·rw [hL]
  rw [←hN] at hi
  show BankM.read _ _ _ = _
  rw [read_cel h2 (by omega),h3 _ (by omega),lastW_all (v:=pairD (blankL n) i)]
  ·intro p hp e
   rw [blankW,List.mem_append,List.mem_map,List.mem_map] at hp
   rcases hp with ⟨j,hj,rfl⟩ | ⟨j,hj,rfl⟩
   ·simp only at e ⊢
    rw [show j+1=i by omega]
   ·simp only at e
    omega
  ·refine ⟨(100+(i:Int),pairD (blankL n) i),?_,rfl⟩
   rw [blankW,List.mem_append,List.mem_map]
   refine .inl ⟨i-1,List.mem_range.2 (by omega),?_⟩
   rw [show i-1+1=i by omega]
 ·rw [←hN] at hi
  rw [h3 _ (by omega),sa_get (by rw [List.length_replicate]; exact hi),List.getElem_replicate,lastW_all (v:=ByteArray.empty)]
  ·intro p hp e
   rw [blankW,List.mem_append,List.mem_map,List.mem_map] at hp
   rcases hp with ⟨j,hj,rfl⟩ | ⟨j,hj,rfl⟩
   ·have hj:=List.mem_range.1 hj
    simp only at e ⊢
    omega
   ·rfl
  ·refine ⟨(120+(i:Int),ByteArray.empty),?_,rfl⟩
   rw [blankW,List.mem_append]
   refine .inr (List.mem_map.2 ⟨i,List.mem_range.2 hi,rfl⟩)
end
end Go.Proofs.YthegnmanjdlmjaaGreatDoor
namespace Go.Proofs.YthegnmanjdlmjaaGreatDoor
open Go.Sh Go.RowKit
section
variable {B:BankM} {d n:Int} {top key:ByteArray} {cs:List ByteArray} {k:Nat}
theorem room_writesM:∀ {l:KV} {B:BankM},B.Ok→Room B (k+l.length+1)→Room (writesM B d l).2 k
 | [],B,o,r=>by rw [writesM]; exact room_flush o.left (r.mono (by simp)) d
 | p::l,B,o,r=>by
  have h1:=room_write (k:=k+l.length+1) o.left (r.mono (by simp; omega)) d p.1 p.2
  rw [writesM]
  by_cases e:(B.write d p.1 p.2).1≠0
  ·rw [if_pos e]; exact h1.mono (by omega)
  ·rw [if_neg e]; exact room_writesM (BankM.write_ok o _ _ _) h1
theorem writesM_ok:∀ {l:KV} {B:BankM},B.Ok→(writesM B d l).2.Ok
 | [],B,o=>by rw [writesM]; exact BankM.flush_ok o d
 | p::l,B,o=>by
  rw [writesM]
  by_cases e:(B.write d p.1 p.2).1≠0
  ·rw [if_pos e]; exact BankM.write_ok o _ _ _
  ·rw [if_neg e]; exact writesM_ok (BankM.write_ok o _ _ _)
theorem applyM_good {l:KV} (g:goodS B d n key):applyM B key d n l=writesM B d l:=by unfold applyM; rw [if_neg (by simp [g])]
structure Sl (B:BankM) (d n:Int) (key top:ByteArray) (cs:List ByteArray) (k:Nat):Prop where
 lv:Lv B d
 ok:B.Ok
 rm:Room B k
 hk:key.size=32
 ho:Holds B d n top cs
theorem Sl.good (s:Sl B d n key top cs k):goodS B d n key:=⟨s.ho.has.hd,s.hk,s.lv.nb⟩
theorem Sl.hd (s:Sl B d n key top cs k):dep n≠0:=s.ho.has.hd
theorem two_pow_dep (hd:dep n≠0):2 ^ dep n=n.toNat:=by
 have hn:=dep_pow hd
 generalize 2 ^ dep n=w at hn ⊢
 omega
theorem Sl.len (s:Sl B d n key top cs k):cs.length=n.toNat:=by rw [s.ho.len,two_pow_dep s.hd]
theorem blankW_len (hd:dep n≠0):(blankW n).length≤32:=by
 have:=dep_small hd
 simp only [blankW,List.length_append,List.length_map,List.length_range]
 omega
theorem Sl.step (s:Sl B d n key top cs (k+40)) {l:KV} (hc:Chs n l):∃ ws top',prepM B key d n top l=(ws,top',0)∧ws.length≤32∧(writesM B d ws).1=0∧Sl (writesM B d ws).2 d n key top' (setC cs l) k∧((writesM B d ws).2.disk d).W=[]:=by
 obtain ⟨ws,top',h1,h2,h3,h4⟩:=prep_law s.lv s.hk s.ho hc
 obtain ⟨g1,g2,g3,g4,g5,g6⟩:=writesM_live s.lv h2
 exact ⟨ws,top',h1,h3,g1,⟨g2,writesM_ok s.ok,room_writesM s.ok (s.rm.mono (by omega)),s.hk,h4⟩,g6⟩
theorem Sl.get (s:Sl B d n key top cs k) {i:Nat} (hi:i<n.toNat):getM B key d n top i=cellM key d i (kindT 0 (sa cs i)) (sa cs i,0):=get_holds s.lv s.hk s.ho (by rw [two_pow_dep s.hd]; exact hi)
def Wants (key:ByteArray) (d:Int) (cs want:List ByteArray):Prop:=cs.length=want.length∧∀ i:Nat,i<want.length→(sa want i).size=32∧((sa cs i=ByteArray.empty∧sa want i=zerosT 32)∨∃ nonce,nonce.size=12∧sa cs i=cellOf key d i nonce (sa want i))
theorem sa_rep {n i:Nat} {x:ByteArray} (h:i<n):sa (List.replicate n x) i=x:=by rw [sa_get (by simpa using h),List.getElem_replicate]
theorem wants_new (N:Nat):Wants key d (List.replicate N ByteArray.empty) (List.replicate N (zerosT 32)):=
 ⟨by simp,fun i hi=>by
  have hi:i<N:=by simpa using hi
  rw [sa_rep hi,sa_rep hi]
  exact ⟨zerosT_size 32,.inl ⟨rfl,rfl⟩⟩⟩
theorem Wants.set {want:List ByteArray} {i:Nat} {nonce pl:ByteArray} (w:Wants key d cs want) (hi:i<want.length) (h1:nonce.size=12) (h2:pl.size=32):Wants key d (cs.set i (cellOf key d i nonce pl)) (want.set i pl):=by
 refine ⟨by rw [List.length_set,List.length_set]; exact w.1,fun j hj=>?_⟩
 rw [List.length_set] at hj
 rw [sa_set hi,sa_set (by rw [w.1]; exact hi)]
 by_cases e:j=i
 ·subst e
  rw [if_pos rfl,if_pos rfl]
  exact ⟨h2,.inr ⟨nonce,h1,rfl⟩⟩
 ·rw [if_neg e,if_neg e]
  exact w.2 j hj
theorem Wants.get {want:List ByteArray} (w:Wants key d cs want) (s:Sl B d n key top cs k) {i:Nat} (hi:i<n.toNat):getM B key d n top i=(sa want i,0):=by
 rw [s.get hi]
 obtain ⟨_,⟨h1,h2⟩ | ⟨nonce,h1,h2⟩⟩:=w.2 i (by rw [←w.1,s.len]; exact hi)
 ·rw [h1,h2,cell_empty]
 ·rw [h2,cell_sealed h1]
end
end Go.Proofs.YthegnmanjdlmjaaGreatDoor
namespace Go.Proofs.YthegnmanjdlmjaaGreatDoor
open Go.Sh Go.RowKit
structure Alike (B B':BankM) (e:Int):Prop where
 len:B'.ds.length=B.ds.length
 pw:B.fails=false∧B'.fails=false
 dk:B'.disk e=B.disk e
namespace Alike
variable {B B' B'':BankM} {e d n:Int} {key top:ByteArray} {cs:List ByteArray}
theorem refl (h:B.fails=false):Alike B B e:=⟨rfl,⟨h,h⟩,rfl⟩
theorem trans (x:Alike B B' e) (y:Alike B' B'' e):Alike B B'' e:=⟨y.len.trans x.len,⟨x.pw.1,y.pw.2⟩,y.dk.trans x.dk⟩
theorem bad (x:Alike B B' e):B'.bad e↔B.bad e:=by unfold BankM.bad; rw [x.len]
theorem read (x:Alike B B' e) (a:Int):B'.read e a=B.read e a:=by
 have h1:¬ B.noPower:=by simp [BankM.noPower,x.pw.1]
 have h2:¬ B'.noPower:=by simp [BankM.noPower,x.pw.2]
 unfold BankM.read
 rw [if_neg h1,if_neg h2,x.dk]
 by_cases hb:B.bad e
 ·rw [if_pos hb,if_pos (x.bad.2 hb)]
 ·rw [if_neg hb,if_neg fun h=>hb (x.bad.1 h)]
theorem get (x:Alike B B' e) (s:Int):getM B' key e n top s=getM B key e n top s:=by
 have hp:pairOf B' e (fun _=>none)=pairOf B e (fun _=>none):=by
  funext i
  unfold pairOf
  exact x.read _
 have ho:overM B' e n (fun _=>none) top s=overM B e n (fun _=>none) top s:=by unfold overM; rw [hp]
 have hg:getG B' key e n top s=getG B key e n top s:=by unfold getG; rw [ho,x.read]
 have hm:mayZ (goodS B' e n key) n s=mayZ (goodS B e n key) n s:=by
  unfold mayZ
  have:goodS B' e n key↔goodS B e n key:=by unfold goodS; rw [x.bad]
  by_cases h:goodS B e n key
  ·simp [h,this.2 h]
  ·have h':¬ goodS B' e n key:=fun g=>h (this.1 g)
   simp [h,h']
 unfold getM
 rw [hm,hg]
end Alike
section
variable {B:BankM} {d e n a:Int} {key top s:ByteArray} {cs:List ByteArray} {D:DiskM} {k:Nat}
theorem disk_off {B1:BankM} (h1:B1.ds=B.ds) (hn:d.toNat≠e.toNat):(B1.set d D).disk e=B.disk e:=by
 simp only [BankM.disk,BankM.set,h1,List.getD_eq_getElem?_getD]
 rw [List.getElem?_set_ne hn]
theorem alike_set (hp:B.fails=false) {B1:BankM} (h1:B1.ds=B.ds) (h2:B1.fails=false) (hn:d.toNat≠e.toNat):Alike B (B1.set d D) e:=
 ⟨by simp [BankM.set,h1],⟨hp,h2⟩,disk_off h1 hn⟩
theorem spend_fails (hp:B.fails=false):B.spend.2.fails=false:=by
 unfold BankM.spend
 split <;> exact hp
theorem alike_write (hp:B.fails=false) (hn:d.toNat≠e.toNat):Alike B (B.write d a s).2 e:=by
 unfold BankM.write
 split
 ·exact .refl hp
 ·split
  ·exact .refl hp
  ·exact alike_set hp B.spend_ds (spend_fails hp) hn
theorem alike_flush (hp:B.fails=false) (hn:d.toNat≠e.toNat):Alike B (B.flush d).2 e:=by
 unfold BankM.flush
 split
 ·exact .refl hp
 ·split
  ·exact .refl hp
  ·exact alike_set hp B.spend_ds (spend_fails hp) hn
theorem alike_writes (hn:d.toNat≠e.toNat):∀ {l:KV} {B:BankM},B.fails=false→Alike B (writesM B d l).2 e
 | [],B,hp=>by rw [writesM]; exact alike_flush hp hn
 | p::l,B,hp=>by
  have h:=alike_write (a:=p.1) (s:=p.2) hp hn
  rw [writesM]
  split
  ·exact h
  ·exact h.trans (alike_writes hn h.pw.2)
theorem writes_fails:∀ {l:KV} {B:BankM},B.fails=false→(writesM B d l).2.fails=false∧(writesM B d l).2.ds.length=B.ds.length
 | [],B,hp=>by
  rw [writesM]
  have:=alike_flush (d:=d) (e:=if d.toNat=0 then 1 else 0) hp (by split <;> omega)
  exact ⟨this.pw.2,this.len⟩
 | p::l,B,hp=>by
  have h:=alike_write (d:=d) (a:=p.1) (s:=p.2) (e:=if d.toNat=0 then 1 else 0) hp (by split <;> omega)
  rw [writesM]
  split
  ·exact ⟨h.pw.2,h.len⟩
  ·have:=writes_fails (l:=l) (B:=(B.write d p.1 p.2).2) h.pw.2
   exact ⟨this.1,this.2.trans h.len⟩
theorem tiny_writes:∀ {l:KV} {B:BankM},B.Tiny→(writesM B d l).2.Tiny
 | [],B,t=>by rw [writesM]; exact t.flush d
 | p::l,B,t=>by
  rw [writesM]
  split
  ·exact t.write _ _ _
  ·exact tiny_writes (t.write _ _ _)
end
structure Bk (B:BankM) (N k:Nat):Prop where
 ok:B.Ok
 ti:B.Tiny
 rm:Room B k
 pw:B.fails=false
 len:B.ds.length=N
namespace Bk
variable {B:BankM} {N k m:Nat} {d n:Int} {l:KV}
theorem mono (b:Bk B N k) (h:m≤k):Bk B N m:=⟨b.ok,b.ti,b.rm.mono h,b.pw,b.len⟩
theorem writes (b:Bk B N k) (h:m+l.length+1≤k):Bk (writesM B d l).2 N m:=
 ⟨writesM_ok b.ok,tiny_writes b.ti,room_writesM b.ok (b.rm.mono h),(writes_fails b.pw).1,(writes_fails b.pw).2.trans b.len⟩
theorem lv (b:Bk B N k) (h0:0≤d) (h1:d<N) (h2:(B.disk d).dead=false) (h3:140≤(B.disk d).N.length):Lv B d:=⟨BankM.not_bad.2 (by rw [b.len]; omega),b.pw,h2,h3,b.ti⟩
end Bk
theorem bk_new {N:Nat} (h1:1≤N) (h2:N≤12):Bk (BankM.new N 140) N 1000000:=by
 have hl:(mx 1 (mn (N:Int) 12)).toNat=N:=by
  unfold mx mn
  split <;> split <;> omega
 refine ⟨BankM.new_ok _ _,tiny_new _ _,⟨show (0:Int)+1000000<1000000000 by decide,show (0:Int)≤9223372036854775807 by decide,fun D hD=>?_⟩,rfl,by simp [BankM.new,hl]⟩
 have hD:D ∈ List.replicate (mx 1 (mn (N:Int) 12)).toNat (DiskM.new 140):=hD
 rw [List.eq_of_mem_replicate hD]
 decide
theorem new_diskN {N:Nat} {d:Int} (h2:N≤12) (h0:0≤d) (h1:d<N):(BankM.new N 140).disk d=DiskM.new 140:=by
 have hl:(mx 1 (mn (N:Int) 12)).toNat=N:=by
  unfold mx mn
  split <;> split <;> omega
 simp only [BankM.disk,BankM.new,hl,List.getD_eq_getElem?_getD]
 rw [List.getElem?_replicate,if_pos (by omega)]
 rfl
end Go.Proofs.YthegnmanjdlmjaaGreatDoor
namespace Go.Proofs.YthegnmanjdlmjaaGreatDoor
open Go.Sh Go.RowKit
structure ShM where
 b:Nat
 d:Int
 n:Int
 key:ByteArray
 top:ByteArray
 use:Bool
def eH:Enc ShM:=⟨fun s=>[.pointer (some ⟨s.b,0,none⟩),.int .i64 s.d,.int .i64 s.n,.string s.key,.string s.top,.bool s.use],6,fun _=>rfl,by simp [isPlainCell]⟩
def ha (xs:List ShM) (i:Nat):ShM:=xs.getD i ⟨0,0,0,ByteArray.empty,ByteArray.empty,false⟩
theorem ha_get {xs:List ShM} {i:Nat} (h:i<xs.length):ha xs i=xs[i]:=by simp [ha,h]
theorem M.ldp {h:H} {b o:Nat} {c:Array Value} {e:TypeId} {f:Nat × Nat} {p:Option Addr} {K:Option Addr→Prop} (hb:h b=some (.cells c e f)) (hv:c[o]? = some (.pointer p)) (k:K p):M.load h ⟨b,o,none⟩ fun v=>M.ptr v K:=M.load_in hb hv ⟨_,rfl,k⟩
theorem M.lds {h:H} {b o:Nat} {c:Array Value} {e:TypeId} {f:Nat × Nat} {s:ByteArray} {K:ByteArray→Prop} (hb:h b=some (.cells c e f)) (hv:c[o]? = some (.string s)) (k:K s):M.load h ⟨b,o,none⟩ fun v=>M.str v K:=M.load_in hb hv ⟨_,rfl,k⟩
theorem M.ldb {h:H} {b o:Nat} {c:Array Value} {e:TypeId} {f:Nat × Nat} {s:Bool} {K:Bool→Prop} (hb:h b=some (.cells c e f)) (hv:c[o]? = some (.bool s)) (k:K s):M.load h ⟨b,o,none⟩ fun v=>M.bool v K:=M.load_in hb hv ⟨_,rfl,k⟩
def hadM (B:BankM) (x:ShM) (s:Int):ByteArray × Int:=if x.use=true then getM B x.key x.d x.n x.top s else (ByteArray.empty,24)
def cN (n:Nat) (f:Nat→ByteArray × Int):List ByteArray:=(List.range n).map fun i=>if (f i).2=0 then (f i).1 else ByteArray.empty
def tN (n:Nat) (f:Nat→ByteArray × Int):List Bool:=(List.range n).map fun i=>decide ((f i).2=0)
def lostN (n:Nat) (f:Nat→ByteArray × Int):List Int:=((List.range n).filter fun i=>(f i).2≠0).map fun i:Nat=>(i:Int)
open Classical in
noncomputable def loadM (n:Nat) (f:Nat→ByteArray × Int):List ByteArray × List Int × Int:=
 if ∃ i,i<n∧(f i).2=21 then ([],[],21) else if (decM (cN n f) (tN n f)).2≠0 then ([],[],(decM (cN n f) (tN n f)).2) else ((decM (cN n f) (tN n f)).1,lostN n f,0)
noncomputable def oneM (n:Nat) (f:Nat→ByteArray × Int) (c:Nat):ByteArray × Int:=
 if (f c).2=0∨(f c).2=21 then f c else if (loadM n f).2.2≠0 then (ByteArray.empty,(loadM n f).2.2) else (sa (loadM n f).1 c,0)
theorem lostN_succ (n:Nat) (f:Nat→ByteArray × Int):lostN (n+1) f=lostN n f++if (f n).2=0 then [] else [(n:Int)]:=by
 rw [lostN,List.range_succ,List.filter_append,List.map_append]
 congr 1
 by_cases h:(f n).2=0 <;> simp [h]
theorem lostN_len (n:Nat) (f:Nat→ByteArray × Int):(lostN n f).length≤n:=by
 rw [lostN,List.length_map]
 exact Nat.le_trans (List.length_filter_le _ _) (by rw [List.length_range]; exact Nat.le_refl _)
theorem decM_len {xs:List ByteArray} {bs:List Bool} (h:(decM xs bs).2=0) (hx:2≤xs.length):(decM xs bs).1.length=xs.length:=by
 unfold decM at h ⊢
 by_cases h1:(selB bs xs).length<xs.length-2
 ·rw [if_pos h1] at h; simp at h
 rw [if_neg h1] at h ⊢
 by_cases h2:shapeM (selB bs xs)≠0
 ·rw [if_pos h2] at h; exact absurd h h2
 rw [if_neg h2]
 simp [applyT,(genM_gd _).rl]
 omega
theorem cN_len (n:Nat) (f:Nat→ByteArray × Int):(cN n f).length=n:=by simp [cN]
theorem loadM_len {n:Nat} {f:Nat→ByteArray × Int} (h:(loadM n f).2.2=0) (hn:2≤n):(loadM n f).1.length=n:=by
 unfold loadM at h ⊢
 by_cases h1:∃ i,i<n∧(f i).2=21
 ·rw [if_pos h1] at h; simp at h
 rw [if_neg h1] at h ⊢
 by_cases h2:(decM (cN n f) (tN n f)).2≠0
 ·rw [if_pos h2] at h; exact absurd h h2
 rw [if_neg h2]
 have:=decM_len (Decidable.not_not.1 h2) (by rw [cN_len]; exact hn)
 rw [cN_len] at this
 exact this
section
variable {hx h:H} {a:Option Addr} {l c b:Nat} {B:BankM} {xs:List ShM} {s:Int}
theorem Ro.ldH {z:Nat} {zi:Int} {K:Option Addr→Int→Int→ByteArray→ByteArray→Bool→Prop} (f:Ro eH h a l xs) (hz:zi=(z:Int)) (hl:z<l)
  (k:K (some ⟨(ha xs z).b,0,none⟩) (ha xs z).d (ha xs z).n (ha xs z).key (ha xs z).top (ha xs z).use):
  M.idx a l zi fun a34 j35=>M.load h ((Addr.add a34 (j35*6)).add 0) fun v36=>M.ptr v36 fun p37=>M.load h ((Addr.add a34 (j35*6)).add 1) fun v38=>M.int .i64 v38 fun n39=>
   M.load h ((Addr.add a34 (j35*6)).add 2) fun v40=>M.int .i64 v40 fun n41=>M.load h ((Addr.add a34 (j35*6)).add 3) fun v42=>M.str v42 fun s43=>
   M.load h ((Addr.add a34 (j35*6)).add 4) fun v44=>M.str v44 fun s45=>M.load h ((Addr.add a34 (j35*6)).add 5) fun v46=>M.bool v46 fun b47=>K p37 n39 n41 s43 s45 b47:=by
 subst hz
 refine f.at (by omega) (by omega) fun q hi hc=>?_
 simp only [Int.toNat_natCast] at hi hc ⊢
 rw [ha_get hi] at k
 have c0:=hc 0 (by decide)
 have c1:=hc 1 (by decide)
 have c2:=hc 2 (by decide)
 have c3:=hc 3 (by decide)
 have c4:=hc 4 (by decide)
 have c5:=hc 5 (by decide)
 exact ⟨_,c0,_,rfl,_,c1,_,rfl,_,c2,_,rfl,_,c3,_,rfl,_,c4,_,rfl,_,c5,_,rfl,k⟩
theorem get_spec {x:ShM} {Q:ByteArray→Int→H→Prop} (wx:Wd hx h [bankC b B]) (sm:B.Sm) (tb:Tabs h) (hb:x.b=b) (k:∀ h',Keep h h'→Q (hadM B x s).1 (hadM B x s).2 h'):
  stripe_Shelf_get (some ⟨x.b,0,none⟩) x.d x.n x.key x.top x.use s h Q:=by
 unfold stripe_Shelf_get stripe_Shelf_get.g
 subst hb
 unfold hadM at k
 refine M.new_w (Wd.start h) fun b3 h4 w=>?_
 have hb:=w.blk 0 rfl
 simp only [addr_add,Nat.zero_add]
 refine M.ldb hb rfl ?_
 cases hu:x.use with
 | false=>
  rw [hu] at k
  exact ct rfl (k _ w.keep)
 | true=>
  rw [hu,if_pos rfl] at k
  exact cf rfl (M.ldp hb rfl (M.ldi hb rfl (M.ldi hb rfl (M.lds hb rfl (M.lds hb rfl (Get_spec (wx.keeps w.keep) sm (tb.keep w.keep) fun h' kk=>k _ (w.keep.trans kk)))))))
theorem Ro.cpH {z:Nat} {zi:Int} {K:Option Addr→Int→Int→ByteArray→ByteArray→Bool→H→Prop} (f:Ro eH h a l xs) (hz:zi=(z:Int)) (hl:z<l)
  (k:∀ h',Keep h h'→K (some ⟨(ha xs z).b,0,none⟩) (ha xs z).d (ha xs z).n (ha xs z).key (ha xs z).top (ha xs z).use h'):
  M.idx a l zi fun a34 j35=>M.load h ((Addr.add a34 (j35*6)).add 0) fun v36=>M.ptr v36 fun p37=>M.load h ((Addr.add a34 (j35*6)).add 1) fun v38=>M.int .i64 v38 fun n39=>
   M.load h ((Addr.add a34 (j35*6)).add 2) fun v40=>M.int .i64 v40 fun n41=>M.load h ((Addr.add a34 (j35*6)).add 3) fun v42=>M.str v42 fun s43=>
   M.load h ((Addr.add a34 (j35*6)).add 4) fun v44=>M.str v44 fun s45=>M.load h ((Addr.add a34 (j35*6)).add 5) fun v46=>M.bool v46 fun b47=>
   M.new h (.cells #[.pointer none,.int .i64 0,.int .i64 0,.string ByteArray.empty,.string ByteArray.empty,.bool false] 85) fun b48 h49=>
   M.req (Array.size (#[.pointer p37,.int .i64 n39,.int .i64 n41,.string s43,.string s45,.bool b47]:Array Value)=6) (M.puts h49 ⟨b48,0,none⟩ [.pointer p37,.int .i64 n39,.int .i64 n41,.string s43,.string s45,.bool b47] fun h50=>
   M.load h50 (Addr.add ⟨b48,0,none⟩ 0) fun v51=>M.ptr v51 fun p52=>M.load h50 (Addr.add ⟨b48,0,none⟩ 1) fun v53=>M.int .i64 v53 fun n54=>
   M.load h50 (Addr.add ⟨b48,0,none⟩ 2) fun v55=>M.int .i64 v55 fun n56=>M.load h50 (Addr.add ⟨b48,0,none⟩ 3) fun v57=>M.str v57 fun s58=>
   M.load h50 (Addr.add ⟨b48,0,none⟩ 4) fun v59=>M.str v59 fun s60=>M.load h50 (Addr.add ⟨b48,0,none⟩ 5) fun v61=>M.bool v61 fun b62=>K p52 n54 n56 s58 s60 b62 h50):=by
 refine Ro.ldH f hz hl ?_
 refine M.new_w (Wd.start h) fun b h1 w=>⟨rfl,?_⟩
 refine M.puts_w0 w 0 rfl (by simp [isPlainCell]) rfl fun h2 w=>?_
 have hb:=w.blk 0 rfl
 simp only [addr_add,Nat.zero_add]
 exact M.ldp hb rfl (M.ldi hb rfl (M.ldi hb rfl (M.lds hb rfl (M.lds hb rfl (M.ldb hb rfl (k _ w.keep))))))
theorem Load_spec {Q:Option Addr→Nat→Nat→Option Addr→Nat→Nat→Int→H→Prop} (f:Ro eH h a l xs) (hb:∀ x ∈ xs,x.b=b) (h1:4≤l) (h2:l≤10) (wx:Wd hx h [bankC b B]) (sm:B.Sm) (tb:Tabs h)
  (k:∀ a1 c1 a2 c2 h',Wd h h' [.sl 9 1 a1 (loadM l fun i=>hadM B (ha xs i) s).1.length c1 (eS.row (loadM l fun i=>hadM B (ha xs i) s).1),.sl 3 1 a2 (loadM l fun i=>hadM B (ha xs i) s).2.1.length c2 (eI.row (loadM l fun i=>hadM B (ha xs i) s).2.1)] →
   Q a1 (loadM l fun i=>hadM B (ha xs i) s).1.length c1 a2 (loadM l fun i=>hadM B (ha xs i) s).2.1.length c2 (loadM l fun i=>hadM B (ha xs i) s).2.2 h'):stripe_Load a l c s h Q:=by
 unfold stripe_Load stripe_Load.g
 have hxl:=f.len
 have hbz:∀ i,i<l→(ha xs i).b=b:=fun i hi=>by rw [ha_get (by omega)]; exact hb _ (List.getElem_mem _)
 generalize hF:(fun i=>hadM B (ha xs i) s)=F at k
 have hFi:∀ i,hadM B (ha xs i) s=F i:=fun i=>congrFun hF i
 refine M.vis ((l-2:Nat):Int) (by rw [IntKind.wrap_i64]; omega) (stMay_spec (cf (by simp; omega) ?_))
 have e0:(List.range l).map (fun i=>if i<0 then (if (F i).2=0 then (F i).1 else ByteArray.empty) else ByteArray.empty)=List.replicate l ByteArray.empty:=by rw [none_map,List.map_const',List.length_range]
 have e1:(List.range l).map (fun i=>if i<0 then decide ((F i).2=0) else false)=List.replicate l false:=by rw [none_map,List.map_const',List.length_range]
 refine M.join_of (fun (p:(Option Addr × Nat × Nat) × (Option Addr × Nat × Nat)) h'=>p.1.2.1=l∧p.2.2.1=l∧Wd h h' [.sl 9 1 p.1.1 l p.1.2.2 (eS.row ((List.range l).map fun i=>if i<0 then (if (F i).2=0 then (F i).1 else ByteArray.empty) else ByteArray.empty)),.sl 4 1 p.2.1 l p.2.2.2 (eT.row ((List.range l).map fun i=>if i<0 then decide ((F i).2=0) else false))]) (fun J hJ=>?_) ?_
 ·rw [e0,e1] at hJ
  refine ⟨M.mk_sl (size:=1) (Wd.start h) (by omega) (by omega) (by omega) (by omega) rfl fun a1 h3 w=>M.mk_sl (size:=1) w (by omega) (by omega) (by omega) (by omega) rfl fun a2 h4 w=>?_,
   M.mk_sl (size:=1) (Wd.start h) (by omega) (by omega) (by omega) (by omega) rfl fun a1 h3 w=>M.mk_sl (size:=1) w (by omega) (by omega) (by omega) (by omega) rfl fun a2 h4 w=>?_⟩
  ·simp only [Int.toNat_natCast,zs.1,zs.2.2.2] at w ⊢
   exact hJ _ _ ⟨rfl,rfl,w⟩
  ·simp only [Int.toNat_natCast,zs.1,zs.2.2.2] at w ⊢
   exact hJ _ _ ⟨rfl,rfl,w.mv (i:=0) rfl⟩
 rintro ⟨⟨a12,l12,c12⟩,a16,l16,c16⟩ h3 ⟨q1,q2,w⟩
 simp only at q1 q2 w ⊢
 replace q1:=q1.symm
 replace q2:=q2.symm
 subst q1 q2
 refine M.join_of (fun (p:Option Addr × Nat × Nat) h'=>p.2.1=(lostN l F).length∧(¬ ∃ i,i<l∧(F i).2=21)∧Wd h h' [.sl 9 1 a12 l c12 (eS.row (cN l F)),.sl 4 1 a16 l c16 (eT.row (tN l F)),.sl 3 1 p.1 p.2.1 p.2.2 (eI.row (lostN l F))]) (fun J hJ=>?_) ?_
 ·refine M.loop_of (I:=fun (p:(Option Addr × Nat × Nat) × Int) h'=>∃ y:Nat,y≤l∧p.2=(y:Int)∧p.1.2.1=(lostN y F).length∧(∀ i,i<y→(F i).2≠21)∧Wd h h' [.sl 9 1 a12 l c12 (eS.row ((List.range l).map fun i=>if i<y then (if (F i).2=0 then (F i).1 else ByteArray.empty) else ByteArray.empty)),.sl 4 1 a16 l c16 (eT.row ((List.range l).map fun i=>if i<y then decide ((F i).2=0) else false)),.sl 3 1 p.1.1 p.1.2.1 p.1.2.2 (eI.row (lostN y F))])
   (μ:=fun p=>(l-p.2).toNat) ⟨0,by omega,rfl,rfl,fun i hi=>by omega,w.nilsl _ _⟩ ?_
  clear w e0 e1
  rintro ⟨⟨a3,l3,c3⟩,i⟩ h5 J2 ⟨y,hy,rfl,hl3,hn,w⟩ hJ2
  simp only at hl3 w ⊢
  by_cases hlt:y<l
  ·have v2:IntKind.wrap .i64 ((y:Int)+1)=((y+1:Nat):Int):=by rw [IntKind.wrap_i64]; omega
   refine cdt (by first | omega | (simp only []; omega)) (Ro.cpH (f.keep w.keep) rfl hlt fun h6 k6=>?_)
   have w:=w.keeps k6
   refine get_spec (wx.keeps w.keep) sm (tb.keep w.keep) (hbz y hlt) fun h7 k7=>?_
   have w:=w.keeps k7
   rw [hFi]
   by_cases e21:(F y).2=21
   ·have hL:loadM l F=([],[],21):=by unfold loadM; rw [if_pos ⟨y,hlt,e21⟩]
    rw [hL] at k
    refine ct (by simp [e21]) ?_
    rw [e21]
    exact k _ _ _ _ _ ((((Wd.start h).keeps w.keep).nilsl _ _).nilsl _ _)
   refine cf (by simpa using e21) ?_
   have hn':∀ i,i<y+1→(F i).2≠21:=fun i hi=>by
    by_cases e:i=y
    ·rw [e]; exact e21
    ·exact hn i (by omega)
   have hll:=lostN_len y F
   have sL:=lostN_succ y F
   by_cases e:(F y).2=0
   ·rw [if_pos e,List.append_nil] at sL
    refine ct (by simp [e]) ?_
    have st1:=step_map (n:=l) (m:=y) (f:=fun i=>if (F i).2=0 then (F i).1 else ByteArray.empty) (g:=fun _=>ByteArray.empty) (F y).1 (by rw [if_pos e])
    have st2:=step_map (n:=l) (m:=y) (f:=fun i=>decide ((F i).2=0)) (g:=fun _=>false) true (by simp [e])
    refine Wd.put1 (E:=eS) w 0 rfl rfl (F y).1 rfl (by omega) (by omega) fun h8 w=>Wd.put1 (E:=eT) w 1 rfl rfl true rfl (by omega) (by omega) fun h9 w=>M.vis _ v2 (hJ2 _ _ ⟨y+1,by omega,rfl,by rw [sL]; exact hl3,hn',?_⟩ (by first | omega | (simp only []; omega)))
    rw [Int.toNat_natCast,st1,st2] at w
    rw [sL]
    exact w
   ·rw [if_neg e] at sL
    refine cf (by simpa using e) ?_
    have q1:((List.range l).map fun i=>if i<y then (if (F i).2=0 then (F i).1 else ByteArray.empty) else ByteArray.empty)=(List.range l).map fun i=>if i<y+1 then (if (F i).2=0 then (F i).1 else ByteArray.empty) else ByteArray.empty:=List.map_congr_left fun i _=>by
     by_cases g:i=y
     ·subst g; rw [if_neg (Nat.lt_irrefl i),if_pos (Nat.lt_succ_self i),if_neg e]
     ·by_cases g2:i<y
      ·rw [if_pos g2,if_pos (show i<y+1 by omega)]
      ·rw [if_neg g2,if_neg (show ¬ i<y+1 by omega)]
    have q2:((List.range l).map fun i=>if i<y then decide ((F i).2=0) else false)=(List.range l).map fun i=>if i<y+1 then decide ((F i).2=0) else false:=List.map_congr_left fun i _=>by
     by_cases g:i=y
     ·subst g; rw [if_neg (Nat.lt_irrefl i),if_pos (Nat.lt_succ_self i),decide_eq_false e]
     ·by_cases g2:i<y
      ·rw [if_pos g2,if_pos (show i<y+1 by omega)]
      ·rw [if_neg g2,if_neg (show ¬ i<y+1 by omega)]
    rw [q1,q2] at w
    refine Wd.push w 2 rfl rfl rfl (eI.row_plain [(y:Int)]) (by omega) (by omega) fun a8 c8 h8 w=>M.vis _ v2 (hJ2 _ _ ⟨y+1,by omega,rfl,by rw [sL,List.length_append,hl3]; rfl,hn',?_⟩ (by first | omega | (simp only []; omega)))
    rw [show [Value.int IntKind.i64 (y:Int)]=eI.row [(y:Int)] from rfl,←eI.row_app,←sL] at w
    exact w
  ·obtain rfl:y=l:=by omega
   refine cdf (by first | omega | (simp only []; omega)) (hJ _ _ ⟨hl3,fun ⟨i,hi,e⟩=>hn i hi e,?_⟩)
   rw [done_map (Nat.le_refl _),done_map (Nat.le_refl _)] at w
   exact w
 clear w e0 e1
 rintro ⟨a3,l3,c3⟩ h5 ⟨hl3,hn,w⟩
 simp only at hl3 w ⊢
 subst hl3
 unfold loadM at k
 rw [if_neg hn] at k
 refine Decode_spec (w.ro 0 rfl (by decide)) (w.ro 1 rfl (by decide)) (by omega) (by omega) fun a6 c6 h6 w6=>?_
 generalize decM (cN l F) (tN l F)=D at *
 by_cases hD:D.2=0
 ·rw [if_neg (by simp [hD])] at k
  refine cf (by simp [hD]) (k _ _ _ _ _ ?_)
  have w:=w.join w6
  exact (((w.drop (i:=0) rfl).drop (i:=0) rfl).mv (i:=0) rfl)
 ·rw [if_pos hD] at k
  refine ct (by simpa using hD) (k _ _ _ _ _ ((((Wd.start h).keeps (w.keep.trans w6.keep)).nilsl _ _).nilsl _ _))
end
end Go.Proofs.YthegnmanjdlmjaaGreatDoor
namespace Go.Proofs.YthegnmanjdlmjaaGreatDoor
open Go.Sh Go.RowKit
theorem lkS:lkOf (Tryz.prog.underlying 9) = .one .str:=by rw [Tryz.underlying9]; rfl
theorem eqv_two {x y:Operand} {s t:ByteArray} {h:H} {K:Bool→H→Prop} (k:K true h):M.eqv Tryz.prog .eql 236 x y (.agg #[.string s,.string t]) (.agg #[.string s,.string t]) h K:=by
 refine ⟨true,fun w=>?_,k⟩
 have hg:Tryz.prog.eqGuardType Tryz.prog.depth 236=false:=by kernel_rfl
 have h3:(sizeOf 9).run Tryz.prog w = .ok 1 w:=by kernel_rfl
 have h5:∀ x y,(Op.equalIn 9999 9 (.string x) (.string y)).run Tryz.prog w = .ok (x.toList == y.toList) w:=fun x y=>run_equalIn_string w 9998 9 x y Tryz.underlying9
 have p0:(part 9 #[.string s,.string t] 0).run Tryz.prog w = .ok (.string s) w:=run_part_one lkS rfl w
 have p1:(part 9 #[.string s,.string t] 1).run Tryz.prog w = .ok (.string t) w:=run_part_one lkS rfl w
 have he:(Op.equal 236 (.agg #[.string s,.string t]) (.agg #[.string s,.string t])).run Tryz.prog w = .ok true w:=by
  unfold Op.equal Op.maxDepth Op.equalIn
  simp [run_underlying Tryz.underlying236,h3,Std.Legacy.Range.forIn_eq_forIn_range',show List.range' 0 2=[0,1] from rfl,List.forIn_cons,p0,p1,h5]
 have he2:(Op.equalIn 10000 236 (.agg #[.string s,.string t]) (.agg #[.string s,.string t])).run Tryz.prog w = .ok true w:=he
 simp [go_sem,hg,he2]
section
variable {hx h:H} {a:Option Addr} {l c b:Nat} {B:BankM} {xs:List ShM} {s:Int} {N k:Nat}
theorem One_spec {Q:ByteArray→Int→H→Prop} {ch:Nat} {ci:Int} (f:Ro eH h a l xs) (hb:∀ x ∈ xs,x.b=b) (h1:4≤l) (h2:l≤10) (hc:ch<l) (hci:ci=(ch:Int)) (wx:Wd hx h [bankC b B]) (sm:B.Sm) (tb:Tabs h)
  (k:∀ h',Keep h h'→Q (oneM l (fun i=>hadM B (ha xs i) s) ch).1 (oneM l (fun i=>hadM B (ha xs i) s) ch).2 h'):stripe_One a l c s ci h Q:=by
 subst hci
 unfold stripe_One stripe_One.g
 have hxl:=f.len
 refine M.join_of (fun d h'=>d=false∧h'=h) (fun J hJ=>?_) ?_
 ·refine M.vis ((l-2:Nat):Int) (by rw [IntKind.wrap_i64]; omega) (stMay_spec (cf (by simp; omega) (cdf (by omega) ?_)))
  have:decide ((ch:Int) ≥ (l:Int))=false:=by simp; omega
  rw [this]
  exact hJ _ _ ⟨rfl,rfl⟩
 rintro _ h9 ⟨rfl,e9⟩
 rw [e9]
 refine cf rfl (Ro.ldH f rfl hc (get_spec wx sm tb (by rw [ha_get (by omega)]; exact hb _ (List.getElem_mem _)) fun h3 k3=>?_))
 unfold oneM at k
 by_cases g:(hadM B (ha xs ch) s).2=0∨(hadM B (ha xs ch) s).2=21
 ·rw [if_pos g] at k
  refine M.join_of (fun d h'=>d=true∧h'=h3) (fun J hJ=>?_) ?_
  ·by_cases e:(hadM B (ha xs ch) s).2=0
   ·exact ct (by simp [e]) (hJ _ _ ⟨rfl,rfl⟩)
   ·refine cf (by simpa using e) ?_
    have:((hadM B (ha xs ch) s).2 == 21)=true:=by simpa [e] using g
    rw [this]
    exact hJ _ _ ⟨rfl,rfl⟩
  rintro _ h9 ⟨rfl,e9⟩
  rw [e9]
  exact ct rfl (k _ k3)
 ·rw [if_neg g] at k
  have g1:(hadM B (ha xs ch) s).2≠0:=fun e=>g (.inl e)
  have g2:(hadM B (ha xs ch) s).2≠21:=fun e=>g (.inr e)
  refine M.join_of (fun d h'=>d=false∧h'=h3) (fun J hJ=>?_) ?_
  ·refine cf (by simpa using g1) ?_
   have:((hadM B (ha xs ch) s).2 == 21)=false:=by simpa using g2
   rw [this]
   exact hJ _ _ ⟨rfl,rfl⟩
  rintro _ h9 ⟨rfl,e9⟩
  rw [e9]
  refine cf rfl (Load_spec (f.keep k3) hb h1 h2 (wx.keeps k3) sm (tb.keep k3) fun a1 c1 a2 c2 h4 w=>?_)
  have hl:=@loadM_len l (fun i=>hadM B (ha xs i) s)
  generalize loadM l (fun i=>hadM B (ha xs i) s)=L at *
  by_cases e:L.2.2=0
  ·rw [if_neg (by simp [e])] at k
   have hl:=hl e (by omega)
   refine cf (by simp [e]) ((w.ro (E:=eS) 0 rfl (by decide)).ldSs rfl (by omega) fun _ _=>k _ (k3.trans w.keep))
  ·rw [if_pos e] at k
   exact ct (by simpa using e) (k _ (k3.trans w.keep))
theorem Check_spec {Q:Bool→H→Prop} {data:List ByteArray} (f:Ro eS h a l (allT data N)) (h1:1≤data.length) (h2:data.length≤8) (hN:∀ i,i<data.length→(sa data i).size=N) (hN2:N≤65536) (hlc:l≤c) (k:∀ h',Keep h h'→Q true h'):rs_Check a l c h Q:=by
 unfold rs_Check rs_Check.g
 have hl:l=data.length+2:=by rw [←f.len]; simp [allT]
 subst hl
 refine M.vis ((data.length:Nat):Int) (by rw [IntKind.wrap_i64]; omega) (rsMay_spec (cf (by simp; omega) (M.sub0 (by omega) (by omega) ?_)))
 rw [Int.toNat_natCast]
 have ft:Ro eS h a data.length data:=by
  have:=f.tk data.length (by omega)
  rwa [allT,List.take_left' rfl] at this
 refine Encode_spec ft h1 h2 (fun i hi=>hN i hi) hN2 fun h3 k3=>M.jn (ct rfl ?_)
 refine M.sub_of data.length (data.length+2) rfl (by omega) (by omega) hlc (by omega) ⟨by omega,?_⟩
 have fd:=(f.keep k3).drop (m:=data.length) (by omega)
 rw [allT,List.drop_left' rfl] at fd
 cases ha:a with
 | none=>
  have:=f.none ha
  omega
 | some x=>
  rw [ha] at fd
  refine ⟨_,rfl,?_⟩
  have hr:=fd.row _ rfl
  have r0:h3.cell ((x.add (data.length*1)).add 0)=some (.string (prT (pW data.length) data N)):=hr 0 (by simp [eS,Enc.row])
  have r1:h3.cell ((x.add (data.length*1)).add 1)=some (.string (prT (qW data.length) data N)):=hr 1 (by simp [eS,Enc.row])
  exact ⟨_,r0,_,rfl,_,r1,_,rfl,eqv_two (k _ k3)⟩
theorem Whole_bad {Q:Bool→H→Prop} {j:Nat} (f:Ro eH h a l xs) (hb:∀ x ∈ xs,x.b=b) (h1:4≤l) (h2:l≤10) (hj:j<l) (he:(hadM B (ha xs j) s).2≠0) (wx:Wd hx h [bankC b B]) (sm:B.Sm) (tb:Tabs h) (k:∀ h',Keep h h'→Q false h'):stripe_Whole a l c s h Q:=by
 unfold stripe_Whole stripe_Whole.g
 have hxl:=f.len
 have hbz:∀ i,i<l→(ha xs i).b=b:=fun i hi=>by rw [ha_get (by omega)]; exact hb _ (List.getElem_mem _)
 refine M.vis ((l-2:Nat):Int) (by rw [IntKind.wrap_i64]; omega) (stMay_spec (cf (by simp; omega) (M.jn ?_)))
 refine M.loop_of (I:=fun (p:(Option Addr × Nat × Nat) × Int) h'=>∃ y:Nat,y≤j∧p.2=(y:Int)∧p.1.2.1=y∧∃ zs:List ByteArray,Wd h h' [.sl 9 1 p.1.1 p.1.2.1 p.1.2.2 (eS.row zs)]) (μ:=fun p=>(l-p.2).toNat) ⟨0,by omega,rfl,rfl,[],(Wd.start h).nilsl _ _⟩ ?_
 rintro ⟨⟨a3,l3,c3⟩,i⟩ h5 J2 ⟨y,hy,rfl,hl3,zs,w⟩ hJ2
 simp only at hl3 w ⊢
 have v2:IntKind.wrap .i64 ((y:Int)+1)=((y+1:Nat):Int):=by rw [IntKind.wrap_i64]; omega
 refine cdt (by first | omega | (simp only []; omega)) (Ro.cpH (f.keep w.keep) rfl (by omega) fun h6 k6=>?_)
 have w:=w.keeps k6
 refine get_spec (wx.keeps w.keep) sm (tb.keep w.keep) (hbz y (by omega)) fun h7 k7=>?_
 have w:=w.keeps k7
 by_cases e:(hadM B (ha xs y) s).2=0
 ·have hyj:y≠j:=fun g=>he (g ▸ e)
  refine cf (by simp [e]) (Wd.push w 0 rfl rfl rfl (eS.row_plain [(hadM B (ha xs y) s).1]) (by omega) (by omega) fun a8 c8 h8 w=>M.vis _ v2 (hJ2 _ _ ⟨y+1,by omega,rfl,by simp only [hl3],zs++[(hadM B (ha xs y) s).1],?_⟩ (by first | omega | (simp only []; omega))))
  rw [eS.row_app]
  exact w
 ·exact ct (by simpa using e) (k _ w.keep)
theorem Whole_good {Q:Bool→H→Prop} {data:List ByteArray} (f:Ro eH h a l xs) (hb:∀ x ∈ xs,x.b=b) (h1:4≤l) (h2:l≤10) (hd:data.length+2=l) (hN:∀ i,i<data.length→(sa data i).size=N) (hN2:N≤65536) (hg:∀ i,i<l→hadM B (ha xs i) s=(sa (allT data N) i,0)) (wx:Wd hx h [bankC b B]) (sm:B.Sm) (tb:Tabs h) (k:∀ h',Keep h h'→Q true h'):stripe_Whole a l c s h Q:=by
 unfold stripe_Whole stripe_Whole.g
 have hxl:=f.len
 have hal:(allT data N).length=l:=by simp [allT]; omega
 have hbz:∀ i,i<l→(ha xs i).b=b:=fun i hi=>by rw [ha_get (by omega)]; exact hb _ (List.getElem_mem _)
 refine M.vis ((l-2:Nat):Int) (by rw [IntKind.wrap_i64]; omega) (stMay_spec (cf (by simp; omega) (M.jn ?_)))
 refine M.loop_of (I:=fun (p:(Option Addr × Nat × Nat) × Int) h'=>∃ y:Nat,y≤l∧p.2=(y:Int)∧p.1.2.1=y∧Wd h h' [.sl 9 1 p.1.1 p.1.2.1 p.1.2.2 (eS.row ((allT data N).take y))]) (μ:=fun p=>(l-p.2).toNat) ⟨0,by omega,rfl,rfl,(Wd.start h).nilsl _ _⟩ ?_
 rintro ⟨⟨a3,l3,c3⟩,i⟩ h5 J2 ⟨y,hy,rfl,hl3,w⟩ hJ2
 simp only at hl3 w ⊢
 subst hl3
 by_cases hlt:l3<l
 ·have v2:IntKind.wrap .i64 ((l3:Int)+1)=((l3+1:Nat):Int):=by rw [IntKind.wrap_i64]; omega
  refine cdt (by first | omega | (simp only []; omega)) (Ro.cpH (f.keep w.keep) rfl hlt fun h6 k6=>?_)
  have w:=w.keeps k6
  refine get_spec (wx.keeps w.keep) sm (tb.keep w.keep) (hbz l3 hlt) fun h7 k7=>?_
  have w:=w.keeps k7
  rw [hg l3 hlt]
  refine cf rfl (Wd.push w 0 rfl rfl rfl (eS.row_plain [sa (allT data N) l3]) (by omega) (by omega) fun a8 c8 h8 w=>M.vis _ v2 (hJ2 _ _ ⟨l3+1,by omega,rfl,rfl,?_⟩ (by first | omega | (simp only []; omega))))
  rw [List.take_succ_eq_append_getElem (by omega),eS.row_app,←sa_get]
  exact w
 ·obtain rfl:l3=l:=by omega
  refine cdf (by first | omega | (simp only []; omega)) ?_
  rw [List.take_of_length_le (by omega)] at w
  have:=(w.slrow 0 rfl).2.1
  exact Check_spec (w.ro 0 rfl (by decide)) (by omega) (by omega) hN hN2 (by omega) fun h' k'=>k _ (w.keep.trans k')
end
end Go.Proofs.YthegnmanjdlmjaaGreatDoor
namespace Go.Proofs.YthegnmanjdlmjaaGreatDoor
open Go.Sh Go.RowKit
open Classical in
noncomputable def makeM (xs:List ByteArray):List ByteArray × Int:=
 if ¬ (2≤xs.length∧xs.length≤8) then ([],2) else if ∃ i,i<xs.length∧(sa xs i).size≠32 then ([],7) else (allT xs 32,0)
def blkT (b i:Int):ByteArray:=ofBytes [b,i]++ofBytes (List.replicate 30 0)
theorem blkT_size (b i:Int):(blkT b i).size=32:=by rw [blkT,ByteArray.size_append]; rfl
def blksM (n:Nat) (zs:List Int):List ByteArray:=(List.range n).map fun i=>blkT (if i<zs.length then za zs i else 0) (i:Int)
theorem blksM_len (n:Nat) (zs:List Int):(blksM n zs).length=n:=by simp [blksM]
theorem blksM_size {n:Nat} {zs:List Int} {i:Nat} (h:i<n):(sa (blksM n zs) i).size=32:=by
 rw [sa_get (by rw [blksM_len]; exact h)]
 simp only [blksM,List.getElem_map]
 exact blkT_size _ _
section
variable {h0 h:H} {L:List Chunk} {a a2:Option Addr} {l c l2 c2:Nat} {xs ys:List ByteArray} {zs:List Int}
theorem idxMake_spec {Q:Int→H→Prop} (f:Ro eS h a l xs) (hl:l≤100) (k1:(∀ i,i<l→(sa xs i).size=32)→Q (-1) h) (k2:∀ n:Nat,n<l→(sa xs n).size≠32→Q (n:Int) h):slices_IndexFuncstring_string_stripe_Make_1 a l c h Q:=by
 unfold slices_IndexFuncstring_string_stripe_Make_1 slices_IndexFuncstring_string_stripe_Make_1.g
 refine M.loop_of (I:=fun (i:Int) h'=>∃ x:Nat,x≤l∧i=(x:Int)∧h'=h∧∀ i,i<x→(sa xs i).size=32) (μ:=fun i=>(l-i).toNat) ⟨0,by omega,rfl,rfl,fun i hi=>by omega⟩ ?_
 rintro _ h9 J ⟨x,hx,rfl,e9,hs⟩ hJ
 rw [e9]
 by_cases hlt:x<l
 ·refine cdt (by omega) (f.ldSs rfl hlt fun _ _=>?_)
  unfold stripe_Make_1
  by_cases e:(sa xs x).size=32
  ·refine cf (by simp [e]) (M.vis _ (show IntKind.wrap .i64 ((x:Int)+1)=((x+1:Nat):Int) by rw [IntKind.wrap_i64]; omega) (hJ _ _ ⟨x+1,by omega,rfl,rfl,fun i hi=>?_⟩ (by omega)))
   by_cases g:i=x
   ·rw [g]; exact e
   ·exact hs i (by omega)
  ·exact ct (by rw [bne_iff_ne]; omega) (k2 x hlt e)
 ·exact cdf (by omega) (k1 fun i hi=>hs i (by omega))
theorem Make_spec {Q:Option Addr→Nat→Nat→Int→H→Prop} (f:Ro eS h a l xs) (hl:l≤100) (k:∀ a' c' h',Wd h h' [.sl 9 1 a' (makeM xs).1.length c' (eS.row (makeM xs).1)]→Q a' (makeM xs).1.length c' (makeM xs).2 h'):stripe_Make a l c h Q:=by
 unfold stripe_Make stripe_Make.g
 have hxl:=f.len
 unfold makeM at k
 refine stMay_spec ?_
 by_cases g:2≤xs.length∧xs.length≤8
 ·rw [if_neg (by simp [g])] at k
  refine cf (by simp; omega) ?_
  unfold slices_ContainsFuncstring_string_stripe_Make_1 slices_ContainsFuncstring_string_stripe_Make_1.g
  refine idxMake_spec f hl (fun hs=>?_) fun n hn hs=>?_
  ·rw [if_neg (fun ⟨i,hi,e⟩=>e (hs i (by omega)))] at k
   refine cf rfl (Encode_spec f (by omega) (by omega) hs (by decide) fun h3 k3=>?_)
   have f3:=f.keep k3
   have hal:(allT xs 32).length=l+2:=by simp [allT,hxl]
   rw [hal] at k
   refine M.cellsOf_row (xs:=eS.row xs) (by rw [eS.row_len,hxl]; rfl) (fun e=>absurd (f.none e) (by omega)) (fun b e=>f3.row b e) ?_
   refine M.app_w ((Wd.start h3).nilsl 9 1) 0 rfl rfl (by rw [eS.row_len,hxl]; rfl) (eS.row_plain _) (by omega) (by omega) fun a4 c4 h4 w=>?_
   rw [Nat.zero_add] at w ⊢
   refine M.new_w w fun b5 h5 w=>cellsOf_in (w.blk 1 rfl) rfl ?_
   refine M.app_w w 0 rfl rfl rfl (eS.row_plain [prT (pW l) xs 32,prT (qW l) xs 32]) (by omega) (by omega) fun a6 c6 h6 w=>k _ _ _ ?_
   have w:=w.drop (i:=1) rfl
   rw [allT,eS.row_app,hxl]
   exact w.base k3
  ·rw [if_pos ⟨n,by omega,hs⟩] at k
   exact ct (by simp) (k _ _ _ ((Wd.start h).nilsl _ _))
 ·rw [if_pos g] at k
  exact ct (by simp; omega) (k _ _ _ ((Wd.start h).nilsl _ _))
theorem equal_spec {Q:Bool→H→Prop} (f:Ro eS h a l xs) (g:Ro eS h a2 l2 ys) (hl:l≤1000) (k:Q (decide (xs=ys)) h):law19_equal a l c a2 l2 c2 h Q:=by
 unfold law19_equal
 have hx:=f.len
 have hy:=g.len
 by_cases e:l=l2
 ·subst e
  refine cf (by simp) ?_
  refine M.loop_of (I:=fun (i:Int) h'=>∃ x:Nat,x≤l∧i=(x:Int)∧h'=h∧∀ i,i<x→sa xs i=sa ys i) (μ:=fun i=>(l-i).toNat) ⟨0,by omega,rfl,rfl,fun i hi=>by omega⟩ ?_
  rintro _ h9 J ⟨x,hx2,rfl,e9,hs⟩ hJ
  rw [e9]
  by_cases hlt:x<l
  ·refine cdt (by omega) (f.ldSs rfl hlt fun _ _=>g.ldSs rfl hlt fun _ _=>?_)
   by_cases e:sa xs x=sa ys x
   ·refine cf (by rw [strEq_iff.2 e]; rfl) (M.vis _ (show IntKind.wrap .i64 ((x:Int)+1)=((x+1:Nat):Int) by rw [IntKind.wrap_i64]; omega) (hJ _ _ ⟨x+1,by omega,rfl,rfl,fun i hi=>?_⟩ (by omega)))
    by_cases g:i=x
    ·rw [g]; exact e
    ·exact hs i (by omega)
   ·have e2:strEq (sa xs x) (sa ys x)=false:=by
     cases h:strEq (sa xs x) (sa ys x) with
     | false=>rfl
     | true=>exact absurd (strEq_iff.1 h) e
    rw [decide_eq_false (fun h=>e (by rw [h]))] at k
    exact ct (by rw [e2]; rfl) k
  ·have:xs=ys:=by
    apply List.ext_getElem (by omega)
    intro i h1 h2
    have:=hs i (by omega)
    rwa [sa_get h1,sa_get h2] at this
   rw [decide_eq_true this] at k
   exact cdf (by omega) k
 ·rw [decide_eq_false (fun h=>e (by rw [←hx,←hy,h]))] at k
  exact ct (by rw [bne_iff_ne]; omega) k
theorem blk_tail {J:Option Addr→Nat→Nat→H→Prop} {s1 s2:ByteArray} (w:Wd h0 h (.sl 9 1 a l c (eS.row xs)::L)) (hs:s1.size+s2.size≤1000) (hl:l≤1000)
  (k:∀ a' c' h',Wd h0 h' [.sl 9 1 a' (l+1) c' (eS.row (xs++[s1++s2]))]→J a' (l+1) c' h'):
  M.cat s1 s2 fun s20=>M.new h (.cells #[.string s20] 9) fun b27 h28=>M.cellsOf h28 (some ⟨b27,0,none⟩) (1*1) fun cs33=>M.app h28 9 1 16 [.string ByteArray.empty] a l c 1 cs33 J:=by
 refine ⟨by have:IntKind.i64.max=9223372036854775807:=rfl
            omega,?_⟩
 refine M.new_w w fun b5 h5 w=>?_
 have hb:h5 b5=some (.cells #[.string (s1++s2)] 9 (0,0)):=w.blk (L.length+1) (by simp)
 refine cellsOf_in hb rfl (M.app_w w 0 rfl rfl rfl (eS.row_plain [s1++s2]) (by omega) (by omega) fun a6 c6 h6 w=>k _ _ _ ?_)
 rw [eS.row_app]
 obtain ⟨h1,k0,_,w1,_,_⟩:=w.split 1
 exact w1.base k0
end
end Go.Proofs.YthegnmanjdlmjaaGreatDoor
namespace Go.Proofs.YthegnmanjdlmjaaGreatDoor
open Go.Sh Go.RowKit
section
variable {h0 h:H} {L:List Chunk} {a a2:Option Addr} {l c l2 c2:Nat} {xs ys:List ByteArray} {zs:List Int}
def cntM (n:Int):Nat:=2+(Int.tmod (mx 0 n) 7).toNat
theorem cntM_le (n:Int):2≤cntM n∧cntM n≤8:=by
 have h0:0≤mx 0 n:=by unfold mx; split <;> omega
 unfold cntM
 rw [Int.tmod_eq_emod_of_nonneg h0]
 have h2:0≤(mx 0 n) % 7:=Int.emod_nonneg _ (by decide)
 have h3:(mx 0 n) % 7<7:=Int.emod_lt_of_pos _ (by decide)
 omega
theorem cntM_eq (n:Int):IntKind.wrap .i64 (2+Int.tmod (mx 0 n) 7)=(cntM n:Int):=by
 have h0:0≤mx 0 n:=by unfold mx; split <;> omega
 unfold cntM
 rw [Int.tmod_eq_emod_of_nonneg h0]
 have h2:0≤(mx 0 n) % 7:=Int.emod_nonneg _ (by decide)
 have h3:(mx 0 n) % 7<7:=Int.emod_lt_of_pos _ (by decide)
 rw [IntKind.wrap_i64]
 omega
theorem two_b2s {K:ByteArray→Prop} {b:Nat} {x y:Int} {e:TypeId} (i:Nat) (w:Wd h0 h L) (hi:L[i]? = some (.blk b (.cells #[.int .u8 x,.int .u8 y] e))) (k:K (ofBytes [x,y])):M.b2s h (some ⟨b,0,none⟩) 2 K:=
 M.b2s_at (zs:=[x,y]) (w.blk i hi) (by simp) k
theorem thirty {K:ByteArray→Prop} (i:Nat) (w:Wd h0 h L) (hi:L[i]? = some (.sl 5 1 a 30 30 (zerosOf [.int .u8 0] 30))) (k:K (ofBytes (List.replicate 30 0))):M.b2s h a 30 K:=by
 refine w.textB (zs:=List.replicate 30 0) (e:=5) (c:=30) i ?_ k
 rw [hi,Go.Sh.zs.2.2.1]
theorem blocksOf_spec {n:Int} {Q:Option Addr→Nat→Nat→H→Prop} (f:Ro eB h a l zs) (hl:l≤9223372036854775807) (k:∀ a' c' h',Wd h h' [.sl 9 1 a' (cntM n) c' (eS.row (blksM (cntM n) zs))]→Q a' (cntM n) c' h'):law19_blocksOf n a l c h Q:=by
 unfold law19_blocksOf
 refine ⟨by decide,M.vin (M.vis _ (cntM_eq n) ?_)⟩
 obtain ⟨m1,m2⟩:=cntM_le n
 generalize cntM n=m at *
 have hzl:=f.len
 refine M.loop_of (I:=fun (p:(Option Addr × Nat × Nat) × Int) h'=>∃ y:Nat,y≤m∧p.2=(y:Int)∧p.1.2.1=y∧Wd h h' [.sl 9 1 p.1.1 p.1.2.1 p.1.2.2 (eS.row (blksM y zs))]) (μ:=fun p=>(m-p.2).toNat) ⟨0,by omega,rfl,rfl,(Wd.start h).nilsl _ _⟩ ?_
 rintro ⟨⟨a3,l3,c3⟩,i⟩ h5 J2 ⟨y,hy,rfl,hl3,w⟩ hJ2
 simp only at hl3 w ⊢
 subst hl3
 by_cases hlt:l3<m
 ·have v2:IntKind.wrap .i64 ((l3:Int)+1)=((l3+1:Nat):Int):=by rw [IntKind.wrap_i64]; omega
  have v3:IntKind.wrap .u8 (l3:Int)=(l3:Int):=by rw [IntKind.wrap_u8]; omega
  refine cdt (by first | omega | (simp only []; omega)) ?_
  refine M.join_of (fun (x:Int) h'=>x=(if l3<zs.length then za zs l3 else 0)∧Wd h h' [.sl 9 1 a3 l3 c3 (eS.row (blksM l3 zs))]) (fun J hJ=>?_) ?_
  ·by_cases g:l3<l
   ·refine cdt (by omega) ((f.keep w.keep).ldB (by omega) (by omega) (hJ _ _ ⟨?_,w⟩))
    rw [if_pos (by omega),Int.toNat_natCast]
   ·refine cdf (by omega) (hJ _ _ ⟨?_,w⟩)
    rw [if_neg (by omega)]
  clear w
  rintro x h6 ⟨hx,w⟩
  refine M.join_of (fun (p:Option Addr × Nat × Nat) h'=>p.2.1=l3+1∧Wd h h' [.sl 9 1 p.1 (l3+1) p.2.2 (eS.row (blksM l3 zs++[ofBytes [x,(l3:Int)]++ofBytes (List.replicate 30 0)]))]) (fun J hJ=>?_) ?_
  ·have t2:(ofBytes [x,(l3:Int)]).size+(ofBytes (List.replicate 30 0)).size≤1000:=by show 2+30≤1000; omega
   refine ⟨M.vis _ v3 ⟨M.new_w w fun b hA w=>⟨?_,?_⟩,?_⟩,?_⟩
   ·refine two_b2s 1 w rfl ?_
    refine M.mk_sl (size:=1) w (by omega) (by omega) (by omega) (by omega) rfl fun a5 hB w=>thirty 2 w rfl ?_
    exact blk_tail w t2 (by omega) fun a' c' h' w=>hJ _ _ ⟨rfl,w⟩
   ·refine M.mk_sl (size:=1) w (by omega) (by omega) (by omega) (by omega) rfl fun a5 hB w=>⟨?_,?_⟩
    ·refine two_b2s 1 w rfl (thirty 2 w rfl ?_)
     exact blk_tail w t2 (by omega) fun a' c' h' w=>hJ _ _ ⟨rfl,w⟩
    ·refine thirty 2 w rfl (two_b2s 1 w rfl ?_)
     exact blk_tail w t2 (by omega) fun a' c' h' w=>hJ _ _ ⟨rfl,w⟩
   ·refine M.mk_sl (size:=1) w (by omega) (by omega) (by omega) (by omega) rfl fun a5 hB w=>⟨M.new_w w fun b hC w=>⟨?_,?_⟩,?_⟩
    ·refine two_b2s 2 w rfl (thirty 1 w rfl ?_)
     exact blk_tail w t2 (by omega) fun a' c' h' w=>hJ _ _ ⟨rfl,w⟩
    ·refine thirty 1 w rfl (two_b2s 2 w rfl ?_)
     exact blk_tail w t2 (by omega) fun a' c' h' w=>hJ _ _ ⟨rfl,w⟩
    ·refine thirty 1 w rfl (M.new_w w fun b hC w=>two_b2s 2 w rfl ?_)
     exact blk_tail w t2 (by omega) fun a' c' h' w=>hJ _ _ ⟨rfl,w⟩
   ·refine M.mk_sl (size:=1) w (by omega) (by omega) (by omega) (by omega) rfl fun a5 hB w=>⟨M.vis _ v3 ⟨M.new_w w fun b hC w=>⟨?_,?_⟩,?_⟩,?_⟩
    ·refine two_b2s 2 w rfl (thirty 1 w rfl ?_)
     exact blk_tail w t2 (by omega) fun a' c' h' w=>hJ _ _ ⟨rfl,w⟩
    ·refine thirty 1 w rfl (two_b2s 2 w rfl ?_)
     exact blk_tail w t2 (by omega) fun a' c' h' w=>hJ _ _ ⟨rfl,w⟩
    ·refine thirty 1 w rfl (M.new_w w fun b hC w=>two_b2s 2 w rfl ?_)
     exact blk_tail w t2 (by omega) fun a' c' h' w=>hJ _ _ ⟨rfl,w⟩
    ·refine thirty 1 w rfl (M.vis _ v3 (M.new_w w fun b hC w=>two_b2s 2 w rfl ?_))
     exact blk_tail w t2 (by omega) fun a' c' h' w=>hJ _ _ ⟨rfl,w⟩
  clear w
  rintro ⟨a4,l4,c4⟩ h7 ⟨hl4,w⟩
  simp only at hl4 w ⊢
  subst hl4
  refine M.vis _ v2 (hJ2 _ _ ⟨l3+1,by omega,rfl,rfl,?_⟩ (by first | omega | (simp only []; omega)))
  have e:blksM (l3+1) zs=blksM l3 zs++[ofBytes [x,(l3:Int)]++ofBytes (List.replicate 30 0)]:=by
   rw [blksM,List.range_succ,List.map_append,hx]; rfl
  rw [e]
  exact w
 ·obtain rfl:l3=m:=by omega
  exact cdf (by first | omega | (simp only []; omega)) (k _ _ _ w)
end
end Go.Proofs.YthegnmanjdlmjaaGreatDoor
namespace Go.Sh
theorem Wd.fst {h0 h:H} {L:List Chunk} (w:Wd h0 h L) (n:Nat):Wd h0 h (L.take n):=by
 obtain ⟨h1,k0,_,w1,_,_⟩:=w.split n
 exact w1.base k0
end Go.Sh
namespace Go.Proofs.YthegnmanjdlmjaaGreatDoor
open Go.Sh Go.RowKit
def keyL:ByteArray:=⟨#[48,49,50,51,52,53,54,55,56,57,97,98,99,100,101,102,48,49,50,51,52,53,54,55,56,57,97,98,99,100,101,102]⟩
theorem keyL_size:keyL.size=32:=rfl
def nonL (i:Nat):ByteArray:=ofBytes [(i:Int)]++⟨#[97,98,99,100,101,102,103,104,105,106,107]⟩
theorem nonL_size (i:Nat):(nonL i).size=12:=by rw [nonL,ByteArray.size_append]; rfl
structure Ly (B:BankM) (N i:Nat) (n:Int) (s:Nat) (tops chunks:List ByteArray) (k:Nat):Prop where
 bk:Bk B N k
 al:∀ d:Int,0≤d→d<N→(B.disk d).dead=false∧140≤(B.disk d).N.length
 tl:tops.length=i
 got:∀ j:Nat,j<i→getM B keyL j n (sa tops j) s=(sa chunks j,0)
structure Rk (R:BankM) (N:Nat):Prop where
 len:R.ds.length=N
 w:∀ D ∈ R.ds,D.W=[]
theorem Rk.set {R:BankM} {N:Nat} {d:Int} {D:DiskM} (r:Rk R N) (h:D.W=[]):Rk (R.set d D) N:=
 ⟨by simp [BankM.set,r.len],fun D' hD=>by
  simp only [BankM.set] at hD
  rcases List.mem_or_eq_of_mem_set hD with hD | rfl
  ·exact r.w D' hD
  ·exact h⟩
theorem Rk.disk {R:BankM} {N:Nat} (r:Rk R N) {d:Int} (hb:¬ R.bad d):(R.disk d).W=[]:=by
 obtain ⟨h,e⟩:=BankM.disk_at hb
 rw [←e]
 exact r.w _ (List.getElem_mem _)
theorem rk_new {N:Nat} (h1:1≤N) (h2:N≤12):Rk (BankM.new N 140) N:=
 ⟨(bk_new h1 h2).len,fun D hD=>by
   have hD:D ∈ List.replicate (mx 1 (mn (N:Int) 12)).toNat (DiskM.new 140):=hD
   rw [List.eq_of_mem_replicate hD]; rfl⟩
theorem ly_new {N s:Nat} {n:Int} {chunks:List ByteArray} (h1:1≤N) (h2:N≤12):Ly (BankM.new N 140) N 0 n s [] chunks 1000000:=
 ⟨bk_new h1 h2,fun d h0 h3=>by rw [new_diskN h2 h0 h3]; exact ⟨rfl,by decide +kernel⟩,rfl,fun j hj=>by omega⟩
theorem seal_good {B:BankM} {d n:Int} {key nonce pl:ByteArray} {i:Nat} (g:goodS B d n key) (hi:(i:Int)<n) (h1:nonce.size=12) (h2:pl.size=32):sealM (goodS B d n key) key d n i nonce pl=(cellOf key d i nonce pl,0):=by
 have hm:=(@mayZ_zero (goodS B d n key) _ n i).2 ⟨g,by omega,hi⟩
 unfold sealM
 rw [if_neg (by simp [hm]),if_neg (by simp [h1,h2])]
theorem ly_step {B:BankM} {N i s k:Nat} {n:Int} {tops chunks:List ByteArray} (y:Ly B N i n s tops chunks (k+100)) (hd:dep n≠0) (hs:(s:Int)<n) (hi:i<N) (hz:(sa chunks i).size=32):
  goodS B i n keyL∧(writesM B i (blankW n)).1=0∧goodS (writesM B i (blankW n)).2 i n keyL∧(blankW n).length≤32∧Room (writesM B i (blankW n)).2 60∧(writesM B i (blankW n)).2.Sm ∧
  ∃ ws top,prepM (writesM B i (blankW n)).2 keyL i n (blankT n) [((s:Int),cellOf keyL i s (nonL i) (sa chunks i))]=(ws,top,0)∧ws.length≤32∧(writesM (writesM B i (blankW n)).2 i ws).1=0 ∧
   Ly (writesM (writesM B i (blankW n)).2 i ws).2 N (i+1) n s (tops++[top]) chunks k:=by
 have a0:=y.al i (by omega) (by omega)
 have v:=y.bk.lv (d:=i) (by omega) (by omega) a0.1 a0.2
 have hbl:=blankW_len hd
 obtain ⟨h1,h2,h3,h4,h5,h6⟩:=writesM_live v (blank_fit hd)
 have bk1:Bk (writesM B i (blankW n)).2 N (k+60):=y.bk.writes (by omega)
 have hn:=dep_small hd
 have sl:Sl (writesM B i (blankW n)).2 i n keyL (blankT n) (List.replicate n.toNat ByteArray.empty) (k+40):=⟨h2,bk1.ok,bk1.rm.mono (by omega),keyL_size,blank_law v hd⟩
 have hcs:=cellOf_size keyL i s (nonL i) (sa chunks i)
 rw [nonL_size,hz] at hcs
 have hch:Chs n [((s:Int),cellOf keyL i s (nonL i) (sa chunks i))]:=fun q hq=>by
  rw [List.mem_singleton.1 hq]
  simp only
  omega
 obtain ⟨ws,top,g1,g2,g3,g4,g5⟩:=sl.step hch
 have bk2:Bk (writesM (writesM B i (blankW n)).2 i ws).2 N k:=bk1.writes (by omega)
 have wt:=(wants_new (key:=keyL) (d:=(i:Int)) n.toNat).set (i:=s) (nonce:=nonL i) (pl:=sa chunks i) (by rw [List.length_replicate]; omega) (nonL_size i) hz
 have wt:Wants keyL i (setC (List.replicate n.toNat ByteArray.empty) [((s:Int),cellOf keyL i s (nonL i) (sa chunks i))]) ((List.replicate n.toNat (zerosT 32)).set s (sa chunks i)):=wt
 have gg:=wt.get g4 (i:=s) (by omega)
 have e1:sa ((List.replicate n.toNat (zerosT 32)).set s (sa chunks i)) s=sa chunks i:=by
  rw [sa_get (by rw [List.length_set,List.length_replicate]; omega),List.getElem_set_self]
 rw [e1] at gg
 refine ⟨⟨hd,keyL_size,v.nb⟩,h1,sl.good,hbl,bk1.rm.mono (by omega),h2.ti.sm,ws,top,g1,g2,g3,bk2,fun d h0 hdN=>?_,by rw [List.length_append,y.tl]; rfl,fun j hj=>?_⟩
 ·by_cases e:d=i
  ·subst e; exact ⟨g4.lv.al,g4.lv.ln⟩
  ·have hne:(i:Int).toNat≠d.toNat:=by omega
   have A:=(alike_writes (d:=(i:Int)) (e:=d) hne (l:=blankW n) y.bk.pw).trans (alike_writes hne (l:=ws) bk1.pw)
   rw [A.dk]
   exact y.al d h0 hdN
 ·by_cases e:j=i
  ·subst e
   have:sa (tops++[top]) j=top:=by
    rw [sa_get (by rw [List.length_append,y.tl]; simp),List.getElem_append_right (by rw [y.tl]; exact Nat.le_refl _)]
    simp [y.tl]
   rw [this]; exact gg
  ·have hne:(i:Int).toNat≠(j:Int).toNat:=by omega
   have A:=(alike_writes (d:=(i:Int)) (e:=(j:Int)) hne (l:=blankW n) y.bk.pw).trans (alike_writes hne (l:=ws) bk1.pw)
   have:sa (tops++[top]) j=sa tops j:=by
    rw [sa_get (by rw [List.length_append,y.tl]; simp; omega),List.getElem_append_left (by rw [y.tl]; omega),sa_get (by rw [y.tl]; omega)]
   rw [this,A.get]
   exact y.got j (by omega)
end Go.Proofs.YthegnmanjdlmjaaGreatDoor
namespace Go.Proofs.YthegnmanjdlmjaaGreatDoor
open Go.Sh Go.RowKit
section
variable {h0 h:H} {d b:Nat} {D:DiskM} {B:BankM} {at_ i:Int} {s:ByteArray}
theorem Fail_spec {Q:H→Prop} (w:Wd h0 h [diskC d D]) (k:∀ h',Wd h0 h' [diskC d D.fail]→Q h'):disk_Disk_Fail (some ⟨d,0,none⟩) h Q:=by
 obtain ⟨⟨bl,bn,a,l,c⟩,⟨ok,hl⟩,w⟩:=w.opn 0 rfl
 unfold disk_Disk_Fail
 simp only [addr_add,load_eq,Nat.zero_add,Nat.add_zero,Nat.mul_one,Nat.one_mul,Nat.zero_mul,Nat.reduceAdd,List.setIfInBounds_toArray,List.set_cons_zero,List.set_cons_succ,List.getElem?_toArray,List.getElem?_cons_zero,List.getElem?_cons_succ,some_and,int_eq,bool_eq,str_eq,slc_eq,ptr_eq,nn_eq,M.val,cond_true,cond_false,Bool.not_true,Bool.not_false,Option.isNone_some]
 refine M.put_w w 0 rfl rfl (by simp) fun h1 w=>?_
 refine M.put_w w 0 rfl rfl (by simp) fun h2 w=>?_
 have w:=(w.drop (i:=3) rfl).nilsl 131 2
 exact k h2 (w.close 0 (bl,bn,none,0,0) rfl ⟨DiskM.fail_ok ok,rfl⟩)
theorem rFail {Q:H→Prop} (w:Wd h0 h [refC d D]) (k:∀ h',Wd h0 h' [refC d D.fail]→Q h'):ref09_Fail (some ⟨d,0,none⟩) h Q:=by
 obtain ⟨⟨bl,a,l,c⟩,⟨⟨ok,sy⟩,hl⟩,w⟩:=w.opn 0 rfl
 unfold ref09_Fail
 simp only [addr_add,load_eq,Nat.zero_add,Nat.add_zero,Nat.mul_one,Nat.one_mul,Nat.zero_mul,Nat.reduceAdd,List.setIfInBounds_toArray,List.set_cons_zero,List.set_cons_succ,List.getElem?_toArray,List.getElem?_cons_zero,List.getElem?_cons_succ,some_and,int_eq,bool_eq,str_eq,slc_eq,ptr_eq,nn_eq,M.val,cond_true,cond_false,Bool.not_true,Bool.not_false]
 refine M.put_w w 0 rfl rfl (by simp) fun h1 w=>?_
 refine M.put_w w 0 rfl rfl (by simp) fun h2 w=>?_
 have w:=(w.drop (i:=2) rfl).nilsl 214 2
 exact k h2 (w.close 0 (bl,none,0,0) rfl ⟨⟨DiskM.fail_ok ok,DiskM.fail_sync⟩,rfl⟩)
theorem bfail {Q:H→Prop} (w:Wd h0 h [bankC b B]) (hb:¬ B.bad i) (k:∀ h',Wd h0 h' [bankC b (B.set i (B.disk i).fail)]→Q h'):bank_Bank_Disk (some ⟨b,0,none⟩) i h fun p h1=>disk_Disk_Fail p h1 Q:=by
 refine bDisk w (fun e=>absurd e hb) fun _ p h1 k0 k1 w1 back=>?_
 exact Fail_spec w1 fun h' w2=>k h' (back _ _ w2)
theorem rRestore {Q:H→Prop} {ia:Option Addr} {il ic:Nat} {img:List ByteArray} (w:Wd h0 h [refC d D]) (hl:img.length=il) (h0i:ia=none→il=0) (hr:∀ b,ia=some b→Sh.rowAt h0 b (img.map Value.string))
  (k:∀ h',Wd h0 h' [refC d (D.restore img)]→Q h'):ref09_Restore (some ⟨d,0,none⟩) ia il ic h Q:=by
 have w0:=w
 obtain ⟨⟨bl,a,l,c⟩,⟨⟨ok,sy⟩,hlw⟩,w⟩:=w.opn 0 rfl
 simp only at hlw
 subst hlw
 have hd:=w.blk 0 rfl
 unfold ref09_Restore
 have t1:=DiskM.restore_ok ok img
 have t2:=DiskM.restore_sync sy img
 unfold DiskM.restore at k t1 t2
 have hlen:=DiskM.ofImage_length D.N.length img
 have hsm:=ok.small
 have hol:=ok.len
 simp only [addr_add,load_eq,Nat.zero_add,Nat.add_zero,Nat.mul_one,Nat.one_mul,Nat.zero_mul,Nat.reduceAdd,List.setIfInBounds_toArray,List.set_cons_zero,List.set_cons_succ,List.getElem?_toArray,List.getElem?_cons_zero,List.getElem?_cons_succ,some_and,int_eq,bool_eq,str_eq,slc_eq,ptr_eq,nn_eq,M.val,cond_true,cond_false,Bool.not_true,Bool.not_false,cell_in hd]
 cases hdead:D.dead
 ·simp only [hdead,Bool.false_eq_true,if_false] at k t1 t2
  simp only [cond_false]
  have hs:∀ (i:Nat) (l:List ByteArray),i<l.length→l.length=D.N.length→(((DiskM.ofImage D.N.length img).take i++l.drop i).set i ((DiskM.ofImage D.N.length img).getD i ByteArray.empty))=(DiskM.ofImage D.N.length img).take (i+1)++l.drop (i+1):=by
   intro i l hi hll
   apply List.ext_getElem?
   intro x
   rw [List.getElem?_set]
   by_cases hx:i=x
   ·subst hx
    rw [if_pos rfl,if_pos (by simp; omega),List.getElem?_append_left (by simp; omega),List.getElem?_take,if_pos (by omega),List.getD_eq_getElem?_getD,List.getElem?_eq_getElem (by omega)]; rfl
   ·rw [if_neg hx]
    by_cases h1:x<i
    ·rw [List.getElem?_append_left (by simp; omega),List.getElem?_append_left (by simp; omega),List.getElem?_take,List.getElem?_take,if_pos h1,if_pos (by omega)]
    ·rw [List.getElem?_append_right (by simp; omega),List.getElem?_append_right (by simp; omega)]
     simp only [List.length_take,hlen,List.getElem?_drop]
     congr 1; omega
  refine M.jn ?_
  refine M.loop_of (I:=fun (i:Int) h'=>0≤i∧i≤D.N.length∧Wd h0 h' [.blk d (.cells #[.slice (some ⟨bl,0,none⟩) D.N.length D.N.length,.slice a D.W.length c,.bool false] 212 (0,0)),
    .blk bl (.cells (strs ((DiskM.ofImage D.N.length img).take i.toNat++D.L.drop i.toNat)) 9 (0,0)),.sl 214 2 a D.W.length c (wr D.W)]) (μ:=fun i=>(D.N.length-i).toNat)
   ⟨by omega,by omega,by simpa [hdead,ok.len] using w⟩ ?_
  intro i h1 J ⟨hi0,hi1,w⟩ hJ
  have hd:=w.blk 0 rfl
  have hw1:IntKind.wrap .i64 (i+1)=i+1:=by rw [IntKind.wrap_i64]; omega
  have hnext:(i+1).toNat=i.toNat+1:=by omega
  simp only [addr_add,load_eq,Nat.zero_add,Nat.add_zero,Nat.mul_one,Nat.one_mul,Nat.zero_mul,Nat.reduceAdd,List.setIfInBounds_toArray,List.set_cons_zero,List.set_cons_succ,List.getElem?_toArray,List.getElem?_cons_zero,List.getElem?_cons_succ,some_and,int_eq,bool_eq,str_eq,slc_eq,ptr_eq,nn_eq,M.val,cond_true,cond_false,Bool.not_true,Bool.not_false,cell_in hd]
  by_cases hlt:i<D.N.length
  ·have hlt':i.toNat<D.N.length:=by omega
   have hg:(DiskM.ofImage D.N.length img).getD i.toNat ByteArray.empty=if i.toNat<img.length∧((img.getD i.toNat ByteArray.empty).size:Int)≤2048 then img.getD i.toNat ByteArray.empty else ByteArray.empty:=by
    rw [List.getD_eq_getElem?_getD]
    simp [DiskM.ofImage,hlt']
   simp only [hlt,decide_true,cond_true]
   refine M.jn ?_
   refine M.idx_of hi0 hlt ?_
   simp only [addr_add,load_eq,Nat.zero_add,Nat.add_zero,Nat.mul_one,Nat.one_mul,Nat.zero_mul,Nat.reduceAdd,List.setIfInBounds_toArray,List.set_cons_zero,List.set_cons_succ,List.getElem?_toArray,List.getElem?_cons_zero,List.getElem?_cons_succ,some_and,int_eq,bool_eq,str_eq,slc_eq,ptr_eq,nn_eq,M.val,cond_true,cond_false,Bool.not_true,Bool.not_false,hw1]
   refine M.put_w w 1 rfl rfl (by rw [strs_size]; simp [hlen,ok.len]; omega) fun h2 w=>?_
   rw [strs_set] at w
   have hfin:∀ h',Wd h0 h' [.blk d (.cells #[.slice (some ⟨bl,0,none⟩) D.N.length D.N.length,.slice a D.W.length c,.bool false] 212 (0,0)),
     .blk bl (.cells (strs (((DiskM.ofImage D.N.length img).take i.toNat++D.L.drop i.toNat).set i.toNat ((DiskM.ofImage D.N.length img).getD i.toNat ByteArray.empty))) 9 (0,0)),.sl 214 2 a D.W.length c (wr D.W)]→J (i+1) h':=by
    intro h' w
    rw [hs _ _ (by rw [ok.len]; omega) ok.len] at w
    exact hJ _ _ ⟨by omega,by omega,by rw [hnext]; exact w⟩ (by omega)
   by_cases hi2:i<il
   ·have hi3:i.toNat<img.length:=by omega
    cases ia with
    | none=>have:=h0i rfl; omega
    | some ib=>
     have ck:∀ h',Keep h0 h'→h'.cell (ib.add i.toNat)=some (.string img[i.toNat]):=fun h' kk=>kk.cell (by rw [hr ib rfl _ (by simpa using hi3)]; simp [hi3])
     have hgd:img.getD i.toNat ByteArray.empty=img[i.toNat]:=by simp [List.getD_eq_getElem?_getD,hi3]
     simp only [hi2,decide_true,cond_true]
     refine M.jn ?_
     refine M.idx_of hi0 hi2 ?_
     simp only [addr_add,load_eq,Nat.zero_add,Nat.add_zero,Nat.mul_one,Nat.one_mul,Nat.zero_mul,Nat.reduceAdd,List.setIfInBounds_toArray,List.set_cons_zero,List.set_cons_succ,List.getElem?_toArray,List.getElem?_cons_zero,List.getElem?_cons_succ,some_and,int_eq,bool_eq,str_eq,slc_eq,ptr_eq,nn_eq,M.val,cond_true,cond_false,Bool.not_true,Bool.not_false,ck _ w.keep]
     simp only [hgd,hi3,true_and] at hg
     by_cases hsz:(img[i.toNat].size:Int)≤2048
     ·simp only [hsz,if_true] at hg
      have hd:=w.blk 0 rfl
      simp only [addr_add,load_eq,Nat.zero_add,Nat.add_zero,Nat.mul_one,Nat.one_mul,Nat.zero_mul,Nat.reduceAdd,List.setIfInBounds_toArray,List.set_cons_zero,List.set_cons_succ,List.getElem?_toArray,List.getElem?_cons_zero,List.getElem?_cons_succ,some_and,int_eq,bool_eq,str_eq,slc_eq,ptr_eq,nn_eq,M.val,cond_true,cond_false,Bool.not_true,Bool.not_false,hsz,decide_true,cell_in hd]
      refine M.idx_of hi0 hi2 ?_
      simp only [addr_add,load_eq,Nat.zero_add,Nat.add_zero,Nat.mul_one,Nat.one_mul,Nat.zero_mul,Nat.reduceAdd,List.setIfInBounds_toArray,List.set_cons_zero,List.set_cons_succ,List.getElem?_toArray,List.getElem?_cons_zero,List.getElem?_cons_succ,some_and,int_eq,bool_eq,str_eq,slc_eq,ptr_eq,nn_eq,M.val,cond_true,cond_false,Bool.not_true,Bool.not_false,ck _ w.keep]
      refine M.idx_of hi0 hlt ?_
      simp only [addr_add,load_eq,Nat.zero_add,Nat.add_zero,Nat.mul_one,Nat.one_mul,Nat.zero_mul,Nat.reduceAdd,List.setIfInBounds_toArray,List.set_cons_zero,List.set_cons_succ,List.getElem?_toArray,List.getElem?_cons_zero,List.getElem?_cons_succ,some_and,int_eq,bool_eq,str_eq,slc_eq,ptr_eq,nn_eq,M.val,cond_true,cond_false,Bool.not_true,Bool.not_false]
      refine M.put_w w 1 rfl rfl (by rw [strs_size]; simp [hlen,ok.len]; omega) fun h3 w=>?_
      rw [strs_set,←hg] at w
      simp only [List.set_set] at w
      exact hfin _ w
     ·simp only [hsz,if_false] at hg
      simp only [hsz,decide_false,cond_false]
      rw [←hg] at w
      exact hfin _ w
   ·have hi3:¬ i.toNat<img.length:=by omega
    simp only [hi3,false_and,if_false] at hg
    simp only [hi2,decide_false,cond_false]
    refine M.jn ?_
    simp only [cond_false]
    rw [←hg] at w
    exact hfin _ w
  ·simp only [hlt,decide_false,cond_false]
   have hi:i.toNat=D.N.length:=by omega
   rw [hi] at w
   rw [List.take_of_length_le (by omega),List.drop_eq_nil_of_le (by rw [ok.len]; omega),List.append_nil] at w
   refine M.put_w w 0 rfl rfl (by simp) fun h2 w=>?_
   have w:=(w.drop (i:=2) rfl).nilsl 214 2
   refine k h2 (w.close 0 (bl,none,0,0) ?_ ⟨⟨t1,t2⟩,rfl⟩)
   simp [hlen,hdead,wr]
 ·simp only [hdead,if_true] at k
  simp only [cond_true]
  exact k _ w0
end
end Go.Proofs.YthegnmanjdlmjaaGreatDoor
namespace Go.Proofs.YthegnmanjdlmjaaGreatDoor
open Go.Sh Go.RowKit
def shsM (b:Nat) (n:Int) (tops:List ByteArray):List ShM:=tops.mapIdx fun j t=>⟨b,(j:Int),n,keyL,t,true⟩
theorem shsM_len (b:Nat) (n:Int) (tops:List ByteArray):(shsM b n tops).length=tops.length:=by simp [shsM]
theorem shsM_app (b:Nat) (n:Int) (tops:List ByteArray) (t:ByteArray):shsM b n (tops++[t])=shsM b n tops++[⟨b,(tops.length:Int),n,keyL,t,true⟩]:=by simp [shsM,List.mapIdx_append]
theorem ha_shs {b:Nat} {n:Int} {tops:List ByteArray} {j:Nat} (h:j<tops.length):ha (shsM b n tops) j=⟨b,(j:Int),n,keyL,sa tops j,true⟩:=by
 rw [ha_get (by rw [shsM_len]; exact h),sa_get h]
 simp [shsM]
theorem M.still_s {h:H} {x:Addr} {n:Nat} {K:Prop} (k:K):M.still h x n h K:=⟨fun _ _=>rfl,k⟩
theorem ld4 {h:H} {b:Nat} {p:Option Addr} {d n:Int} {key:ByteArray} {e:TypeId} {z:Nat × Nat} {K:Option Addr→Int→Int→ByteArray→Prop} (hb:h b=some (.cells #[.pointer p,.int .i64 d,.int .i64 n,.string key] e z)) (k:K p d n key):
  M.load h (Addr.add ⟨b,0,none⟩ 0) fun v=>M.ptr v fun p=>M.load h (Addr.add ⟨b,0,none⟩ 1) fun v=>M.int .i64 v fun d=>M.load h (Addr.add ⟨b,0,none⟩ 2) fun v=>M.int .i64 v fun n=>M.load h (Addr.add ⟨b,0,none⟩ 3) fun v=>M.str v fun s=>K p d n s:=by
 simp only [addr_add,Nat.zero_add]
 exact M.ldp hb rfl (M.ldi hb rfl (M.ldi hb rfl (M.lds hb rfl k)))
section
variable {h:H} {a:Option Addr} {l c:Nat} {xs:List ByteArray} {n:Int} {s:Nat}
set_option maxRecDepth 100000 in
set_option maxHeartbeats 4000000 in
theorem lay_spec {Q:Option Addr→Nat→Nat→Option Addr→Nat→Nat→Option Addr→Nat→Nat→Bool→H→Prop} (f:Ro eS h a l xs) (h1:2≤l) (h2:l≤8) (hz:∀ i,i<l→(sa xs i).size=32) (hd:dep n≠0) (hs:(s:Int)<n) (tb:Tabs h)
  (k:∀ p r a1 c1 a2 c2 a3 c3 B R tops h',Ly B (l+2) (l+2) n s tops (allT xs 32) 900000→Rk R (l+2) →
   Wd h h' [.sl 9 1 a3 (l+2) c3 (eS.row (allT xs 32)),bankC p B,rbankC r R,.sl 85 6 a1 (l+2) c1 (eH.row (shsM p n tops)),.sl 162 6 a2 (l+2) c2 (eH.row (shsM r n tops))]→Q a1 (l+2) c1 a2 (l+2) c2 a3 (l+2) c3 true h'):
  law19_lay a l c n s h Q:=by
 unfold law19_lay law19_lay.g
 have hxl:=f.len
 have hall:(allT xs 32).length=l+2:=by simp [allT,hxl]
 have hcz:∀ i,i<l+2→(sa (allT xs 32) i).size=32:=fun i hi=>by
  by_cases g:i<l
  ·have:sa (allT xs 32) i=sa xs i:=by rw [allT,sa_get (by simp; omega),List.getElem_append_left (by omega),sa_get (by omega)]
   rw [this]; exact hz i g
  ·rw [allT,sa_get (by simp; omega),List.getElem_append_right (by omega)]
   have:i-xs.length=0∨i-xs.length=1:=by omega
   rcases this with e | e <;> simp [e,prT,nT_size]
 have hmk:makeM xs=(allT xs 32,0):=by
  unfold makeM
  rw [if_neg (by omega),if_neg (fun ⟨i,hi,e⟩=>e (hz i (by omega)))]
 have hkey:(⟨#[48,49,50,51,52,53,54,55,56,57,97,98,99,100,101,102,48,49,50,51,52,53,54,55,56,57,97,98,99,100,101,102]⟩:ByteArray)=keyL:=rfl
 rw [hkey]
 refine Make_spec f (by omega) fun a3 c3 hA w=>?_
 rw [hmk] at w ⊢
 simp only [hall] at w ⊢
 generalize hm:l+2=m at *
 refine bNew fun p hB w'=>?_
 have w:=w.join w'
 clear w'
 refine rbNew fun r hC w'=>?_
 have w:=w.join w'
 clear w'
 refine M.join_of (fun (q:(Option Addr × Nat × Nat) × (Option Addr × Nat × Nat)) h'=>q.1.2.1=m∧q.2.2.1=m∧∃ B R tops,Ly B m m n s tops (allT xs 32) 900000∧Rk R m∧Wd h h' [.sl 9 1 a3 m c3 (eS.row (allT xs 32)),bankC p B,rbankC r R,.sl 85 6 q.1.1 m q.1.2.2 (eH.row (shsM p n tops)),.sl 162 6 q.2.1 m q.2.2.2 (eH.row (shsM r n tops))]) (fun J hJ=>?_) ?_
 ·refine M.loop_of (I:=fun (q:(Option Addr × Nat × Nat) × (Option Addr × Nat × Nat) × Int) h'=>∃ y:Nat,y≤m∧q.2.2=(y:Int)∧q.1.2.1=y∧q.2.1.2.1=y∧∃ B R tops,Ly B m y n s tops (allT xs 32) (900000+100*(m-y))∧Rk R m ∧
   Wd h h' [.sl 9 1 a3 m c3 (eS.row (allT xs 32)),bankC p B,rbankC r R,.sl 85 6 q.1.1 y q.1.2.2 (eH.row (shsM p n tops)),.sl 162 6 q.2.1.1 y q.2.1.2.2 (eH.row (shsM r n tops))]) (μ:=fun q=>(m-q.2.2).toNat) ⟨0,by omega,rfl,rfl,rfl,BankM.new m 140,BankM.new m 140,[],?_,rk_new (by omega) (by omega),(w.nilsl _ _).nilsl _ _⟩ ?_
  ·have y0:=ly_new (s:=s) (n:=n) (chunks:=allT xs 32) (N:=m) (by omega) (by omega)
   exact ⟨y0.bk.mono (by omega),y0.al,y0.tl,y0.got⟩
  clear w
  rintro ⟨⟨a4,l4,c4⟩,⟨a5,l5,c5⟩,i⟩ h5 J2 ⟨y,hy,rfl,hl4,hl5,B,R,tops,ly,rk,w⟩ hJ2
  simp only at hl4 hl5 w ⊢
  replace hl5:=hl5.symm
  subst hl4
  subst hl5
  by_cases hlt:l4<m
  ·have v2:IntKind.wrap .i64 ((l4:Int)+1)=((l4+1:Nat):Int):=by rw [IntKind.wrap_i64]; omega
   have v3:IntKind.wrap .u8 (l4:Int)=(l4:Int):=by rw [IntKind.wrap_u8]; omega
   have ly:Ly B m l4 n s tops (allT xs 32) ((900000+100*(m-(l4+1)))+100):=⟨ly.bk.mono (by omega),ly.al,ly.tl,ly.got⟩
   have htl:=ly.tl
   have hbk:=ly.bk
   obtain ⟨g,e1,g1,hbl,rm1,sm1,ws,top,ep,hwl,ea,ly2⟩:=ly_step ly hd hs hlt (hcz _ hlt)
   clear ly
   refine cdt (by first | omega | (simp only []; omega)) ((w.ro (E:=eS) 0 rfl (by decide)).ldSs rfl hlt fun _ _=>?_)
   refine M.new_w w fun b h6 w=>⟨rfl,M.puts_w0 w 5 rfl (by simp [isPlainCell]) rfl fun h7 w=>?_⟩
   refine M.new_w w fun b2 h8 w=>⟨rfl,M.puts_w0 w 6 rfl (by simp [isPlainCell]) rfl fun h9 w=>?_⟩
   refine ld4 (w.blk 5 rfl) ?_
   obtain ⟨hx,k0,k1,wx,wr,bk⟩:=w.on (i:=1) rfl
   refine Blank_spec wx g (tb.keep w.keep) fun a6 c6 h10 w'=>?_
   have w:=w.join w'
   clear w' bk wr wx k1 k0 hx
   refine ld4 (w.blk 5 rfl) (M.vis _ v3 (M.new_w w fun b3 h11 w=>?_))
   refine M.b2s_at (zs:=[(l4:Int)]) (w.blk 8 rfl) (by simp) ?_
   refine ⟨by have:IntKind.i64.max=9223372036854775807:=rfl
              show ((1+11:Nat):Int)≤_; omega,?_⟩
   obtain ⟨hx,k0,k1,wx,wr,bk⟩:=w.on (i:=1) rfl
   refine Seal2_spec wx (tb.keep w.keep) fun h12 kk=>?_
   have w:=w.keeps kk
   clear bk wr wx k1 k0 hx kk
   have es:sealM (goodS B (l4:Int) n keyL) keyL (l4:Int) n (s:Int) (ofBytes (([(l4:Int)].drop 0).take 1)++⟨#[97,98,99,100,101,102,103,104,105,106,107]⟩) (sa (allT xs 32) l4)=(cellOf keyL l4 s (nonL l4) (sa (allT xs 32) l4),0):=seal_good g hs (nonL_size l4) (hcz _ hlt)
   rw [es]
   clear es
   generalize cellOf keyL l4 s (nonL l4) (sa (allT xs 32) l4)=cell at *
   refine ld4 (w.blk 5 rfl) ?_
   obtain ⟨hx,k0,k1,wx,wr,bk⟩:=w.on (i:=1) rfl
   refine Apply_spec wx (wr.ro 6 rfl (by decide)) (hbk.rm.mono (by omega)) (tb.keep k0) fun h13 w1=>?_
   have w:=bk _ _ w1
   clear bk wr wx k1 k0 hx w1
   rw [applyM_good g] at w ⊢
   rw [e1]
   generalize (writesM B (l4:Int) (blankW n)).2=B1 at *
   refine ld4 (w.blk 5 rfl) (M.new_w w fun b4 h14 w=>?_)
   have hr:Ro eP h14 (some ⟨b4,0,none⟩) 1 [((s:Int),cell)]:=Ro.of_blk (w.blk 9 rfl) rfl rfl
   obtain ⟨hx,k0,k1,wx,wr,bk⟩:=w.on (i:=1) rfl
   refine Prepare_spec wx hr (by decide) sm1 (tb.keep w.keep) fun a7 c7 h15 w'=>?_
   have w:=w.join w'
   clear w' bk wr wx k1 k0 hx hr
   rw [ep] at w ⊢
   simp only at w ⊢
   refine M.join_of (fun (d:Bool) h'=>d=false∧Wd h h' [.sl 9 1 a3 m c3 (eS.row (allT xs 32)),bankC p (writesM B1 (l4:Int) ws).2,rbankC r R,.sl 85 6 a4 l4 c4 (eH.row (shsM p n tops)),.sl 162 6 a5 l4 c5 (eH.row (shsM r n tops)),
    .blk b (.cells #[.pointer (some ⟨p,0,none⟩),.int .i64 (l4:Int),.int .i64 n,.string keyL] 37),.blk b2 (.cells #[.pointer (some ⟨r,0,none⟩),.int .i64 (l4:Int),.int .i64 n,.string keyL] 40)]) (fun J3 hJ3=>?_) ?_
   ·refine cf rfl (cf rfl (cf rfl (cf rfl (ld4 (w.blk 5 rfl) ?_))))
    obtain ⟨hx,k0,k1,wx,wr,bk⟩:=w.on (i:=1) rfl
    refine Apply_spec wx (wr.ro 9 rfl (by decide)) (rm1.mono (by omega)) (tb.keep k0) fun h16 w1=>?_
    have w:=bk _ _ w1
    rw [applyM_good g1] at w ⊢
    rw [ea]
    exact hJ3 _ _ ⟨rfl,w.fst 7⟩
   clear w
   rintro _ h16 ⟨rfl,w⟩
   generalize (writesM B1 (l4:Int) ws).2=B2 at *
   have hbR:¬ R.bad (l4:Int):=BankM.not_bad.2 (by rw [rk.len]; omega)
   have hbB:¬ B2.bad (l4:Int):=BankM.not_bad.2 (by rw [ly2.bk.len]; omega)
   obtain ⟨hx,k0,k1,wx,wr,bk⟩:=w.on (i:=2) rfl
   obtain ⟨ra,rc,rp,rh,hrb,hrc,_,_,_,_⟩:=rb_ptr wx hbR
   clear bk wr wx
   have h00:Addr.add ⟨r,0,none⟩ 0=⟨r,0,none⟩:=rfl
   refine cf rfl ?_
   rw [nn_eq,h00]
   refine M.load_in hrb rfl ⟨_,_,_,rfl,M.idx_of (by omega) (by rw [rk.len]; omega) ?_⟩
   rw [Nat.mul_one,lc hrc]
   refine ⟨_,rfl,?_⟩
   obtain ⟨hx,k0,k1,wx,wr,bk⟩:=w.on (i:=1) rfl
   refine bDisk wx (fun hb=>absurd hb hbB) fun _ pd h17 g0 g2 w5 _=>M.still_s (M.still_s ?_)
   refine Image_spec w5 fun a8 c8 h18 w'=>?_
   have kk:=w'.keep
   have w:=w.join w'
   clear w' bk wr w5
   refine M.still_c kk hrc (M.still_at hrb (kk _ _ hrb) ?_)
   obtain ⟨hx,k0,k1,wx,wr,bk⟩:=w.on (i:=2) rfl
   obtain ⟨ra',rc',rp',rh',hrb',hrc',q0,q1,wq,backR⟩:=rb_ptr wx hbR
   obtain ⟨rfl,rfl⟩:ra=ra'∧rc=rc':=by have e:=(kk _ _ hrb).symm.trans hrb'; simpa using e
   obtain rfl:rp=rp':=by have e:=(kk.cell hrc).symm.trans hrc'; simpa using e
   obtain ⟨i1,_,i2,i3⟩:=wr.slrow 6 rfl
   refine rRestore wq rfl (fun e=>(i2 e).2) (fun q hq=>q0.row (i3 q hq)) fun h19 w1=>?_
   have w:=bk _ _ (backR _ _ w1)
   clear backR bk w1
   have rk2:Rk (R.set (l4:Int) ((R.disk (l4:Int)).restore (B2.disk (l4:Int)).image)) m:=rk.set (by
    unfold DiskM.restore
    split
    ·exact rk.disk hbR
    ·rfl)
   generalize R.set (l4:Int) ((R.disk (l4:Int)).restore (B2.disk (l4:Int)).image)=R2 at *
   have e1:eH.row (shsM p n (tops++[top]))=eH.row (shsM p n tops)++eH.row [⟨p,(l4:Int),n,keyL,top,true⟩]:=by rw [shsM_app,eH.row_app,htl]
   have e2:eH.row (shsM r n (tops++[top]))=eH.row (shsM r n tops)++eH.row [⟨r,(l4:Int),n,keyL,top,true⟩]:=by rw [shsM_app,eH.row_app,htl]
   refine M.join_of (fun (q:(Option Addr × Nat × Nat) × (Option Addr × Nat × Nat)) h'=>q.1.2.1=l4+1∧q.2.2.1=l4+1∧Wd h h' [.sl 9 1 a3 m c3 (eS.row (allT xs 32)),bankC p B2,rbankC r R2,.sl 85 6 q.1.1 (l4+1) q.1.2.2 (eH.row (shsM p n (tops++[top]))),.sl 162 6 q.2.1 (l4+1) q.2.2.2 (eH.row (shsM r n (tops++[top])))]) (fun J3 hJ3=>?_) ?_
   ·rw [e1,e2] at hJ3
    have hs5:=w.blk 5 rfl
    have hs6:=w.blk 6 rfl
    refine ld4 hs5 (ld4 hs6 ?_)
    refine ⟨M.new_w w fun b5 h20 w=>M.still_at hs6 (w.blk 6 rfl) ⟨?_,?_⟩,M.new_w w fun b5 h20 w=>M.still_at hs5 (w.blk 5 rfl) (M.new_w w fun b6 h21 w=>M.still_at hs6 (w.blk 6 rfl) ?_)⟩
    ·refine cellsOf_in (w.blk 8 rfl) rfl (M.app_w w 3 rfl rfl rfl (eH.row_plain [⟨p,(l4:Int),n,keyL,top,true⟩]) (by omega) (by omega) fun a9 c9 h21 w=>M.still_at hs6 (w.blk 6 rfl) ?_)
     refine M.new_w w fun b6 h22 w=>M.still_at hs5 (w.blk 5 rfl) (cellsOf_in (w.blk 9 rfl) rfl (M.app_w w 4 rfl rfl rfl (eH.row_plain [⟨r,(l4:Int),n,keyL,top,true⟩]) (by omega) (by omega) fun a10 c10 h23 w=>?_))
     exact hJ3 _ _ ⟨rfl,rfl,w.fst 5⟩
    ·refine M.new_w w fun b6 h22 w=>M.still_at hs5 (w.blk 5 rfl) (cellsOf_in (w.blk 8 rfl) rfl (M.app_w w 3 rfl rfl rfl (eH.row_plain [⟨p,(l4:Int),n,keyL,top,true⟩]) (by omega) (by omega) fun a9 c9 h21 w=>M.still_at hs6 (w.blk 6 rfl) ?_))
     refine cellsOf_in (w.blk 9 rfl) rfl (M.app_w w 4 rfl rfl rfl (eH.row_plain [⟨r,(l4:Int),n,keyL,top,true⟩]) (by omega) (by omega) fun a10 c10 h23 w=>?_)
     exact hJ3 _ _ ⟨rfl,rfl,w.fst 5⟩
    ·refine cellsOf_in (w.blk 9 rfl) rfl (M.app_w w 3 rfl rfl rfl (eH.row_plain [⟨p,(l4:Int),n,keyL,top,true⟩]) (by omega) (by omega) fun a9 c9 h22 w=>M.still_at hs6 (w.blk 6 rfl) ?_)
     refine cellsOf_in (w.blk 8 rfl) rfl (M.app_w w 4 rfl rfl rfl (eH.row_plain [⟨r,(l4:Int),n,keyL,top,true⟩]) (by omega) (by omega) fun a10 c10 h23 w=>?_)
     exact hJ3 _ _ ⟨rfl,rfl,w.fst 5⟩
   clear w
   rintro ⟨⟨a9,l9,c9⟩,a10,l10,c10⟩ h20 ⟨q1,q2,w⟩
   simp only at q1 q2 w ⊢
   subst q1 q2
   exact M.vis _ v2 (hJ2 _ _ ⟨l4+1,by omega,rfl,rfl,rfl,B2,R2,tops++[top],ly2,rk2,w⟩ (by first | omega | (simp only []; omega)))
  ·obtain rfl:l4=m:=by omega
   exact cdf (by first | omega | (simp only []; omega)) (hJ _ _ ⟨rfl,rfl,B,R,tops,⟨ly.bk.mono (by omega),ly.al,ly.tl,ly.got⟩,rk,w⟩)
 clear w
 rintro ⟨⟨a4,l4,c4⟩,a5,l5,c5⟩ h5 ⟨hl4,hl5,B,R,tops,ly,rk,w⟩
 simp only at hl4 hl5 w ⊢
 replace hl4:=hl4.symm
 replace hl5:=hl5.symm
 subst hl4
 subst hl5
 refine M.jn (ct rfl (M.vis (m:Int) (by rw [IntKind.wrap_i64]; omega) ?_))
 rw [beq_self_eq_true]
 exact k _ _ _ _ _ _ _ _ _ _ _ _ ly rk w
end
end Go.Proofs.YthegnmanjdlmjaaGreatDoor
namespace Go.Sh
open Go.RowKit
theorem row_setf {α:Type} {E:Enc α} {o:Nat} {v:Value} {x':α} (ho:o<E.sz):∀ {xs:List α} {j:Nat} (hj:j<xs.length),(E.enc xs[j]).set o v=E.enc x'→(E.row xs).set (j*E.sz+o) v=E.row (xs.set j x')
 | x::xs,0,_,h=>by
  rw [Nat.zero_mul,Nat.zero_add,E.row_cons,List.set_append_left _ _ (by rw [E.len]; exact ho),List.set_cons_zero,E.row_cons]
  congr 1
 | x::xs,j+1,hj,h=>by
  have e:(j+1)*E.sz+o=E.sz+(j*E.sz+o):=by rw [Nat.succ_mul]; omega
  rw [e,E.row_cons,List.set_append_right _ _ (by rw [E.len]; omega),E.len,Nat.add_sub_cancel_left,row_setf (xs:=xs) (j:=j) ho (by simpa using hj) h,List.set_cons_succ,E.row_cons]
end Go.Sh
namespace Go.Proofs.YthegnmanjdlmjaaGreatDoor
open Go.Sh Go.RowKit
section
variable {B:BankM} {d n s:Int} {key top:ByteArray} {F:Nat→ByteArray × Int} {m:Nat} {data:List ByteArray}
theorem read_21 (pw:B.fails=false) (a:Int):(B.read d a).2≠21:=by
 unfold BankM.read
 split
 ·decide
 ·split
  ·rename_i h; exact absurd h.1 (by rw [pw]; decide)
  ·unfold DiskM.read
   split
   ·unfold DiskM.usable
    split
    ·decide
    ·split <;> decide
   ·show (0:Int)≠21
    decide
theorem gath_ne {f:Int→ByteArray × Int} {e:Int} (h0:e≠0) (h:∀ x,(f x).2≠e):∀ {l:List Int} {acc:List ByteArray},(gath f acc l).2≠e
 | [],acc=>fun g=>h0 (by simpa [gath] using g.symm)
 | x::r,acc=>by
  unfold gath
  split
  ·exact h x
  ·exact gath_ne h0 h
theorem follow_ne {slot:Nat}:∀ {l:List ByteArray} {top:ByteArray},(follow top slot l).2≠21
 | [],_=>by unfold follow; show (0:Int)≠21; decide
 | p::r,top=>by
  unfold follow
  split
  ·decide
  ·exact follow_ne
theorem get_21 (pw:B.fails=false):(getM B key d n top s).2≠21:=by
 unfold getM
 split
 ·unfold mayZ
  split
  ·decide
  ·split <;> decide
 ·have ho:(overM B d n (fun _=>none) top s).2.2≠21:=by
   unfold overM
   simp only
   split
   ·exact gath_ne (by decide) fun x=>read_21 pw _
   ·exact follow_ne
  unfold getG
  split
  ·exact ho
  ·have hr:=read_21 (d:=d) pw (120+s)
   unfold cellM
   split
   ·exact hr
   ·split
    ·decide
    ·split
     ·decide
     ·split
      ·decide
      ·unfold openA
       split
       ·decide
       ·split
        ·show (0:Int)≠21
         decide
        ·decide
theorem get_dead (hd:dep n≠0) (h:(B.disk d).dead=true):(getM B key d n top s).2≠0:=by
 unfold getM
 split
 ·assumption
 ·unfold getG
  have ho:(overM B d n (fun _=>none) top s).2.2≠0:=by
   have hg:(gath (pairOf B d fun _=>none) [] (pathN n s)).2≠0:=by
    have hl:=pathN_len n s
    cases hp:pathN n s with
    | nil=>rw [hp] at hl; exact absurd hl.symm hd
    | cons x r=>
     have hx:(pairOf B d (fun _=>none) x).2≠0:=by
      show (B.read d (100+x)).2≠0
      unfold BankM.read
      split
      ·decide
      ·split
       ·decide
       ·unfold DiskM.read DiskM.usable
        rw [if_pos h,if_pos (by decide)]
        show (20:Int)≠0
        decide
     unfold gath
     rw [if_pos hx]
     exact hx
   unfold overM
   simp only
   rw [if_pos hg]
   exact hg
  rw [if_pos ho]
  exact ho
theorem had_21 (pw:B.fails=false) (x:ShM):(hadM B x s).2≠21:=by
 unfold hadM
 split
 ·exact get_21 pw
 ·decide
theorem tN_succ (n:Nat) (f:Nat→ByteArray × Int):tN (n+1) f=tN n f++[decide ((f n).2=0)]:=by
 rw [tN,List.range_succ,List.map_append]; rfl
theorem lost_count (f:Nat→ByteArray × Int):∀ n,(lostN n f).length+(tN n f).count true=n
 | 0=>rfl
 | n+1=>by
  have:=lost_count f n
  rw [lostN_succ,tN_succ,List.length_append,List.count_append]
  by_cases h:(f n).2=0
  ·rw [if_pos h,decide_eq_true h]; simp; omega
  ·rw [if_neg h,decide_eq_false h]; simp; omega
theorem tN_len (n:Nat) (f:Nat→ByteArray × Int):(tN n f).length=n:=by simp [tN]
theorem load_good (hd:data.length+2=m) (h1:4≤m) (h2:m≤10) (hz:∀ i,i<data.length→(sa data i).size=32) (h21:∀ i,(F i).2≠21) (hg:∀ i,i<m→(F i).2=0→(F i).1=sa (allT data 32) i) (hc:(lostN m F).length≤2):
  loadM m F=(allT data 32,lostN m F,0):=by
 have hcnt:=lost_count F m
 have hD:decM (cN m F) (tN m F)=(allT data 32,0):=by
  refine decM_good (k:=m-2) (by omega) (by omega) (by omega) hz (by decide) (by rw [tN_len]; omega) (by omega) (by rw [cN_len]; omega) fun i hi=>?_
  have him:i<m:=by
   by_cases h:i<m
   ·exact h
   ·rw [List.getElem?_eq_none (by rw [tN_len]; omega)] at hi; simp at hi
  have hi0:(F i).2=0:=by
   rw [tN,List.getElem?_map,List.getElem?_range him] at hi
   simpa using hi
  rw [sa_get (by rw [cN_len]; exact him)]
  simp only [cN,List.getElem_map,List.getElem_range]
  rw [if_pos hi0]
  exact hg i him hi0
 unfold loadM
 rw [if_neg (fun ⟨i,_,e⟩=>h21 i e),hD,if_neg (by simp)]
theorem load_lost (h1:4≤m) (h21:∀ i,(F i).2≠21) (hc:3≤(lostN m F).length):loadM m F=([],[],24):=by
 have hcnt:=lost_count F m
 have hD:decM (cN m F) (tN m F)=([],24):=by
  unfold decM
  rw [if_pos (by rw [cN_len,selB_len (by rw [tN_len,cN_len])]; omega)]
 unfold loadM
 rw [if_neg (fun ⟨i,_,e⟩=>h21 i e),hD,if_pos (by simp)]
end
section
variable {h0 h:H} {L:List Chunk} {a:Option Addr} {l c:Nat} {xs:List ShM} {e:TypeId}
theorem put_fld {z o:Nat} {zi:Int} {v:Value} {K:H→Prop} (w:Wd h0 h L) (i:Nat) (hi:L[i]? = some (.sl e 6 a l c (eH.row xs))) (hz:zi=(z:Int)) (hl:z<xs.length) (ho:o<6) (hp:isPlainCell v=true) (x':ShM) (hx:(eH.enc (ha xs z)).set o v=eH.enc x')
  (k:∀ h',Wd h0 h' (L.set i (.sl e 6 a l c (eH.row (xs.set z x'))))→K h'):M.idx a l zi fun b j=>M.put h (Addr.add (Addr.add b (j*6)) o) v K:=by
 subst hz
 obtain ⟨h1,_,h2,_⟩:=w.slrow i hi
 rw [eH.row_len,show eH.sz=6 from rfl] at h1
 have hll:xs.length=l:=by omega
 rw [ha_get hl] at hx
 cases a with
 | none=>have:=(h2 rfl).2; omega
 | some b=>
  refine M.idx_of (by omega) (by omega) ?_
  rw [Int.toNat_natCast,add2]
  refine M.put_sl w i hi hp (by rw [eH.row_len,show eH.sz=6 from rfl]; omega) fun h' w=>k h' ?_
  have:=row_setf (E:=eH) (o:=o) (v:=v) (x':=x') ho hl hx
  rw [show eH.sz=6 from rfl] at this
  rw [this] at w
  exact w
theorem Ro.ldHp {z:Nat} {zi:Int} {K:Option Addr→Prop} (f:Ro eH h a l xs) (hz:zi=(z:Int)) (hl:z<l) (k:K (some ⟨(ha xs z).b,0,none⟩)):
  M.idx a l zi fun a9 j10=>M.load h (Addr.add (Addr.add (Addr.add a9 (j10*6)) 0) 0) fun v=>M.ptr v K:=by
 subst hz
 refine f.at (by omega) (by omega) fun q hi hc=>?_
 simp only [Int.toNat_natCast] at hi hc ⊢
 rw [ha_get hi] at k
 have c0:=hc 0 (by decide)
 rw [Addr.add_zero'] at c0
 rw [Addr.add_zero',Addr.add_zero']
 exact ⟨_,c0,_,rfl,k⟩
end
end Go.Proofs.YthegnmanjdlmjaaGreatDoor
namespace Go.Proofs.YthegnmanjdlmjaaGreatDoor
open Go.Sh Go.RowKit
structure Hb (B:BankM) (m:Nat):Prop where
 ti:B.Tiny
 pw:B.fails=false
 len:B.ds.length=m
 w:∀ D ∈ B.ds,D.W.length<999999999
namespace Hb
variable {B:BankM} {m:Nat} {d at_:Int} {D:DiskM} {s:ByteArray}
theorem nb (b:Hb B m) (h0:0≤d) (h1:d<m):¬ B.bad d:=BankM.not_bad.2 (by rw [b.len]; omega)
theorem dw (b:Hb B m) (hb:¬ B.bad d):(B.disk d).W.length<999999999:=by
 obtain ⟨h,e⟩:=BankM.disk_at hb
 rw [←e]
 exact b.w _ (List.getElem_mem _)
theorem set (b:Hb B m) (hD:(∀ s ∈ D.N,s.size≤2048)∧(∀ s ∈ D.L,s.size≤2048)∧∀ p ∈ D.W,p.2.size≤2048) (hW:D.W.length<999999999):Hb (B.set d D) m:=
 ⟨b.ti.set rfl hD,b.pw,by simp [BankM.set,b.len],fun D' h=>by
  simp only [BankM.set] at h
  rcases List.mem_or_eq_of_mem_set h with h | rfl
  ·exact b.w D' h
  ·exact hW⟩
theorem fail (b:Hb B m):Hb (B.set d (B.disk d).fail) m:=b.set ⟨(b.ti.disk d).1,(b.ti.disk d).2.1,by simp [DiskM.fail]⟩ (by simp [DiskM.fail])
theorem tamper (b:Hb B m) (hb:¬ B.bad d):Hb (B.set d ((B.disk d).tamper at_ s).2) m:=by
 have h:=b.ti.disk d
 have hw:=b.dw hb
 unfold DiskM.tamper
 split
 ·exact b.set h hw
 ·rename_i g
  simp only [not_or,Decidable.not_not] at g
  refine b.set ⟨set_size h.1 (by omega),set_size h.2.1 (by omega),fun p hp=>h.2.2 p (List.mem_filter.1 hp).1⟩ ?_
  exact Nat.lt_of_le_of_lt (List.length_filter_le _ _) hw
end Hb
theorem Ly.hb {B:BankM} {N i s:Nat} {n:Int} {tops chunks:List ByteArray} (y:Ly B N i n s tops chunks 900000):Hb B N:=
 ⟨y.bk.ti,y.bk.pw,y.bk.len,fun D hD=>by have:=y.bk.rm.waits D hD; omega⟩
section
variable {B B':BankM} {m i s:Nat} {n si:Int} {tops chunks:List ByteArray} {x:ShM} {d:Int}
theorem Ly.had {b:Nat} (y:Ly B m m n s tops chunks 900000) (hi:i<m):hadM B (ha (shsM b n tops) i) s=(sa chunks i,0):=by
 rw [ha_shs (by rw [y.tl]; exact hi),hadM,if_pos rfl]
 exact y.got i hi
theorem had_alike (a:Alike B B' x.d):hadM B' x si=hadM B x si:=by
 unfold hadM
 rw [a.get]
theorem had_dead (hd:dep x.n≠0) (h:(B.disk x.d).dead=true):(hadM B x si).2≠0:=by
 unfold hadM
 split
 ·exact get_dead hd h
 ·decide
theorem had_off (h:x.use=false):hadM B x si=(ByteArray.empty,24):=by
 unfold hadM
 rw [h]
 rfl
theorem ha_set {xs:List ShM} {j:Nat} {x':ShM} (hj:j<xs.length) (i:Nat):ha (xs.set j x') i=if i=j then x' else ha xs i:=by
 unfold ha
 rw [List.getD_eq_getElem?_getD,List.getD_eq_getElem?_getD,List.getElem?_set]
 by_cases h:j=i
 ·subst h; rw [if_pos rfl,if_pos hj,if_pos rfl]; rfl
 ·rw [if_neg h,if_neg (fun e=>h e.symm)]
theorem fail_alike {j:Int} (pw:B.fails=false) (hn:j.toNat≠d.toNat):Alike B (B.set j (B.disk j).fail) d:=alike_set pw rfl pw hn
theorem fail_dead (hb:¬ B.bad d):((B.set d (B.disk d).fail).disk d).dead=true:=by rw [disk_set rfl hb]; rfl
end
section
variable {h:H}
theorem shs_b (b:Nat) (n:Int) (tops:List ByteArray):∀ x ∈ shsM b n tops,x.b=b:=fun x hx=>by
 obtain ⟨i,hi,rfl⟩:=List.mem_iff_getElem.1 hx
 simp [shsM]
theorem set_b {b:Nat} {xs:List ShM} {j:Nat} {x':ShM} (hx:∀ x ∈ xs,x.b=b) (h':x'.b=b):∀ x ∈ xs.set j x',x.b=b:=fun x hm=>by
 rcases List.mem_or_eq_of_mem_set hm with hm | rfl
 ·exact hx x hm
 ·exact h'
set_option maxRecDepth 100000 in
theorem wakes19 {Q:Bool→H→Prop} (tb:Tabs h) (k:∀ h',Keep h h'→Q true h'):law19_wakes h Q:=by
 unfold law19_wakes law19_wakes.g
 refine M.new_w (Wd.start h) fun b2 hA w=>?_
 have hr:Ro eB hA (some ⟨b2,0,none⟩) 2 [5,7]:=Ro.of_blk (w.blk 0 rfl) rfl rfl
 refine blocksOf_spec hr (by omega) fun a3 c3 hB w'=>?_
 have kB:=w.keep.trans w'.keep
 have e2:cntM 0=2:=by decide
 rw [e2] at w' ⊢
 have fx:Ro eS hB a3 2 (blksM 2 [5,7]):=w'.ro 0 rfl (by decide)
 clear w w' hr
 refine lay_spec (n:=4) (s:=1) fx (by decide) (by decide) (fun i hi=>blksM_size hi) (by decide) (by decide) (tb.keep kB) fun p r a1 c1 a2 c2 a3 c3 B R tops hC ly rk w=>?_
 have hdl:(blksM 2 [5,7]).length=2:=blksM_len _ _
 have hdz:∀ i,i<(blksM 2 [5,7]).length→(sa (blksM 2 [5,7]) i).size=32:=fun i hi=>blksM_size (by omega)
 generalize blksM 2 [5,7]=data at *
 clear fx
 have hall:(allT data 32).length=4:=by simp [allT,hdl]
 have htl:=ly.tl
 refine cf rfl (Ro.ldHp (z:=0) (w.ro (E:=eH) 3 rfl (by decide)) rfl (by decide) ?_)
 rw [ha_shs (by omega)]
 have hb:=ly.hb
 have nb0:¬ B.bad (((0:Nat):Int)):=hb.nb (by decide) (by decide)
 obtain ⟨hx,k0,k1,wx,wr,bk⟩:=w.on (i:=1) rfl
 refine bfail (i:=0) wx nb0 fun hD w1=>?_
 have w:=bk _ _ w1
 clear bk wr wx w1
 have hb2:=hb.fail (d:=0)
 have d0:=fail_dead nb0
 have al:∀ j:Nat,j≠0→Alike B (B.set 0 (B.disk 0).fail) (j:Int):=fun j hj=>fail_alike hb.pw (by omega)
 refine put_fld w 3 rfl (z:=3) (o:=5) rfl (by rw [shsM_len]; omega) (by decide) rfl { ha (shsM p 4 tops) 3 with use:=false } rfl fun hE w=>?_
 have hsl:(shsM p 4 tops).length=4:=by rw [shsM_len,htl]
 have xb:∀ x ∈ (shsM p 4 tops).set 3 { ha (shsM p 4 tops) 3 with use:=false },x.b=p:=set_b (shs_b _ _ _) (by rw [ha_shs (by omega)])
 have F0:(hadM (B.set 0 (B.disk 0).fail) (ha ((shsM p 4 tops).set 3 { ha (shsM p 4 tops) 3 with use:=false }) 0) 1).2≠0:=by
  rw [ha_set (by omega),if_neg (by decide),ha_shs (by omega)]
  exact had_dead (show dep 4≠0 by decide) d0
 have F3:(hadM (B.set 0 (B.disk 0).fail) (ha ((shsM p 4 tops).set 3 { ha (shsM p 4 tops) 3 with use:=false }) 3) 1).2≠0:=by
  rw [ha_set (by omega),if_pos rfl,had_off rfl]; decide
 have Fg:∀ i,i<4→i≠0→i≠3→hadM (B.set 0 (B.disk 0).fail) (ha ((shsM p 4 tops).set 3 { ha (shsM p 4 tops) 3 with use:=false }) i) 1=(sa (allT data 32) i,0):=fun i hi h0 h3=>by
  rw [ha_set (by omega),if_neg h3,had_alike (by rw [ha_shs (by omega)]; exact al i h0)]
  exact ly.had hi
 have F21:∀ i,(hadM (B.set 0 (B.disk 0).fail) (ha ((shsM p 4 tops).set 3 { ha (shsM p 4 tops) 3 with use:=false }) i) 1).2≠21:=fun i=>had_21 hb2.pw _
 clear al d0 hsl
 generalize (shsM p 4 tops).set 3 { ha (shsM p 4 tops) 3 with use:=false } = xs at *
 generalize B.set 0 (B.disk 0).fail=B2 at *
 have hG:∀ i,i<4→(hadM B2 (ha xs i) 1).2=0→(hadM B2 (ha xs i) 1).1=sa (allT data 32) i:=fun i hi e=>by
  rw [Fg i hi (fun g=>F0 (g ▸ e)) (fun g=>F3 (g ▸ e))]
 have hlost:lostN 4 (fun i=>hadM B2 (ha xs i) 1)=[0,3]:=by
  have g1:(hadM B2 (ha xs 1) 1).2=0:=by rw [Fg 1 (by decide) (by decide) (by decide)]
  have g2:(hadM B2 (ha xs 2) 1).2=0:=by rw [Fg 2 (by decide) (by decide) (by decide)]
  rw [lostN_succ,lostN_succ,lostN_succ,lostN_succ,if_neg F0,if_pos g1,if_pos g2,if_neg F3]
  rfl
 have hL:loadM 4 (fun i=>hadM B2 (ha xs i) 1)=(allT data 32,[0,3],0):=by
  have:=load_good (F:=fun i=>hadM B2 (ha xs i) 1) (m:=4) (by omega) (by decide) (by decide) hdz F21 hG (by rw [hlost]; decide)
  rw [this,hlost]
 have hO:oneM 4 (fun i=>hadM B2 (ha xs i) 1) 0=(sa (allT data 32) 0,0):=by
  unfold oneM
  rw [if_neg (fun g=>g.elim F0 (F21 0)),hL,if_neg (by simp)]
 have tbE:=tb.keep (kB.trans w.keep)
 obtain ⟨hx,k0,k1,wx,wr,bk⟩:=w.on (i:=1) rfl
 refine Load_spec (w.ro 3 rfl (by decide)) xb (by decide) (by decide) wx hb2.ti.sm tbE fun a4 c4 a5 c5 hF w'=>?_
 rw [hL] at w' ⊢
 have w:=w.join w'
 have kF:=w'.keep
 simp only [hall] at w ⊢
 refine One_spec (w.ro 3 rfl (by decide)) xb (by decide) (by decide) (ch:=0) (by decide) rfl (wx.keeps kF) hb2.ti.sm (tbE.keep kF) fun hG2 kG=>?_
 rw [hO]
 have w:=w.keeps kG
 refine M.jn (ct rfl (ct rfl (ct rfl (ct rfl ?_))))
 have fa:Ro eS hG2 a4 4 (allT data 32):=w.ro 5 rfl (by decide)
 have fc:Ro eS hG2 a3 4 (allT data 32):=w.ro 0 rfl (by decide)
 refine fa.ldSs (z:=0) rfl (by decide) fun _ _=>fc.ldSs (z:=0) rfl (by decide) fun _ _=>ct (strEq_iff.2 rfl) (fc.ldSs (z:=0) rfl (by decide) fun _ _=>ct (strEq_iff.2 rfl) ?_)
 refine Whole_bad (w.ro 3 rfl (by decide)) xb (by decide) (by decide) (j:=0) (by decide) F0 (wx.keeps (kF.trans kG)) hb2.ti.sm (tbE.keep (kF.trans kG)) fun hH kH=>?_
 exact k _ (kB.trans (w.keep.trans kH))
end
end Go.Proofs.YthegnmanjdlmjaaGreatDoor
namespace Go.Proofs.YthegnmanjdlmjaaGreatDoor
open Go.Sh Go.RowKit Classical
def gC (b:Nat) (S:List Int):Chunk where
 holds F h:=(∀ x,F x↔x=b)∧∃ f n,MapIs okI h b f n∧∀ z,f (.int .i64 z)=if z ∈ S then some (.bool true) else none
 loc:=fun {F h h'} ⟨hF,f,n,⟨es,c,hb,r⟩,hf⟩ hs=>⟨hF,f,n,⟨es,c,(hs b ((hF b).2 rfl)).trans hb,r⟩,hf⟩
 dom:=fun {F h x} ⟨hF,f,n,⟨es,c,hb,r⟩,hf⟩ hx=>by rw [(hF x).1 hx,hb]; simp
section
variable {h0 h:H} {L:List Chunk} {z:Int}
theorem g_put {b i:Nat} {S:List Int} {K:H→Prop} (w:Wd h0 h L) (hi:L[i]? = some (gC b S)) (k:∀ h',Wd h0 h' (L.set i (gC b (z::S)))→K h'):M.mput Tryz.prog 83 (.map (some b)) (.int .i64 z) (.bool true) h K:=by
 obtain ⟨h1,_,k1,w1,_,back⟩:=w.on hi
 obtain ⟨F,⟨hF,f,n,m,hf⟩,hn⟩:=w1.get (i:=0) rfl
 refine mput_of Tryz.underlying83 keysI m ⟨z,rfl⟩ fun h' u m'=>k h' (back _ _ (Wd.one (u.keep k1 (hn b ((hF b).2 rfl))) (F:=F) ⟨hF,_,_,m',fun t=>?_⟩ hn))
 by_cases e:t=z
 ·simp [e]
 ·simp [e,hf]
theorem g_get {b i:Nat} {S:List Int} {K:Bool→H→Prop} (w:Wd h0 h L) (hi:L[i]? = some (gC b S)) (k:K (decide (z ∈ S)) h):M.lk Tryz.prog 83 (.map (some b)) (.int .i64 z) h fun v h'=>M.bool v fun x=>K x h':=by
 obtain ⟨F,⟨hF,f,n,m,hf⟩,hn⟩:=w.get hi
 have hz:∀ w,(zeroValue 4).run Tryz.prog w = .ok (.bool false) w:=fun w=>by kernel_rfl
 refine lk_of Tryz.underlying83 keysI hz m ⟨z,rfl⟩ ?_
 rw [hf]
 by_cases e:z ∈ S
 ·rw [if_pos e]
  rw [decide_eq_true e] at k
  exact ⟨_,rfl,k⟩
 ·rw [if_neg e]
  rw [decide_eq_false e] at k
  exact ⟨_,rfl,k⟩
theorem g_new {b i:Nat} (hi:L[i]? = some (.blk b (.map #[] 0))) (w:Wd h0 h L):Wd h0 h (L.set i (gC b [])):=
 w.weaken hi fun F h ⟨hF,hb⟩=>⟨hF,fun _=>none,0,MapIs.new hb,fun s=>by simp⟩
end
theorem ld_ax {h:H} {b i n:Nat} {ii x:Int} {c:Array Value} {e:TypeId} {f:Nat × Nat} {K:Int→Prop} (hb:h b=some (.cells c e f)) (hi:ii=(i:Int)) (hn:i<n) (hv:c[i]? = some (.int .i64 x)) (k:K x):
  M.aidx n ii fun j=>M.load h (Addr.add ⟨b,0,none⟩ (j*1)) fun v=>M.int .i64 v K:=by
 subst hi
 refine ⟨by omega,by omega,?_⟩
 rw [Int.toNat_natCast]
 show M.load h (Addr.add ⟨b,0,none⟩ (i*1)) _
 rw [Nat.mul_one,addr_add,Nat.zero_add]
 exact M.ldi hb hv k
theorem lost_ge {F:Nat→ByteArray × Int}:∀ (m:Nat) {I:List Nat},I.Nodup→(∀ i ∈ I,i<m∧(F i).2≠0)→I.length≤(lostN m F).length
 | 0,I,_,h=>by
  cases I with
  | nil=>simp
  | cons i I=>have:=(h i (by simp)).1; omega
 | m+1,I,hn,h=>by
  rw [lostN_succ,List.length_append]
  by_cases hm:m ∈ I
  ·have h1:=lost_ge (F:=F) m (I:=I.erase m) (hn.erase m) fun i hi=>by
    have:=(hn.mem_erase_iff).1 hi
    have h2:=h i this.2
    have:=this.1
    exact ⟨by omega,h2.2⟩
   rw [List.length_erase_of_mem hm] at h1
   rw [if_neg (h m hm).2]
   simp only [List.length_cons,List.length_nil]
   omega
  ·have h1:=lost_ge (F:=F) m hn fun i hi=>by
    have h2:=h i hi
    have:i≠m:=fun e=>hm (e ▸ hi)
    exact ⟨by omega,h2.2⟩
   omega
section
variable {h:H} {a:Option Addr} {l c:Nat} {zs:List Int}
set_option maxRecDepth 100000 in
theorem stripeThree {x0 x1 x2 x3:Int} {Q:Bool→H→Prop} (f:Ro eB h a l zs) (hl:l≤9223372036854775807) (tb:Tabs h) (k:∀ h',Keep h h'→Q true h'):law19_StripeThree x0 x1 x2 x3 a l c h Q:=by
 unfold law19_StripeThree law19_StripeThree.g
 refine M.new_w (Wd.start h) fun b2 hA w=>ld_ax (i:=0) (w.blk 0 rfl) rfl (by decide) rfl ?_
 have hx2:=w.blk 0 rfl
 have hAk:=w.keep
 refine blocksOf_spec (f.keep w.keep) hl fun a3 c3 hB w'=>?_
 have kB:=hAk.trans w'.keep
 have tbB:=tb.keep kB
 have hx2:=w'.keep _ _ hx2
 obtain ⟨m1,m2⟩:=cntM_le x0
 have fx:Ro eS hB a3 (cntM x0) (blksM (cntM x0) zs):=w'.ro 0 rfl (by decide)
 have hdl:(blksM (cntM x0) zs).length=cntM x0:=blksM_len _ _
 have hdz:∀ i,i<cntM x0→(sa (blksM (cntM x0) zs) i).size=32:=fun i hi=>blksM_size hi
 clear w w' hAk
 generalize blksM (cntM x0) zs=data at *
 generalize cntM x0=m0 at *
 refine lay_spec (n:=2) (s:=1) fx m1 m2 hdz (by decide) (by decide) tbB fun p r a1 c1 a2 c2 a4 c4 B0 R tops hC ly rk w=>?_
 have hall:(allT data 32).length=m0+2:=by simp [allT,hdl]
 generalize hm:m0+2=m at *
 have htl:=ly.tl
 have hb0:=ly.hb
 have hgot:∀ i,i<m→hadM B0 (ha (shsM p 2 tops) i) 1=(sa (allT data 32) i,0):=fun i hi=>ly.had hi
 have x0l:(shsM p 2 tops).length=m:=by rw [shsM_len,htl]
 have x0b:=shs_b p 2 tops
 have x0d:∀ i,i<m→(ha (shsM p 2 tops) i).d=(i:Int)∧(ha (shsM p 2 tops) i).n=2:=fun i hi=>by rw [ha_shs (by omega)]; exact ⟨rfl,rfl⟩
 generalize shsM p 2 tops=xs0 at *
 refine M.join_of (fun (d:Bool) h'=>d=false∧Wd hB h' [.sl 9 1 a4 m c4 (eS.row (allT data 32)),bankC p B0,rbankC r R,.sl 85 6 a1 m c1 (eH.row xs0),.sl 162 6 a2 m c2 (eH.row (shsM r 2 tops))]) (fun J hJ=>wakes19 (tbB.keep w.keep) fun h' kk=>cf rfl (hJ _ _ ⟨rfl,w.keeps kk⟩)) ?_
 clear w ly
 rintro _ hD ⟨rfl,w⟩
 refine cf rfl (M.new_w w fun b27 hE w=>?_)
 have w:=g_new (i:=5) rfl w
 have e3:(0:Int)≤mx 0 x1:=by unfold mx; split <;> omega
 obtain ⟨Z,hZ⟩:∃ Z:Nat,Int.tmod (mx 0 x1) (m:Int)=(Z:Int):=⟨(Int.tmod (mx 0 x1) m).toNat,by rw [Int.tmod_eq_emod_of_nonneg e3]; have:=Int.emod_nonneg (mx 0 x1) (show (m:Int)≠0 by omega); omega⟩
 have hZm:Z<m:=by
  have:=Int.emod_lt_of_pos (mx 0 x1) (show (0:Int)<m by omega)
  rw [←Int.tmod_eq_emod_of_nonneg e3,hZ] at this
  omega
 have hg:∀ t:Nat,t<3→(Z+t) % m=if Z+t<m then Z+t else Z+t-m:=fun t ht=>by
  by_cases g:Z+t<m
  ·rw [if_pos g,Nat.mod_eq_of_lt g]
  ·rw [if_neg g,Nat.mod_eq_sub_mod (by omega),Nat.mod_eq_of_lt (by omega)]
 have hgl:∀ t:Nat,(Z+t) % m<m:=fun t=>Nat.mod_lt _ (by omega)
 refine M.join_of (fun (_:Unit) h'=>∃ B xs S,Hb B m∧xs.length=m∧(∀ x ∈ xs,x.b=p)∧(∀ t,t<3→(((Z+t) % m:Nat):Int) ∈ S)∧(∀ i:Nat,i<m→(i:Int) ∉ S→hadM B (ha xs i) 1=(sa (allT data 32) i,0))∧(∀ i:Nat,i<m→(i:Int) ∈ S→(hadM B (ha xs i) 1).2≠0) ∧
  Wd hB h' [.sl 9 1 a4 m c4 (eS.row (allT data 32)),bankC p B,rbankC r R,.sl 85 6 a1 m c1 (eH.row xs),.sl 162 6 a2 m c2 (eH.row (shsM r 2 tops)),gC b27 S]) (fun J hJ=>?_) ?_
 ·refine M.loop_of (I:=fun (i:Int) h'=>∃ y:Nat,y≤3∧i=(y:Int)∧∃ B xs S,Hb B m∧xs.length=m∧(∀ x ∈ xs,x.b=p)∧(∀ t,t<y→(((Z+t) % m:Nat):Int) ∈ S)∧(∀ i:Nat,i<m→(ha xs i).d=(i:Int)∧(ha xs i).n=2)∧(∀ i:Nat,i<m→(i:Int) ∉ S→hadM B (ha xs i) 1=(sa (allT data 32) i,0))∧(∀ i:Nat,i<m→(i:Int) ∈ S→(hadM B (ha xs i) 1).2≠0) ∧
   Wd hB h' [.sl 9 1 a4 m c4 (eS.row (allT data 32)),bankC p B,rbankC r R,.sl 85 6 a1 m c1 (eH.row xs),.sl 162 6 a2 m c2 (eH.row (shsM r 2 tops)),gC b27 S]) (μ:=fun i=>(3-i).toNat)
   ⟨0,by omega,rfl,B0,xs0,[],hb0,x0l,x0b,fun t ht=>by omega,x0d,fun i hi _=>hgot i hi,fun i _ h=>by simp at h,w⟩ ?_
  clear w
  rintro _ h5 J2 ⟨y,hy,rfl,B,xs,S,hb,xl,xb,hS,xd,hg1,hg2,w⟩ hJ2
  by_cases hlt:y<3
  ·have v2:IntKind.wrap .i64 ((y:Int)+1)=((y+1:Nat):Int):=by rw [IntKind.wrap_i64]; omega
   have v3:IntKind.wrap .i64 ((Z:Int)+(y:Int))=((Z+y:Nat):Int):=by rw [IntKind.wrap_i64]; omega
   have v4:Int.tmod ((Z+y:Nat):Int) (m:Int)=(((Z+y) % m:Nat):Int):=by rw [Int.tmod_eq_emod_of_nonneg (by omega)]; omega
   refine cdt (by omega) (ld_ax (i:=1) (w.keep _ _ hx2) rfl (by decide) rfl ⟨by omega,M.vis _ hZ (M.vis _ v3 ⟨by omega,M.vis _ v4 ?_⟩)⟩)
   have hq:=hgl y
   generalize hqq:(Z+y) % m=q at *
   refine g_put w (i:=5) rfl fun h6 w=>ld_ax (i:=2) (w.keep _ _ hx2) rfl (by decide) rfl ⟨by omega,M.vin (M.vin ?_)⟩
   have hS':∀ t,t<y+1→(((Z+t) % m:Nat):Int) ∈ ((q:Int)::S):=fun t ht=>by
    by_cases e:t=y
    ·rw [e,hqq]; simp
    ·exact List.mem_cons_of_mem _ (hS t (by omega))
   refine cc (fun _=>?_) fun _=>?_
   ·refine Ro.ldHp (w.ro (E:=eH) 3 rfl (by decide)) rfl hq ?_
    rw [ha_get (by omega),xb _ (List.getElem_mem _)]
    have nb:¬ B.bad (q:Int):=hb.nb (by omega) (by omega)
    obtain ⟨hx,k0,k1,wx,wr,bk⟩:=w.on (i:=1) rfl
    refine bfail wx nb fun h7 w1=>M.vis _ v2 (hJ2 _ _ ⟨y+1,by omega,rfl,B.set (q:Int) (B.disk (q:Int)).fail,xs,(q:Int)::S,hb.fail,xl,xb,hS',xd,fun i hi hn=>?_,fun i hi hm=>?_,bk _ _ w1⟩ (by omega))
    ·have hne:i≠q:=fun e=>hn (by rw [e]; simp)
     rw [had_alike (B:=B) (fail_alike hb.pw (by rw [(xd i hi).1]; omega))]
     exact hg1 i hi fun e=>hn (List.mem_cons_of_mem _ e)
    ·by_cases e:i=q
     ·subst e
      exact had_dead (by rw [(xd i hi).2]; decide) (by rw [(xd i hi).1]; exact fail_dead nb)
     ·rw [had_alike (B:=B) (fail_alike hb.pw (by rw [(xd i hi).1]; omega))]
      refine hg2 i hi ?_
      rcases List.mem_cons.1 hm with hm | hm
      ·exact absurd (by omega) e
      ·exact hm
   ·refine put_fld w 3 rfl (z:=q) (o:=5) rfl (by omega) (by decide) rfl { ha xs q with use:=false } rfl fun h7 w=>M.vis _ v2 (hJ2 _ _ ⟨y+1,by omega,rfl,B,xs.set q { ha xs q with use:=false },(q:Int)::S,hb,by rw [List.length_set]; exact xl,set_b xb (by simp only []; rw [ha_get (by omega)]; exact xb _ (List.getElem_mem _)),hS',fun i hi=>?_,fun i hi hn=>?_,fun i hi hm=>?_,w⟩ (by omega))
    ·rw [ha_set (by omega)]
     by_cases e:i=q
     ·rw [if_pos e,e]; exact xd q hq
     ·rw [if_neg e]; exact xd i hi
    ·have hne:i≠q:=fun e=>hn (by rw [e]; simp)
     rw [ha_set (by omega),if_neg hne]
     exact hg1 i hi fun e=>hn (List.mem_cons_of_mem _ e)
    ·rw [ha_set (by omega)]
     by_cases e:i=q
     ·rw [if_pos e,had_off rfl]; decide
     ·rw [if_neg e]
      refine hg2 i hi ?_
      rcases List.mem_cons.1 hm with hm | hm
      ·exact absurd (by omega) e
      ·exact hm
  ·obtain rfl:y=3:=by omega
   exact cdf (by omega) (hJ _ _ ⟨B,xs,S,hb,xl,xb,hS,hg1,hg2,w⟩)
 clear w
 rintro _ h5 ⟨B,xs,S,hb,xl,xb,hS,hg1,hg2,w⟩
 have F21:∀ i,(hadM B (ha xs i) 1).2≠21:=fun i=>had_21 hb.pw _
 have hL:loadM m (fun i=>hadM B (ha xs i) 1)=([],[],24):=by
  refine load_lost (by omega) F21 ?_
  have h0:=hg 0 (by decide)
  have h1:=hg 1 (by decide)
  have h2:=hg 2 (by decide)
  have hI:[(Z+0) % m,(Z+1) % m,(Z+2) % m].Nodup:=by
   rw [h0,h1,h2]
   simp only [List.nodup_cons,List.mem_cons,List.not_mem_nil,or_false,not_or,not_false_eq_true,List.nodup_nil,and_true]
   repeat' split
   all_goals omega
  refine lost_ge m hI fun i hi=>?_
  simp only [List.mem_cons,List.not_mem_nil,or_false] at hi
  rcases hi with rfl | rfl | rfl
  ·exact ⟨hgl 0,hg2 _ (hgl 0) (hS 0 (by decide))⟩
  ·exact ⟨hgl 1,hg2 _ (hgl 1) (hS 1 (by decide))⟩
  ·exact ⟨hgl 2,hg2 _ (hgl 2) (hS 2 (by decide))⟩
 have tb5:=tbB.keep w.keep
 obtain ⟨hx,k0,k1,wx,wr,bk⟩:=w.on (i:=1) rfl
 refine Load_spec (w.ro 3 rfl (by decide)) xb (by omega) (by omega) wx hb.ti.sm tb5 fun a6 c6 a7 c7 h6 w'=>?_
 rw [hL] at w' ⊢
 have w:=w.keeps w'.keep
 have wx:=wx.keeps w'.keep
 clear w'
 refine M.jn (cf rfl (cf rfl (M.jn ?_)))
 refine M.loop_of (I:=fun (i:Int) h'=>∃ y:Nat,y≤m∧i=(y:Int)∧Keep h6 h') (μ:=fun i=>(m-i).toNat) ⟨0,by omega,rfl,Keep.refl _⟩ ?_
 rintro _ h7 J2 ⟨y,hy,rfl,k7⟩ hJ2
 by_cases hlt:y<m
 ·have v2:IntKind.wrap .i64 ((y:Int)+1)=((y+1:Nat):Int):=by rw [IntKind.wrap_i64]; omega
  have w7:=w.keeps k7
  refine cdt (by omega) (One_spec (w7.ro 3 rfl (by decide)) xb (by omega) (by omega) hlt rfl (wx.keeps k7) hb.ti.sm (tbB.keep w7.keep) fun h8 k8=>?_)
  have w8:=w7.keeps k8
  refine M.join_of (fun (d:Bool) h'=>d=false∧h'=h8) (fun J3 hJ3=>?_) ?_
  ·refine g_get w8 (i:=5) rfl ?_
   by_cases hm2:(y:Int) ∈ S
   ·rw [decide_eq_true hm2]
    have hO:(oneM m (fun i=>hadM B (ha xs i) 1) y).2=24:=by
     unfold oneM
     rw [if_neg (fun g=>g.elim (hg2 y hlt hm2) (F21 y)),hL,if_pos (by simp)]
    refine ct rfl (cf (by rw [hO]; rfl) (g_get w8 (i:=5) rfl ?_))
    rw [decide_eq_true hm2]
    exact cf rfl (hJ3 _ _ ⟨rfl,rfl⟩)
   ·rw [decide_eq_false hm2]
    have hO:oneM m (fun i=>hadM B (ha xs i) 1) y=(sa (allT data 32) y,0):=by
     have e:(fun i=>hadM B (ha xs i) 1) y=(sa (allT data 32) y,0):=hg1 y hlt hm2
     unfold oneM
     rw [e]
     exact if_pos (.inl rfl)
    rw [hO]
    refine cf rfl (g_get w8 (i:=5) rfl ?_)
    rw [decide_eq_false hm2]
    refine ct rfl (cf rfl ((w8.ro (E:=eS) 0 rfl (by decide)).ldSs rfl hlt fun _ _=>?_))
    rw [strEq_iff.2 rfl]
    exact hJ3 _ _ ⟨rfl,rfl⟩
  rintro _ h9 ⟨rfl,e9⟩
  rw [e9]
  exact cf rfl (M.vis _ v2 (hJ2 _ _ ⟨y+1,by omega,rfl,k7.trans k8⟩ (by omega)))
 ·have w7:=w.keeps k7
  refine cdf (by omega) ?_
  exact Whole_bad (w7.ro 3 rfl (by decide)) xb (by omega) (by omega) (hgl 0) (hg2 _ (hgl 0) (hS 0 (by decide))) (wx.keeps k7) hb.ti.sm (tbB.keep w7.keep) fun h8 k8=>k _ (kB.trans (w7.keep.trans k8))
end
end Go.Proofs.YthegnmanjdlmjaaGreatDoor
namespace Go.Proofs.YthegnmanjdlmjaaGreatDoor
open Go.Sh Go.RowKit
def hix (d:Int) (m:Nat):Nat:=(Int.tmod (mx 0 d) m).toNat
theorem hix_lt (d:Int) {m:Nat} (hm:1≤m):hix d m<m:=by
 have h0:0≤mx 0 d:=by unfold mx; split <;> omega
 unfold hix
 rw [Int.tmod_eq_emod_of_nonneg h0]
 have:=Int.emod_lt_of_pos (mx 0 d) (show (0:Int)<m by omega)
 have:=Int.emod_nonneg (mx 0 d) (show (m:Int)≠0 by omega)
 omega
theorem hix_eq (d:Int) {m:Nat} (hm:1≤m):Int.tmod (mx 0 d) (m:Int)=(hix d m:Int):=by
 have h0:0≤mx 0 d:=by unfold mx; split <;> omega
 unfold hix
 rw [Int.tmod_eq_emod_of_nonneg h0]
 have:=Int.emod_nonneg (mx 0 d) (show (m:Int)≠0 by omega)
 omega
section
variable {h0 h:H} {a1 a2:Option Addr} {c1 c2 m p r:Nat} {xs ys:List ShM} {B R:BankM}
theorem harm_spec {dn dk at_:Int} {cell:ByteArray} {Q:H→Prop} (w:Wd h0 h [bankC p B,rbankC r R,.sl 85 6 a1 m c1 (eH.row xs),.sl 162 6 a2 m c2 (eH.row ys)]) (hb:Hb B m) (rk:Rk R m) (xl:xs.length=m) (yl:ys.length=m) (xb:∀ x ∈ xs,x.b=p) (yb:∀ y ∈ ys,y.b=r) (hm:1≤m)
  (k:∀ B' R' xs' ys' h',Hb B' m→Rk R' m→xs'.length=m→ys'.length=m→(∀ x ∈ xs',x.b=p)→(∀ y ∈ ys',y.b=r)→(∀ i,i<m→(ha xs' i).d=(ha xs i).d)→(∀ i:Nat,i<m→i≠hix dk m→ha xs' i=ha xs i∧Alike B B' (i:Int)) →
   Wd h0 h' [bankC p B',rbankC r R',.sl 85 6 a1 m c1 (eH.row xs'),.sl 162 6 a2 m c2 (eH.row ys')]→Q h'):law19_harm a1 m c1 a2 m c2 dn dk at_ cell h Q:=by
 unfold law19_harm law19_harm.g
 refine M.new_w w fun b h1 w=>?_
 have hbk:=w.blk 4 rfl
 have hq:=hix_lt dk hm
 have hqe:=hix_eq dk hm
 generalize hix dk m=q at *
 simp only [addr_add,Nat.zero_add]
 have nb:¬ B.bad (q:Int):=hb.nb (by omega) (by omega)
 have nbR:¬ R.bad (q:Int):=BankM.not_bad.2 (by rw [rk.len]; omega)
 have hxq:(ha xs q).b=p:=by rw [ha_get (by omega)]; exact xb _ (List.getElem_mem _)
 have hyq:(ha ys q).b=r:=by rw [ha_get (by omega)]; exact yb _ (List.getElem_mem _)
 have al:∀ D,∀ i:Nat,i<m→i≠q→ha xs i=ha xs i∧Alike B (B.set (q:Int) D) (i:Int):=fun D i hi hn=>⟨rfl,alike_set hb.pw rfl hb.pw (by omega)⟩
 have h00:Addr.add ⟨r,0,none⟩ 0=⟨r,0,none⟩:=rfl
 refine M.ldi hbk rfl ⟨by omega,M.vis _ hqe (M.ldi hbk rfl (M.vin (cc (fun _=>?_) fun _=>cc (fun _=>?_) fun _=>cc (fun _=>?_) fun _=>?_)))⟩
 ·refine Ro.ldHp (w.ro (E:=eH) 2 rfl (by decide)) rfl hq ?_
  rw [hxq]
  obtain ⟨t1,t2,t3⟩:=mn_take (l:=cell.size) (n:=100) (by omega)
  refine M.ldi hbk rfl (M.lds hbk rfl (M.lds hbk rfl ⟨Int.le_refl 0,t2,t3,?_⟩))
  have hst:=rfl (a:=cell.extract (Int.toNat 0) (mn (cell.size:Int) 100).toNat)
  obtain ⟨hx,k0,k1,wx,wr,bk⟩:=w.on (i:=0) rfl
  refine bDisk wx (fun e=>absurd e nb) fun _ pd h5 g0 g1 w5 back=>M.still_s (M.still_s (M.still_s ?_))
  refine Tamper_spec w5 (Nat.lt_trans (hb.dw nb) (by decide)) fun h7 w7=>?_
  have w:=bk _ _ (back _ _ w7)
  clear bk back wr wx w5
  have hb2:=hb.tamper (at_:=at_) (s:=cell.extract (Int.toNat 0) (mn (cell.size:Int) 100).toNat) nb
  refine Ro.ldHp (w.ro (E:=eH) 3 rfl (by decide)) rfl hq ?_
  rw [hyq,nn_eq,h00]
  obtain ⟨hx,k0,k1,wx,wr,bk⟩:=w.on (i:=1) rfl
  obtain ⟨ra,rc,rp,rh,hrb,hrc,_,_,wq,backR⟩:=rb_ptr wx nbR
  refine M.load_in hrb rfl ⟨_,_,_,rfl,M.idx_of (by omega) (by rw [rk.len]; omega) ?_⟩
  rw [Nat.mul_one,lc hrc]
  refine ⟨_,rfl,?_⟩
  have hbk:=w.blk 4 rfl
  refine M.ldi hbk rfl (M.lds hbk rfl (M.lds hbk rfl ⟨Int.le_refl 0,t2,t3,?_⟩))
  refine rTamper wq (by rw [rk.disk nbR]; decide) fun h8 w8=>?_
  have w:=bk _ _ (backR _ _ w8)
  refine k _ _ _ _ _ hb2 (rk.set ?_) xl yl xb yb (fun i hi=>rfl) (al _) (w.fst 4)
  unfold DiskM.tamper
  split
  ·exact rk.disk nbR
  ·simp only [rk.disk nbR,List.filter_nil]
 ·refine Ro.ldHp (w.ro (E:=eH) 2 rfl (by decide)) rfl hq ?_
  rw [hxq]
  obtain ⟨hx,k0,k1,wx,wr,bk⟩:=w.on (i:=0) rfl
  refine bfail wx nb fun h7 w7=>?_
  have w:=bk _ _ w7
  clear bk wr wx
  refine Ro.ldHp (w.ro (E:=eH) 3 rfl (by decide)) rfl hq ?_
  rw [hyq,nn_eq,h00]
  obtain ⟨hx,k0,k1,wx,wr,bk⟩:=w.on (i:=1) rfl
  obtain ⟨ra,rc,rp,rh,hrb,hrc,_,_,wq,backR⟩:=rb_ptr wx nbR
  refine M.load_in hrb rfl ⟨_,_,_,rfl,M.idx_of (by omega) (by rw [rk.len]; omega) ?_⟩
  rw [Nat.mul_one,lc hrc]
  refine ⟨_,rfl,?_⟩
  refine rFail wq fun h8 w8=>?_
  have w:=bk _ _ (backR _ _ w8)
  exact k _ _ _ _ _ hb.fail (rk.set rfl) xl yl xb yb (fun i hi=>rfl) (al _) (w.fst 4)
 ·refine put_fld w 2 rfl (z:=q) (o:=5) rfl (by omega) (by decide) rfl { ha xs q with use:=false } rfl fun h7 w=>?_
  refine put_fld w 3 rfl (z:=q) (o:=5) rfl (by omega) (by decide) rfl { ha ys q with use:=false } rfl fun h8 w=>?_
  refine k _ _ (xs.set q { ha xs q with use:=false }) (ys.set q { ha ys q with use:=false }) _ hb rk (by rw [List.length_set]; exact xl) (by rw [List.length_set]; exact yl) (set_b xb hxq) (set_b yb hyq) (fun i hi=>?_) (fun i hi hn=>?_) (w.fst 4)
  ·rw [ha_set (by omega)]
   by_cases e:i=q
   ·rw [if_pos e,e]
   ·rw [if_neg e]
  ·rw [ha_set (by omega),if_neg hn]
   exact ⟨rfl,.refl hb.pw⟩
 ·refine M.lds hbk rfl (M.lds hbk rfl ?_)
  refine put_fld w 2 rfl (z:=q) (o:=4) rfl (by omega) (by decide) rfl { ha xs q with top:=cell } rfl fun h7 w=>?_
  refine M.still_at hbk (w.blk 4 rfl) ?_
  refine put_fld w 3 rfl (z:=q) (o:=4) rfl (by omega) (by decide) rfl { ha ys q with top:=cell } rfl fun h8 w=>?_
  refine k _ _ (xs.set q { ha xs q with top:=cell }) (ys.set q { ha ys q with top:=cell }) _ hb rk (by rw [List.length_set]; exact xl) (by rw [List.length_set]; exact yl) (set_b xb hxq) (set_b yb hyq) (fun i hi=>?_) (fun i hi hn=>?_) (w.fst 4)
  ·rw [ha_set (by omega)]
   by_cases e:i=q
   ·rw [if_pos e,e]
   ·rw [if_neg e]
  ·rw [ha_set (by omega),if_neg hn]
   exact ⟨rfl,.refl hb.pw⟩
end
structure HmM where
 dn:Int
 dk:Int
 at_:Int
 cell:ByteArray
def eM:Enc HmM:=⟨fun s=>[.int .i64 s.dn,.int .i64 s.dk,.int .i64 s.at_,.string s.cell],4,fun _=>rfl,by simp [isPlainCell]⟩
section
variable {h:H} {a:Option Addr} {l c:Nat} {ms:List HmM} {xs:List ShM}
theorem Ro.ldM {z:Nat} {zi:Int} {K:Int→Int→Int→ByteArray→Prop} (f:Ro eM h a l ms) (hz:zi=(z:Int)) (hl:z<l) (k:∀ x:HmM,K x.dn x.dk x.at_ x.cell):
  M.idx a l zi fun a54 j55=>M.load h ((Addr.add a54 (j55*4)).add 0) fun v=>M.int .i64 v fun n57=>M.load h ((Addr.add a54 (j55*4)).add 1) fun v=>M.int .i64 v fun n59=>M.load h ((Addr.add a54 (j55*4)).add 2) fun v=>M.int .i64 v fun n61=>
   M.load h ((Addr.add a54 (j55*4)).add 3) fun v=>M.str v fun s63=>K n57 n59 n61 s63:=by
 subst hz
 refine f.at (by omega) (by omega) fun q hi hc=>?_
 simp only [Int.toNat_natCast] at hi hc ⊢
 have c0:=hc 0 (by decide)
 have c1:=hc 1 (by decide)
 have c2:=hc 2 (by decide)
 have c3:=hc 3 (by decide)
 exact ⟨_,c0,_,rfl,_,c1,_,rfl,_,c2,_,rfl,_,c3,_,rfl,k _⟩
theorem Ro.ldHs {z:Nat} {zi:Int} {K:Option Addr→Int→Int→ByteArray→Prop} (f:Ro eH h a l xs) (hz:zi=(z:Int)) (hl:z<l) (k:K (some ⟨(ha xs z).b,0,none⟩) (ha xs z).d (ha xs z).n (ha xs z).key):
  M.idx a l zi fun a95 j96=>M.load h ((Addr.add (Addr.add a95 (j96*6)) 0).add 0) fun v=>M.ptr v fun p98=>M.load h ((Addr.add (Addr.add a95 (j96*6)) 0).add 1) fun v=>M.int .i64 v fun n100=>M.load h ((Addr.add (Addr.add a95 (j96*6)) 0).add 2) fun v=>M.int .i64 v fun n102=>
   M.load h ((Addr.add (Addr.add a95 (j96*6)) 0).add 3) fun v=>M.str v fun s104=>K p98 n100 n102 s104:=by
 subst hz
 refine f.at (by omega) (by omega) fun q hi hc=>?_
 simp only [Int.toNat_natCast] at hi hc ⊢
 rw [ha_get hi] at k
 have c0:=hc 0 (by decide)
 have c1:=hc 1 (by decide)
 have c2:=hc 2 (by decide)
 have c3:=hc 3 (by decide)
 have e:Addr.add (Addr.add q (z*6)) 0=Addr.add q (z*6):=Addr.add_zero' _
 rw [e]
 exact ⟨_,c0,_,rfl,_,c1,_,rfl,_,c2,_,rfl,_,c3,_,rfl,k⟩
theorem Ro.ldH4 {z:Nat} {zi:Int} {K:ByteArray→Prop} (f:Ro eH h a l xs) (hz:zi=(z:Int)) (hl:z<l) (k:K (ha xs z).top):M.idx a l zi fun a j=>M.load h (Addr.add (Addr.add a (j*6)) 4) fun v=>M.str v K:=by
 subst hz
 refine f.at (by omega) (by omega) fun q hi hc=>?_
 simp only [Int.toNat_natCast] at hi hc ⊢
 rw [ha_get hi] at k
 exact ⟨_,hc 4 (by decide),_,rfl,k⟩
theorem Ro.ldH5 {z:Nat} {zi:Int} {K:Bool→Prop} (f:Ro eH h a l xs) (hz:zi=(z:Int)) (hl:z<l) (k:K (ha xs z).use):M.idx a l zi fun a j=>M.load h (Addr.add (Addr.add a (j*6)) 5) fun v=>M.bool v K:=by
 subst hz
 refine f.at (by omega) (by omega) fun q hi hc=>?_
 simp only [Int.toNat_natCast] at hi hc ⊢
 rw [ha_get hi] at k
 exact ⟨_,hc 5 (by decide),_,rfl,k⟩
end
end Go.Proofs.YthegnmanjdlmjaaGreatDoor

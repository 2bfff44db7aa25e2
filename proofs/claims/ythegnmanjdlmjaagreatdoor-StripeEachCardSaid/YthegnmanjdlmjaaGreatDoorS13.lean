/- The document's disk, walked, 2. The disk's statements: what an act is, what they do with one. One act on both disks: they answer alike. The disk's statements, walked: DiskPlays, DiskRestores, DiskDead. The program's bank, walked. The document's bank, walked. The bank's statements: one act on both banks. The program's slab: may there be one, what a chunk is bound to, sealing. The program's slab: the pairs over a slot, and a chunk that is had. The program's slab: a chunk that is had, which chunks are not. The program's slab: which chunks are bad, writes that are made. The program's slab: what is written for no chunks. A map of texts as a list of pairs: what Prepare builds. The program's slab: what changes may be. What Prepare answers, in plain words. A tree of digests, in plain words: what is over a leaf, and what a leaf's change changes. The program's slab: Prepare. -/
import Derived.Test.YthegnmanjdlmjaaGreatDoorS12
import Derived.Test.YthegnmanjdlmjaaGreatDoorS11
import Derived.Test.YthegnmanjdlmjaaGreatDoorS07
set_option linter.unusedSimpArgs false
set_option linter.unusedVariables false
namespace Go.Proofs.YthegnmanjdlmjaaGreatDoor
open Go.Sh Go.RowKit
section
variable {h0 h:H} {d:Nat} {D:DiskM} {at_:Int} {s:ByteArray}
theorem rTamper {Q:Bool→H→Prop} (w:Wd h0 h [refC d D]) (hW:D.W.length<1000000000) (k:∀ h',Wd h0 h' [refC d (D.tamper at_ s).2]→Q (D.tamper at_ s).1 h'):ref09_Tamper (some ⟨d,0,none⟩) at_ s h Q:=by
 have w0:=w
 obtain ⟨⟨bl,a,l,c⟩,⟨⟨ok,sy⟩,hl⟩,w⟩:=w.opn 0 rfl
 simp only at hl
 subst hl
 have hd:=w.blk 0 rfl
 unfold ref09_Tamper
 have t1:=DiskM.tamper_ok ok at_ s
 have t2:=DiskM.tamper_sync ok sy at_ s
 unfold DiskM.tamper at k t1 t2
 refine M.join_of (fun b h'=>b=decide (D.usable at_ ≠ 0∨(s.size:Int) > 2048)∧h'=h) (fun J hJ=>?_) ?_
 ·simp only [addr_add,load_eq,Nat.zero_add,Nat.add_zero,Nat.mul_one,Nat.one_mul,Nat.zero_mul,Nat.reduceAdd,List.setIfInBounds_toArray,List.set_cons_zero,List.set_cons_succ,List.getElem?_toArray,List.getElem?_cons_zero,List.getElem?_cons_succ,some_and,int_eq,bool_eq,str_eq,slc_eq,ptr_eq,nn_eq,M.val,cond_true,cond_false,Bool.not_true,Bool.not_false,cell_in hd]
  cases hdead:D.dead
  ·simp only [cond_false]
   by_cases h1:at_ < 0
   ·have:D.usable at_ = 2:=by simp [DiskM.usable,hdead,h1]
    simp only [h1,decide_true,cond_true]
    exact hJ _ _ ⟨by simp [this],rfl⟩
   ·simp only [addr_add,load_eq,Nat.zero_add,Nat.add_zero,Nat.mul_one,Nat.one_mul,Nat.zero_mul,Nat.reduceAdd,List.setIfInBounds_toArray,List.set_cons_zero,List.set_cons_succ,List.getElem?_toArray,List.getElem?_cons_zero,List.getElem?_cons_succ,some_and,int_eq,bool_eq,str_eq,slc_eq,ptr_eq,nn_eq,M.val,cond_true,cond_false,Bool.not_true,Bool.not_false,h1,decide_false,cell_in hd]
    by_cases h2:at_ ≥ D.L.length
    ·have:D.usable at_ = 2:=by rw [ok.len] at h2; simp [DiskM.usable,hdead,h2]
     simp only [h2,decide_true,cond_true]
     exact hJ _ _ ⟨by simp [this],rfl⟩
    ·have:D.usable at_ = 0:=DiskM.usable_zero.2 ⟨hdead,by omega,by rw [←ok.len]; omega⟩
     simp only [h2,decide_false,cond_false]
     exact hJ _ _ ⟨by simp [this],rfl⟩
  ·have:D.usable at_ = 20:=by simp [DiskM.usable,hdead]
   simp only [cond_true]
   exact hJ _ _ ⟨by simp [this],rfl⟩
 ·rintro b h' ⟨rfl,rfl⟩
  by_cases hc:D.usable at_ ≠ 0∨(s.size:Int) > 2048
  ·simp only [hc,if_true] at k
   simp only [hc,decide_true,cond_true]
   exact k _ w0
  ·simp only [hc,if_false] at k t1 t2
   have hu:D.usable at_ = 0:=Decidable.not_not.1 fun e=>hc (.inl e)
   have hu':=DiskM.usable_zero.1 hu
   simp only [hc,decide_false,cond_false]
   refine M.jn ?_
   have w:=w.nilsl 214 2
   refine M.loop_of (I:=fun (p:(Option Addr × Nat × Nat) × Int) h2=>0≤p.2∧p.2≤D.W.length∧p.1.2.1=((D.W.take p.2.toNat).filter fun w=>w.1≠at_).length ∧
    Wd h0 h2 [.blk d (.cells #[.slice (some ⟨bl,0,none⟩) D.L.length D.L.length,.slice a D.W.length c,.bool D.dead] 212 (0,0)),.blk bl (.cells (strs D.L) 9 (0,0)),.sl 214 2 a D.W.length c (wr D.W),
     .sl 214 2 p.1.1 p.1.2.1 p.1.2.2 (wr ((D.W.take p.2.toNat).filter fun w=>w.1≠at_))]) (μ:=fun p=>(D.W.length-p.2).toNat) ⟨by simp,by simp,by simp,by simpa [wr] using w⟩ ?_
   rintro ⟨⟨a',l',c'⟩,i⟩ h2 J ⟨hi0,hi1,hl',w⟩ hJ
   simp only at hi0 hi1 hl'
   have hd:=w.blk 0 rfl
   obtain ⟨_,_,hsn,hsr⟩:=w.slrow 2 rfl
   simp only [addr_add,load_eq,Nat.zero_add,Nat.add_zero,Nat.mul_one,Nat.one_mul,Nat.zero_mul,Nat.reduceAdd,List.setIfInBounds_toArray,List.set_cons_zero,List.set_cons_succ,List.getElem?_toArray,List.getElem?_cons_zero,List.getElem?_cons_succ,some_and,int_eq,bool_eq,str_eq,slc_eq,ptr_eq,nn_eq,M.val,cond_true,cond_false,Bool.not_true,Bool.not_false,cell_in hd]
   by_cases hlt:i<D.W.length
   ·have hlt':i.toNat<D.W.length:=by omega
    cases a with
    | none=>have:D.W.length=0:=(hsn rfl).2; omega
    | some ab=>
     have hrow:=hsr ab rfl
     have hg:=wr_get D.W i.toNat D.W[i.toNat] (List.getElem?_eq_getElem hlt')
     have hlen:=wr_length D.W
     have c0:h2.cell (ab.add (i.toNat * 2))=some (.int .i64 D.W[i.toNat].1):=by rw [hrow _ (by omega)]; exact hg.1
     have c1:h2.cell (ab.add (i.toNat * 2+1))=some (.string D.W[i.toNat].2):=by rw [hrow _ (by omega)]; exact hg.2
     have hw1:IntKind.wrap .i64 (i+1)=i+1:=by rw [IntKind.wrap_i64]; omega
     have hni:(i+1).toNat=i.toNat+1:=by omega
     have hll:l'≤D.W.length:=by
      have:=List.length_filter_le (fun w=>decide (w.1≠at_)) (D.W.take i.toNat)
      rw [hl']; simp at this ⊢; omega
     have htk:(D.W.take (i+1).toNat).filter (fun w=>w.1≠at_)=(D.W.take i.toNat).filter (fun w=>w.1≠at_)++if D.W[i.toNat].1=at_ then [] else [D.W[i.toNat]]:=by
      rw [hni,List.take_succ_eq_append_getElem hlt',List.filter_append]
      congr 1
      by_cases he:D.W[i.toNat].1=at_ <;> simp [he]
     simp only [hlt,decide_true,cond_true]
     refine M.jn ?_
     refine M.idx_of hi0 hlt ?_
     simp only [addr_add,load_eq,Nat.zero_add,Nat.add_zero,Nat.mul_one,Nat.one_mul,Nat.zero_mul,Nat.reduceAdd,List.setIfInBounds_toArray,List.set_cons_zero,List.set_cons_succ,List.getElem?_toArray,List.getElem?_cons_zero,List.getElem?_cons_succ,some_and,int_eq,bool_eq,str_eq,slc_eq,ptr_eq,nn_eq,M.val,cond_true,cond_false,Bool.not_true,Bool.not_false,add2,c0,c1,cell_in hd,hw1]
     by_cases he:D.W[i.toNat].1=at_
     ·have:(D.W[i.toNat].1 != at_)=false:=by simpa using he
      simp only [this,cond_false]
      simp only [he,if_true,List.append_nil] at htk
      exact hJ _ _ ⟨by simp only; omega,by simp only; omega,by simp only [htk]; exact hl',by simp only [htk]; exact w⟩ (by simp only; omega)
     ·have:(D.W[i.toNat].1 != at_)=true:=by simpa using he
      simp only [he,if_false] at htk
      simp only [this,cond_true]
      refine M.idx_of hi0 hlt ?_
      simp only [addr_add,load_eq,Nat.zero_add,Nat.add_zero,Nat.mul_one,Nat.one_mul,Nat.zero_mul,Nat.reduceAdd,List.setIfInBounds_toArray,List.set_cons_zero,List.set_cons_succ,List.getElem?_toArray,List.getElem?_cons_zero,List.getElem?_cons_succ,some_and,int_eq,bool_eq,str_eq,slc_eq,ptr_eq,nn_eq,M.val,cond_true,cond_false,Bool.not_true,Bool.not_false,add2,c0,c1,cell_in hd,hw1]
      refine M.new_t w fun b h3 hb w=>?_
      refine cellsOf_in hb rfl ?_
      refine M.app_w w 3 rfl rfl rfl (by simp [isPlainCell]) (by omega) (by omega) fun a2 c2 h4 w=>?_
      refine hJ _ _ ⟨by simp only; omega,by simp only; omega,by simp only [htk,List.length_append,hl']; rfl,?_⟩ (by simp only; omega)
      simp only [htk,wr_append]
      exact w
   ·have:i.toNat=D.W.length:=by omega
    rw [this,List.take_length] at w hl'
    simp only [hlt,decide_false,cond_false]
    refine M.put_w w 0 rfl rfl (by simp) fun h3 w=>?_
    have hd:=w.blk 0 rfl
    simp only [addr_add,load_eq,Nat.zero_add,Nat.add_zero,Nat.mul_one,Nat.one_mul,Nat.zero_mul,Nat.reduceAdd,List.setIfInBounds_toArray,List.set_cons_zero,List.set_cons_succ,List.getElem?_toArray,List.getElem?_cons_zero,List.getElem?_cons_succ,some_and,int_eq,bool_eq,str_eq,slc_eq,ptr_eq,nn_eq,M.val,cond_true,cond_false,Bool.not_true,Bool.not_false,cell_in hd]
    refine M.idx_of hu'.2.1 (by rw [ok.len]; exact hu'.2.2) ?_
    simp only [addr_add,load_eq,Nat.zero_add,Nat.add_zero,Nat.mul_one,Nat.one_mul,Nat.zero_mul,Nat.reduceAdd,List.setIfInBounds_toArray,List.set_cons_zero,List.set_cons_succ,List.getElem?_toArray,List.getElem?_cons_zero,List.getElem?_cons_succ,some_and,int_eq,bool_eq,str_eq,slc_eq,ptr_eq,nn_eq,M.val,cond_true,cond_false,Bool.not_true,Bool.not_false]
    refine M.put_w w 1 rfl rfl (by rw [strs_size,ok.len]; omega) fun h4 w=>?_
    rw [strs_set] at w
    have w:=w.drop (i:=2) rfl
    refine k h4 (w.close 0 (bl,a',l',c') ?_ ⟨⟨t1,t2⟩,hl'⟩)
    simp
end
end Go.Proofs.YthegnmanjdlmjaaGreatDoor
namespace Go.Proofs.YthegnmanjdlmjaaGreatDoor
open Go.Sh Go.RowKit
theorem tmod_lt {n k:Int} (h0:0≤n) (hk:0<k):0≤Int.tmod n k∧Int.tmod n k<k:=by
 rw [Int.tmod_eq_emod_of_nonneg h0]
 exact ⟨Int.emod_nonneg _ (by omega),Int.emod_lt_of_pos _ hk⟩
section
variable {h0 h:H} {d:Nat} {D:DiskM} {at_:Int} {s:ByteArray}
theorem strEq_iff {x y:ByteArray}:strEq x y=true↔x=y:=by
 unfold strEq
 rw [beq_iff_eq,ByteArray.toList_eq,ByteArray.toList_eq]
 obtain ⟨⟨x⟩⟩:=x
 obtain ⟨⟨y⟩⟩:=y
 simp
end
end Go.Proofs.YthegnmanjdlmjaaGreatDoor
namespace Go.Proofs.YthegnmanjdlmjaaGreatDoor
open Go.Sh Go.RowKit
namespace DiskM
theorem write_len (D:DiskM) (a:Int) (s:ByteArray):(D.write a s).2.W.length≤D.W.length+1∧(D.write a s).2.N.length=D.N.length∧(D.write a s).2.dead=D.dead:=by
 unfold write
 split
 ·exact ⟨by simp,rfl,rfl⟩
 ·split
  ·exact ⟨by simp,rfl,rfl⟩
  ·simp
theorem flush_len (D:DiskM):D.flush.2.W.length≤D.W.length∧D.flush.2.N.length=D.N.length∧D.flush.2.dead=D.dead:=by
 unfold flush
 split <;> simp
end DiskM
section
variable {h0 h:H} {d:Nat} {D:DiskM} {at_:Int} {s:ByteArray}
theorem z8 (n:Int) : -7≤Int.tmod n 8∧Int.tmod n 8≤7:=by
 rcases Int.le_total 0 n with h | h
 ·have:=tmod_lt h (show (0:Int)<8 by omega)
  omega
 ·have:=tmod_lt (show 0 ≤ -n by omega) (show (0:Int)<8 by omega)
  rw [Int.neg_tmod] at this
  omega
end
end Go.Proofs.YthegnmanjdlmjaaGreatDoor
namespace Go.Proofs.YthegnmanjdlmjaaGreatDoor
open Go.Sh Go.RowKit
section
variable {h0 h:H} {d:Nat} {D:DiskM} {at_:Int} {s:ByteArray}
theorem mn_take {l:Nat} {n:Int} (hn:0≤n):(mn ((l:Nat):Int) n).toNat=min l n.toNat∧(0:Int)≤mn ((l:Nat):Int) n∧mn ((l:Nat):Int) n≤l:=by unfold mn; split <;> omega
structure Texts (h:H) (a:Option Addr) (l:Nat) (xs:List ByteArray):Prop where
 len:xs.length=l
 nil:a=none→l=0
 row:∀ b,a=some b→Sh.rowAt h b (xs.map Value.string)
 size:∀ s ∈ xs,s.size≤maxLen
theorem row_take {h:H} {a:Addr} {vs:List Value} (r:Sh.rowAt h a vs) (n:Nat):Sh.rowAt h a (vs.take n):=fun i hi=>by
 rw [r i (by simp at hi; omega),List.getElem?_take,if_pos (by simp at hi; omega)]
end
end Go.Proofs.YthegnmanjdlmjaaGreatDoor
namespace Go.Proofs.YthegnmanjdlmjaaGreatDoor
open Go.Sh Go.RowKit
structure BankM where
 ds:List DiskM
 steps:Int
 fails:Bool
 left:Int
def BankM.bad (B:BankM) (i:Int):Prop:=i<0∨i ≥ B.ds.length
instance (B:BankM) (i:Int):Decidable (B.bad i):=by unfold BankM.bad; infer_instance
structure BankM.Ok (B:BankM):Prop where
 pos:0<B.ds.length
 small:B.ds.length≤12
 left:0≤B.left
 st0:0≤B.steps
namespace BankM
variable (B:BankM)
def there (i:Int):Int:=if B.bad i then 11 else 0
def disk (i:Int):DiskM:=B.ds.getD i.toNat ⟨[],[],[],true⟩
def set (i:Int) (D:DiskM):BankM:={ B with ds:=B.ds.set i.toNat D }
def noPower:Prop:=B.fails=true∧B.left=0
instance:Decidable B.noPower:=by unfold noPower; infer_instance
def spend:Int × BankM:=if B.noPower then (21,B) else (0,{ B with left:=if B.fails=true then B.left-1 else B.left,steps:=B.steps+1 })
def write (i at_:Int) (s:ByteArray):Int × BankM:=
 if B.bad i then (11,B) else if B.noPower then (21,B) else (((B.disk i).write at_ s).1,B.spend.2.set i ((B.disk i).write at_ s).2)
def flush (i:Int):Int × BankM:=
 if B.bad i then (11,B) else if B.noPower then (21,B) else ((B.disk i).flush.1,B.spend.2.set i (B.disk i).flush.2)
def read (i at_:Int):ByteArray × Int:=if B.bad i then (ByteArray.empty,11) else if B.noPower then (ByteArray.empty,21) else (B.disk i).read at_
def new (n cells:Int):BankM:=⟨List.replicate (mx 1 (mn n 12)).toNat (DiskM.new cells),0,false,0⟩
theorem spend_ds:B.spend.2.ds=B.ds:=by unfold spend; split <;> rfl
variable {B}
theorem not_bad {i:Int}:¬ B.bad i↔0≤i∧i<B.ds.length:=by unfold bad; omega
theorem disk_at {i:Int} (hi:¬ B.bad i):∃ h:i.toNat<B.ds.length,B.ds[i.toNat]=B.disk i:=by
 have:=not_bad.1 hi
 have h:i.toNat<B.ds.length:=by omega
 exact ⟨h,by simp [disk,List.getD_eq_getElem?_getD,h]⟩
theorem new_len (n:Int):0<(mx 1 (mn n 12)).toNat∧(mx 1 (mn n 12)).toNat≤12:=by
 unfold mx mn
 split <;> split <;> omega
theorem new_ok (n c:Int):(new n c).Ok:=⟨by simpa [new] using (new_len n).1,by simpa [new] using (new_len n).2,by simp [new],by simp [new]⟩
theorem spend_ok (o:B.Ok):B.spend.2.Ok:=by
 unfold spend
 split
 ·exact o
 ·rename_i h
  refine ⟨o.pos,o.small,?_,by have:=o.st0; simp only; omega⟩
  simp only
  by_cases hf:B.fails=true
  ·have:=o.left
   have:B.left≠0:=fun e=>h ⟨hf,e⟩
   rw [if_pos hf]; omega
  ·rw [if_neg hf]; exact o.left
theorem set_ok (o:B.Ok) (i:Int) (D:DiskM):(B.set i D).Ok:=⟨by simpa [set] using o.pos,by simpa [set] using o.small,o.left,o.st0⟩
theorem write_ok (o:B.Ok) (i a:Int) (s:ByteArray):(B.write i a s).2.Ok:=by
 unfold write
 split
 ·exact o
 ·split
  ·exact o
  ·exact set_ok (spend_ok o) _ _
theorem flush_ok (o:B.Ok) (i:Int):(B.flush i).2.Ok:=by
 unfold flush
 split
 ·exact o
 ·split
  ·exact o
  ·exact set_ok (spend_ok o) _ _
end BankM
def ptrs (l:List Nat):List Value:=l.map fun d=>Value.pointer (some ⟨d,0,none⟩)
theorem ptrs_len (l:List Nat):(ptrs l).length=l.length:=by simp [ptrs]
theorem ptrs_get {l:List Nat} {i:Nat} (h:i<l.length):(ptrs l)[i]? = some (.pointer (some ⟨l[i],0,none⟩)):=by simp [ptrs,h]
theorem disks_on {f:Nat→DiskM→Chunk} {h0 h:H} {L:List Chunk} {k:Nat} {ps:List Nat} {Ds:List DiskM} (w:Wd h0 h L) (hk:L[k]? = some (.sep (List.zipWith f ps Ds))) {j:Nat} (hp:j<ps.length) (hD:j<Ds.length):
  ∃ h1,Keep h0 h1∧Keep h1 h∧Wd h1 h [f ps[j] Ds[j]]∧Wd h0 h1 (L.eraseIdx k)∧∀ h' D',Wd h1 h' [f ps[j] D']→Wd h0 h' (L.set k (.sep (List.zipWith f ps (Ds.set j D')))):=by
 obtain ⟨h1,k0,k1,w1,wr,back⟩:=w.on hk
 have w1':Wd h1 h (List.zipWith f ps Ds):=w1.le (Chunk.sep_one _)
 have hj:(List.zipWith f ps Ds)[j]? = some (f ps[j] Ds[j]):=by rw [List.getElem?_zipWith]; simp [hp,hD]
 obtain ⟨h2,k2,k3,w2,wr2,back2⟩:=w1'.on hj
 refine ⟨h2,k0.trans k2,k3,w2,wr.keeps k2,fun h' D' w'=>back _ _ ?_⟩
 have:=back2 _ _ w'
 have e:(List.zipWith f ps Ds).set j (f ps[j] D')=List.zipWith f ps (Ds.set j D'):=by
  apply List.ext_getElem?
  intro x
  rw [List.getElem?_set,List.getElem?_zipWith,List.getElem?_zipWith,List.getElem?_set]
  by_cases hx:j=x
  ·subst hx
   simp [hp,hD]; omega
  ·simp [hx]
 rw [e] at this
 exact this.le (Chunk.one_sep _)
def bankC (b:Nat) (B:BankM):Chunk:=Wd.obj (α:=Option Addr × Nat × List Nat) (fun v=>B.Ok∧v.2.2.length=B.ds.length)
 fun v=>[.blk b (.cells #[.slice v.1 B.ds.length v.2.1,.int .i64 B.steps,.bool B.fails,.int .i64 B.left] 122 (0,0)),.sl 59 1 v.1 B.ds.length v.2.1 (ptrs v.2.2),.sep (List.zipWith diskC v.2.2 B.ds)]
section
variable {h0 h:H} {b:Nat} {B:BankM} {i at_:Int} {s:ByteArray}
theorem bank_ok (w:Wd h0 h [bankC b B]):B.Ok:=by
 obtain ⟨_,⟨ok,_⟩,_⟩:=w.opn 0 rfl
 exact ok
theorem bDisk {Q:Option Addr→H→Prop} (w:Wd h0 h [bankC b B]) (kn:B.bad i→Q none h)
  (k:¬ B.bad i→∀ p h1,Keep h0 h1→Keep h1 h→Wd h1 h [diskC p (B.disk i)]→(∀ h' D',Wd h1 h' [diskC p D']→Wd h0 h' [bankC b (B.set i D')])→Q (some ⟨p,0,none⟩) h):bank_Bank_Disk (some ⟨b,0,none⟩) i h Q:=by
 obtain ⟨⟨a,c,ps⟩,⟨ok,hl⟩,w⟩:=w.opn 0 rfl
 have hb:=w.blk 0 rfl
 obtain ⟨_,_,hsn,hsr⟩:=w.slrow 1 rfl
 simp only at hl hsn hsr
 unfold bank_Bank_Disk
 refine M.join_of (fun d h'=>d=decide (B.bad i)∧h=h') (fun J hJ=>?_) ?_
 ·simp only [addr_add,load_eq,Nat.zero_add,Nat.add_zero,Nat.mul_one,Nat.one_mul,Nat.zero_mul,Nat.reduceAdd,List.setIfInBounds_toArray,List.set_cons_zero,List.set_cons_succ,List.getElem?_toArray,List.getElem?_cons_zero,List.getElem?_cons_succ,some_and,int_eq,bool_eq,str_eq,slc_eq,ptr_eq,nn_eq,M.val,cond_true,cond_false,Bool.not_true,Bool.not_false,Option.isNone_some,cell_in hb]
  by_cases h1:i<0
  ·simp only [h1,decide_true,cond_true]
   exact hJ _ _ ⟨(decide_eq_true (.inl h1)).symm,rfl⟩
  ·simp only [h1,decide_false,cond_false]
   exact hJ _ _ ⟨by simp [BankM.bad,h1],rfl⟩
 ·rintro _ _ ⟨rfl,rfl⟩
  by_cases hbad:B.bad i
  ·simp only [hbad,decide_true,cond_true]
   exact kn hbad
  ·obtain ⟨hj,hd⟩:=BankM.disk_at hbad
   have hi:=BankM.not_bad.1 hbad
   simp only [addr_add,load_eq,Nat.zero_add,Nat.add_zero,Nat.mul_one,Nat.one_mul,Nat.zero_mul,Nat.reduceAdd,List.setIfInBounds_toArray,List.set_cons_zero,List.set_cons_succ,List.getElem?_toArray,List.getElem?_cons_zero,List.getElem?_cons_succ,some_and,int_eq,bool_eq,str_eq,slc_eq,ptr_eq,nn_eq,M.val,cond_true,cond_false,Bool.not_true,Bool.not_false,hbad,decide_false,cell_in hb]
   cases a with
   | none=>have:=(hsn rfl).2; omega
   | some ab=>
    refine M.idx_of hi.1 hi.2 ?_
    have hc:h.cell (ab.add i.toNat)=some (.pointer (some ⟨ps[i.toNat],0,none⟩)):=by
     rw [hsr ab rfl i.toNat (by rw [ptrs_len]; omega),ptrs_get (by omega)]
    simp only [addr_add,load_eq,Nat.zero_add,Nat.add_zero,Nat.mul_one,Nat.one_mul,Nat.zero_mul,Nat.reduceAdd,List.setIfInBounds_toArray,List.set_cons_zero,List.set_cons_succ,List.getElem?_toArray,List.getElem?_cons_zero,List.getElem?_cons_succ,some_and,int_eq,bool_eq,str_eq,slc_eq,ptr_eq,nn_eq,M.val,cond_true,cond_false,Bool.not_true,Bool.not_false,hc]
    obtain ⟨h1,k0,k1,w1,wr,back⟩:=disks_on (f:=diskC) (k:=2) w rfl (j:=i.toNat) (by show i.toNat<ps.length; omega) hj
    rw [hd] at w1
    refine k hbad ps[i.toNat] h1 k0 k1 w1 fun h' D' w'=>?_
    have w2:=back h' D' w'
    refine w2.close 0 (some ab,c,ps) ?_ ⟨BankM.set_ok ok i D',by simpa [BankM.set] using hl⟩
    simp [BankM.set]
theorem bThere {Q:Int→H→Prop} (w:Wd h0 h [bankC b B]) (k:Q (B.there i) h):bank_Bank_there (some ⟨b,0,none⟩) i h Q:=by
 unfold bank_Bank_there bank_Bank_there.g
 simp only [Option.isNone_some,cond_false]
 unfold BankM.there at k
 refine bDisk w (fun hb=>?_) fun hb p h1 _ _ _ _=>?_
 ·simpa [hb] using k
 ·simpa [hb] using k
theorem bSpend {Q:Int→H→Prop} (w:Wd h0 h [bankC b B]) (hs:B.steps<1000000000) (hlx:B.left≤9223372036854775807) (k:∀ h',Wd h0 h' [bankC b B.spend.2]→Q B.spend.1 h'):bank_Bank_Spend (some ⟨b,0,none⟩) h Q:=by
 have w0:=w
 obtain ⟨⟨a,c,ps⟩,⟨ok,hl⟩,w⟩:=w.opn 0 rfl
 have hb:=w.blk 0 rfl
 have ok2:=BankM.spend_ok ok
 have hst:=ok.st0
 have hlf:=ok.left
 have hw1:IntKind.wrap .i64 (B.steps+1)=B.steps+1:=by rw [IntKind.wrap_i64]; omega
 unfold bank_Bank_Spend
 unfold BankM.spend at k ok2
 by_cases hp:B.noPower
 ·simp only [hp,if_true] at k
  simp only [addr_add,load_eq,Nat.zero_add,Nat.add_zero,Nat.mul_one,Nat.one_mul,Nat.zero_mul,Nat.reduceAdd,List.setIfInBounds_toArray,List.set_cons_zero,List.set_cons_succ,List.getElem?_toArray,List.getElem?_cons_zero,List.getElem?_cons_succ,some_and,int_eq,bool_eq,str_eq,slc_eq,ptr_eq,nn_eq,M.val,cond_true,cond_false,Bool.not_true,Bool.not_false,M.join,Option.isNone_some,cell_in hb,hp.1,hp.2,beq_self_eq_true]
  exact k _ w0
 ·simp only [hp,if_false] at k ok2
  refine M.jn ?_
  simp only [Option.isNone_some,cond_false]
  refine M.join_of (fun d h'=>d=false∧h=h') (fun J hJ=>?_) ?_
  ·simp only [addr_add,load_eq,Nat.zero_add,Nat.add_zero,Nat.mul_one,Nat.one_mul,Nat.zero_mul,Nat.reduceAdd,List.setIfInBounds_toArray,List.set_cons_zero,List.set_cons_succ,List.getElem?_toArray,List.getElem?_cons_zero,List.getElem?_cons_succ,some_and,int_eq,bool_eq,str_eq,slc_eq,ptr_eq,nn_eq,M.val,cond_true,cond_false,Bool.not_true,Bool.not_false,Option.isNone_some,cell_in hb]
   cases hf:B.fails
   ·exact hJ _ _ ⟨rfl,rfl⟩
   ·have:(B.left == 0)=false:=by
     have:B.left≠0:=fun e=>hp ⟨hf,e⟩
     simpa using this
    simp only [cond_true,this]
    exact hJ _ _ ⟨rfl,rfl⟩
  ·rintro _ _ ⟨rfl,rfl⟩
   simp only [addr_add,load_eq,Nat.zero_add,Nat.add_zero,Nat.mul_one,Nat.one_mul,Nat.zero_mul,Nat.reduceAdd,List.setIfInBounds_toArray,List.set_cons_zero,List.set_cons_succ,List.getElem?_toArray,List.getElem?_cons_zero,List.getElem?_cons_succ,some_and,int_eq,bool_eq,str_eq,slc_eq,ptr_eq,nn_eq,M.val,cond_true,cond_false,Bool.not_true,Bool.not_false,cell_in hb]
   cases hf:B.fails
   ·simp only [hf,Bool.false_eq_true,if_false] at k ok2
    simp only [addr_add,load_eq,Nat.zero_add,Nat.add_zero,Nat.mul_one,Nat.one_mul,Nat.zero_mul,Nat.reduceAdd,List.setIfInBounds_toArray,List.set_cons_zero,List.set_cons_succ,List.getElem?_toArray,List.getElem?_cons_zero,List.getElem?_cons_succ,some_and,int_eq,bool_eq,str_eq,slc_eq,ptr_eq,nn_eq,M.val,cond_true,cond_false,Bool.not_true,Bool.not_false,cell_in hb,hw1]
    refine M.put_w w 0 rfl rfl (by simp) fun h1 w=>?_
    exact k _ (w.close 0 (a,c,ps) (by simp [hf]) ⟨ok2,hl⟩)
   ·simp only [hf,if_true] at k ok2
    have hw2:IntKind.wrap .i64 (B.left-1)=B.left-1:=by rw [IntKind.wrap_i64]; omega
    simp only [addr_add,load_eq,Nat.zero_add,Nat.add_zero,Nat.mul_one,Nat.one_mul,Nat.zero_mul,Nat.reduceAdd,List.setIfInBounds_toArray,List.set_cons_zero,List.set_cons_succ,List.getElem?_toArray,List.getElem?_cons_zero,List.getElem?_cons_succ,some_and,int_eq,bool_eq,str_eq,slc_eq,ptr_eq,nn_eq,M.val,cond_true,cond_false,Bool.not_true,Bool.not_false,cell_in hb,hw2]
    refine M.put_w w 0 rfl rfl (by simp) fun h1 w=>?_
    have hb:=w.blk 0 rfl
    simp only [addr_add,load_eq,Nat.zero_add,Nat.add_zero,Nat.mul_one,Nat.one_mul,Nat.zero_mul,Nat.reduceAdd,List.setIfInBounds_toArray,List.set_cons_zero,List.set_cons_succ,List.getElem?_toArray,List.getElem?_cons_zero,List.getElem?_cons_succ,some_and,int_eq,bool_eq,str_eq,slc_eq,ptr_eq,nn_eq,M.val,cond_true,cond_false,Bool.not_true,Bool.not_false,cell_in hb,hw1]
    refine M.put_w w 0 rfl rfl (by simp) fun h2 w=>?_
    exact k _ (w.close 0 (a,c,ps) (by simp [hf]) ⟨ok2,hl⟩)
theorem bGo {Q:Option Addr→Prop} (w:Wd h0 h [bankC b B]) (hb:¬ B.bad i)
  (k:∀ p h1,Keep h0 h1→Keep h1 h→Wd h1 h [diskC p (B.disk i)]→(∀ h' D',Wd h1 h' [diskC p D']→Wd h0 h' [bankC b (B.set i D')])→Q (some ⟨p,0,none⟩)):
  M.nn (some ⟨b,0,none⟩) fun a6=>M.load h (Addr.add a6 0) fun v7=>M.slc v7 fun a8 l9 c10=>M.idx a8 l9 i fun a11 j12=>M.load h (Addr.add a11 (j12*1)) fun v13=>M.ptr v13 fun p14=>Q p14:=by
 obtain ⟨⟨a,c,ps⟩,⟨ok,hl⟩,w⟩:=w.opn 0 rfl
 have hbb:=w.blk 0 rfl
 obtain ⟨_,_,hsn,hsr⟩:=w.slrow 1 rfl
 simp only at hl hsn hsr
 obtain ⟨hj,hd⟩:=BankM.disk_at hb
 have hi:=BankM.not_bad.1 hb
 simp only [addr_add,load_eq,Nat.zero_add,Nat.add_zero,Nat.mul_one,Nat.one_mul,Nat.zero_mul,Nat.reduceAdd,List.setIfInBounds_toArray,List.set_cons_zero,List.set_cons_succ,List.getElem?_toArray,List.getElem?_cons_zero,List.getElem?_cons_succ,some_and,int_eq,bool_eq,str_eq,slc_eq,ptr_eq,nn_eq,M.val,cond_true,cond_false,Bool.not_true,Bool.not_false,cell_in hbb]
 cases a with
 | none=>have:=(hsn rfl).2; omega
 | some ab=>
  refine M.idx_of hi.1 hi.2 ?_
  have hc:h.cell (ab.add i.toNat)=some (.pointer (some ⟨ps[i.toNat],0,none⟩)):=by
   rw [hsr ab rfl i.toNat (by rw [ptrs_len]; omega),ptrs_get (by omega)]
  simp only [addr_add,load_eq,Nat.zero_add,Nat.add_zero,Nat.mul_one,Nat.one_mul,Nat.zero_mul,Nat.reduceAdd,List.setIfInBounds_toArray,List.set_cons_zero,List.set_cons_succ,List.getElem?_toArray,List.getElem?_cons_zero,List.getElem?_cons_succ,some_and,int_eq,bool_eq,str_eq,slc_eq,ptr_eq,nn_eq,M.val,cond_true,cond_false,Bool.not_true,Bool.not_false,hc]
  obtain ⟨h1,k0,k1,w1,wr,back⟩:=disks_on (f:=diskC) (k:=2) w rfl (j:=i.toNat) (by show i.toNat<ps.length; omega) hj
  rw [hd] at w1
  refine k ps[i.toNat] h1 k0 k1 w1 fun h' D' w'=>?_
  refine (back h' D' w').close 0 (some ab,c,ps) ?_ ⟨BankM.set_ok ok i D',by simpa [BankM.set] using hl⟩
  simp [BankM.set]
theorem spend_disk:B.spend.2.disk i=B.disk i:=by simp [BankM.disk,BankM.spend_ds]
theorem spend_bad:B.spend.2.bad i↔B.bad i:=by simp [BankM.bad,BankM.spend_ds]
theorem bWrite {Q:Int→H→Prop} (w:Wd h0 h [bankC b B]) (hs:B.steps<1000000000) (hlx:B.left≤9223372036854775807) (hW:(B.disk i).W.length<1000000000) (k:∀ h',Wd h0 h' [bankC b (B.write i at_ s).2]→Q (B.write i at_ s).1 h'):bank_Bank_Write (some ⟨b,0,none⟩) i at_ s h Q:=by
 unfold bank_Bank_Write bank_Bank_Write.g
 refine bThere w ?_
 unfold BankM.there
 unfold BankM.write at k
 by_cases hb:B.bad i
 ·simp only [hb,if_true] at k ⊢
  exact k _ w
 ·simp only [hb,if_false] at k ⊢
  simp only [bne_self_eq_false,cond_false]
  refine bSpend w hs hlx fun h1 w=>?_
  by_cases hp:B.noPower
  ·have e:B.spend=(21,B):=by simp [BankM.spend,hp]
   rw [e] at w ⊢
   simp only [hp,if_true] at k
   exact k _ w
  ·have e:B.spend.1=0:=by simp [BankM.spend,hp]
   simp only [hp,if_false] at k
   simp only [e,bne_self_eq_false,cond_false]
   refine bGo w (fun x=>hb (spend_bad.1 x)) fun p h2 k0 k1 w2 back=>?_
   rw [spend_disk] at w2
   exact Write_spec w2 hW fun h' w3=>k h' (back _ _ w3)
theorem bFlush {Q:Int→H→Prop} (w:Wd h0 h [bankC b B]) (hs:B.steps<1000000000) (hlx:B.left≤9223372036854775807) (k:∀ h',Wd h0 h' [bankC b (B.flush i).2]→Q (B.flush i).1 h'):bank_Bank_Flush (some ⟨b,0,none⟩) i h Q:=by
 unfold bank_Bank_Flush bank_Bank_Flush.g
 refine bThere w ?_
 unfold BankM.there
 unfold BankM.flush at k
 by_cases hb:B.bad i
 ·simp only [hb,if_true] at k ⊢
  exact k _ w
 ·simp only [hb,if_false] at k ⊢
  simp only [bne_self_eq_false,cond_false]
  refine bSpend w hs hlx fun h1 w=>?_
  by_cases hp:B.noPower
  ·have e:B.spend=(21,B):=by simp [BankM.spend,hp]
   rw [e] at w ⊢
   simp only [hp,if_true] at k
   exact k _ w
  ·have e:B.spend.1=0:=by simp [BankM.spend,hp]
   simp only [hp,if_false] at k
   simp only [e,bne_self_eq_false,cond_false]
   refine bGo w (fun x=>hb (spend_bad.1 x)) fun p h2 k0 k1 w2 back=>?_
   rw [spend_disk] at w2
   exact Flush_spec w2 fun h' w3=>k h' (back _ _ w3)
theorem bRead {Q:ByteArray→Int→H→Prop} (w:Wd h0 h [bankC b B]) (k:Q (B.read i at_).1 (B.read i at_).2 h):bank_Bank_Read (some ⟨b,0,none⟩) i at_ h Q:=by
 unfold bank_Bank_Read bank_Bank_Read.g
 refine bThere w ?_
 unfold BankM.there
 unfold BankM.read at k
 by_cases hb:B.bad i
 ·simp only [hb,if_true] at k ⊢
  exact k
 ·simp only [hb,if_false] at k ⊢
  simp only [bne_self_eq_false,cond_false]
  refine M.join_of (fun d h'=>d=decide B.noPower∧h=h') (fun J hJ=>?_) ?_
  ·obtain ⟨v,⟨ok,hl⟩,w⟩:=w.opn 0 rfl
   have hbb:=w.blk 0 rfl
   simp only [addr_add,load_eq,Nat.zero_add,Nat.add_zero,Nat.mul_one,Nat.one_mul,Nat.zero_mul,Nat.reduceAdd,List.setIfInBounds_toArray,List.set_cons_zero,List.set_cons_succ,List.getElem?_toArray,List.getElem?_cons_zero,List.getElem?_cons_succ,some_and,int_eq,bool_eq,str_eq,slc_eq,ptr_eq,nn_eq,M.val,cond_true,cond_false,Bool.not_true,Bool.not_false,cell_in hbb]
   cases hf:B.fails
   ·exact hJ _ _ ⟨by simp [BankM.noPower,hf],rfl⟩
   ·refine hJ _ _ ⟨?_,rfl⟩
    by_cases h0:B.left=0 <;> simp [BankM.noPower,hf,h0]
  ·rintro _ _ ⟨rfl,rfl⟩
   by_cases hp:B.noPower
   ·simp only [hp,if_true] at k
    simp only [hp,decide_true,cond_true]
    exact k
   ·simp only [hp,if_false] at k
    simp only [hp,decide_false,cond_false]
    refine bGo w hb fun p h2 k0 k1 w2 back=>?_
    exact Read_spec w2 k
theorem bNew {n cells:Int} {Q:Option Addr→H→Prop} (k:∀ b h',Wd h h' [bankC b (BankM.new n cells)]→Q (some ⟨b,0,none⟩) h'):bank_New n cells h Q:=by
 unfold bank_New bank_New.g
 have hn:=BankM.new_len n
 refine M.new_w (Wd.start h) fun b h1 w=>?_
 have w:=w.nilsl 59 1
 have w:Wd h h1 [.blk b (.cells #[.slice none 0 0,.int .i64 0,.bool false,.int .i64 0] 122 (0,0)),.sl 59 1 none 0 0 (ptrs []),.sep (List.zipWith diskC [] [])]:=
  w.fold 2 (c:=.sep (List.zipWith diskC [] [])) (Chunk.Le.refl _)
 refine M.loop_of (I:=fun (i:Int) h'=>0≤i∧i≤mx 1 (mn n 12)∧∃ a c ps,ps.length=i.toNat∧Wd h h' [.blk b (.cells #[.slice a i.toNat c,.int .i64 0,.bool false,.int .i64 0] 122 (0,0)),.sl 59 1 a i.toNat c (ptrs ps),
   .sep (List.zipWith diskC ps (List.replicate i.toNat (DiskM.new cells)))]) (μ:=fun i=>(mx 1 (mn n 12)-i).toNat) ⟨by omega,by omega,none,0,[],rfl,w⟩ ?_
 rintro i h2 J ⟨hi0,hi1,a,c,ps,hps,w⟩ hJ
 by_cases hlt:i<mx 1 (mn n 12)
 ·have hw1:IntKind.wrap .i64 (i+1)=i+1:=by rw [IntKind.wrap_i64]; omega
  have hb:=w.blk 0 rfl
  simp only [addr_add,load_eq,Nat.zero_add,Nat.add_zero,Nat.mul_one,Nat.one_mul,Nat.zero_mul,Nat.reduceAdd,List.setIfInBounds_toArray,List.set_cons_zero,List.set_cons_succ,List.getElem?_toArray,List.getElem?_cons_zero,List.getElem?_cons_succ,some_and,int_eq,bool_eq,str_eq,slc_eq,ptr_eq,nn_eq,M.val,cond_true,cond_false,Bool.not_true,Bool.not_false,hlt,decide_true,cell_in hb,hw1]
  refine New_spec fun d h3 w3=>?_
  have w:=w.join w3
  refine M.still_in hb (w.blk 0 rfl) ?_
  refine M.new_t w fun t h4 ht w=>?_
  refine M.still_in hb (w.blk 0 rfl) ?_
  refine cellsOf_in ht rfl ?_
  refine M.app_w w 1 rfl rfl rfl (by simp [isPlainCell]) (by omega) (by omega) fun a' c' h5 w=>?_
  refine M.put_w w 0 rfl rfl (by simp) fun h6 w=>?_
  have hni:(i+1).toNat=i.toNat+1:=by omega
  have w:=w.fold 2 (c:=.sep (List.zipWith diskC (ps++[d]) (List.replicate (i.toNat+1) (DiskM.new cells)))) (by
   rw [List.replicate_succ',List.zipWith_append (by simp [hps])]
   exact (Chunk.star_mono (Chunk.Le.refl _) (Chunk.Le.refl _)).trans (Chunk.app_sep _ _))
  refine hJ _ _ ⟨by omega,by omega,a',c',ps++[d],by simp [hps,hni],?_⟩ (by omega)
  rw [hni]
  simpa [ptrs] using w
 ·simp only [hlt,decide_false,cond_false]
  have hi:i=mx 1 (mn n 12):=by omega
  subst hi
  refine k b _ (w.close 0 (a,c,ps) ?_ ⟨BankM.new_ok n cells,by simpa [BankM.new] using hps⟩)
  simp [BankM.new]
end
end Go.Proofs.YthegnmanjdlmjaaGreatDoor
namespace Go.Proofs.YthegnmanjdlmjaaGreatDoor
open Go.Sh Go.RowKit
def BankM.rleft (B:BankM):Int:=if B.fails=true then B.left else -1
def rbankC (b:Nat) (B:BankM):Chunk:=Wd.obj (α:=Option Addr × Nat × List Nat) (fun v=>B.Ok∧v.2.2.length=B.ds.length)
 fun v=>[.blk b (.cells #[.slice v.1 B.ds.length v.2.1,.int .i64 B.steps,.int .i64 B.rleft] 145 (0,0)),.sl 142 1 v.1 B.ds.length v.2.1 (ptrs v.2.2),.sep (List.zipWith refC v.2.2 B.ds)]
section
variable {h0 h:H} {b:Nat} {B:BankM} {i at_:Int} {s:ByteArray}
theorem rbNew {n cells:Int} {Q:Option Addr→H→Prop} (k:∀ b h',Wd h h' [rbankC b (BankM.new n cells)]→Q (some ⟨b,0,none⟩) h'):ref10_New n cells h Q:=by
 unfold ref10_New ref10_New.g
 have hn:=BankM.new_len n
 refine M.join_of (fun d h'=>d=mx 1 n∧h=h') (fun J hJ=>?_) ?_
 ·by_cases h1:n<1
  ·simp only [h1,decide_true,cond_true]
   exact hJ _ _ ⟨by unfold mx; split <;> omega,rfl⟩
  ·simp only [h1,decide_false,cond_false]
   exact hJ _ _ ⟨by unfold mx; split <;> omega,rfl⟩
 rintro _ _ ⟨rfl,rfl⟩
 refine M.join_of (fun d h'=>d=mx 1 (mn n 12)∧h=h') (fun J hJ=>?_) ?_
 ·by_cases h1:mx 1 n > 12
  ·simp only [h1,decide_true,cond_true]
   exact hJ _ _ ⟨by unfold mx mn at *; split <;> split <;> (try split at h1) <;> omega,rfl⟩
  ·simp only [h1,decide_false,cond_false]
   exact hJ _ _ ⟨by unfold mx mn at *; split <;> split <;> (try split at h1) <;> (try split) <;> omega,rfl⟩
 rintro _ _ ⟨rfl,rfl⟩
 refine M.new_w (Wd.start h) fun b h1 w=>?_
 have w:=w.nilsl 142 1
 have w:Wd h h1 [.blk b (.cells #[.slice none 0 0,.int .i64 0,.int .i64 (-1)] 145 (0,0)),.sl 142 1 none 0 0 (ptrs []),.sep (List.zipWith refC [] [])]:=
  w.fold 2 (c:=.sep (List.zipWith refC [] [])) (Chunk.Le.refl _)
 refine M.loop_of (I:=fun (i:Int) h'=>0≤i∧i≤mx 1 (mn n 12)∧∃ a c ps,ps.length=i.toNat∧Wd h h' [.blk b (.cells #[.slice a i.toNat c,.int .i64 0,.int .i64 (-1)] 145 (0,0)),.sl 142 1 a i.toNat c (ptrs ps),
   .sep (List.zipWith refC ps (List.replicate i.toNat (DiskM.new cells)))]) (μ:=fun i=>(mx 1 (mn n 12)-i).toNat) ⟨by omega,by omega,none,0,[],rfl,w⟩ ?_
 rintro i h2 J ⟨hi0,hi1,a,c,ps,hps,w⟩ hJ
 by_cases hlt:i<mx 1 (mn n 12)
 ·have hw1:IntKind.wrap .i64 (i+1)=i+1:=by rw [IntKind.wrap_i64]; omega
  simp only [hlt,decide_true,cond_true]
  refine rNew fun d h3 w3=>?_
  have w:=w.join w3
  have hb:=w.blk 0 rfl
  simp only [addr_add,load_eq,Nat.zero_add,Nat.add_zero,Nat.mul_one,Nat.one_mul,Nat.zero_mul,Nat.reduceAdd,List.setIfInBounds_toArray,List.set_cons_zero,List.set_cons_succ,List.getElem?_toArray,List.getElem?_cons_zero,List.getElem?_cons_succ,some_and,int_eq,bool_eq,str_eq,slc_eq,ptr_eq,nn_eq,M.val,cond_true,cond_false,Bool.not_true,Bool.not_false,cell_in hb,hw1]
  refine M.new_t w fun t h4 ht w=>?_
  refine cellsOf_in ht rfl ?_
  refine M.app_w w 1 rfl rfl rfl (by simp [isPlainCell]) (by omega) (by omega) fun a' c' h5 w=>?_
  refine M.put_w w 0 rfl rfl (by simp) fun h6 w=>?_
  have hni:(i+1).toNat=i.toNat+1:=by omega
  have w:=w.fold 2 (c:=.sep (List.zipWith refC (ps++[d]) (List.replicate (i.toNat+1) (DiskM.new cells)))) (by
   rw [List.replicate_succ',List.zipWith_append (by simp [hps])]
   exact (Chunk.star_mono (Chunk.Le.refl _) (Chunk.Le.refl _)).trans (Chunk.app_sep _ _))
  refine hJ _ _ ⟨by omega,by omega,a',c',ps++[d],by simp [hps,hni],?_⟩ (by omega)
  rw [hni]
  simpa [ptrs] using w
 ·simp only [hlt,decide_false,cond_false]
  have hi:i=mx 1 (mn n 12):=by omega
  subst hi
  refine k b _ (w.close 0 (a,c,ps) ?_ ⟨BankM.new_ok n cells,by simpa [BankM.new] using hps⟩)
  simp [BankM.new,BankM.rleft]
end
end Go.Proofs.YthegnmanjdlmjaaGreatDoor
namespace Go.Proofs.YthegnmanjdlmjaaGreatDoor
open Go.Sh Go.RowKit
section
variable {h0 h:H} {b:Nat} {B:BankM} {i at_:Int} {s:ByteArray}
theorem rb_ptr (w:Wd h0 h [rbankC b B]) (hb:¬ B.bad i):∃ a c p h1,h b=some (.cells #[.slice (some a) B.ds.length c,.int .i64 B.steps,.int .i64 B.rleft] 145 (0,0))∧h.cell (a.add i.toNat)=some (.pointer (some ⟨p,0,none⟩)) ∧
  Keep h0 h1∧Keep h1 h∧Wd h1 h [refC p (B.disk i)]∧∀ h' D',Wd h1 h' [refC p D']→Wd h0 h' [rbankC b (B.set i D')]:=by
 obtain ⟨⟨a,c,ps⟩,⟨ok,hl⟩,w⟩:=w.opn 0 rfl
 have hbb:=w.blk 0 rfl
 obtain ⟨_,_,hsn,hsr⟩:=w.slrow 1 rfl
 simp only at hl hsn hsr hbb
 obtain ⟨hj,hd⟩:=BankM.disk_at hb
 have hi:=BankM.not_bad.1 hb
 cases a with
 | none=>have:=(hsn rfl).2; omega
 | some ab=>
  have hc:h.cell (ab.add i.toNat)=some (.pointer (some ⟨ps[i.toNat],0,none⟩)):=by
   rw [hsr ab rfl i.toNat (by rw [ptrs_len]; omega),ptrs_get (by omega)]
  obtain ⟨h1,k0,k1,w1,wr,back⟩:=disks_on (f:=refC) (k:=2) w rfl (j:=i.toNat) (by show i.toNat<ps.length; omega) hj
  rw [hd] at w1
  refine ⟨ab,c,ps[i.toNat],h1,hbb,hc,k0,k1,w1,fun h' D' w'=>?_⟩
  refine (back h' D' w').close 0 (some ab,c,ps) ?_ ⟨BankM.set_ok ok i D',by simpa [BankM.set] using hl⟩
  simp [BankM.set,BankM.rleft]
  rfl
theorem disk_mem (hb:¬ B.bad i):B.disk i ∈ B.ds:=by
 obtain ⟨hj,hd⟩:=BankM.disk_at hb
 rw [←hd]; exact List.getElem_mem hj
end
end Go.Proofs.YthegnmanjdlmjaaGreatDoor
namespace Go.Proofs.YthegnmanjdlmjaaGreatDoor
open Go.Sh Go.RowKit
theorem pathV_eq {n s:Int} (hd:dep n≠0) (hs:0≤s∧s<n):pathV n s=pathN n s:=by
 have key:∀ s:Fin 16,(s.val<2→pathV 2 s.val=pathN 2 s.val)∧(s.val<4→pathV 4 s.val=pathN 4 s.val)∧(s.val<8→pathV 8 s.val=pathN 8 s.val)∧pathV 16 s.val=pathN 16 s.val:=by decide
 have h16:n≤16:=by rcases dep_ne hd with rfl | rfl | rfl | rfl <;> decide
 have k:=key ⟨s.toNat,by omega⟩
 simp only [Int.toNat_of_nonneg hs.1] at k
 rcases dep_ne hd with rfl | rfl | rfl | rfl
 ·exact k.1 (by omega)
 ·exact k.2.1 (by omega)
 ·exact k.2.2.1 (by omega)
 ·exact k.2.2.2
section
variable {h:H} {n s:Int}
theorem treePath_spec {Q:Option Addr→Nat→Nat→Int→H→Prop} (hd:dep n≠0) (hs:0≤s∧s<n) (tb:Tabs h) (k:∀ a c h',Wd h h' [.sl 3 1 a (dep n) c (eI.row (pathN n s))]→Q a (dep n) c 0 h'):tree_Path n s h Q:=by
 have hn:n≤16:=by rcases dep_ne hd with rfl | rfl | rfl | rfl <;> decide
 refine ⟨(dep n:Int),depth_spec tb ⟨rfl,Keep.refl h⟩,fun e=>?_,fun _=>⟨by omega,fun a c h' w=>?_⟩⟩
 ·unfold pathBad at e
  omega
 ·rw [pathV_eq hd hs,←eI_row,pathN_len] at w
  rw [pathV_eq hd hs,pathN_len]
  exact k a c h' w
theorem treePath_bad {Q:Option Addr→Nat→Nat→Int→H→Prop} (hb:¬ (dep n≠0∧0≤s∧s<n)) (tb:Tabs h) (k:∀ h',Keep h h'→Q none 0 0 2 h'):tree_Path n s h Q:=by
 refine ⟨(dep n:Int),depth_spec tb ⟨rfl,Keep.refl h⟩,fun _=>k,fun e=>absurd ?_ hb⟩
 unfold pathBad at e
 omega
def num8 (n:Nat):ByteArray:=textOf true [BitVec.ofNat 32 (n / 4294967296),BitVec.ofNat 32 n]
theorem num8_size (n:Nat):(num8 n).size=8:=by rw [num8,textOf_size]; rfl
theorem Num_spec {n:Nat} {Q:ByteArray→H→Prop} (hn:n<18446744073709551616) (k:∀ h',Keep h h'→Q (num8 n) h'):codec_Num (n:Int) h Q:=by
 unfold codec_Num codec_Num.g
 have w:=Wd.start h
 have e:(n:Int)=q64 n:=(q64_lt hn).symm
 have e2:n % 18446744073709551616=n:=Nat.mod_eq_of_lt hn
 rw [e]
 refine ⟨(by omega),?_⟩
 simp only [shr32_q,wrap32_q,e2]
 refine M.vin ?_
 simp only [wrap32_q]
 refine M.vin ?_
 refine M.vin ?_
 refine M.new_w w fun b2 h1 w=>?_
 refine FromBig_spec (words_blk (us:=[BitVec.ofNat 32 (n / 4294967296),BitVec.ofNat 32 n]) (rest:=[]) (w.blk 0 rfl) (by simp)) fun h2 k2=>?_
 exact k _ (w.keep.trans k2)
end
def goodS (B:BankM) (d n:Int) (key:ByteArray):Prop:=dep n≠0∧key.size=32∧¬ B.bad d
instance (B:BankM) (d n:Int) (key:ByteArray):Decidable (goodS B d n key):=by unfold goodS; infer_instance
section
variable {hx h:H} {b:Nat} {B:BankM} {d n slot:Int} {key nonce pl:ByteArray}
theorem good_spec {Q:Bool→H→Prop} (wx:Wd hx h [bankC b B]) (tb:Tabs h) (k:∀ h',Keep h h'→Q (decide (goodS B d n key)) h'):slab_Slab_good (some ⟨b,0,none⟩) d n key h Q:=by
 unfold slab_Slab_good slab_Slab_good.g
 have w:=Wd.start h
 refine M.new_w w fun b2 h1 w=>?_
 simp only [bs,lb (w.blk 0 rfl)]
 by_cases hd:dep n=0
 ·refine treePath_bad (by omega) (tb.keep w.keep) fun h2 k2=>?_
  have w:=w.keeps k2
  rw [decide_eq_false (show ¬ goodS B d n key from fun g=>g.1 hd)] at k
  exact M.jn (cf rfl (k _ w.keep))
 ·refine treePath_spec hd ⟨by omega,by rcases dep_ne hd with h | h | h | h <;> omega⟩ (tb.keep w.keep) fun a2 c2 h2 w'=>?_
  have w:=w.join w'
  clear w'
  refine M.jn (ct rfl ?_)
  simp only [bs,lb (w.blk 0 rfl)]
  by_cases hk:key.size=32
  ·refine ct (by rw [hk]; rfl) ?_
   have wb:=wx.keeps w.keep
   refine bDisk wb (fun hb=>?_) fun hb p h3 _ k3 _ _=>?_
   ·rw [decide_eq_false (show ¬ goodS B d n key from fun g=>g.2.2 hb)] at k
    exact k _ w.keep
   ·rw [decide_eq_true (show goodS B d n key from ⟨hd,hk,hb⟩)] at k
    exact k _ w.keep
  ·refine cf (by rw [beq_eq_false_iff_ne]; omega) ?_
   rw [decide_eq_false (show ¬ goodS B d n key from fun g=>hk g.2.1)] at k
   exact k _ w.keep
def mayZ (g:Prop) [Decidable g] (n slot:Int):Int:=if ¬ g then 4 else if slot<0∨slot ≥ n then 2 else 0
theorem may_spec {Q:Int→H→Prop} (wx:Wd hx h [bankC b B]) (tb:Tabs h) (k:∀ h',Keep h h'→Q (mayZ (goodS B d n key) n slot) h'):slab_Slab_may (some ⟨b,0,none⟩) d n key slot h Q:=by
 unfold slab_Slab_may slab_Slab_may.g
 have w:=Wd.start h
 refine M.new_w w fun b2 h1 w=>?_
 simp only [bs,lb (w.blk 0 rfl)]
 refine good_spec (wx.keeps w.keep) (tb.keep w.keep) fun h2 k2=>?_
 have w:=w.keeps k2
 unfold mayZ at k
 by_cases g:goodS B d n key
 ·rw [if_neg (by simp [g])] at k
  refine cf (by simp [g]) (M.jn ?_)
  refine cd (fun e=>?_) fun e=>?_
  ·rw [if_pos (.inl e)] at k
   exact k _ w.keep
  ·simp only [bs,lb (w.blk 0 rfl)]
   refine cd (fun e2=>?_) fun e2=>?_
   ·rw [if_pos (.inr e2)] at k
    exact k _ w.keep
   ·rw [if_neg (by omega)] at k
    exact k _ w.keep
 ·rw [if_pos g] at k
  exact ct (by simp [g]) (k _ w.keep)
def withB (d slot:Int):ByteArray:=num8 d.toNat++num8 slot.toNat
theorem withB_size (d slot:Int):(withB d slot).size=16:=by rw [withB,ByteArray.size_append,num8_size,num8_size]
theorem with_spec {p:Option Addr} {Q:ByteArray→H→Prop} (hd:0≤d∧d≤1000) (hs:0≤slot∧slot≤1000) (k:∀ h',Keep h h'→Q (withB d slot) h'):slab_Slab_with p d n key slot h Q:=by
 unfold slab_Slab_with slab_Slab_with.g
 have w:=Wd.start h
 have v1:IntKind.wrap .u64 d=(d.toNat:Int):=by rw [IntKind.wrap_u64]; omega
 have v2:IntKind.wrap .u64 slot=(slot.toNat:Int):=by rw [IntKind.wrap_u64]; omega
 have z1:=num8_size d.toNat
 have z2:=num8_size slot.toNat
 refine M.new_w w fun b2 h1 w=>?_
 simp only [bs,v1,v2,lb (w.blk 0 rfl)]
 refine M.vin ?_
 refine Num_spec (by omega) fun h3 k_=>?_
 have w:=w.keeps k_
 clear k_
 refine M.vin ?_
 refine Num_spec (by omega) fun h4 k_=>?_
 have w:=w.keeps k_
 clear k_
 refine ⟨(by simp; omega),?_⟩
 simp only []
 exact k _ w.keep
def cellOf (key:ByteArray) (d slot:Int) (nonce pl:ByteArray):ByteArray:=nonce++sealA key nonce (withB d slot) pl
theorem cellOf_size (key:ByteArray) (d slot:Int) (nonce pl:ByteArray):(cellOf key d slot nonce pl).size=nonce.size+pl.size+16:=by rw [cellOf,ByteArray.size_append,sealA_size]; omega
def sealM (g:Prop) [Decidable g] (key:ByteArray) (d n slot:Int) (nonce pl:ByteArray):ByteArray × Int:=
 if mayZ g n slot≠0 then (ByteArray.empty,mayZ g n slot) else if nonce.size≠12∨pl.size≠32 then (ByteArray.empty,7) else (cellOf key d slot nonce pl,0)
theorem mayZ_zero {g:Prop} [Decidable g] {n slot:Int}:mayZ g n slot=0↔g∧0≤slot∧slot<n:=by
 unfold mayZ
 by_cases h:g
 ·rw [if_neg (by simp [h])]
  by_cases h2:slot<0∨slot ≥ n
  ·rw [if_pos h2]; simp; omega
  ·rw [if_neg h2]; simp [h]; omega
 ·rw [if_pos h]; simp [h]
theorem dep_small {n:Int} (h:dep n≠0):2≤n∧n≤16:=by rcases dep_ne h with rfl | rfl | rfl | rfl <;> decide
theorem Seal2_spec {Q:ByteArray→Int→H→Prop} (wx:Wd hx h [bankC b B]) (tb:Tabs h) (k:∀ h',Keep h h'→Q (sealM (goodS B d n key) key d n slot nonce pl).1 (sealM (goodS B d n key) key d n slot nonce pl).2 h'):
  slab_Slab_Seal (some ⟨b,0,none⟩) d n key slot nonce pl h Q:=by
 unfold slab_Slab_Seal slab_Slab_Seal.g
 have w:=Wd.start h
 have ok:=bank_ok wx
 refine M.new_w w fun b2 h1 w=>?_
 simp only [bs,lb (w.blk 0 rfl)]
 refine may_spec (wx.keeps w.keep) (tb.keep w.keep) fun h2 k2=>?_
 have w:=w.keeps k2
 unfold sealM at k
 by_cases hm:mayZ (goodS B d n key) n slot=0
 ·obtain ⟨⟨hd,hk,hb⟩,hs⟩:=mayZ_zero.1 hm
  have hn:=dep_small hd
  have hb':=BankM.not_bad.1 hb
  have hsm:=ok.small
  rw [if_neg (by simp [hm])] at k
  rw [hm]
  refine cf rfl (M.jn ?_)
  have main:∀ (K:Prop),nonce.size=12→pl.size=32→K→K:=fun K _ _ k=>k
  by_cases h1:nonce.size=12
  ·refine cf (by rw [h1]; rfl) ?_
   by_cases h2:pl.size=32
   ·rw [if_neg (by simp [h1,h2])] at k
    refine cf (by rw [h2]; rfl) ?_
    have hs0:=w.blk 0 rfl
    have z:=withB_size d slot
    have z2:=sealA_size key nonce (withB d slot) pl
    simp only [bs,lb (w.blk 0 rfl)]
    refine with_spec (by omega) (by omega) fun h3 k_=>?_
    have w:=w.keeps k_
    clear k_
    refine M.still_at hs0 (w.blk 0 rfl) ?_
    refine Seal_spec (by assumption) (by assumption) (by omega) (by omega) fun h4 k_=>?_
    have w:=w.keeps k_
    clear k_
    refine ⟨(by simp; omega),?_⟩
    simp only []
    exact k _ w.keep
   ·rw [if_pos (.inr h2)] at k
    exact ct (by rw [bne_iff_ne]; omega) (k _ w.keep)
  ·rw [if_pos (.inl h1)] at k
   exact ct (by rw [bne_iff_ne]; omega) (k _ w.keep)
 ·rw [if_pos hm] at k
  exact ct (by rw [bne_iff_ne]; exact hm) (k _ w.keep)
end
end Go.Proofs.YthegnmanjdlmjaaGreatDoor
namespace Go.Proofs.YthegnmanjdlmjaaGreatDoor
open Go.Sh Go.RowKit
def okI (v:Value):Prop:=∃ n,v = .int .i64 n
theorem keysI:Keys Tryz.prog 3 okI:=keys_int Tryz.underlying3
theorem zeroS:∀ w,(zeroValue 9).run Tryz.prog w = .ok (.string ByteArray.empty) w:=fun w=>by kernel_rfl
def MapR (h:H) (x:Option Nat) (g:Int→Option ByteArray):Prop:=
 (x=none∧∀ k,g k=none)∨∃ b n f,x=some b∧MapIs okI h b f n∧∀ k,f (.int .i64 k)=(g k).map Value.string
theorem MapR.keep {h h':H} {x:Option Nat} {g:Int→Option ByteArray} (m:MapR h x g) (k:Keep h h'):MapR h' x g:=by
 rcases m with m | ⟨b,n,f,h1,h2,h3⟩
 ·exact .inl m
 ·exact .inr ⟨b,n,f,h1,h2.keep k,h3⟩
theorem MapR.nil (h:H):MapR h none fun _=>none:=.inl ⟨rfl,fun _=>rfl⟩
theorem lk2_S {h:H} {x:Option Nat} {g:Int→Option ByteArray} {k:Int} {K:Value→Bool→H→Prop} (m:MapR h x g) (kk:K (.string ((g k).getD ByteArray.empty)) (g k).isSome h):M.lk2 Tryz.prog 108 (.map x) (.int .i64 k) h K:=by
 rcases m with ⟨rfl,hg⟩ | ⟨b,n,f,rfl,hm,hf⟩
 ·rw [hg k] at kk
  refine ⟨3,9,#[],_,Tryz.underlying108,.inl ⟨rfl,rfl⟩,keysI.at ⟨k,rfl⟩ (by simp),?_⟩
  exact ⟨.string ByteArray.empty,zeroS,kk⟩
 ·refine lk2_of Tryz.underlying108 keysI zeroS hm ⟨k,rfl⟩ ?_
  rw [hf k]
  cases hg:g k with
  | none=>rw [hg] at kk; exact kk
  | some p=>rw [hg] at kk; exact kk
def gath (f:Int→ByteArray × Int) (acc:List ByteArray):List Int→List ByteArray × Int
 | []=>(acc,0)
 | x::r=>if (f x).2≠0 then ([],(f x).2) else gath f (acc++[(f x).1]) r
theorem gath_len {f:Int→ByteArray × Int}:∀ {l:List Int} {acc:List ByteArray},(gath f acc l).2=0→(gath f acc l).1.length=acc.length+l.length
 | [],acc,_=>rfl
 | x::r,acc,h=>by
  unfold gath at h ⊢
  by_cases h1:(f x).2≠0
  ·rw [if_pos h1] at h; exact absurd h h1
  ·rw [if_neg h1] at h ⊢
   rw [gath_len h]; simp; omega
theorem gath_all {p:ByteArray→Prop} {f:Int→ByteArray × Int} (hf:∀ x,(f x).2=0→p (f x).1):∀ {l:List Int} {acc:List ByteArray},(∀ q ∈ acc,p q)→∀ q ∈ (gath f acc l).1,p q
 | [],acc,ha=>ha
 | x::r,acc,ha=>by
  unfold gath
  by_cases h1:(f x).2≠0
  ·rw [if_pos h1]; simp
  ·rw [if_neg h1]
   refine gath_all hf fun q hq=>?_
   rcases List.mem_append.1 hq with hq | hq
   ·exact ha q hq
   ·rw [List.mem_singleton.1 hq]; exact hf x (Decidable.not_not.1 h1)
theorem drop_za {xs:List Int} {m:Nat} (h:m<xs.length):xs.drop m=za xs m::xs.drop (m+1):=by rw [za_get h,←List.drop_eq_getElem_cons h]
def pairOf (B:BankM) (d:Int) (g:Int→Option ByteArray) (x:Int):ByteArray × Int:=match g x with
 | some p=>(p,0)
 | none=>B.read d (100+x)
def overM (B:BankM) (d n:Int) (g:Int→Option ByteArray) (top:ByteArray) (slot:Int):List ByteArray × ByteArray × Int:=
 let r:=gath (pairOf B d g) [] (pathN n slot)
 if r.2≠0 then ([],ByteArray.empty,r.2) else (r.1,(follow top slot.toNat r.1).1,(follow top slot.toNat r.1).2)
def BankM.Sm (B:BankM):Prop:=∀ d a,(B.read d a).1.size≤2048
section
variable {hx h:H} {b:Nat} {B:BankM} {d n slot:Int} {key top:ByteArray} {x:Option Nat} {g:Int→Option ByteArray}
theorem pairOf_size (sm:B.Sm) (hg:∀ k p,g k=some p→p.size≤500000) (y:Int):(pairOf B d g y).1.size≤500000:=by
 unfold pairOf
 cases hy:g y with
 | none=>have:=sm d (100+y); simp only; omega
 | some p=>exact hg y p hy
theorem path_le {n s:Int} (hd:dep n≠0) (hs:0≤s∧s<n):∀ x ∈ pathN n s,0≤x∧x≤15:=by
 intro x hx
 rw [pathN,List.mem_map] at hx
 obtain ⟨i,hi,rfl⟩:=hx
 have hi:=List.mem_range.1 hi
 have hn:=dep_small hd
 obtain ⟨q,hq⟩:∃ q,dep n-i=q+1:=⟨dep n-i-1,by omega⟩
 have h1:(n+s).toNat / 2 ^ (dep n-i)≤(n+s).toNat / 2:=by
  rw [hq,Nat.pow_succ,Nat.mul_comm,←Nat.div_div_eq_div_mul]
  exact Nat.div_le_self _ _
 refine ⟨Int.natCast_nonneg _,?_⟩
 generalize (n+s).toNat / 2 ^ (dep n-i)=y at *
 omega
theorem over_spec {Q:Option Addr→Nat→Nat→ByteArray→Int→H→Prop} (wx:Wd hx h [bankC b B]) (mr:MapR h x g) (hd:dep n≠0) (hs:0≤slot∧slot<n) (sm:B.Sm) (hg:∀ k p,g k=some p→p.size≤500000) (tb:Tabs h)
  (k:∀ a c h',Wd h h' [.sl 9 1 a (overM B d n g top slot).1.length c (eS.row (overM B d n g top slot).1)]→Q a (overM B d n g top slot).1.length c (overM B d n g top slot).2.1 (overM B d n g top slot).2.2 h'):
  slab_Slab_over (some ⟨b,0,none⟩) d n key top slot x h Q:=by
 unfold slab_Slab_over slab_Slab_over.g
 have w:=Wd.start h
 refine M.new_w w fun b2 h1 w=>?_
 simp only [bs,Nat.reduceMul,lb (w.blk 0 rfl)]
 refine treePath_spec hd hs (tb.keep w.keep) fun a2 c2 h2 w'=>?_
 have w:=w.join w'
 clear w'
 have hpl:=pathN_len n slot
 have hple:=path_le hd hs
 have hdl:=dep_le n
 have hpow:=dep_pow hd
 have hof:overM B d n g top slot=if (gath (pairOf B d g) [] (pathN n slot)).2≠0 then ([],ByteArray.empty,(gath (pairOf B d g) [] (pathN n slot)).2) else ((gath (pairOf B d g) [] (pathN n slot)).1,(follow top slot.toNat (gath (pairOf B d g) [] (pathN n slot)).1).1,(follow top slot.toNat (gath (pairOf B d g) [] (pathN n slot)).1).2):=rfl
 rw [hof] at k
 clear hof
 have hall:=gath_all (p:=fun q=>q.size≤500000) (f:=pairOf B d g) (fun x _=>pairOf_size sm hg x) (l:=pathN n slot) (acc:=[]) (by simp)
 have hlen0:=@gath_len (pairOf B d g) (pathN n slot) []
 generalize hG:gath (pairOf B d g) [] (pathN n slot)=G at *
 refine M.jn ?_
 refine M.loop_of (I:=fun (p:(Option Addr × Nat × Nat) × Int) h'=>∃ (m:Nat) (ps:List ByteArray),m≤dep n∧p.2=(m:Int)∧p.1.2.1=m∧ps.length=m∧G=gath (pairOf B d g) ps ((pathN n slot).drop m) ∧
   Wd h h' [.blk b2 (.cells #[.pointer (some ⟨b,0,none⟩),.int .i64 d,.int .i64 n,.string key] 37),.sl 3 1 a2 (dep n) c2 (eI.row (pathN n slot)),.sl 9 1 p.1.1 p.1.2.1 p.1.2.2 (eS.row ps)]) (μ:=fun p=>(dep n-p.2).toNat) ⟨0,[],by omega,rfl,rfl,rfl,hG.symm,w.nilsl _ _⟩ ?_
 clear w
 rintro ⟨⟨a3,l3,c3⟩,_⟩ h3 J ⟨m,ps,hm,hi,hl,hps,hg2,w⟩ hJ
 simp only at hi hl w ⊢
 subst hi hl
 by_cases hlt:l3<dep n
 ·refine cdt (by omega) ?_
  refine Ro.ldI (w.ro 1 rfl (by decide)) (by omega) (by omega) ?_
  rw [Int.toNat_natCast]
  have hnd:0≤za (pathN n slot) l3∧za (pathN n slot) l3≤15:=by rw [za_get (by omega)]; exact hple _ (List.getElem_mem _)
  have hg3:G=if (pairOf B d g (za (pathN n slot) l3)).2≠0 then ([],(pairOf B d g (za (pathN n slot) l3)).2) else gath (pairOf B d g) (ps++[(pairOf B d g (za (pathN n slot) l3)).1]) ((pathN n slot).drop (l3+1)):=by
   rw [hg2,drop_za (by omega)]; rfl
  generalize za (pathN n slot) l3=nd at *
  refine lk2_S (mr.keep w.keep) ?_
  rw [str_eq]
  refine M.join_of (fun d' h'=>d'=(pairOf B d g nd).1∧(pairOf B d g nd).2=0∧Wd h h' [.blk b2 (.cells #[.pointer (some ⟨b,0,none⟩),.int .i64 d,.int .i64 n,.string key] 37),.sl 3 1 a2 (dep n) c2 (eI.row (pathN n slot)),.sl 9 1 a3 l3 c3 (eS.row ps)]) (fun J2 hJ2=>?_) ?_
  ·cases hgn:g nd with
   | none=>
    have hpo:pairOf B d g nd=B.read d (100+nd):=by unfold pairOf; rw [hgn]
    rw [hpo] at hJ2 hg3
    have v:IntKind.wrap .i64 (100+nd)=100+nd:=by rw [IntKind.wrap_i64]; omega
    refine ct rfl ?_
    simp only [bs,v,lb (w.blk 0 rfl)]
    refine M.vin ?_
    refine bRead (wx.keeps w.keep) ?_
    by_cases e:(B.read d (100+nd)).2=0
    ·exact cf (by rw [bne_eq_false_iff_eq]; exact e) (hJ2 _ _ ⟨rfl,e,w⟩)
    ·refine ct (by rw [bne_iff_ne]; exact e) ?_
     rw [if_pos e] at hg3
     have e2:G.2=(B.read d (100+nd)).2:=by rw [hg3]
     rw [e2,if_pos e] at k
     exact k none 0 _ (((w.drop (i:=0) rfl).drop (i:=0) rfl).drop (i:=0) rfl |>.nilsl _ _)
   | some p=>
    have hpo:pairOf B d g nd=(p,0):=by unfold pairOf; rw [hgn]
    rw [hpo] at hJ2
    exact cf rfl (hJ2 _ _ ⟨rfl,rfl,w⟩)
  clear w
  rintro _ h4 ⟨rfl,e,w⟩
  rw [if_neg (by rw [e]; simp)] at hg3
  have v1:IntKind.wrap .i64 ((l3:Int)+1)=((l3+1:Nat):Int):=by rw [IntKind.wrap_i64]; omega
  refine Wd.push w 2 rfl rfl rfl (by simp [isPlainCell]) (by omega) (by omega) fun a7 c8 h5 w=>?_
  simp only [v1]
  refine M.vin ?_
  refine hJ _ _ ⟨l3+1,ps++[(pairOf B d g nd).1],by omega,rfl,rfl,by simp [hps],hg3,?_⟩ (by simp only; omega)
  rw [eS.row_app,eS.row_one]
  exact w
 ·refine cdf (by omega) ?_
  have hl:l3=dep n:=by omega
  have hG2:G=(ps,0):=by rw [hg2,List.drop_of_length_le (by omega)]; rfl
  rw [hG2] at k hall
  simp only at k hall
  rw [if_neg (by simp)] at k
  have hsl:slot=(slot.toNat:Int):=by omega
  rw [hsl]
  refine Follow_spec (w.ro 2 rfl (by decide)) (by omega) ?_ hall (tb.keep w.keep) fun h4 k4=>?_
  ·rw [hl]; omega
  have w:=w.keeps k4
  have:=k a3 c3 h4
  simp only [hps] at this
  exact this ((w.drop (i:=0) rfl).drop (i:=0) rfl)
end
end Go.Proofs.YthegnmanjdlmjaaGreatDoor
namespace Go.Proofs.YthegnmanjdlmjaaGreatDoor
open Go.Sh Go.RowKit
def leafT (c:ByteArray):ByteArray:=kindT 0 c
def cellM (key:ByteArray) (d slot:Int) (leaf:ByteArray) (c:ByteArray × Int):ByteArray × Int:=
 if c.2≠0 then (ByteArray.empty,c.2) else if leafT c.1≠leaf then (ByteArray.empty,22) else if c.1=ByteArray.empty then (zerosT 32,0)
 else if c.1.size<12 then (ByteArray.empty,3) else openA key (c.1.extract 0 12) (withB d slot) (c.1.extract 12 c.1.size)
def getG (B:BankM) (key:ByteArray) (d n:Int) (top:ByteArray) (slot:Int):ByteArray × Int:=
 if (overM B d n (fun _=>none) top slot).2.2≠0 then (ByteArray.empty,(overM B d n (fun _=>none) top slot).2.2) else cellM key d slot (overM B d n (fun _=>none) top slot).2.1 (B.read d (120+slot))
def getM (B:BankM) (key:ByteArray) (d n:Int) (top:ByteArray) (slot:Int):ByteArray × Int:=
 if mayZ (goodS B d n key) n slot≠0 then (ByteArray.empty,mayZ (goodS B d n key) n slot) else getG B key d n top slot
section
variable {hx h:H} {b:Nat} {B:BankM} {d n slot:Int} {key top:ByteArray}
theorem Get_spec {Q:ByteArray→Int→H→Prop} (wx:Wd hx h [bankC b B]) (sm:B.Sm) (tb:Tabs h) (k:∀ h',Keep h h'→Q (getM B key d n top slot).1 (getM B key d n top slot).2 h'):slab_Slab_Get (some ⟨b,0,none⟩) d n key top slot h Q:=by
 unfold slab_Slab_Get slab_Slab_Get.g
 have w:=Wd.start h
 have ok:=bank_ok wx
 refine M.new_w w fun b2 h1 w=>?_
 simp only [bs,lb (w.blk 0 rfl)]
 refine may_spec (wx.keeps w.keep) (tb.keep w.keep) fun h2 k2=>?_
 have w:=w.keeps k2
 by_cases hm:mayZ (goodS B d n key) n slot=0
 ·obtain ⟨⟨hd,hk,hb⟩,hs⟩:=mayZ_zero.1 hm
  have hn:=dep_small hd
  have hb':=BankM.not_bad.1 hb
  have hsm:=ok.small
  have e1:getM B key d n top slot=getG B key d n top slot:=if_neg (by simp [hm])
  rw [e1] at k
  clear e1
  rw [hm]
  refine cf rfl ?_
  simp only [bs,lb (w.blk 0 rfl)]
  refine over_spec (wx.keeps w.keep) (MapR.nil _) hd hs sm (by simp) (tb.keep w.keep) fun a3 c3 h3 w'=>?_
  have w:=w.join w'
  clear w'
  have e1:getG B key d n top slot=if (overM B d n (fun _=>none) top slot).2.2≠0 then (ByteArray.empty,(overM B d n (fun _=>none) top slot).2.2) else cellM key d slot (overM B d n (fun _=>none) top slot).2.1 (B.read d (120+slot)):=rfl
  rw [e1] at k
  clear e1
  generalize overM B d n (fun _=>none) top slot=o at *
  by_cases ho:o.2.2=0
  ·rw [if_neg (by simp [ho])] at k
   refine cf (by rw [bne_eq_false_iff_eq]; exact ho) ?_
   have v:IntKind.wrap .i64 (120+slot)=120+slot:=by rw [IntKind.wrap_i64]; omega
   simp only [bs,v,lb (w.blk 0 rfl)]
   refine M.vin ?_
   refine bRead (wx.keeps w.keep) ?_
   have hcs:=sm d (120+slot)
   generalize B.read d (120+slot)=c at *
   unfold cellM at k
   by_cases h0:c.2=0
   ·rw [if_neg (by simp [h0])] at k
    refine cf (by rw [bne_eq_false_iff_eq]; exact h0) ?_
    refine Leaf_spec (by omega) (tb.keep w.keep) fun h4 k_=>?_
    have w:=w.keeps k_
    clear k_
    have hlf:kindT 0 c.1=leafT c.1:=rfl
    rw [hlf,strEq_dec]
    by_cases h1:leafT c.1=o.2.1
    ·rw [if_neg (by simp [h1])] at k
     refine cf (by simp [h1]) ?_
     rw [strEq_dec]
     by_cases h2:c.1=ByteArray.empty
     ·rw [if_pos h2] at k
      refine cdt h2 ?_
      refine Rep0_spec (by omega) (by omega) fun h5 k_=>?_
      have w:=w.keeps k_
      clear k_
      exact k _ w.keep
     ·rw [if_neg h2] at k
      refine cdf h2 ?_
      by_cases h3:c.1.size<12
      ·rw [if_pos h3] at k
       exact cdt (by omega) (k _ w.keep)
      ·rw [if_neg h3] at k
       refine cdf (by omega) ?_
       have hs0:=w.blk 0 rfl
       have z:=withB_size d slot
       have z1:(c.1.extract (Int.toNat 0) (Int.toNat 12)).size=12:=by rw [ByteArray.size_extract]; show min 12 _ - 0=12; omega
       have z2:(c.1.extract (Int.toNat 12) c.1.size).size=c.1.size-12:=by rw [ByteArray.size_extract]; show min _ _ - 12=_; omega
       simp only [bs,lb (w.blk 0 rfl)]
       refine ⟨(by omega),(by omega),(by omega),?_⟩
       simp only []
       refine ⟨(by omega),(by omega),(by omega),?_⟩
       simp only [Int.toNat_natCast]
       refine with_spec (by omega) (by omega) fun h6 k_=>?_
       have w:=w.keeps k_
       clear k_
       refine M.still_at hs0 (w.blk 0 rfl) ?_
       refine Open_spec (by omega) (by omega) (by omega) (by omega) fun h7 k_=>?_
       have w:=w.keeps k_
       clear k_
       exact k _ w.keep
    ·rw [if_pos h1] at k
     exact ct (by simp [h1]) (k _ w.keep)
   ·rw [if_pos h0] at k
    exact ct (by rw [bne_iff_ne]; exact h0) (k _ w.keep)
  ·rw [if_pos ho] at k
   exact ct (by rw [bne_iff_ne]; exact ho) (k _ w.keep)
 ·have e1:getM B key d n top slot=(ByteArray.empty,mayZ (goodS B d n key) n slot):=if_pos hm
  rw [e1] at k
  exact ct (by rw [bne_iff_ne]; exact hm) (k _ w.keep)
end
end Go.Proofs.YthegnmanjdlmjaaGreatDoor
namespace Go.Proofs.YthegnmanjdlmjaaGreatDoor
open Go.Sh Go.RowKit
def badM (B:BankM) (key:ByteArray) (d n:Int) (top:ByteArray):List Int:=
 if ¬ goodS B d n key then [] else ((List.range n.toNat).filter fun i=>(getM B key d n top (i:Nat)).2≠0).map fun i=>((i:Nat):Int)
section
variable {hx h:H} {b:Nat} {B:BankM} {d n slot:Int} {key top:ByteArray}
theorem Bad_spec {Q:Option Addr→Nat→Nat→H→Prop} (wx:Wd hx h [bankC b B]) (sm:B.Sm) (tb:Tabs h) (k:∀ a c h',Wd h h' [.sl 3 1 a (badM B key d n top).length c (eI.row (badM B key d n top))]→Q a (badM B key d n top).length c h'):
  slab_Slab_Bad (some ⟨b,0,none⟩) d n key top h Q:=by
 unfold slab_Slab_Bad slab_Slab_Bad.g
 have w:=Wd.start h
 refine M.new_w w fun b2 h1 w=>?_
 simp only [bs,Nat.reduceMul,lb (w.blk 0 rfl)]
 refine good_spec (wx.keeps w.keep) (tb.keep w.keep) fun h2 k2=>?_
 have w:=w.keeps k2
 unfold badM at k
 by_cases g:goodS B d n key
 ·rw [if_neg (by simp [g])] at k
  have hn:=dep_small g.1
  refine cf (by simp [g]) ?_
  simp only [bs,lb (w.blk 0 rfl)]
  refine M.loop_of (I:=fun (p:(Option Addr × Nat × Nat) × Int) h'=>∃ m:Nat,m≤n.toNat∧p.2=(m:Int)∧p.1.2.1=(((List.range m).filter fun i=>(getM B key d n top (i:Nat)).2≠0).map fun i=>((i:Nat):Int)).length ∧
   Wd h h' [.blk b2 (.cells #[.pointer (some ⟨b,0,none⟩),.int .i64 d,.int .i64 n,.string key] 37),.sl 3 1 p.1.1 p.1.2.1 p.1.2.2 (eI.row (((List.range m).filter fun i=>(getM B key d n top (i:Nat)).2≠0).map fun i=>((i:Nat):Int)))]) (μ:=fun p=>(n-p.2).toNat) ⟨0,by omega,rfl,rfl,w.nilsl _ _⟩ ?_
  clear w
  rintro ⟨⟨a3,l3,c3⟩,_⟩ h3 J ⟨m,hm,hi,hl,w⟩ hJ
  simp only at hi hl w ⊢
  subst hi
  have hlm:l3≤m:=by
   rw [hl,List.length_map]
   exact Nat.le_trans (List.length_filter_le _ _) (by simp)
  by_cases hlt:(m:Int)<n
  ·refine cdt hlt ?_
   have v1:IntKind.wrap .i64 ((m:Int)+1)=((m+1:Nat):Int):=by rw [IntKind.wrap_i64]; omega
   simp only [bs,lb (w.blk 0 rfl)]
   refine Get_spec (wx.keeps w.keep) sm (tb.keep w.keep) fun h4 k4=>?_
   have w:=w.keeps k4
   by_cases e:(getM B key d n top (m:Nat)).2=0
   ·refine cf (by rw [bne_eq_false_iff_eq]; exact e) (M.vis _ v1 ?_)
    have er:(List.range (m+1)).filter (fun i=>(getM B key d n top (i:Nat)).2≠0)=(List.range m).filter fun i=>(getM B key d n top (i:Nat)).2≠0:=by
     rw [List.range_succ,List.filter_append,List.filter_cons_of_neg (by simpa using e)]; simp
    refine hJ _ _ ⟨m+1,by omega,rfl,by rw [er]; exact hl,by rw [er]; exact w⟩ (by simp only; omega)
   ·refine ct (by rw [bne_iff_ne]; exact e) ?_
    have er:(List.range (m+1)).filter (fun i=>(getM B key d n top (i:Nat)).2≠0)=((List.range m).filter fun i=>(getM B key d n top (i:Nat)).2≠0)++[m]:=by
     rw [List.range_succ,List.filter_append,List.filter_cons_of_pos (by simpa using e)]; rfl
    refine Wd.push w 1 rfl rfl rfl (by simp [isPlainCell]) (by omega) (by omega) fun a7 c8 h5 w=>?_
    simp only [v1]
    refine M.vin ?_
    refine hJ _ _ ⟨m+1,by omega,rfl,by rw [er,List.map_append,List.length_append,←hl]; rfl,?_⟩ (by simp only; omega)
    rw [er,List.map_append,eI.row_app]
    exact w
  ·refine cdf hlt ?_
   obtain rfl:m=n.toNat:=by omega
   subst hl
   exact k _ _ _ (w.drop (i:=0) rfl)
 ·rw [if_pos g] at k
  exact ct (by simp [g]) (k none 0 _ ((w.drop (i:=0) rfl).nilsl _ _))
end
structure Room (B:BankM) (k:Nat):Prop where
 steps:B.steps+k<1000000000
 left:B.left≤9223372036854775807
 waits:∀ D ∈ B.ds,D.W.length+k<1000000000
theorem Room.mono {B:BankM} {k m:Nat} (r:Room B k) (hm:m≤k):Room B m:=⟨by have:=r.steps; omega,r.left,fun D hD=>by have:=r.waits D hD; omega⟩
theorem Room.disk {B:BankM} {k:Nat} (r:Room B k) (i:Int):(B.disk i).W.length<1000000000:=by
 unfold BankM.disk
 rw [List.getD_eq_getElem?_getD]
 cases e:B.ds[i.toNat]? with
 | none=>simp
 | some D=>have:=r.waits D (List.mem_of_getElem? e); simp only [Option.getD_some]; omega
theorem spend_le (B:BankM) (ok:0≤B.left):B.spend.2.steps≤B.steps+1∧B.spend.2.left≤B.left:=by
 unfold BankM.spend
 split
 ·exact ⟨show B.steps≤B.steps+1 by omega,Int.le_refl _⟩
 ·refine ⟨Int.le_refl _,?_⟩
  simp only
  split <;> omega
theorem room_set {B B1:BankM} {k:Nat} {i:Int} {D':DiskM} (r:Room B (k+1)) (h1:B1.ds=B.ds) (h2:B1.steps≤B.steps+1) (h3:B1.left≤B.left) (hD:D'.W.length+k<1000000000):Room (B1.set i D') k:=by
 refine ⟨by have:=r.steps; simp only [BankM.set]; omega,by have:=r.left; simp only [BankM.set]; omega,fun D hm=>?_⟩
 simp only [BankM.set,h1] at hm
 rcases List.mem_or_eq_of_mem_set hm with hm | rfl
 ·have:=r.waits D hm; omega
 ·exact hD
theorem room_write {B:BankM} {k:Nat} (ok:0≤B.left) (r:Room B (k+1)) (i at_:Int) (s:ByteArray):Room (B.write i at_ s).2 k:=by
 unfold BankM.write
 split
 ·exact r.mono (by omega)
 ·rename_i hb
  split
  ·exact r.mono (by omega)
  ·have h1:=r.waits _ (disk_mem hb)
   have h2:=(B.disk i).write_len at_ s
   exact room_set r B.spend_ds (spend_le B ok).1 (spend_le B ok).2 (by omega)
theorem room_flush {B:BankM} {k:Nat} (ok:0≤B.left) (r:Room B (k+1)) (i:Int):Room (B.flush i).2 k:=by
 unfold BankM.flush
 split
 ·exact r.mono (by omega)
 ·rename_i hb
  split
  ·exact r.mono (by omega)
  ·have h1:=r.waits _ (disk_mem hb)
   have h2:=(B.disk i).flush_len
   exact room_set r B.spend_ds (spend_le B ok).1 (spend_le B ok).2 (by omega)
def writesM (B:BankM) (d:Int):List (Int × ByteArray)→Int × BankM
 | []=>B.flush d
 | p::r=>if (B.write d p.1 p.2).1≠0 then B.write d p.1 p.2 else writesM (B.write d p.1 p.2).2 d r
def applyM (B:BankM) (key:ByteArray) (d n:Int) (l:List (Int × ByteArray)):Int × BankM:=if ¬ goodS B d n key then (4,B) else writesM B d l
theorem drop_pa {xs:List (Int × ByteArray)} {m:Nat} (h:m<xs.length):xs.drop m=pa xs m::xs.drop (m+1):=by rw [pa_get h,←List.drop_eq_getElem_cons h]
section
variable {h0 h:H} {b:Nat} {B:BankM} {d n slot:Int} {key top:ByteArray} {xs:List (Int × ByteArray)} {a:Option Addr} {l c:Nat}
theorem Apply_spec {Q:Int→H→Prop} (w0:Wd h0 h [bankC b B]) (f:Ro eP h0 a l xs) (rm:Room B (xs.length+1)) (tb:Tabs h0) (k:∀ h',Wd h0 h' [bankC b (applyM B key d n xs).2]→Q (applyM B key d n xs).1 h'):slab_Slab_Apply (some ⟨b,0,none⟩) d n key a l c h Q:=by
 unfold slab_Slab_Apply slab_Slab_Apply.g
 have w:=w0
 have hlen:=f.len
 have ok:=bank_ok w0
 have hl9:l<1000000000:=by have:=rm.steps; have:=ok.st0; omega
 refine M.new_w w fun b2 h1 w=>?_
 simp only [bs,lb (w.blk 1 rfl)]
 obtain ⟨hx,k0,k1,wx,wr,_⟩:=w.on (i:=0) rfl
 refine good_spec wx (tb.keep w.keep) fun h2 k2=>?_
 have w:=w.keeps k2
 unfold applyM at k
 by_cases g:goodS B d n key
 ·rw [if_neg (by simp [g])] at k
  refine cf (by simp [g]) (M.jn ?_)
  refine M.loop_of (I:=fun (i:Int) h'=>∃ (m:Nat) (B':BankM),m≤l∧i=(m:Int)∧Room B' (xs.length-m+1)∧writesM B d xs=writesM B' d (xs.drop m) ∧
   Wd h0 h' [bankC b B',.blk b2 (.cells #[.pointer (some ⟨b,0,none⟩),.int .i64 d,.int .i64 n,.string key] 37)]) (μ:=fun i=>(l-i).toNat) ⟨0,B,by omega,rfl,rm,rfl,w⟩ ?_
  clear w wx wr
  rintro _ h3 J ⟨m,B',hm,rfl,rm',hw,w⟩ hJ
  by_cases hlt:m<l
  ·refine cdt (by omega) ?_
   have v1:IntKind.wrap .i64 ((m:Int)+1)=((m+1:Nat):Int):=by rw [IntKind.wrap_i64]; omega
   refine Ro.ldP (f.keep w.keep) (by omega) (by omega) ?_
   refine M.new_w w fun b5 h4 w=>?_
   refine ⟨(rfl),?_⟩
   refine M.puts_w0 w 2 rfl (by simp [isPlainCell]) (by simp) fun h6 w=>?_
   simp only [bs,Int.toNat_natCast] at w
   simp only [bs,lb (w.blk 1 rfl),lb (w.blk 2 rfl)]
   obtain ⟨hx,k0,k1,wx,wr,back⟩:=w.on (i:=0) rfl
   have ok':=bank_ok wx
   rw [drop_pa (by omega),writesM] at hw
   refine bWrite wx (by have:=rm'.steps; omega) rm'.left (rm'.disk d) fun h7 w1=>?_
   have w:=back _ _ w1
   simp only [bs] at w
   by_cases e:(B'.write d (pa xs m).1 (pa xs m).2).1=0
   ·rw [if_neg (by simp [e])] at hw
    refine cf (by rw [bne_eq_false_iff_eq]; exact e) (M.vis _ v1 ?_)
    exact hJ _ _ ⟨m+1,_,by omega,rfl,(room_write ok'.left rm' d _ _).mono (by omega),hw,w.drop (i:=2) rfl⟩ (by omega)
   ·rw [if_pos e] at hw
    rw [hw] at k
    exact ct (by rw [bne_iff_ne]; exact e) (k _ ((w.drop (i:=1) rfl).drop (i:=1) rfl))
  ·refine cdf (by omega) ?_
   simp only [bs,lb (w.blk 1 rfl)]
   obtain ⟨hx,k0,k1,wx,wr,back⟩:=w.on (i:=0) rfl
   rw [List.drop_of_length_le (by omega),writesM] at hw
   rw [hw] at k
   refine bFlush wx (by have:=rm'.steps; omega) rm'.left fun h7 w1=>?_
   have w:=back _ _ w1
   exact k _ (w.drop (i:=1) rfl)
 ·rw [if_pos g] at k
  exact ct (by simp [g]) (k _ (w.drop (i:=1) rfl))
end
end Go.Proofs.YthegnmanjdlmjaaGreatDoor
namespace Go.Proofs.YthegnmanjdlmjaaGreatDoor
open Go.Sh Go.RowKit
section
variable {h:H} {n:Int} {s:ByteArray}
theorem Mul1_spec {Q:Int→Int→H→Prop} (hd:dep n≠0) (k:Q 0 n h):math_bits_Mul 1 n h Q:=by
 unfold math_bits_Mul math_bits_Mul.g
 unfold math_bits_Mul64
 rcases dep_ne hd with rfl | rfl | rfl | rfl
 ·refine M.vis (1) (by decide) ?_
  refine ⟨(by omega),?_⟩
  refine M.vis (0) (by decide) ?_
  refine M.vis (2) (by decide) ?_
  refine ⟨(by omega),?_⟩
  refine M.vis (0) (by decide) ?_
  refine M.vis (2) (by decide) ?_
  refine M.vis (0) (by decide) ?_
  refine ⟨(by omega),?_⟩
  refine M.vis (0) (by decide) ?_
  refine M.vis (0) (by decide) ?_
  refine M.vis (0) (by decide) ?_
  refine ⟨(by omega),?_⟩
  refine M.vis (0) (by decide) ?_
  refine M.vis (0) (by decide) ?_
  refine M.vis (0) (by decide) ?_
  refine M.vis (0) (by decide) ?_
  refine M.vis (0) (by decide) ?_
  refine ⟨(by omega),?_⟩
  refine M.vis (0) (by decide) ?_
  refine M.vis (0) (by decide) ?_
  refine M.vis (2) (by decide) ?_
  exact k
 ·refine M.vis (1) (by decide) ?_
  refine ⟨(by omega),?_⟩
  refine M.vis (0) (by decide) ?_
  refine M.vis (4) (by decide) ?_
  refine ⟨(by omega),?_⟩
  refine M.vis (0) (by decide) ?_
  refine M.vis (4) (by decide) ?_
  refine M.vis (0) (by decide) ?_
  refine ⟨(by omega),?_⟩
  refine M.vis (0) (by decide) ?_
  refine M.vis (0) (by decide) ?_
  refine M.vis (0) (by decide) ?_
  refine ⟨(by omega),?_⟩
  refine M.vis (0) (by decide) ?_
  refine M.vis (0) (by decide) ?_
  refine M.vis (0) (by decide) ?_
  refine M.vis (0) (by decide) ?_
  refine M.vis (0) (by decide) ?_
  refine ⟨(by omega),?_⟩
  refine M.vis (0) (by decide) ?_
  refine M.vis (0) (by decide) ?_
  refine M.vis (4) (by decide) ?_
  exact k
 ·refine M.vis (1) (by decide) ?_
  refine ⟨(by omega),?_⟩
  refine M.vis (0) (by decide) ?_
  refine M.vis (8) (by decide) ?_
  refine ⟨(by omega),?_⟩
  refine M.vis (0) (by decide) ?_
  refine M.vis (8) (by decide) ?_
  refine M.vis (0) (by decide) ?_
  refine ⟨(by omega),?_⟩
  refine M.vis (0) (by decide) ?_
  refine M.vis (0) (by decide) ?_
  refine M.vis (0) (by decide) ?_
  refine ⟨(by omega),?_⟩
  refine M.vis (0) (by decide) ?_
  refine M.vis (0) (by decide) ?_
  refine M.vis (0) (by decide) ?_
  refine M.vis (0) (by decide) ?_
  refine M.vis (0) (by decide) ?_
  refine ⟨(by omega),?_⟩
  refine M.vis (0) (by decide) ?_
  refine M.vis (0) (by decide) ?_
  refine M.vis (8) (by decide) ?_
  exact k
 ·refine M.vis (1) (by decide) ?_
  refine ⟨(by omega),?_⟩
  refine M.vis (0) (by decide) ?_
  refine M.vis (16) (by decide) ?_
  refine ⟨(by omega),?_⟩
  refine M.vis (0) (by decide) ?_
  refine M.vis (16) (by decide) ?_
  refine M.vis (0) (by decide) ?_
  refine ⟨(by omega),?_⟩
  refine M.vis (0) (by decide) ?_
  refine M.vis (0) (by decide) ?_
  refine M.vis (0) (by decide) ?_
  refine ⟨(by omega),?_⟩
  refine M.vis (0) (by decide) ?_
  refine M.vis (0) (by decide) ?_
  refine M.vis (0) (by decide) ?_
  refine M.vis (0) (by decide) ?_
  refine M.vis (0) (by decide) ?_
  refine ⟨(by omega),?_⟩
  refine M.vis (0) (by decide) ?_
  refine M.vis (0) (by decide) ?_
  refine M.vis (16) (by decide) ?_
  exact k
theorem splice_list (xs vs:List Value) (o:Nat) (h:o+vs.length≤xs.length):splice xs.toArray o vs=(xs.take o++vs++xs.drop (o+vs.length)).toArray:=by
 apply Array.ext_getElem?
 intro x
 rw [splice_get _ _ _ (by simpa using h)]
 simp only [List.getElem?_toArray]
 by_cases hx:o≤x∧x<o+vs.length
 ·rw [if_pos hx,List.getElem?_append_left (by simp; omega),List.getElem?_append_right (by simp; omega)]
  congr 1; simp; omega
 ·rw [if_neg hx]
  by_cases h1:x<o
  ·rw [List.getElem?_append_left (by simp; omega),List.getElem?_append_left (by simp; omega),List.getElem?_take,if_pos h1]
  ·rw [List.getElem?_append_right (by simp; omega),List.getElem?_drop]
   congr 1; simp; omega
def repS (s:ByteArray) (d n:Nat):List Value:=List.replicate d (.string s)++List.replicate (n-d) (.string ByteArray.empty)
theorem repS_len (s:ByteArray) (d n:Nat) (h:d≤n):(repS s d n).length=n:=by simp [repS]; omega
theorem repS_copy (s:ByteArray) (d n m:Nat) (h:d+m≤n):splice (repS s d n).toArray d (List.replicate m (.string s))=(repS s (d+m) n).toArray:=by
 rw [splice_list _ _ _ (by rw [repS_len _ _ _ (by omega),List.length_replicate]; exact h)]
 congr 1
 have e1:(repS s d n).take d=List.replicate d (.string s):=by rw [repS,List.take_append_of_le_length (by simp),List.take_of_length_le (by simp)]
 have e2:(repS s d n).drop (d+(List.replicate m (Value.string s)).length)=List.replicate (n-(d+m)) (.string ByteArray.empty):=by
  rw [repS,List.drop_append,List.drop_of_length_le (by simp),List.nil_append,List.drop_replicate]
  congr 1; simp; omega
 rw [e1,e2,List.replicate_append_replicate,repS]
theorem repS_take (s:ByteArray) (d n m:Nat) (h:m≤d):((repS s d n).drop 0).take m=List.replicate m (.string s):=by
 rw [List.drop_zero,repS,List.take_append_of_le_length (by simpa using h),List.take_replicate,Nat.min_eq_left h]
theorem Repeat1_spec {b:Nat} {f:Nat × Nat} {Q:Option Addr→Nat→Nat→H→Prop} (hb:h b=some (.cells #[.string s] 9 f)) (hd:dep n≠0) (k:∀ a c h',Wd h h' [.sl 9 1 a n.toNat c (eS.row (List.replicate n.toNat s))]→Q a n.toNat c h'):
  slices_Repeatstring_string (some ⟨b,0,none⟩) 1 1 n h Q:=by
 unfold slices_Repeatstring_string slices_Repeatstring_string.g
 have w:=Wd.start h
 have hn:=dep_small hd
 refine M.jn (cdf (by omega) (M.vis 1 rfl (M.vis n (u64' (by omega) (by omega)) ?_)))
 refine Mul1_spec hd ?_
 refine M.jn ?_
 refine M.jn ?_
 refine cdf (by omega) ?_
 refine cdf (by omega) ?_
 refine M.vis n (i64' (by omega) (by omega)) ?_
 refine M.mk_w w (by omega) (by omega) (by omega) (by omega) fun b2 h2 w=>?_
 obtain ⟨N,rfl⟩:=Int.eq_ofNat_of_zero_le (show 0≤n by omega)
 simp only [Int.toNat_natCast] at w k ⊢
 have e0:zerosOf [Value.string ByteArray.empty] N=List.replicate N (.string ByteArray.empty):=by rw [zs.1,eS_row,List.map_replicate]
 rw [e0] at w
 rw [Nat.min_eq_left (show 1≤N by omega)]
 refine M.cellsOf_at (w.keep _ _ hb) (by simp) ?_
 have ec:splice (List.replicate N (Value.string ByteArray.empty)).toArray 0 ((((#[Value.string s]:Array Value).toList).drop 0).take (1*1))=(repS s 1 N).toArray:=by
  have:=repS_copy s 0 N 1 (by omega)
  have e:repS s 0 N=List.replicate N (.string ByteArray.empty):=by simp [repS]
  rw [e] at this
  exact this
 refine M.copy_w w 0 rfl (by simp [isPlainCell]) (by simp; omega) fun h3 w=>?_
 simp only [List.nil_append,List.set_cons_zero] at w
 rw [ec] at w
 refine M.loop_of (I:=fun (i:Int) h'=>∃ d:Nat,1≤d∧d≤N∧i=(d:Int)∧Wd h h' [.blk b2 (.cells (repS s d N).toArray 9)]) (μ:=fun i=>(N-i).toNat) ⟨1,by omega,by omega,rfl,w⟩ ?_
 clear w
 rintro _ h4 J ⟨d,d1,d2,rfl,w⟩ hJ
 by_cases hlt:d<N
 ·refine cdt (by omega) ?_
  refine M.sub_in d N rfl rfl (by omega) (by omega) (by omega) ?_
  refine M.sub0 (by omega) (by omega) ?_
  simp only [Int.toNat_natCast,Nat.zero_add,Nat.mul_one]
  obtain ⟨m,hm⟩:∃ m,min d (N-d)=m:=⟨_,rfl⟩
  rw [hm]
  refine M.cellsOf_at (w.blk 0 rfl) (by rw [List.size_toArray,repS_len _ _ _ d2]; omega) ?_
  rw [List.toList_toArray,repS_take _ _ _ _ (by omega)]
  refine M.copy_w w 0 rfl (by simp [isPlainCell]) (by rw [List.size_toArray,repS_len _ _ _ d2,List.length_replicate]; omega) fun h5 w=>?_
  rw [repS_copy _ _ _ _ (by omega)] at w
  refine M.vis ((d+m:Nat):Int) (by rw [IntKind.wrap_i64]; omega) ?_
  exact hJ _ _ ⟨d+m,by omega,by omega,rfl,w⟩ (by omega)
 ·refine cdf (by omega) ?_
  obtain rfl:d=N:=by omega
  have hcs:(repS s d d).toArray=(eS.row (List.replicate d s)).toArray:=by
   rw [eS_row,List.map_replicate,repS,Nat.sub_self,List.replicate_zero,List.append_nil]
  have w:=w.toSl (E:=eS) 0 rfl hcs List.length_replicate
  exact k _ _ _ w
end
def blankL (n:Int):List ByteArray:=List.replicate n.toNat (leafT ByteArray.empty)
def blankW (n:Int):List (Int × ByteArray):=((List.range (n.toNat-1)).map fun i=>(100+((i+1:Nat):Int),pairD (blankL n) (i+1)))++(List.range n.toNat).map fun i=>(120+((i:Nat):Int),ByteArray.empty)
def blankT (n:Int):ByteArray:=nodeD (blankL n) 1
theorem blankL_len (n:Int):(blankL n).length=n.toNat:=by simp [blankL]
theorem blankL_size (n:Int):∀ p ∈ blankL n,p.size=32:=by
 intro p hp
 rw [(List.mem_replicate.1 hp).2]
 exact kindT_size _ _
section
variable {hx h:H} {b:Nat} {B:BankM} {d n slot:Int} {key top:ByteArray}
theorem Blank_bad {Q:Option Addr→Nat→Nat→ByteArray→Int→H→Prop} (wx:Wd hx h [bankC b B]) (g:¬ goodS B d n key) (tb:Tabs h) (k:∀ h',Keep h h'→Q none 0 0 ByteArray.empty 4 h'):slab_Slab_Blank (some ⟨b,0,none⟩) d n key h Q:=by
 unfold slab_Slab_Blank slab_Slab_Blank.g
 have w:=Wd.start h
 refine M.new_w w fun b2 h1 w=>?_
 simp only [bs,Nat.reduceMul,lb (w.blk 0 rfl)]
 refine good_spec (wx.keeps w.keep) (tb.keep w.keep) fun h2 k2=>?_
 exact ct (by simp [g]) (k _ (w.keep.trans k2))
theorem Blank_spec {Q:Option Addr→Nat→Nat→ByteArray→Int→H→Prop} (wx:Wd hx h [bankC b B]) (g:goodS B d n key) (tb:Tabs h) (k:∀ a c h',Wd h h' [.sl 116 2 a (blankW n).length c (eP.row (blankW n))]→Q a (blankW n).length c (blankT n) 0 h'):slab_Slab_Blank (some ⟨b,0,none⟩) d n key h Q:=by
 unfold slab_Slab_Blank slab_Slab_Blank.g
 have w:=Wd.start h
 have hn:=dep_small g.1
 refine M.new_w w fun b2 h1 w=>?_
 simp only [bs,Nat.reduceMul,lb (w.blk 0 rfl)]
 refine good_spec (wx.keeps w.keep) (tb.keep w.keep) fun h2 k2=>?_
 have w:=w.keeps k2
 refine cf (by simp [g]) ?_
 have hs0:=w.blk 0 rfl
 have esz:ByteArray.empty.size=0:=rfl
 simp only [bs,lb (w.blk 0 rfl)]
 refine Leaf_spec (by omega) (tb.keep w.keep) fun h3 k_=>?_
 have w:=w.keeps k_
 clear k_
 refine M.still_at hs0 (w.blk 0 rfl) ?_
 refine M.new_k w fun b5 h4 kk6 w=>?_
 refine M.still_at hs0 (w.blk 0 rfl) ?_
 refine Repeat1_spec (w.blk 1 rfl) g.1 fun a3 c3 h5 w'=>?_
 have w:=w.join w'
 clear w'
 have hN:n=(n.toNat:Int):=by omega
 have eb:eS.row (List.replicate n.toNat (kindT 0 ByteArray.empty))=eS.row (blankL n):=rfl
 rw [eb] at w
 have hdN:dep (n.toNat:Int)≠0:=by rw [←hN]; exact g.1
 refine Build_spec (w.ro 2 rfl (by decide)) hdN (blankL_size n) (tb.keep w.keep) fun a4 c4 h6 w'=>?_
 have w:=w.join w'
 clear w'
 have hbl:(buildP (blankL n)).length=n.toNat:=by simp [buildP,blankL_len]
 have w:=((w.drop (i:=1) rfl).drop (i:=1) rfl)
 have hat:∀ i,0<i→i<n.toNat→sa (buildP (blankL n)) i=pairD (blankL n) i:=by
  intro i h0 h1
  rw [buildP,sa_range _ (by rw [blankL_len]; exact h1),if_neg (by omega)]
 have htop:nodeD (blankL n) 1=blankT n:=rfl
 rw [htop]
 generalize hW1:(fun i:Nat=>((100+((i+1:Nat):Int),pairD (blankL n) (i+1)):Int × ByteArray))=W1 at *
 generalize hW2:(fun i:Nat=>((120+((i:Nat):Int),ByteArray.empty):Int × ByteArray))=W2 at *
 have hbw:blankW n=(List.range (n.toNat-1)).map W1++(List.range n.toNat).map W2:=by rw [blankW,←hW1,←hW2]
 rw [hbw] at k
 generalize blankT n=tp at *
 generalize buildP (blankL n)=bp at *
 generalize hNN:n.toNat=N at *
 refine M.jn ?_
 refine M.loop_of (I:=fun (p:(Option Addr × Nat × Nat) × Int) h'=>∃ m:Nat,m+1≤N∧p.2=((m+1:Nat):Int)∧p.1.2.1=m ∧
   Wd h h' [.blk b2 (.cells #[.pointer (some ⟨b,0,none⟩),.int .i64 d,.int .i64 n,.string key] 37),.sl 9 1 a4 N c4 (eS.row bp),.sl 116 2 p.1.1 p.1.2.1 p.1.2.2 (eP.row ((List.range m).map W1))]) (μ:=fun p=>(N-p.2).toNat) ⟨0,by omega,rfl,rfl,w.nilsl _ _⟩ ?_
 clear w
 rintro ⟨⟨a5,l5,c5⟩,_⟩ h7 J ⟨m,hm,hi,hl,w⟩ hJ
 simp only at hi hl w ⊢
 subst hi hl
 simp only [bs,lb (w.blk 0 rfl)]
 by_cases hlt:l5+1<N
 ·refine cdt (by omega) ?_
  have v1:IntKind.wrap .i64 (((l5+1:Nat):Int)+1)=((l5+1+1:Nat):Int):=by rw [IntKind.wrap_i64]; omega
  have v2:IntKind.wrap .i64 (100+((l5+1:Nat):Int))=100+((l5+1:Nat):Int):=by rw [IntKind.wrap_i64]; omega
  have ha:=hat (l5+1) (by omega) hlt
  simp only [v1,v2]
  refine M.vin ?_
  refine Ro.ldS (w.ro 1 rfl (by decide)) (by omega) (by omega) ?_
  refine Wd.push w 2 rfl rfl rfl (by simp [isPlainCell]) (by omega) (by omega) fun a10 c11 h8 w=>?_
  refine M.vin ?_
  simp only [Int.toNat_natCast,ha] at w
  refine hJ _ _ ⟨l5+1,by omega,rfl,rfl,?_⟩ (by simp only; omega)
  rw [List.range_succ,List.map_append,eP.row_app]
  have:eP.row (List.map W1 [l5])=[.int .i64 (100+((l5+1:Nat):Int)),.string (pairD (blankL n) (l5+1))]:=by rw [←hW1]; rfl
  rw [this]
  exact w
 ·refine cdf (by omega) ?_
  have hl5:l5=N-1:=by omega
  rw [←hl5] at k
  clear hJ J
  refine M.jn ?_
  refine M.loop_of (I:=fun (p:(Option Addr × Nat × Nat) × Int) h'=>∃ m:Nat,m≤N∧p.2=(m:Int)∧p.1.2.1=l5+m ∧
   Wd h h' [.blk b2 (.cells #[.pointer (some ⟨b,0,none⟩),.int .i64 d,.int .i64 n,.string key] 37),.sl 9 1 a4 N c4 (eS.row bp),.sl 116 2 p.1.1 p.1.2.1 p.1.2.2 (eP.row ((List.range l5).map W1++(List.range m).map W2))]) (μ:=fun p=>(N-p.2).toNat) ⟨0,by omega,rfl,rfl,by simpa using w⟩ ?_
  clear w
  rintro ⟨⟨a6,l6,c6⟩,_⟩ h8 J ⟨m,hm2,hi,hl,w⟩ hJ
  simp only at hi hl w ⊢
  subst hi hl
  by_cases hlt2:m<N
  ·refine cdt (by omega) ?_
   have v1:IntKind.wrap .i64 ((m:Int)+1)=((m+1:Nat):Int):=by rw [IntKind.wrap_i64]; omega
   have v2:IntKind.wrap .i64 (120+(m:Int))=120+(m:Int):=by rw [IntKind.wrap_i64]; omega
   simp only [v1,v2]
   refine M.vin ?_
   refine Wd.push w 2 rfl rfl rfl (by simp [isPlainCell]) (by omega) (by omega) fun a11 c12 h9 w=>?_
   refine M.vin ?_
   refine hJ _ _ ⟨m+1,by omega,rfl,by simp only; omega,?_⟩ (by simp only; omega)
   rw [List.range_succ,List.map_append,←List.append_assoc,eP.row_app]
   have:eP.row (List.map W2 [m])=[.int .i64 (120+(m:Int)),.string ByteArray.empty]:=by rw [←hW2]; rfl
   rw [this]
   exact w
  ·refine cdf (by omega) ?_
   obtain rfl:m=N:=by omega
   have:=k a6 c6 h8
   simp only [List.length_append,List.length_map,List.length_range] at this
   exact this ((w.drop (i:=0) rfl).drop (i:=0) rfl)
end
end Go.Proofs.YthegnmanjdlmjaaGreatDoor
namespace Go.Proofs.YthegnmanjdlmjaaGreatDoor
open Go.Sh Go.RowKit
def MapS:List MapEntry→List (Int × ByteArray)→Prop
 | [],[]=>True
 | e::l,q::r=>e.key = .int .i64 q.1∧e.val = .string q.2∧MapS l r
 | _,_=>False
def getA:List (Int × ByteArray)→Int→Option ByteArray
 | [],_=>none
 | q::r,k=>if k=q.1 then some q.2 else getA r k
def insA:List (Int × ByteArray)→Int→ByteArray→List (Int × ByteArray)
 | [],k,v=>[(k,v)]
 | q::r,k,v=>if k=q.1 then (k,v)::r else q::insA r k v
theorem insA_get {k:Int} {v:ByteArray}:∀ {m:List (Int × ByteArray)} {x:Int},getA (insA m k v) x=if x=k then some v else getA m x
 | [],x=>by simp only [insA,getA]
 | q::r,x=>by
  unfold insA
  by_cases h:k=q.1
  ·rw [if_pos h]; simp only [getA]
   by_cases hx:x=k
   ·rw [if_pos hx,if_pos hx]
   ·rw [if_neg hx,if_neg hx,if_neg (fun e=>hx (e.trans h.symm))]
  ·rw [if_neg h]
   simp only [getA]
   by_cases hx:x=q.1
   ·rw [if_pos hx,if_pos hx,if_neg (fun e=>h (e.symm.trans hx))]
   ·rw [if_neg hx,if_neg hx]; exact insA_get
theorem insA_keys {k:Int} {v:ByteArray}:∀ {m:List (Int × ByteArray)},(insA m k v).map (·.1)=if k ∈ m.map (·.1) then m.map (·.1) else m.map (·.1)++[k]
 | []=>by simp [insA]
 | q::r=>by
  unfold insA
  by_cases h:k=q.1
  ·rw [if_pos h]; simp [h]
  ·rw [if_neg h,List.map_cons,insA_keys,List.map_cons]
   by_cases h2:k ∈ r.map (·.1)
   ·rw [if_pos h2,if_pos (List.mem_cons_of_mem _ h2)]
   ·rw [if_neg h2,if_neg (by simp only [List.mem_cons,not_or]; exact ⟨h,h2⟩)]; rfl
theorem insA_nodup {k:Int} {v:ByteArray} {m:List (Int × ByteArray)} (h:(m.map (·.1)).Nodup):((insA m k v).map (·.1)).Nodup:=by
 rw [insA_keys]
 by_cases h2:k ∈ m.map (·.1)
 ·rw [if_pos h2]; exact h
 ·rw [if_neg h2,List.nodup_append]
  exact ⟨h,by simp,fun a ha b hb e=>h2 (by rw [List.mem_singleton.1 hb] at e; rw [←e]; exact ha)⟩
theorem insA_all {p:Int × ByteArray→Prop} {k:Int} {v:ByteArray} (hk:p (k,v)):∀ {m:List (Int × ByteArray)},(∀ q ∈ m,p q)→∀ q ∈ insA m k v,p q
 | [],_,q,hq=>by simp only [insA,List.mem_singleton] at hq; rw [hq]; exact hk
 | a::r,h,q,hq=>by
  unfold insA at hq
  by_cases e:k=a.1
  ·rw [if_pos e,List.mem_cons] at hq
   rcases hq with rfl | hq
   ·exact hk
   ·exact h _ (by simp [hq])
  ·rw [if_neg e,List.mem_cons] at hq
   rcases hq with rfl | hq
   ·exact h _ (by simp)
   ·exact insA_all hk (fun q hq=>h q (by simp [hq])) q hq
theorem MapS.len:∀ {l:List MapEntry} {m:List (Int × ByteArray)},MapS l m→l.length=m.length
 | [],[],_=>rfl
 | _ :: _,_ :: _,h=>congrArg (· + 1) (MapS.len h.2.2)
theorem MapS.keys:∀ {l:List MapEntry} {m:List (Int × ByteArray)},MapS l m→l.map (·.key)=m.map fun q=>Value.int .i64 q.1
 | [],[],_=>rfl
 | _ :: _,_ :: _,h=>by rw [List.map_cons,List.map_cons,h.1,MapS.keys h.2.2]
theorem MapS.ok:∀ {l:List MapEntry} {m:List (Int × ByteArray)},MapS l m→∀ e ∈ l,okI e.key
 | [],[],_,e,he=>by simp at he
 | a::l,q::m,h,e,he=>by
  rcases List.mem_cons.1 he with rfl | he
  ·exact ⟨_,h.1⟩
  ·exact MapS.ok h.2.2 e he
theorem MapS.find {k:Int}:∀ {l:List MapEntry} {m:List (Int × ByteArray)} {i:Nat},MapS l m→(findE (.int .i64 k) l i).map (·.2)=(getA m k).map Value.string
 | [],[],i,_=>rfl
 | e::l,q::m,i,h=>by
  unfold findE getA
  rw [h.1]
  by_cases hk:k=q.1
  ·rw [if_pos (by rw [hk]),if_pos hk,Option.map_some,Option.map_some,h.2.1]
  ·rw [if_neg (by simpa using hk),if_neg hk]
   exact MapS.find h.2.2
theorem MapS.ins {k:Int} {v:ByteArray} {c:Nat}:∀ {l:List MapEntry} {m:List (Int × ByteArray)} {i:Nat},MapS l m→match findE (.int .i64 k) l i with
  | some (j,_)=>i≤j∧MapS (l.modify (j-i) fun e=>{ e with key:=.int .i64 k,val:=.string v }) (insA m k v)
  | none=>MapS (l++[{ key:=.int .i64 k,val:=.string v,born:=c }]) (insA m k v)
 | [],[],i,_=>⟨rfl,rfl,trivial⟩
 | e::l,q::m,i,h=>by
  unfold findE insA
  rw [h.1]
  by_cases hk:k=q.1
  ·rw [if_pos (by rw [hk]),if_pos hk]
   simp only [Nat.sub_self,List.modify_zero_cons,Nat.le_refl,true_and]
   exact ⟨rfl,rfl,h.2.2⟩
  ·rw [if_neg (by simpa using hk),if_neg hk]
   have:=MapS.ins (k:=k) (v:=v) (c:=c) (i:=i+1) h.2.2
   cases hf:findE (.int .i64 k) l (i+1) with
   | none=>rw [hf] at this; exact ⟨h.1,h.2.1,this⟩
   | some p=>
    rw [hf] at this
    obtain ⟨j,u⟩:=p
    simp only at this ⊢
    refine ⟨by omega,?_⟩
    rw [show j-i=(j-(i+1))+1 by omega,List.modify_succ_cons]
    exact ⟨h.1,h.2.1,this.2⟩
theorem Aged.nil (c:Nat):Aged [] c:=⟨by simp,by simp⟩
theorem Aged.push {l:List MapEntry} {c:Nat} (h:Aged l c) (k v:Value):Aged (l++[{ key:=k,val:=v,born:=c }]) (c+1):=by
 refine ⟨fun x hx=>?_,?_⟩
 ·rcases List.mem_append.1 hx with hx | hx
  ·exact Nat.lt_succ_of_lt (h.1 x hx)
  ·rw [List.mem_singleton.1 hx]; exact Nat.lt_succ_self c
 ·rw [List.map_append,List.nodup_append]
  refine ⟨h.2,by simp,fun a ha b hb e=>?_⟩
  obtain ⟨x,hx,rfl⟩:=List.mem_map.1 ha
  have hb2:b=c:=by simpa using hb
  have:=h.1 x hx
  omega
theorem born_modify (k v:Value):∀ (l:List MapEntry) (j:Nat),(l.modify j fun e=>{ e with key:=k,val:=v }).map (·.born)=l.map (·.born)
 | [],j=>by cases j <;> rfl
 | _ :: _,0=>rfl
 | e::l,j+1=>by rw [List.modify_succ_cons,List.map_cons,List.map_cons,born_modify k v l j]
theorem Aged.modify {l:List MapEntry} {c:Nat} (h:Aged l c) (k v:Value) (j:Nat):Aged (l.modify j fun e=>{ e with key:=k,val:=v }) c:=by
 have hb:=born_modify k v l j
 refine ⟨fun x hx=>?_,by rw [hb]; exact h.2⟩
 have:x.born ∈ (l.modify j fun e=>{ e with key:=k,val:=v }).map (·.born):=List.mem_map.2 ⟨x,hx,rfl⟩
 rw [hb] at this
 obtain ⟨y,hy,e⟩:=List.mem_map.1 this
 rw [←e]; exact h.1 y hy
theorem findE_at {k:Value}:∀ {l:List MapEntry} {i j:Nat},(findE k l i).map (·.2)=(findE k l j).map (·.2)
 | [],_,_=>rfl
 | e::r,i,j=>by
  unfold findE
  by_cases h:k=e.key
  ·rw [if_pos h,if_pos h]; rfl
  ·rw [if_neg h,if_neg h]; exact findE_at
def mpC (b:Nat) (m:List (Int × ByteArray)):Chunk:=Wd.obj (α:=Array MapEntry × Nat) (fun p=>MapS p.1.toList m∧Aged p.1.toList p.2) fun p=>[.blk b (.map p.1 p.2)]
section
variable {h0 h:H} {L:List Chunk} {b:Nat} {m:List (Int × ByteArray)}
theorem mpC_at {i:Nat} (w:Wd h0 h L) (hi:L[i]? = some (mpC b m)):∃ es c,h b=some (.map es c)∧MapS es.toList m∧Aged es.toList c:=by
 obtain ⟨v,hv,w⟩:=w.opn i hi
 exact ⟨v.1,v.2,w.blk (L.eraseIdx i).length (by simp),hv⟩
theorem mpC_R {i:Nat} (w:Wd h0 h L) (hi:L[i]? = some (mpC b m)):MapR h (some b) (getA m):=by
 obtain ⟨es,c,hb,hs,hag⟩:=mpC_at w hi
 exact .inr ⟨b,es.size,fun k=>(findE k es.toList 0).map (·.2),rfl,⟨es,c,hb,hs.ok,rfl,fun k i=>findE_at⟩,fun k=>hs.find⟩
theorem mp_new (w:Wd h0 h (L++[.blk b (.map #[] 0)])):Wd h0 h (L++[mpC b []]):=by
 have:=w.close (p:=fun (p:Array MapEntry × Nat)=>MapS p.1.toList []∧Aged p.1.toList p.2) (cs:=fun p=>[.blk b (.map p.1 p.2)]) L.length (#[],0) (by simp) ⟨trivial,.nil 0⟩
 rw [List.take_left'] at this
 ·exact this
 ·rfl
theorem mput_w {ty et:TypeId} {i:Nat} {k:Int} {v:ByteArray} {K:H→Prop} (hu:Tryz.prog.underlying ty=some (.map 3 et)) (w:Wd h0 h L) (hi:L[i]? = some (mpC b m))
  (kk:∀ h',Wd h0 h' (L.eraseIdx i++[mpC b (insA m k v)])→K h'):M.mput Tryz.prog ty (.map (some b)) (.int .i64 k) (.string v) h K:=by
 obtain ⟨p,⟨hs,hag⟩,w⟩:=w.opn i hi
 obtain ⟨es,c⟩:=p
 simp only at hs hag w
 have hl:(L.eraseIdx i++[Chunk.blk b (.map es c)])[(L.eraseIdx i).length]? = some (.blk b (.map es c)):=by simp
 have hb:=w.blk _ hl
 have fin:∀ es' c',MapS es'.toList (insA m k v)→Aged es'.toList c'→K (h.upd b (.map es' c')):=fun es' c' h1 h2=>by
  refine kk _ ?_
  have w2:=w.upd hl (.map es' c')
  rw [List.set_append_right _ _ (Nat.le_refl _),Nat.sub_self,List.set_cons_zero] at w2
  have:=w2.close (p:=fun (p:Array MapEntry × Nat)=>MapS p.1.toList (insA m k v)∧Aged p.1.toList p.2) (cs:=fun p=>[.blk b (.map p.1 p.2)]) (L.eraseIdx i).length (es',c') (by simp) ⟨h1,h2⟩
  rw [List.take_left'] at this
  ·exact this
  ·rfl
 refine ⟨3,et,b,es,c,_,hu,rfl,hb,keysI.at ⟨k,rfl⟩ hs.ok,?_⟩
 have hI:=hs.ins (k:=k) (v:=v) (c:=c) (i:=0)
 cases hf:findE (.int .i64 k) es.toList 0 with
 | none=>
  rw [hf] at hI
  exact fin _ _ (by rw [Array.toList_push]; exact hI) (by rw [Array.toList_push]; exact hag.push _ _)
 | some q=>
  obtain ⟨j,u⟩:=q
  rw [hf] at hI
  obtain ⟨e,_,he,hek,_⟩:=findE_some hf
  rw [Nat.sub_zero] at he
  refine ⟨?_,fin _ _ (by rw [Array.toList_modify]; exact hI.2) (by rw [Array.toList_modify]; exact hag.modify _ _ _)⟩
  have:es[j]? = some e:=by simpa using he
  rw [this]
  simp only [Option.map_some,Option.getD_some,hek]
  exact keysI.same _ ⟨k,rfl⟩
theorem lkA {ty:TypeId} {i:Nat} {k:Int} {K:Value→H→Prop} (hu:Tryz.prog.underlying ty=some (.map 3 9)) (w:Wd h0 h L) (hi:L[i]? = some (mpC b m)) (kk:K (.string ((getA m k).getD ByteArray.empty)) h):M.lk Tryz.prog ty (.map (some b)) (.int .i64 k) h K:=by
 obtain ⟨es,c,hb,hs,hag⟩:=mpC_at w hi
 refine lk_of (f:=fun k=>(findE k es.toList 0).map (·.2)) hu keysI zeroS ⟨es,c,hb,hs.ok,rfl,fun k i=>findE_at⟩ ⟨k,rfl⟩ ?_
 simp only [hs.find]
 cases hg:getA m k with
 | none=>rw [hg] at kk; exact kk
 | some p=>rw [hg] at kk; exact kk
theorem rising_spec {i:Nat} {Q:Option Addr→Nat→Nat→H→Prop} (w:Wd h0 h L) (hi:L[i]? = some (mpC b m)) (hn:(m.map (·.1)).Nodup) (hr:∀ q ∈ m,0≤q.1∧q.1≤15) (hm:m.length≤1000)
  (k:∀ a c h',Wd h0 h' (L++[.sl 3 1 a m.length c (eI.row (sortZ (m.map (·.1))))])→Q a m.length c h'):slab_rising (some b) h Q:=by
 obtain ⟨es,c,hb,hs,hag⟩:=mpC_at w hi
 have hl:es.size=m.length:=by rw [←Array.length_toList]; exact hs.len
 refine ⟨b,es,c,rfl,hb,hag,m.map (·.1),by rw [hs.keys,List.map_map]; rfl,fun x hx=>?_,hn,by omega,fun a c' h' w'=>?_⟩
 ·obtain ⟨q,hq,rfl⟩:=List.mem_map.1 hx
  have:=hr q hq
  omega
 ·rw [hl] at w' ⊢
  refine k a c' h' (w.join ?_)
  rw [eI_row]
  exact w'
end
end Go.Proofs.YthegnmanjdlmjaaGreatDoor
namespace Go.Proofs.YthegnmanjdlmjaaGreatDoor
open Go.Sh Go.RowKit
def chkL (g:Prop) [Decidable g] (n:Int):List (Int × ByteArray)→Int
 | []=>0
 | p::r=>if mayZ g n p.1≠0 then mayZ g n p.1 else if p.2.size > 2032 then 5 else chkL g n r
def checkM (g:Prop) [Decidable g] (n:Int) (l:List (Int × ByteArray)):Int:=if ¬ g then 4 else chkL g n l
theorem chkL_all {g:Prop} [Decidable g] {n:Int}:∀ {l:List (Int × ByteArray)},chkL g n l=0→∀ p ∈ l,0≤p.1∧p.1<n∧p.2.size≤2032
 | [],_,p,hp=>by simp at hp
 | q::r,h,p,hp=>by
  unfold chkL at h
  by_cases h1:mayZ g n q.1≠0
  ·rw [if_pos h1] at h; exact absurd h h1
  ·rw [if_neg h1] at h
   by_cases h2:q.2.size > 2032
   ·rw [if_pos h2] at h; exact absurd h (by decide)
   ·rw [if_neg h2] at h
    rcases List.mem_cons.1 hp with rfl | hp
    ·have:=(mayZ_zero.1 (Decidable.not_not.1 h1)).2
     exact ⟨this.1,this.2,by omega⟩
    ·exact chkL_all h p hp
theorem checkM_all {g:Prop} [Decidable g] {n:Int} {l:List (Int × ByteArray)} (h:checkM g n l=0):g∧∀ p ∈ l,0≤p.1∧p.1<n∧p.2.size≤2032:=by
 unfold checkM at h
 by_cases hg:g
 ·rw [if_neg (by simp [hg])] at h; exact ⟨hg,chkL_all h⟩
 ·rw [if_pos hg] at h; exact absurd h (by decide)
section
variable {hx h:H} {b:Nat} {B:BankM} {d n:Int} {key:ByteArray} {xs:List (Int × ByteArray)} {a:Option Addr} {l c:Nat}
theorem checked_spec {Q:Int→H→Prop} (wx:Wd hx h [bankC b B]) (f:Ro eP h a l xs) (hl9:l<1000000000) (tb:Tabs h) (k:∀ h',Keep h h'→Q (checkM (goodS B d n key) n xs) h'):slab_Slab_checked (some ⟨b,0,none⟩) d n key a l c h Q:=by
 unfold slab_Slab_checked slab_Slab_checked.g
 have w:=Wd.start h
 have hlen:=f.len
 refine M.new_w w fun b2 h1 w=>?_
 simp only [bs,lb (w.blk 0 rfl)]
 refine good_spec (wx.keeps w.keep) (tb.keep w.keep) fun h2 k2=>?_
 have w:=w.keeps k2
 unfold checkM at k
 by_cases g:goodS B d n key
 ·rw [if_neg (by simp [g])] at k
  refine cf (by simp [g]) ?_
  refine M.loop_of (I:=fun (i:Int) h'=>∃ (m:Nat),m≤l∧i=(m:Int)∧chkL (goodS B d n key) n xs=chkL (goodS B d n key) n (xs.drop m) ∧
   Wd h h' [.blk b2 (.cells #[.pointer (some ⟨b,0,none⟩),.int .i64 d,.int .i64 n,.string key] 37)]) (μ:=fun i=>(l-i).toNat) ⟨0,by omega,rfl,rfl,w⟩ ?_
  clear w
  rintro _ h3 J ⟨m,hm,rfl,hw,w⟩ hJ
  by_cases hlt:m<l
  ·refine cdt (by omega) ?_
   have v1:IntKind.wrap .i64 ((m:Int)+1)=((m+1:Nat):Int):=by rw [IntKind.wrap_i64]; omega
   refine Ro.ldP (f.keep w.keep) (by omega) (by omega) ?_
   refine M.new_w w fun b5 h4 w=>?_
   refine ⟨(rfl),?_⟩
   refine M.puts_w0 w 1 rfl (by simp [isPlainCell]) (by simp) fun h6 w=>?_
   simp only [bs,Int.toNat_natCast] at w
   simp only [bs,lb (w.blk 0 rfl),lb (w.blk 1 rfl)]
   rw [drop_pa (by omega),chkL] at hw
   refine may_spec (wx.keeps w.keep) (tb.keep w.keep) fun h7 k7=>?_
   have w:=w.keeps k7
   by_cases e:mayZ (goodS B d n key) n (pa xs m).1=0
   ·rw [if_neg (by simp [e])] at hw
    refine cf (by rw [bne_eq_false_iff_eq]; exact e) ?_
    simp only [bs,lb (w.blk 1 rfl)]
    by_cases e2:(pa xs m).2.size > 2032
    ·rw [if_pos e2] at hw
     rw [hw] at k
     exact cdt (by omega) (k _ w.keep)
    ·rw [if_neg e2] at hw
     refine cdf (by omega) (M.vis _ v1 ?_)
     exact hJ _ _ ⟨m+1,by omega,rfl,hw,w.drop (i:=1) rfl⟩ (by omega)
   ·rw [if_pos e] at hw
    rw [hw] at k
    exact ct (by rw [bne_iff_ne]; exact e) (k _ w.keep)
  ·refine cdf (by omega) ?_
   rw [List.drop_of_length_le (by omega),chkL] at hw
   rw [hw] at k
   exact k _ w.keep
 ·rw [if_pos g] at k
  exact ct (by simp [g]) (k _ w.keep)
end
end Go.Proofs.YthegnmanjdlmjaaGreatDoor
namespace Go.Proofs.YthegnmanjdlmjaaGreatDoor
open Go.Sh Go.RowKit
abbrev KV:=List (Int × ByteArray)
def putAll:KV→List Int→List ByteArray→KV
 | m,k::ks,v::vs=>putAll (insA m k v) ks vs
 | m,_,_=>m
def prepS (B:BankM) (d n:Int):ByteArray→KV→KV→KV→KV × KV × ByteArray × Int
 | top,ch,ce,[]=>(ch,ce,top,0)
 | top,ch,ce,p::r=>
  if (overM B d n (getA ch) top p.1).2.2≠0 then ([],[],ByteArray.empty,(overM B d n (getA ch) top p.1).2.2)
  else prepS B d n (putT p.1.toNat (kindT 0 p.2) (overM B d n (getA ch) top p.1).1).2 (putAll ch (pathN n p.1) (putT p.1.toNat (kindT 0 p.2) (overM B d n (getA ch) top p.1).1).1) (insA ce p.1 p.2) r
def outs (base:Int) (m:KV):KV:=(sortZ (m.map (·.1))).map fun x=>(base+x,(getA m x).getD ByteArray.empty)
def prepM (B:BankM) (key:ByteArray) (d n:Int) (top:ByteArray) (l:KV):KV × ByteArray × Int:=
 if checkM (goodS B d n key) n l≠0 then ([],ByteArray.empty,checkM (goodS B d n key) n l)
 else if (prepS B d n top [] [] l).2.2.2≠0 then ([],ByteArray.empty,(prepS B d n top [] [] l).2.2.2)
 else (outs 100 (prepS B d n top [] [] l).1++outs 120 (prepS B d n top [] [] l).2.1,(prepS B d n top [] [] l).2.2.1,0)
structure OkA (s:Nat) (m:KV):Prop where
 nd:(m.map (·.1)).Nodup
 all:∀ q ∈ m,(0≤q.1∧q.1≤15)∧q.2.size≤s
theorem OkA.nil (s:Nat):OkA s []:=⟨by simp,by simp⟩
theorem OkA.ins {s:Nat} {m:KV} {k:Int} {v:ByteArray} (o:OkA s m) (hk:0≤k∧k≤15) (hv:v.size≤s):OkA s (insA m k v):=⟨insA_nodup o.nd,insA_all ⟨hk,hv⟩ o.all⟩
theorem OkA.puts {s:Nat}:∀ {m:KV} {ks:List Int} {vs:List ByteArray},OkA s m→(∀ k ∈ ks,0≤k∧k≤15)→(∀ v ∈ vs,v.size≤s)→OkA s (putAll m ks vs)
 | m,[],_,o,_,_=>by rw [putAll]; exact o; simp
 | m,_ :: _,[],o,_,_=>by rw [putAll]; exact o; simp
 | m,k::ks,v::vs,o,hk,hv=>by
  have o2:=o.ins (hk k (by simp)) (hv v (by simp))
  rw [putAll]
  exact OkA.puts o2 (fun k h=>hk k (by simp [h])) (fun v h=>hv v (by simp [h]))
theorem getA_mem {k:Int} {p:ByteArray}:∀ {m:KV},getA m k=some p→(k,p) ∈ m
 | [],h=>by simp [getA] at h
 | q::r,h=>by
  unfold getA at h
  by_cases hk:k=q.1
  ·rw [if_pos hk,Option.some.injEq] at h
   rw [List.mem_cons]; exact .inl (by rw [←h,hk])
  ·rw [if_neg hk] at h; exact List.mem_cons_of_mem _ (getA_mem h)
theorem OkA.get {s:Nat} {m:KV} (o:OkA s m) {k:Int} {p:ByteArray} (h:getA m k=some p):p.size≤s:=(o.all _ (getA_mem h)).2
theorem nodup_small:∀ (N:Nat) (l:List Int),l.Nodup→(∀ x ∈ l,0≤x∧x<N)→l.length≤N
 | 0,l,_,h=>by
  cases l with
  | nil=>exact Nat.le_refl _
  | cons x r=>have:=h x (by simp); omega
 | N+1,l,hn,h=>by
  have h1:=nodup_small N (l.erase (N:Int)) (hn.erase _) fun x hx=>by
   have:=(List.Nodup.mem_erase_iff hn).1 hx
   have:=h x this.2
   omega
  by_cases hm:(N:Int) ∈ l
  ·rw [List.length_erase_of_mem hm] at h1; omega
  ·rw [List.erase_of_not_mem hm] at h1; omega
theorem OkA.len {s:Nat} {m:KV} (o:OkA s m):m.length≤16:=by
 have:=nodup_small 16 (m.map (·.1)) o.nd fun x hx=>by
  obtain ⟨q,hq,rfl⟩:=List.mem_map.1 hx
  have:=(o.all q hq).1
  omega
 rwa [List.length_map] at this
theorem sortZ_len (l:List Int):(sortZ l).length=l.length:=List.length_mergeSort _
theorem sortZ_mem {l:List Int} {x:Int}:x ∈ sortZ l↔x ∈ l:=List.mem_mergeSort
theorem outs_len (base:Int) (m:KV):(outs base m).length=m.length:=by rw [outs,List.length_map,sortZ_len,List.length_map]
theorem follow_64 {slot:Nat}:∀ {ps:List ByteArray} {top:ByteArray},(follow top slot ps).2=0→∀ p ∈ ps,p.size=64
 | [],_,_,p,hp=>by simp at hp
 | q::r,top,h,p,hp=>by
  unfold follow at h
  by_cases h1:q.size≠64∨nodeT q≠top
  ·rw [if_pos h1] at h; exact absurd h (by decide)
  ·rw [if_neg h1] at h
   rcases List.mem_cons.1 hp with rfl | hp
   ·exact Decidable.not_not.1 fun e=>h1 (.inl e)
   ·exact follow_64 h p hp
theorem over_64 {B:BankM} {d n slot:Int} {g:Int→Option ByteArray} {top:ByteArray} (h:(overM B d n g top slot).2.2=0):(overM B d n g top slot).1.length=dep n∧∀ p ∈ (overM B d n g top slot).1,p.size=64:=by
 have hl:=@gath_len (pairOf B d g) (pathN n slot) []
 unfold overM at h ⊢
 simp only at h ⊢
 generalize gath (pairOf B d g) [] (pathN n slot)=r at *
 by_cases e:r.2≠0
 ·rw [if_pos e] at h; exact absurd h e
 ·rw [if_neg e] at h ⊢
  refine ⟨?_,follow_64 h⟩
  have:=hl (Decidable.not_not.1 e)
  rw [pathN_len] at this
  simpa using this
end Go.Proofs.YthegnmanjdlmjaaGreatDoor
namespace Go.Proofs.YthegnmanjdlmjaaGreatDoor
open Go.Sh Go.RowKit
def wayN (X:Nat):Nat→List Nat
 | 0=>[]
 | m+1=>X / 2 ^ (m+1)::wayN X m
theorem wayN_len (X:Nat):∀ m,(wayN X m).length=m
 | 0=>rfl
 | m+1=>by rw [wayN,List.length_cons,wayN_len]
theorem wayN_range (X:Nat):∀ m,(List.range m).map (fun i=>X / 2 ^ (m-i))=wayN X m
 | 0=>rfl
 | m+1=>by
  rw [List.range_succ_eq_map,List.map_cons,List.map_map,wayN,←wayN_range X m]
  congr 1
  refine List.map_congr_left fun i _=>?_
  show X / 2 ^ (m+1-(i+1))=_
  rw [Nat.add_sub_add_right]
theorem pathN_way {n:Int} {s:Nat} (hd:dep n≠0):pathN n s=(wayN (2 ^ dep n+s) (dep n)).map fun i:Nat=>(i:Int):=by
 have hn:=dep_pow hd
 have:(n+(s:Int)).toNat=2 ^ dep n+s:=by
  generalize 2 ^ dep n=q at hn ⊢
  omega
 rw [pathN,this,←wayN_range,List.map_map]
 rfl
theorem half_up (X m:Nat):X / 2 ^ (m+1)=X / 2 ^ m / 2:=by rw [Nat.pow_succ,Nat.div_div_eq_div_mul]
theorem half_app {a b:ByteArray} (ha:a.size=32) (hb:b.size=32) (c:Bool):halfB (a++b) c=if c then b else a:=by
 cases c
 ·show (a++b).extract 0 32=a
  rw [←ha]; exact ByteArray.extract_append_eq_left rfl
 ·show (a++b).extract 32 (a++b).size=b
  rw [←ha]
  exact ByteArray.extract_append_eq_right rfl (by rw [ByteArray.size_append])
theorem wayN_bound {k s:Nat} (hs:s<2 ^ k) {m:Nat} (hm:m≤k):0<(2 ^ k+s) / 2 ^ m∧(m≠0→(2 ^ k+s) / 2 ^ m<2 ^ k)∧(2 ^ k+s) / 2 ^ m<2*2 ^ k:=by
 have h1:0<2 ^ m:=Nat.pow_pos (by decide)
 have h2:2 ^ m≤2 ^ k:=Nat.pow_le_pow_right (by decide) hm
 have h4:=Nat.div_le_self (2 ^ k+s) (2 ^ m)
 refine ⟨Nat.div_pos (by omega) h1,fun h=>?_,by omega⟩
 rw [Nat.div_lt_iff_lt_mul h1]
 have h3:2≤2 ^ m:=by
  obtain ⟨q,rfl⟩:∃ q,m=q+1:=⟨m-1,by omega⟩
  have:=Nat.pow_le_pow_right (n:=2) (by decide) (show 1≤q+1 by omega)
  simpa using this
 have:=Nat.mul_le_mul_left (2 ^ k) h3
 omega
section
variable {ls:List ByteArray} {k s:Nat}
theorem follow_way (hl:ls.length=2 ^ k) (hz:∀ p ∈ ls,p.size=32) (hs:s<2 ^ k):∀ m,m≤k→follow (nodeD ls ((2 ^ k+s) / 2 ^ m)) s ((wayN (2 ^ k+s) m).map (pairD ls))=(sa ls s,0)
 | 0,_=>by
  rw [Nat.pow_zero,Nat.div_one,nodeD_leaf (by omega),hl,Nat.add_sub_cancel_left]; rfl
 | m+1,hm=>by
  obtain ⟨b1,b2,b3⟩:=wayN_bound hs hm
  have b2:=b2 (by omega)
  obtain ⟨c1,c2,c3⟩:=wayN_bound hs (show m≤k by omega)
  have hb:=bit_node (d:=k) (s:=s) (k:=m) (by omega)
  have ih:=follow_way hl hz hs m (by omega)
  rw [wayN,List.map_cons,follow,List.length_map,wayN_len,bitT]
  have hup:=half_up (2 ^ k+s) m
  generalize (2 ^ k+s) / 2 ^ (m+1)=i at *
  generalize (2 ^ k+s) / 2 ^ m=j at *
  have p64:=pairD_size hz b1 (by omega)
  rw [nodeD_in b1 (by omega),if_neg (by simp [p64])]
  have e1:=nodeD_size hz (i:=2*i) (by omega) (by omega)
  have e2:=nodeD_size hz (i:=2*i+1) (by omega) (by omega)
  rw [pairD,half_app e1 e2]
  by_cases h:s / 2 ^ m % 2=1
  ·rw [if_pos (by simpa using h),show 2*i+1=j by omega]; exact ih
  ·rw [if_neg (by simpa using h),show 2*i=j by omega]; exact ih
theorem sa_set {x:ByteArray} {j:Nat} (hs:s<ls.length):sa (ls.set s x) j=if j=s then x else sa ls j:=by
 unfold sa
 rw [List.getD_eq_getElem?_getD,List.getElem?_set,List.getD_eq_getElem?_getD]
 by_cases h:s=j
 ·subst h; rw [if_pos rfl,if_pos hs,if_pos rfl]; rfl
 ·rw [if_neg h,if_neg (fun e=>h e.symm)]
theorem nodeD_off {x:ByteArray} (hs:s<ls.length):∀ (f i:Nat),ls.length≤i+f→0<i→(∀ m,(ls.length+s) / 2 ^ m≠i)→nodeD (ls.set s x) i=nodeD ls i
 | f,i,hf,h0,hm=>by
  by_cases hi:i<ls.length
  ·obtain ⟨f,rfl⟩:∃ q,f=q+1:=⟨f-1,by omega⟩
   rw [nodeD_in h0 hi,nodeD_in h0 (by rw [List.length_set]; exact hi),pairD,pairD,
    nodeD_off hs f (2*i) (by omega) (by omega) (fun m e=>hm (m+1) (by rw [half_up,e]; omega)),nodeD_off hs f (2*i+1) (by omega) (by omega) (fun m e=>hm (m+1) (by rw [half_up,e]; omega))]
  ·rw [nodeD_leaf (by rw [List.length_set]; omega),nodeD_leaf (ls:=ls) (by omega),List.length_set,sa_set hs,if_neg]
   intro e
   exact hm 0 (by rw [Nat.pow_zero,Nat.div_one]; omega)
theorem pairD_off {x:ByteArray} (hs:s<ls.length) {i:Nat} (h0:0<i) (hm:∀ m,(ls.length+s) / 2 ^ m≠i):pairD (ls.set s x) i=pairD ls i:=by
 rw [pairD,pairD,nodeD_off hs ls.length (2*i) (by omega) (by omega) (fun m e=>hm (m+1) (by rw [half_up,e]; omega)),nodeD_off hs ls.length (2*i+1) (by omega) (by omega) (fun m e=>hm (m+1) (by rw [half_up,e]; omega))]
theorem div_lt_of {X:Nat} (hX:0<X) {a b:Nat} (h:a<b):X / 2 ^ b<X / 2 ^ a∨X / 2 ^ a=0:=by
 by_cases h0:X / 2 ^ a=0
 ·exact .inr h0
 ·left
  have h1:X / 2 ^ b≤X / 2 ^ (a+1):=Nat.div_le_div_left (Nat.pow_le_pow_right (by decide) h) (Nat.pow_pos (by decide))
  rw [half_up] at h1
  generalize X / 2 ^ a=u at *
  generalize X / 2 ^ b=v at *
  omega
theorem put_way {x:ByteArray} (hl:ls.length=2 ^ k) (hz:∀ p ∈ ls,p.size=32) (hs:s<2 ^ k):∀ m,m≤k→putT s x ((wayN (2 ^ k+s) m).map (pairD ls))=((wayN (2 ^ k+s) m).map (pairD (ls.set s x)),nodeD (ls.set s x) ((2 ^ k+s) / 2 ^ m))
 | 0,_=>by
  rw [Nat.pow_zero,Nat.div_one,nodeD_leaf (by rw [List.length_set]; omega),List.length_set,hl,Nat.add_sub_cancel_left,sa_set (by omega),if_pos rfl]; rfl
 | m+1,hm=>by
  obtain ⟨b1,b2,b3⟩:=wayN_bound hs hm
  have b2:=b2 (by omega)
  obtain ⟨c1,c2,c3⟩:=wayN_bound hs (show m≤k by omega)
  have hb:=bit_node (d:=k) (s:=s) (k:=m) (by omega)
  have ih:=put_way (x:=x) hl hz hs m (by omega)
  rw [wayN,List.map_cons,putT_cons,putX,ih,List.length_map,wayN_len,bitT]
  have hup:=half_up (2 ^ k+s) m
  have hoff:∀ q:Nat,0<q→q≠(2 ^ k+s) / 2 ^ m→q / 2=(2 ^ k+s) / 2 ^ (m+1)→nodeD (ls.set s x) q=nodeD ls q:=by
   intro q h0 hq h2
   refine nodeD_off (by omega) ls.length q (by omega) h0 fun t ht=>?_
   rw [hl] at ht
   have hX:0<2 ^ k+s:=by have:0<2 ^ k:=Nat.pow_pos (by decide); omega
   rcases Nat.lt_trichotomy t m with h | h | h
   ·have:=div_lt_of hX h
    have h3:(2 ^ k+s) / 2 ^ m≤(2 ^ k+s) / 2 ^ (t+1):=Nat.div_le_div_left (Nat.pow_le_pow_right (by decide) h) (Nat.pow_pos (by decide))
    rw [half_up,ht,h2,hup] at h3
    omega
   ·rw [h] at ht; exact hq ht.symm
   ·have h3:(2 ^ k+s) / 2 ^ t≤(2 ^ k+s) / 2 ^ (m+1):=Nat.div_le_div_left (Nat.pow_le_pow_right (by decide) h) (Nat.pow_pos (by decide))
    rw [ht,←h2] at h3
    omega
  have e1:=nodeD_size hz (i:=2*((2 ^ k+s) / 2 ^ (m+1))) (by omega) (by omega)
  have e2:=nodeD_size hz (i:=2*((2 ^ k+s) / 2 ^ (m+1))+1) (by omega) (by omega)
  have key:(bif decide (s / 2 ^ m % 2=1) then (pairD ls ((2 ^ k+s) / 2 ^ (m+1))).extract 0 32++nodeD (ls.set s x) ((2 ^ k+s) / 2 ^ m) else nodeD (ls.set s x) ((2 ^ k+s) / 2 ^ m)++(pairD ls ((2 ^ k+s) / 2 ^ (m+1))).extract 32 (pairD ls ((2 ^ k+s) / 2 ^ (m+1))).size)=pairD (ls.set s x) ((2 ^ k+s) / 2 ^ (m+1)):=by
   have g1:=half_app e1 e2 false
   have g2:=half_app e1 e2 true
   have g1':(pairD ls ((2 ^ k+s) / 2 ^ (m+1))).extract 0 32=nodeD ls (2*((2 ^ k+s) / 2 ^ (m+1))):=g1
   have g2':(pairD ls ((2 ^ k+s) / 2 ^ (m+1))).extract 32 (pairD ls ((2 ^ k+s) / 2 ^ (m+1))).size=nodeD ls (2*((2 ^ k+s) / 2 ^ (m+1))+1):=g2
   rw [g1',g2',pairD]
   by_cases h:s / 2 ^ m % 2=1
   ·rw [decide_eq_true h,cond_true,hoff (2*((2 ^ k+s) / 2 ^ (m+1))) (by omega) (by omega) (by omega),show 2*((2 ^ k+s) / 2 ^ (m+1))+1=(2 ^ k+s) / 2 ^ m by omega]
   ·rw [decide_eq_false h,cond_false,hoff (2*((2 ^ k+s) / 2 ^ (m+1))+1) (by omega) (by omega) (by omega),show 2*((2 ^ k+s) / 2 ^ (m+1))=(2 ^ k+s) / 2 ^ m by omega]
  rw [key,nodeD_in b1 (by rw [List.length_set]; omega)]
  rfl
end
end Go.Proofs.YthegnmanjdlmjaaGreatDoor
namespace Go.Proofs.YthegnmanjdlmjaaGreatDoor
open Go.Sh Go.RowKit
theorem take_za {K:List Int} {j:Nat} (h:j<K.length):K.take (j+1)=K.take j++[za K j]:=by rw [za_get h,List.take_append_getElem]
theorem bnd_rows {P:Int→Prop} {l:List Int} (h:∀ x ∈ l,P x) {i:Nat} (hi:i<l.length):P (za l i):=by rw [za_get hi]; exact h _ (List.getElem_mem _)
section
variable {hx h:H} {b:Nat} {B:BankM} {d n:Int} {key top:ByteArray} {xs:List (Int × ByteArray)} {a:Option Addr} {l c:Nat}
theorem Prepare_spec {Q:Option Addr→Nat→Nat→ByteArray→Int→H→Prop} (wx:Wd hx h [bankC b B]) (f:Ro eP h a l xs) (hl9:l<1000000000) (sm:B.Sm) (tb:Tabs h)
  (k:∀ a c h',Wd h h' [.sl 116 2 a (prepM B key d n top xs).1.length c (eP.row (prepM B key d n top xs).1)]→Q a (prepM B key d n top xs).1.length c (prepM B key d n top xs).2.1 (prepM B key d n top xs).2.2 h'):
  slab_Slab_Prepare (some ⟨b,0,none⟩) d n key top a l c h Q:=by
 unfold slab_Slab_Prepare slab_Slab_Prepare.g
 have w:=Wd.start h
 have hlen:=f.len
 refine M.new_w w fun b2 h1 w=>?_
 simp only [bs,Nat.reduceMul,lb (w.blk 0 rfl)]
 refine checked_spec (wx.keeps w.keep) (f.keep w.keep) hl9 (tb.keep w.keep) fun h2 k2=>?_
 have w:=w.keeps k2
 unfold prepM at k
 by_cases g:checkM (goodS B d n key) n xs=0
 ·rw [if_neg (by simp [g])] at k
  refine cf (by rw [bne_eq_false_iff_eq]; exact g) ?_
  obtain ⟨⟨hd,hk,hb⟩,hall⟩:=checkM_all g
  clear g
  have hn:=dep_small hd
  have hdl:=dep_le n
  have hd1:=dep_pow hd
  refine M.new_w w fun b3 h3 w=>?_
  have w:=mp_new w
  refine M.new_w w fun b4 h4 w=>?_
  have w:=mp_new w
  simp only [bs] at w
  refine M.join_of (fun tp h'=>∃ ch ce,prepS B d n top [] [] xs=(ch,ce,tp,0)∧OkA 64 ch∧OkA 2032 ce∧Wd h h' [.blk b2 (.cells #[.pointer (some ⟨b,0,none⟩),.int .i64 d,.int .i64 n,.string key] 37),mpC b3 ch,mpC b4 ce]) (fun J0 hJ0=>?_) ?_
  ·refine M.loop_of (I:=fun (p:ByteArray × Int) h'=>∃ (m:Nat) (ch ce:KV),m≤l∧p.2=(m:Int)∧prepS B d n top [] [] xs=prepS B d n p.1 ch ce (xs.drop m)∧OkA 64 ch∧OkA 2032 ce ∧
    Wd h h' [.blk b2 (.cells #[.pointer (some ⟨b,0,none⟩),.int .i64 d,.int .i64 n,.string key] 37),mpC b3 ch,mpC b4 ce]) (μ:=fun p=>(l-p.2).toNat) ⟨0,[],[],by omega,rfl,rfl,.nil _,.nil _,w⟩ ?_
   clear w
   rintro ⟨tp,_⟩ h5 J ⟨m,ch,ce,hm,hi,hw,oc,oe,w⟩ hJ
   simp only at hi hw ⊢
   subst hi
   by_cases hlt:m<l
   ·refine cdt (by omega) ?_
    have hp:0≤(pa xs m).1∧(pa xs m).1<n∧(pa xs m).2.size≤2032:=by rw [pa_get (by omega)]; exact hall _ (List.getElem_mem _)
    rw [drop_pa (by omega),prepS] at hw
    refine Ro.ldP (f.keep w.keep) (by omega) (by omega) ?_
    refine M.new_w w fun b7 h6 w=>?_
    refine ⟨(rfl),?_⟩
    refine M.puts_w0 w 3 rfl (by simp [isPlainCell]) (by simp) fun h8 w=>?_
    simp only [bs,Int.toNat_natCast] at w
    simp only [bs,lb (w.blk 0 rfl),lb (w.blk 3 rfl)]
    generalize pa xs m=q at *
    obtain ⟨qs,qc⟩:=q
    simp only at hw hp ⊢
    obtain ⟨s,rfl⟩:=Int.eq_ofNat_of_zero_le hp.1
    rw [Int.toNat_natCast] at hw
    have v1:IntKind.wrap .i64 ((m:Int)+1)=((m+1:Nat):Int):=by rw [IntKind.wrap_i64]; omega
    have hov:=@over_64 B d n s (getA ch) tp
    refine over_spec (wx.keeps w.keep) (mpC_R (i:=1) w rfl) hd ⟨hp.1,hp.2.1⟩ sm (fun x p hx=>by have:=oc.get hx; omega) (tb.keep w.keep) fun a5 c5 h8 w'=>?_
    have w:=w.join w'
    clear w'
    generalize overM B d n (getA ch) tp s=o at *
    by_cases e:o.2.2=0
    ·rw [if_neg (by simp [e])] at hw
     refine cf (by rw [bne_eq_false_iff_eq]; exact e) ?_
     obtain ⟨ho1,ho2⟩:=hov e
     have hs0:=w.blk 3 rfl
     simp only [bs,lb (w.blk 3 rfl)]
     refine Leaf_spec (by omega) (tb.keep w.keep) fun h7 k_=>?_
     have w:=w.keeps k_
     clear k_
     refine M.still_at hs0 (w.blk 3 rfl) ?_
     rw [ho1] at w ⊢
     refine Put_spec (w.ro 4 rfl (by decide)) ⟨by omega,hdl⟩ (by omega) ho2 (kindT_size _ _) (tb.keep w.keep) fun a6 c6 h8 w'=>?_
     have w:=w.join w'
     clear w'
     simp only [bs,lb (w.blk 0 rfl),lb (w.blk 3 rfl)]
     have hpl:=pathN_len n s
     have hple:=path_le hd (s:=(s:Int)) ⟨by omega,by omega⟩
     refine treePath_spec hd ⟨by omega,by omega⟩ (tb.keep w.keep) fun a7 c7 h9 w'=>?_
     have w:=w.join w'
     clear w'
     have hkz:=kindT_size 0 qc
     have h64:=putT_64 (slot:=s) hkz o.1 ho2
     have hpn:=putT_len s (kindT 0 qc) o.1
     generalize putT s (kindT 0 qc) o.1=pt at *
     generalize pathN n s=pth at *
     rw [ho1] at hpn
     try simp only [bs] at w
     have w:=(((w.drop (i:=4) rfl).mv (i:=1) rfl))
     try simp only [bs] at w
     refine M.join_of (fun _ h'=>Wd h h' [.blk b2 (.cells #[.pointer (some ⟨b,0,none⟩),.int .i64 d,.int .i64 n,.string key] 37),mpC b4 ce,.blk b7 (.cells #[.int .i64 s,.string qc] 45),.sl 9 1 a6 (dep n) c6 (eS.row pt.1),.sl 3 1 a7 (dep n) c7 (eI.row pth),mpC b3 (putAll ch pth pt.1)]) (fun J1 hJ1=>?_) ?_
     ·refine M.loop_of (I:=fun (p:Int) h'=>∃ (j:Nat) (ch':KV),j≤dep n∧p=(j:Int)∧putAll ch pth pt.1=putAll ch' (pth.drop j) (pt.1.drop j) ∧
       Wd h h' [.blk b2 (.cells #[.pointer (some ⟨b,0,none⟩),.int .i64 d,.int .i64 n,.string key] 37),mpC b4 ce,.blk b7 (.cells #[.int .i64 s,.string qc] 45),.sl 9 1 a6 (dep n) c6 (eS.row pt.1),.sl 3 1 a7 (dep n) c7 (eI.row pth),mpC b3 ch']) (μ:=fun p=>(dep n-p).toNat) ⟨0,ch,by omega,rfl,rfl,w⟩ ?_
      clear w
      rintro _ h10 J3 ⟨j,ch',hj,rfl,hpa,w⟩ hJ3
      by_cases hlj:j<dep n
      ·refine cdt (by omega) ?_
       have v2:IntKind.wrap .i64 ((j:Int)+1)=((j+1:Nat):Int):=by rw [IntKind.wrap_i64]; omega
       rw [drop_za (by omega),drop_sa (by omega),putAll] at hpa
       refine Ro.ldI (w.ro 4 rfl (by decide)) (by omega) (by omega) ?_
       simp only [Int.toNat_natCast]
       refine Ro.ldS (w.ro 3 rfl (by decide)) (by omega) (by omega) ?_
       refine mput_w Tryz.underlying108 w (i:=5) rfl fun h11 w=>?_
       refine M.vis _ v2 (hJ3 _ _ ⟨j+1,_,by omega,rfl,hpa,w⟩ (by omega))
      ·refine cdf (by omega) ?_
       rw [List.drop_of_length_le (by omega),List.drop_of_length_le (by omega)] at hpa
       have hpa2:putAll ch pth pt.1=ch':=hpa
       refine hJ1 _ _ ?_
       rw [hpa2]
       exact w
     ·clear w
      rintro _ h10 w
      simp only [bs,lb (w.blk 2 rfl)]
      refine mput_w Tryz.underlying107 w (i:=1) rfl fun h11 w=>?_
      refine M.vis _ v1 (hJ _ _ ⟨m+1,putAll ch pth pt.1,insA ce s qc,by omega,rfl,hw,oc.puts hple fun v hv=>Nat.le_of_eq (h64 v hv),oe.ins (by omega) hp.2.2,?_⟩ (by simp only; omega))
      have w:=(((w.drop (i:=1) rfl).drop (i:=1) rfl).drop (i:=1) rfl)
      exact w
    ·rw [if_pos e] at hw
     rw [hw,if_pos e] at k
     refine ct (by rw [bne_iff_ne]; exact e) (k none 0 _ ?_)
     exact ((((w.drop (i:=0) rfl).drop (i:=0) rfl).drop (i:=0) rfl).drop (i:=0) rfl |>.drop (i:=0) rfl).nilsl _ _
   ·refine cdf (by omega) ?_
    rw [List.drop_of_length_le (by omega),prepS] at hw
    exact hJ0 _ _ ⟨ch,ce,hw,oc,oe,w⟩
  ·clear w
   rintro tp h5 ⟨ch,ce,hpr,oc,oe,w⟩
   rw [hpr,if_neg (by simp)] at k
   simp only at k
   clear hpr
   refine M.join_of (fun (p:Option Addr × Nat × Nat) h'=>p.2.1=ch.length∧Wd h h' [.blk b2 (.cells #[.pointer (some ⟨b,0,none⟩),.int .i64 d,.int .i64 n,.string key] 37),mpC b3 ch,mpC b4 ce,.sl 116 2 p.1 p.2.1 p.2.2 (eP.row (outs 100 ch))]) (fun J0 hJ0=>?_) ?_
   ·refine rising_spec w (i:=1) rfl oc.nd (fun q hq=>(oc.all q hq).1) (by have:=oc.len; omega) fun a8 c8 h6 w=>?_
    have hcl:=oc.len
    have hkl:(sortZ (ch.map (·.1))).length=ch.length:=by rw [sortZ_len,List.length_map]
    have hkr:∀ x ∈ sortZ (ch.map (·.1)),0≤x∧x≤15:=fun x hx=>by
     obtain ⟨q,hq,rfl⟩:=List.mem_map.1 (sortZ_mem.1 hx)
     exact (oc.all q hq).1
    have hou:outs 100 ch=(sortZ (ch.map (·.1))).map fun x=>(100+x,(getA ch x).getD ByteArray.empty):=rfl
    rw [hou] at hJ0
    generalize hF:(fun x:Int=>((100+x,(getA ch x).getD ByteArray.empty):Int × ByteArray))=F at *
    generalize sortZ (ch.map (·.1))=K at *
    try simp only [bs] at w
    refine M.loop_of (I:=fun (p:(Option Addr × Nat × Nat) × Int) h'=>∃ j:Nat,j≤ch.length∧p.2=(j:Int)∧j=p.1.2.1∧Wd h h' [.blk b2 (.cells #[.pointer (some ⟨b,0,none⟩),.int .i64 d,.int .i64 n,.string key] 37),mpC b3 ch,mpC b4 ce,.sl 3 1 a8 ch.length c8 (eI.row K),.sl 116 2 p.1.1 p.1.2.1 p.1.2.2 (eP.row ((K.take j).map F))]) (μ:=fun p=>(ch.length-p.2).toNat) ⟨0,by omega,rfl,rfl,w.nilsl _ _⟩ ?_
    clear w
    rintro ⟨⟨a9,l9,c9⟩,_⟩ h7 J ⟨j,hj,hi,hl,w⟩ hJ
    simp only at hi hl w ⊢
    subst hi hl
    by_cases hlt:j<ch.length
    ·refine cdt (by omega) ?_
     have v1:IntKind.wrap .i64 ((j:Int)+1)=((j+1:Nat):Int):=by rw [IntKind.wrap_i64]; omega
     have hkj:=bnd_rows hkr (i:=j) (by omega)
     have v2:IntKind.wrap .i64 (100+za K j)=100+za K j:=by rw [IntKind.wrap_i64]; omega
     refine Ro.ldI (w.ro 3 rfl (by decide)) (by omega) (by omega) ?_
     simp only [Int.toNat_natCast,v2]
     refine M.vin ?_
     refine lkA Tryz.underlying108 w (i:=1) rfl ?_
     simp only [bs,v1]
     refine Wd.push w 4 rfl rfl rfl (by simp [isPlainCell]) (by omega) (by omega) fun a10 c11 h8 w=>?_
     refine M.vin ?_
     refine hJ _ _ ⟨j+1,by omega,rfl,rfl,?_⟩ (by simp only; omega)
     have e1:eP.row (List.map F [za K j])=[.int .i64 (100+za K j),.string ((getA ch (za K j)).getD ByteArray.empty)]:=by rw [←hF]; rfl
     rw [take_za (by omega),List.map_append,eP.row_app,e1]
     exact w
    ·refine cdf (by omega) ?_
     obtain rfl:j=ch.length:=by omega
     rw [←hkl,List.take_length] at w
     rw [hkl] at w
     exact hJ0 _ _ ⟨rfl,w.drop (i:=3) rfl⟩
   ·clear w
    rintro ⟨a0,l0,c0⟩ h6 ⟨hl0,w⟩
    simp only at hl0 w ⊢
    have hcl0:=oc.len
    refine M.join_of (fun (p:Option Addr × Nat × Nat) h'=>p.2.1=ch.length+ce.length∧Wd h h' [.blk b2 (.cells #[.pointer (some ⟨b,0,none⟩),.int .i64 d,.int .i64 n,.string key] 37),mpC b3 ch,mpC b4 ce,.sl 116 2 p.1 p.2.1 p.2.2 (eP.row (outs 100 ch++outs 120 ce))]) (fun J0 hJ0=>?_) ?_
    ·refine rising_spec w (i:=2) rfl oe.nd (fun q hq=>(oe.all q hq).1) (by have:=oe.len; omega) fun a8 c8 h6 w=>?_
     have hcl:=oe.len
     have hkl:(sortZ (ce.map (·.1))).length=ce.length:=by rw [sortZ_len,List.length_map]
     have hkr:∀ x ∈ sortZ (ce.map (·.1)),0≤x∧x≤15:=fun x hx=>by
      obtain ⟨q,hq,rfl⟩:=List.mem_map.1 (sortZ_mem.1 hx)
      exact (oe.all q hq).1
     have hou:outs 120 ce=(sortZ (ce.map (·.1))).map fun x=>(120+x,(getA ce x).getD ByteArray.empty):=rfl
     rw [hou] at hJ0
     generalize hF:(fun x:Int=>((120+x,(getA ce x).getD ByteArray.empty):Int × ByteArray))=F at *
     generalize sortZ (ce.map (·.1))=K at *
     try simp only [bs] at w
     refine M.loop_of (I:=fun (p:(Option Addr × Nat × Nat) × Int) h'=>∃ j:Nat,j≤ce.length∧p.2=(j:Int)∧p.1.2.1=ch.length+j∧Wd h h' [.blk b2 (.cells #[.pointer (some ⟨b,0,none⟩),.int .i64 d,.int .i64 n,.string key] 37),mpC b3 ch,mpC b4 ce,.sl 116 2 p.1.1 p.1.2.1 p.1.2.2 (eP.row (outs 100 ch++(K.take j).map F)),.sl 3 1 a8 ce.length c8 (eI.row K)]) (μ:=fun p=>(ce.length-p.2).toNat) ⟨0,by omega,rfl,by simpa using hl0,by simpa using w⟩ ?_
     clear w
     rintro ⟨⟨a9,l9,c9⟩,_⟩ h7 J ⟨j,hj,hi,hl,w⟩ hJ
     simp only at hi hl w ⊢
     subst hi hl
     by_cases hlt:j<ce.length
     ·refine cdt (by omega) ?_
      have v1:IntKind.wrap .i64 ((j:Int)+1)=((j+1:Nat):Int):=by rw [IntKind.wrap_i64]; omega
      have hkj:=bnd_rows hkr (i:=j) (by omega)
      have v2:IntKind.wrap .i64 (120+za K j)=120+za K j:=by rw [IntKind.wrap_i64]; omega
      refine Ro.ldI (w.ro 4 rfl (by decide)) (by omega) (by omega) ?_
      simp only [Int.toNat_natCast,v2]
      refine M.vin ?_
      refine lkA Tryz.underlying107 w (i:=2) rfl ?_
      simp only [bs,v1]
      refine Wd.push w 3 rfl rfl rfl (by simp [isPlainCell]) (by omega) (by omega) fun a10 c11 h8 w=>?_
      refine M.vin ?_
      refine hJ _ _ ⟨j+1,by omega,rfl,rfl,?_⟩ (by simp only; omega)
      have e1:eP.row (List.map F [za K j])=[.int .i64 (120+za K j),.string ((getA ce (za K j)).getD ByteArray.empty)]:=by rw [←hF]; rfl
      rw [take_za (by omega),List.map_append,←List.append_assoc,eP.row_app,e1]
      exact w
     ·refine cdf (by omega) ?_
      obtain rfl:j=ce.length:=by omega
      rw [←hkl,List.take_length] at w
      rw [hkl] at w
      exact hJ0 _ _ ⟨by simp only,w.drop (i:=4) rfl⟩
    ·clear w
     rintro ⟨a1,l1,c1⟩ h6 ⟨hl1,w⟩
     simp only at hl1 w ⊢
     have:=k a1 c1 h6
     rw [List.length_append,outs_len,outs_len,←hl1] at this
     exact this (((w.drop (i:=0) rfl).drop (i:=0) rfl).drop (i:=0) rfl)
 ·rw [if_pos g] at k
  exact ct (by rw [bne_iff_ne]; exact g) (k none 0 _ ((w.drop (i:=0) rfl).nilsl _ _))
end
end Go.Proofs.YthegnmanjdlmjaaGreatDoor

/- A disk in plain words: what lasts, what is, what waits. The program's disk, walked: what each function leaves. The program's disk, walked, 2: a new one; tampering. The document's disk, walked: it is the program's disk where what is, is what lasts with the writes laid over it. The document's disk, walked, 2. The disk's statements: what an act is, what they do with one. One act on both disks: they answer alike. The disk's statements, walked: DiskPlays, DiskRestores, DiskDead. The program's bank, walked. The document's bank, walked. The bank's statements: one act on both banks. The bank's statements, walked. The program's slab: may there be one, what a chunk is bound to, sealing. -/
import Derived.Test.YthegnmanjdlmjaaGreatDoorP01
import Derived.Test.YthegnmanjdlmjaaGreatDoorP10
import Derived.Test.YthegnmanjdlmjaaGreatDoorP09
set_option linter.unusedSimpArgs false
set_option linter.unusedVariables false
namespace Go.Proofs.YthegnmanjdlmjaaGreatDoor
open Go.Sh Go.RowKit
structure DiskM where
 L:List ByteArray
 N:List ByteArray
 W:List (Int × ByteArray)
 dead:Bool
structure DiskM.Ok (M:DiskM):Prop where
 len:M.L.length=M.N.length
 pos:0<M.N.length
 small:M.N.length≤512
 at_:∀ w ∈ M.W,0≤w.1∧w.1<M.N.length
namespace DiskM
def usable (M:DiskM) (at_:Int):Int:=if M.dead=true then 20 else if at_ < 0∨at_ ≥ M.N.length then 2 else 0
def write (M:DiskM) (at_:Int) (s:ByteArray):Int × DiskM:=
 if M.usable at_ ≠ 0 then (M.usable at_,M) else if (s.size:Int) > 2048 then (5,M) else (0,{ M with N:=M.N.set at_.toNat s,W:=M.W++[(at_,s)] })
def read (M:DiskM) (at_:Int):ByteArray × Int:=if M.usable at_ ≠ 0 then (ByteArray.empty,M.usable at_) else (M.N.getD at_.toNat ByteArray.empty,0)
def flush (M:DiskM):Int × DiskM:=if M.dead=true then (20,M) else (0,{ M with L:=M.N,W:=[] })
def crashL:List (Int × ByteArray)→List Bool→List ByteArray→List ByteArray
 | w::W,k::ks,L=>crashL W ks (if k=true then L.set w.1.toNat w.2 else L)
 | _,_,L=>L
def crash (M:DiskM) (kept:List Bool):DiskM:=if M.dead=true then M else { M with L:=crashL M.W kept M.L,N:=crashL M.W kept M.L,W:=[] }
def tamper (M:DiskM) (at_:Int) (s:ByteArray):Bool × DiskM:=
 if M.usable at_ ≠ 0∨(s.size:Int) > 2048 then (false,M) else (true,{ M with L:=M.L.set at_.toNat s,N:=M.N.set at_.toNat s,W:=M.W.filter fun w=>w.1≠at_ })
def new (n:Int):DiskM:=⟨List.replicate (mx 1 (mn n 512)).toNat ByteArray.empty,List.replicate (mx 1 (mn n 512)).toNat ByteArray.empty,[],false⟩
theorem crashL_length:∀ (W:List (Int × ByteArray)) (ks:List Bool) (L:List ByteArray),(crashL W ks L).length=L.length
 | [],_,_=>by simp [crashL]
 | w::W,[],L=>by simp [crashL]
 | w::W,k::ks,L=>by rw [crashL,crashL_length]; split <;> simp
theorem new_len (n:Int):0<(mx 1 (mn n 512)).toNat∧(mx 1 (mn n 512)).toNat≤512:=by
 unfold mx mn
 split <;> split <;> omega
theorem new_ok (n:Int):(new n).Ok:=⟨rfl,by simpa [new] using (new_len n).1,by simpa [new] using (new_len n).2,by simp [new]⟩
theorem usable_zero {M:DiskM} {a:Int}:M.usable a=0↔M.dead=false∧0≤a∧a<M.N.length:=by
 unfold usable
 cases M.dead <;> simp
theorem write_ok {M:DiskM} (o:M.Ok) (a:Int) (s:ByteArray):(M.write a s).2.Ok:=by
 unfold write
 split
 ·exact o
 ·rename_i h
  have h':=usable_zero.1 (Decidable.not_not.1 h)
  split
  ·exact o
  ·refine ⟨by simpa using o.len,by simpa using o.pos,by simpa using o.small,fun w hw=>?_⟩
   simp only [List.mem_append,List.mem_singleton] at hw
   simp only [List.length_set]
   rcases hw with hw | rfl
   ·exact o.at_ w hw
   ·exact ⟨h'.2.1,h'.2.2⟩
theorem flush_ok {M:DiskM} (o:M.Ok):M.flush.2.Ok:=by
 unfold flush
 split
 ·exact o
 ·exact ⟨rfl,o.pos,o.small,by simp⟩
theorem crash_ok {M:DiskM} (o:M.Ok) (ks:List Bool):(M.crash ks).Ok:=by
 unfold crash
 split
 ·exact o
 ·refine ⟨rfl,?_,?_,by simp⟩
  ·rw [crashL_length,o.len]; exact o.pos
  ·simp only [crashL_length,o.len]; exact o.small
theorem tamper_ok {M:DiskM} (o:M.Ok) (a:Int) (s:ByteArray):(M.tamper a s).2.Ok:=by
 unfold tamper
 split
 ·exact o
 ·refine ⟨by simpa using o.len,by simpa using o.pos,by simpa using o.small,fun w hw=>?_⟩
  simp only [List.mem_filter] at hw
  simpa using o.at_ w hw.1
end DiskM
def wr (W:List (Int × ByteArray)):List Value:=W.flatMap fun w=>[.int .i64 w.1,.string w.2]
theorem wr_length (W:List (Int × ByteArray)):(wr W).length=W.length*2:=by
 unfold wr
 induction W with
 | nil=>rfl
 | cons w W ih=>rw [List.flatMap_cons,List.length_append,ih]; simp; omega
theorem wr_append (W V:List (Int × ByteArray)):wr (W++V)=wr W++wr V:=by simp [wr]
theorem wr_cons (w:Int × ByteArray) (W:List (Int × ByteArray)):wr (w::W) = .int .i64 w.1 :: .string w.2::wr W:=rfl
theorem wr_get:∀ (W:List (Int × ByteArray)) (i:Nat) (w:Int × ByteArray),W[i]? = some w→(wr W)[i*2]? = some (.int .i64 w.1)∧(wr W)[i*2+1]? = some (.string w.2)
 | [],i,w,h=>by simp at h
 | v::W,0,w,h=>by
  simp only [List.getElem?_cons_zero,Option.some.injEq] at h
  subst h; exact ⟨rfl,rfl⟩
 | v::W,i+1,w,h=>by
  have:=wr_get W i w (by simpa using h)
  rw [wr_cons,show (i+1)*2=i*2+1+1 by omega]
  exact this
theorem wr_set:∀ (W:List (Int × ByteArray)) (i:Nat) (w:Int × ByteArray),i<W.length→(wr W).take (i*2)++[.int .i64 w.1,.string w.2]++(wr W).drop (i*2+2)=wr (W.set i w)
 | [],i,w,h=>by simp at h
 | v::W,0,w,h=>by simp [wr_cons]
 | v::W,i+1,w,h=>by
  have:=wr_set W i w (by simpa using h)
  rw [wr_cons,show (i+1)*2=i*2+1+1 by omega,show i*2+1+1+2=(i*2+2)+1+1 by omega]
  simp only [List.take_succ_cons,List.drop_succ_cons,List.cons_append,List.set_cons_succ,wr_cons,this]
theorem wr_take:∀ (W:List (Int × ByteArray)) (i:Nat),(wr W).take (i*2)=wr (W.take i)
 | [],i=>by simp [wr]
 | v::W,0=>by simp [wr]
 | v::W,i+1=>by
  rw [wr_cons,show (i+1)*2=i*2+1+1 by omega]
  simp only [List.take_succ_cons,wr_cons,wr_take W i]
def strs (l:List ByteArray):Array Value:=(l.map Value.string).toArray
end Go.Proofs.YthegnmanjdlmjaaGreatDoor
namespace Go.Proofs.YthegnmanjdlmjaaGreatDoor
open Go.Sh Go.RowKit
def diskC (d:Nat) (M:DiskM):Chunk:=Wd.obj (α:=Nat × Nat × Option Addr × Nat × Nat) (fun v=>M.Ok∧v.2.2.2.1=M.W.length)
 fun v=>[.blk d (.cells #[.slice (some ⟨v.1,0,none⟩) M.N.length M.N.length,.slice (some ⟨v.2.1,0,none⟩) M.N.length M.N.length,.slice v.2.2.1 v.2.2.2.1 v.2.2.2.2,.bool M.dead] 127 (0,0)),
  .blk v.1 (.cells (strs M.L) 9 (0,0)),.blk v.2.1 (.cells (strs M.N) 9 (0,0)),.sl 131 2 v.2.2.1 v.2.2.2.1 v.2.2.2.2 (wr M.W)]
section
variable {h0 h:H} {d:Nat} {D:DiskM} {at_:Int} {s:ByteArray}
theorem usable_spec {Q:Int→H→Prop} (w:Wd h0 h [diskC d D]) (k:Q (D.usable at_) h):disk_Disk_usable (some ⟨d,0,none⟩) at_ h Q:=by
 obtain ⟨v,⟨ok,hl⟩,w⟩:=w.opn 0 rfl
 have hd:=w.blk 0 rfl
 unfold disk_Disk_usable
 unfold DiskM.usable at k
 simp only [addr_add,load_eq,Nat.zero_add,Nat.add_zero,Nat.mul_one,Nat.one_mul,Nat.zero_mul,Nat.reduceAdd,List.setIfInBounds_toArray,List.set_cons_zero,List.set_cons_succ,List.getElem?_toArray,List.getElem?_cons_zero,List.getElem?_cons_succ,some_and,int_eq,bool_eq,str_eq,slc_eq,ptr_eq,nn_eq,M.val,cond_true,cond_false,Bool.not_true,Bool.not_false,M.join,Option.isNone_some,cell_in hd]
 cases hdead:D.dead
 ·simp only [hdead,Bool.false_eq_true,if_false] at k
  simp only [cond_false]
  by_cases h1:at_ < 0
  ·simpa [h1] using k
  ·by_cases h2:at_ ≥ D.N.length
   ·simpa [h1,h2] using k
   ·simpa [h1,h2] using k
 ·simpa [hdead] using k
theorem strs_size (l:List ByteArray):(strs l).size=l.length:=by simp [strs]
theorem strs_get (l:List ByteArray) (i:Nat):(strs l)[i]? = (l[i]?).map Value.string:=by simp [strs]
theorem strs_set (l:List ByteArray) (i:Nat) (s:ByteArray):(strs l).setIfInBounds i (.string s)=strs (l.set i s):=by simp [strs]
theorem Write_spec {Q:Int→H→Prop} (w:Wd h0 h [diskC d D]) (hW:D.W.length<1000000000) (k:∀ h',Wd h0 h' [diskC d (D.write at_ s).2]→Q (D.write at_ s).1 h'):disk_Disk_Write (some ⟨d,0,none⟩) at_ s h Q:=by
 unfold disk_Disk_Write disk_Disk_Write.g
 refine usable_spec w ?_
 unfold DiskM.write at k
 by_cases hu:D.usable at_ = 0
 ·have hu':=DiskM.usable_zero.1 hu
  simp only [hu,ne_eq,not_true,if_false] at k
  simp only [hu,bne_self_eq_false,cond_false]
  by_cases hs:(s.size:Int) > 2048
  ·simp only [hs,if_true] at k
   simpa [hs] using k h w
  ·simp only [hs,if_false] at k
   simp only [hs,decide_false,cond_false]
   obtain ⟨⟨bl,bn,a,l,c⟩,⟨ok,hl⟩,w⟩:=w.opn 0 rfl
   simp only at hl
   subst hl
   have hd:=w.blk 0 rfl
   simp only [addr_add,load_eq,Nat.zero_add,Nat.add_zero,Nat.mul_one,Nat.one_mul,Nat.zero_mul,Nat.reduceAdd,List.setIfInBounds_toArray,List.set_cons_zero,List.set_cons_succ,List.getElem?_toArray,List.getElem?_cons_zero,List.getElem?_cons_succ,some_and,int_eq,bool_eq,str_eq,slc_eq,ptr_eq,nn_eq,M.val,cond_true,cond_false,Bool.not_true,Bool.not_false,cell_in hd]
   refine M.idx_of hu'.2.1 (by simpa using hu'.2.2) ?_
   simp only [addr_add,load_eq,Nat.zero_add,Nat.add_zero,Nat.mul_one,Nat.one_mul,Nat.zero_mul,Nat.reduceAdd,List.setIfInBounds_toArray,List.set_cons_zero,List.set_cons_succ,List.getElem?_toArray,List.getElem?_cons_zero,List.getElem?_cons_succ,some_and,int_eq,bool_eq,str_eq,slc_eq,ptr_eq,nn_eq,M.val,cond_true,cond_false,Bool.not_true,Bool.not_false,cell_in hd]
   refine M.put_w w 2 rfl rfl (by rw [strs_size]; omega) fun h1 w=>?_
   rw [strs_set] at w
   have hd:=w.blk 0 rfl
   simp only [addr_add,load_eq,Nat.zero_add,Nat.add_zero,Nat.mul_one,Nat.one_mul,Nat.zero_mul,Nat.reduceAdd,List.setIfInBounds_toArray,List.set_cons_zero,List.set_cons_succ,List.getElem?_toArray,List.getElem?_cons_zero,List.getElem?_cons_succ,some_and,int_eq,bool_eq,str_eq,slc_eq,ptr_eq,nn_eq,M.val,cond_true,cond_false,Bool.not_true,Bool.not_false,cell_in hd]
   refine M.new_t w fun b h2 hb w=>?_
   refine cellsOf_in hb rfl ?_
   refine M.app_w w 3 rfl rfl rfl (by simp [isPlainCell]) (by omega) (by omega) fun a' c' h3 w=>?_
   refine M.put_w w 0 rfl rfl (by simp) fun h4 w=>?_
   refine k h4 (w.close 0 (bl,bn,a',D.W.length+1,c') ?_ ⟨?_,by simp⟩)
   ·simp [wr_append,wr,strs]
   ·have:=DiskM.write_ok ok at_ s
    simpa only [DiskM.write,hu,ne_eq,not_true,if_false,hs] using this
 ·simp only [hu,ne_eq,not_false_iff,if_true] at k
  have:(D.usable at_ != 0)=true:=by simpa using hu
  simp only [this,cond_true]
  exact k h w
theorem Read_spec {Q:ByteArray→Int→H→Prop} (w:Wd h0 h [diskC d D]) (k:Q (D.read at_).1 (D.read at_).2 h):disk_Disk_Read (some ⟨d,0,none⟩) at_ h Q:=by
 unfold disk_Disk_Read disk_Disk_Read.g
 refine usable_spec w ?_
 unfold DiskM.read at k
 by_cases hu:D.usable at_ = 0
 ·have hu':=DiskM.usable_zero.1 hu
  simp only [hu,ne_eq,not_true,if_false] at k
  simp only [hu,bne_self_eq_false,cond_false]
  obtain ⟨⟨bl,bn,a,l,c⟩,⟨ok,hl⟩,w⟩:=w.opn 0 rfl
  have hd:=w.blk 0 rfl
  have hn:=w.blk 2 rfl
  simp only [addr_add,load_eq,Nat.zero_add,Nat.add_zero,Nat.mul_one,Nat.one_mul,Nat.zero_mul,Nat.reduceAdd,List.setIfInBounds_toArray,List.set_cons_zero,List.set_cons_succ,List.getElem?_toArray,List.getElem?_cons_zero,List.getElem?_cons_succ,some_and,int_eq,bool_eq,str_eq,slc_eq,ptr_eq,nn_eq,M.val,cond_true,cond_false,Bool.not_true,Bool.not_false,cell_in hd]
  refine M.idx_of hu'.2.1 (by simpa using hu'.2.2) ?_
  have:at_.toNat<D.N.length:=by omega
  simp only [addr_add,load_eq,Nat.zero_add,Nat.add_zero,Nat.mul_one,Nat.one_mul,Nat.zero_mul,Nat.reduceAdd,List.setIfInBounds_toArray,List.set_cons_zero,List.set_cons_succ,List.getElem?_toArray,List.getElem?_cons_zero,List.getElem?_cons_succ,some_and,int_eq,bool_eq,str_eq,slc_eq,ptr_eq,nn_eq,M.val,cond_true,cond_false,Bool.not_true,Bool.not_false,cell_in hn,strs_get,List.getElem?_eq_getElem this,Option.map_some]
  simpa [List.getD_eq_getElem?_getD,this] using k
 ·simp only [hu,ne_eq,not_false_iff,if_true] at k
  have:(D.usable at_ != 0)=true:=by simpa using hu
  simp only [this,cond_true]
  exact k
theorem strs_toList (l:List ByteArray):(strs l).toList=l.map Value.string:=by simp [strs]
theorem splice_strs {l l':List ByteArray} (e:l'.length=l.length):splice (strs l) 0 (l'.map Value.string)=strs l':=by
 rw [splice_all (by simp [strs_size,e])]; rfl
theorem Flush_spec {Q:Int→H→Prop} (w:Wd h0 h [diskC d D]) (k:∀ h',Wd h0 h' [diskC d D.flush.2]→Q D.flush.1 h'):disk_Disk_Flush (some ⟨d,0,none⟩) h Q:=by
 unfold disk_Disk_Flush disk_Disk_Flush.g
 refine usable_spec w ?_
 unfold DiskM.flush at k
 cases hdead:D.dead
 ·simp only [hdead,Bool.false_eq_true,if_false] at k
  obtain ⟨⟨bl,bn,a,l,c⟩,⟨ok,hl⟩,w⟩:=w.opn 0 rfl
  have hu:D.usable 0=0:=DiskM.usable_zero.2 ⟨hdead,by omega,by have:=ok.pos; omega⟩
  have hd:=w.blk 0 rfl
  have hn:=w.blk 2 rfl
  simp only [addr_add,load_eq,Nat.zero_add,Nat.add_zero,Nat.mul_one,Nat.one_mul,Nat.zero_mul,Nat.reduceAdd,List.setIfInBounds_toArray,List.set_cons_zero,List.set_cons_succ,List.getElem?_toArray,List.getElem?_cons_zero,List.getElem?_cons_succ,some_and,int_eq,bool_eq,str_eq,slc_eq,ptr_eq,nn_eq,M.val,cond_true,cond_false,Bool.not_true,Bool.not_false,hu,bne_self_eq_false,cell_in hd,Nat.min_self]
  refine cellsOf_in hn (strs_size _) ?_
  refine M.copy_w w 1 rfl (by simp [strs_toList,isPlainCell]) (by simp [strs_toList,strs_size,ok.len]) fun h1 w=>?_
  rw [strs_toList,splice_strs ok.len.symm] at w
  have hd:=w.blk 0 rfl
  refine M.put_w w 0 rfl rfl (by simp) fun h2 w=>?_
  have w:=(w.drop (i:=3) rfl).nilsl 131 2
  refine k h2 (w.close 0 (bl,bn,none,0,0) (by simp [hdead,wr]) ⟨?_,rfl⟩)
  have:=DiskM.flush_ok ok
  simpa only [DiskM.flush,hdead,Bool.false_eq_true,if_false] using this
 ·have hu:D.usable 0=20:=by simp [DiskM.usable,hdead]
  simp only [hdead,if_true] at k
  simp only [hu]
  exact k h w
theorem Crash_spec {Q:H→Prop} {ka:Option Addr} {kl kc:Nat} {kept:List Bool} (w:Wd h0 h [diskC d D]) (hW:D.W.length<1000000000) (hk:kept.length=kl) (h0k:ka=none→kl=0) (hr:∀ b,ka=some b→Sh.rowAt h0 b (kept.map Value.bool))
  (k:∀ h',Wd h0 h' [diskC d (D.crash kept)]→Q h'):disk_Disk_Crash (some ⟨d,0,none⟩) ka kl kc h Q:=by
 unfold disk_Disk_Crash disk_Disk_Crash.g
 refine usable_spec w ?_
 unfold DiskM.crash at k
 cases hdead:D.dead
 ·simp only [hdead,Bool.false_eq_true,if_false] at k
  have w0:=w
  obtain ⟨⟨bl,bn,a,l,c⟩,⟨ok,hl⟩,w⟩:=w.opn 0 rfl
  simp only at hl
  subst hl
  have hu:D.usable 0=0:=DiskM.usable_zero.2 ⟨hdead,by omega,by have:=ok.pos; omega⟩
  have hd:=w.blk 0 rfl
  simp only [addr_add,load_eq,Nat.zero_add,Nat.add_zero,Nat.mul_one,Nat.one_mul,Nat.zero_mul,Nat.reduceAdd,List.setIfInBounds_toArray,List.set_cons_zero,List.set_cons_succ,List.getElem?_toArray,List.getElem?_cons_zero,List.getElem?_cons_succ,some_and,int_eq,bool_eq,str_eq,slc_eq,ptr_eq,nn_eq,M.val,cond_true,cond_false,Bool.not_true,Bool.not_false,M.join,hu,bne_self_eq_false,cell_in hd]
  refine M.loop_of (I:=fun (i:Int) h'=>0≤i∧i≤D.W.length∧∃ L',L'.length=D.N.length∧DiskM.crashL (D.W.drop i.toNat) (kept.drop i.toNat) L'=DiskM.crashL D.W kept D.L∧Wd h0 h' [.blk d (.cells #[.slice (some ⟨bl,0,none⟩) D.N.length D.N.length,.slice (some ⟨bn,0,none⟩) D.N.length D.N.length,.slice a D.W.length c,.bool false] 127 (0,0)),
    .blk bl (.cells (strs L') 9 (0,0)),.blk bn (.cells (strs D.N) 9 (0,0)),.sl 131 2 a D.W.length c (wr D.W)]) (μ:=fun i=>(D.W.length-i).toNat)
   ⟨by omega,by omega,D.L,ok.len,rfl,by simpa [hdead] using w⟩ ?_
  intro i h1 J ⟨hi0,hi1,L',hL',hcr,w⟩ hJ
  have hd:=w.blk 0 rfl
  by_cases hlt:i<D.W.length
  ·have hlt':i.toNat<D.W.length:=by omega
   simp only [hlt,decide_true,cond_true]
   obtain ⟨hsl,_,hsn,hsr⟩:=w.slrow 3 rfl
   cases a with
   | none=>have:=(hsn rfl).2; omega
   | some ab=>
    have hrow:=hsr ab rfl
    have hg:=wr_get D.W i.toNat D.W[i.toNat] (List.getElem?_eq_getElem hlt')
    have hin:=ok.at_ D.W[i.toNat] (List.getElem_mem _)
    have hlen:=wr_length D.W
    have c0:h1.cell (ab.add (i.toNat * 2))=some (.int .i64 D.W[i.toNat].1):=by rw [hrow _ (by omega)]; exact hg.1
    have c1:h1.cell (ab.add (i.toNat * 2+1))=some (.string D.W[i.toNat].2):=by rw [hrow _ (by omega)]; exact hg.2
    refine M.idx_of hi0 hlt ?_
    simp only [addr_add,load_eq,Nat.zero_add,Nat.add_zero,Nat.mul_one,Nat.one_mul,Nat.zero_mul,Nat.reduceAdd,List.setIfInBounds_toArray,List.set_cons_zero,List.set_cons_succ,List.getElem?_toArray,List.getElem?_cons_zero,List.getElem?_cons_succ,some_and,int_eq,bool_eq,str_eq,slc_eq,ptr_eq,nn_eq,M.val,cond_true,cond_false,Bool.not_true,Bool.not_false,add2,c0,c1]
    refine M.new_w w fun b h2 w=>⟨rfl,?_⟩
    refine M.puts_w0 w 4 rfl (by simp [isPlainCell]) rfl fun h3 w=>?_
    have fin:∀ (kb:Bool),(kept.drop i.toNat=kb::kept.drop (i.toNat+1))∨(kb=false∧kept.drop i.toNat=[])→True:=fun _ _=>trivial
    have hd:=w.blk 0 rfl
    have ht:=w.blk 4 rfl
    have hw1:IntKind.wrap .i64 (i+1)=i+1:=by rw [IntKind.wrap_i64]; omega
    have hdrop:D.W.drop i.toNat=D.W[i.toNat]::D.W.drop (i.toNat+1):=List.drop_eq_getElem_cons hlt'
    have hnext:(i+1).toNat=i.toNat+1:=by omega
    by_cases hk1:i<kl
    ·have hk1':i.toNat<kept.length:=by omega
     have hkd:kept.drop i.toNat=kept[i.toNat]::kept.drop (i.toNat+1):=List.drop_eq_getElem_cons hk1'
     simp only [hk1,decide_true,cond_true]
     cases ka with
     | none=>have:=h0k rfl; omega
     | some kb=>
      refine M.idx_of hi0 hk1 ?_
      have ck:h3.cell (kb.add i.toNat)=some (.bool kept[i.toNat]):=w.keep.cell (by rw [hr kb rfl _ (by simpa using hk1')]; simp [hk1'])
      simp only [addr_add,load_eq,Nat.zero_add,Nat.add_zero,Nat.mul_one,Nat.one_mul,Nat.zero_mul,Nat.reduceAdd,List.setIfInBounds_toArray,List.set_cons_zero,List.set_cons_succ,List.getElem?_toArray,List.getElem?_cons_zero,List.getElem?_cons_succ,some_and,int_eq,bool_eq,str_eq,slc_eq,ptr_eq,nn_eq,M.val,cond_true,cond_false,Bool.not_true,Bool.not_false,ck]
      rw [hdrop,hkd] at hcr
      simp only [DiskM.crashL] at hcr
      cases hkv:kept[i.toNat]
      ·simp only [hkv,Bool.false_eq_true,if_false] at hcr
       simp only [cond_false,hw1]
       exact hJ _ _ ⟨by omega,by omega,L',hL',by rw [hnext]; exact hcr,w.drop (i:=4) rfl⟩ (by omega)
      ·simp only [hkv,if_true] at hcr
       simp only [addr_add,load_eq,Nat.zero_add,Nat.add_zero,Nat.mul_one,Nat.one_mul,Nat.zero_mul,Nat.reduceAdd,List.setIfInBounds_toArray,List.set_cons_zero,List.set_cons_succ,List.getElem?_toArray,List.getElem?_cons_zero,List.getElem?_cons_succ,some_and,int_eq,bool_eq,str_eq,slc_eq,ptr_eq,nn_eq,M.val,cond_true,cond_false,Bool.not_true,Bool.not_false,cell_in hd,cell_in ht]
       refine M.idx_of hin.1 hin.2 ?_
       simp only [addr_add,load_eq,Nat.zero_add,Nat.add_zero,Nat.mul_one,Nat.one_mul,Nat.zero_mul,Nat.reduceAdd,List.setIfInBounds_toArray,List.set_cons_zero,List.set_cons_succ,List.getElem?_toArray,List.getElem?_cons_zero,List.getElem?_cons_succ,some_and,int_eq,bool_eq,str_eq,slc_eq,ptr_eq,nn_eq,M.val,cond_true,cond_false,Bool.not_true,Bool.not_false]
       refine M.put_w w 1 rfl rfl (by rw [strs_size]; omega) fun h4 w=>?_
       rw [strs_set] at w
       simp only [hw1]
       exact hJ _ _ ⟨by omega,by omega,_,by simpa using hL',by rw [hnext]; exact hcr,w.drop (i:=4) rfl⟩ (by omega)
    ·have hkd:kept.drop i.toNat=[]:=List.drop_eq_nil_of_le (by omega)
     have hkd2:kept.drop (i.toNat+1)=[]:=List.drop_eq_nil_of_le (by omega)
     simp only [hk1,decide_false,cond_false,hw1]
     refine hJ _ _ ⟨by omega,by omega,L',hL',?_,w.drop (i:=4) rfl⟩ (by omega)
     rw [hnext,hkd2,←hcr,hkd]
     cases D.W.drop (i.toNat+1) <;> cases D.W.drop i.toNat <;> rfl
  ·simp only [hlt,decide_false,cond_false]
   have hi:i.toNat=D.W.length:=by omega
   rw [hi,List.drop_length] at hcr
   have hcr':L'=DiskM.crashL D.W kept D.L:=by rw [←hcr]; cases kept.drop D.W.length <;> rfl
   have hl:=w.blk 1 rfl
   simp only [addr_add,load_eq,Nat.zero_add,Nat.add_zero,Nat.mul_one,Nat.one_mul,Nat.zero_mul,Nat.reduceAdd,List.setIfInBounds_toArray,List.set_cons_zero,List.set_cons_succ,List.getElem?_toArray,List.getElem?_cons_zero,List.getElem?_cons_succ,some_and,int_eq,bool_eq,str_eq,slc_eq,ptr_eq,nn_eq,M.val,cond_true,cond_false,Bool.not_true,Bool.not_false,cell_in hd,Nat.min_self]
   refine cellsOf_in hl (by rw [strs_size,hL']) ?_
   refine M.copy_w w 2 rfl (by simp [strs_toList,isPlainCell]) (by simp [strs_toList,strs_size,hL']) fun h1 w=>?_
   rw [strs_toList,splice_strs hL'] at w
   refine M.put_w w 0 rfl rfl (by simp) fun h2 w=>?_
   have w:=(w.drop (i:=3) rfl).nilsl 131 2
   have hlen:(DiskM.crashL D.W kept D.L).length=D.N.length:=by rw [DiskM.crashL_length,ok.len]
   refine k h2 (w.close 0 (bl,bn,none,0,0) ?_ ⟨?_,rfl⟩)
   ·subst hcr'
    simp [hlen,hdead,wr]
   ·have:=DiskM.crash_ok ok kept
    simpa only [DiskM.crash,hdead,Bool.false_eq_true,if_false] using this
 ·have hu:D.usable 0=20:=by simp [DiskM.usable,hdead]
  simp only [hdead,if_true] at k
  simp only [hu]
  exact k h w
end
end Go.Proofs.YthegnmanjdlmjaaGreatDoor
namespace Go.Proofs.YthegnmanjdlmjaaGreatDoor
open Go.Sh Go.RowKit
section
variable {h0 h:H} {d:Nat} {D:DiskM} {at_:Int} {s:ByteArray}
theorem zeros_strs (n:Nat):(zerosOf [.string ByteArray.empty] n).toArray=strs (List.replicate n ByteArray.empty):=by
 unfold zerosOf strs
 rw [List.map_replicate]
 congr 1
 induction n with
 | zero=>rfl
 | succ n ih=>rw [List.replicate_succ,List.flatten_cons,ih]; rfl
theorem New_spec {n:Int} {Q:Option Addr→H→Prop} (k:∀ d h',Wd h h' [diskC d (DiskM.new n)]→Q (some ⟨d,0,none⟩) h'):disk_New n h Q:=by
 have hn:=DiskM.new_len n
 have fin:∀ b1 b2 b h',Wd h h' [.blk b1 (.cells (zerosOf [.string ByteArray.empty] (mx 1 (mn n 512)).toNat).toArray 9),.blk b2 (.cells (zerosOf [.string ByteArray.empty] (mx 1 (mn n 512)).toNat).toArray 9),
   .blk b (.cells #[.slice (some ⟨b1,0,none⟩) (mx 1 (mn n 512)).toNat (mx 1 (mn n 512)).toNat,.slice (some ⟨b2,0,none⟩) (mx 1 (mn n 512)).toNat (mx 1 (mn n 512)).toNat,.slice none 0 0,.bool false] 127)]→Q (some ⟨b,0,none⟩) h':=by
  intro b1 b2 b h' w
  have w:=((w.mv (i:=0) rfl).mv (i:=0) rfl).nilsl 131 2
  refine k b h' (w.close 0 (b1,b2,none,0,0) ?_ ⟨DiskM.new_ok n,rfl⟩)
  simp [DiskM.new,zeros_strs,wr]
 unfold disk_New
 refine M.jn ⟨?_,?_⟩
 ·refine M.mk_w (Wd.start h) (by omega) (by omega) (by omega) (by omega) fun b1 h1 w=>?_
  refine M.mk_w w (by omega) (by omega) (by omega) (by omega) fun b2 h2 w=>?_
  exact M.new_w w fun b h3 w=>fin b1 b2 b h3 w
 ·refine M.mk_w (Wd.start h) (by omega) (by omega) (by omega) (by omega) fun b1 h1 w=>?_
  refine M.mk_w w (by omega) (by omega) (by omega) (by omega) fun b2 h2 w=>?_
  exact M.new_w w fun b h3 w=>fin b2 b1 b h3 (by
   have:=w.mv (i:=0) rfl
   exact this.mv (i:=1) rfl)
theorem pred_spec {a:Addr} {n:Int} {Q:Bool→H→Prop} (hc:h.cell a=some (.int .i64 at_)) (k:∀ h',Keep h h'→Q (n == at_) h'):disk_Disk_Tamper_1 n s a h Q:=by
 unfold disk_Disk_Tamper_1
 refine M.new_of fun b h1 _ k1 hb=>?_
 simp only [addr_add,load_eq,Nat.zero_add,Nat.add_zero,Nat.mul_one,Nat.one_mul,Nat.zero_mul,Nat.reduceAdd,List.setIfInBounds_toArray,List.set_cons_zero,List.set_cons_succ,List.getElem?_toArray,List.getElem?_cons_zero,List.getElem?_cons_succ,some_and,int_eq,bool_eq,str_eq,slc_eq,ptr_eq,nn_eq,M.val,cond_true,cond_false,Bool.not_true,Bool.not_false,cell_in hb,k1.cell hc]
 exact k h1 k1
theorem Index_spec {a:Option Addr} {l c:Nat} {ca:Addr} {W:List (Int × ByteArray)} {Q:Int→H→Prop} (hc:h.cell ca=some (.int .i64 at_)) (hl:W.length=l) (hmax:l<1000000000) (h0a:a=none→l=0) (hr:∀ b,a=some b→Sh.rowAt h b (wr W))
  (k:∀ h',Keep h h'→Q (match W.findIdx? (fun w=>w.1 == at_) with | some i=>(i:Int) | none=>-1) h'):slices_IndexFuncdisk_write_disk_write_disk_Disk_Tamper_1 a l c ca h Q:=by
 unfold slices_IndexFuncdisk_write_disk_write_disk_Disk_Tamper_1 slices_IndexFuncdisk_write_disk_write_disk_Disk_Tamper_1.g
 refine M.loop_of (I:=fun (i:Int) h'=>0≤i∧i≤l∧Keep h h'∧∀ j,j<i.toNat→∀ w,W[j]? = some w→(w.1 == at_)=false) (μ:=fun i=>(l-i).toNat) ⟨by omega,by omega,Keep.refl h,fun j hj=>by simp at hj⟩ ?_
 intro i h1 J ⟨hi0,hi1,hk,hno⟩ hJ
 by_cases hlt:i<l
 ·have hlt':i.toNat<W.length:=by omega
  simp only [hlt,decide_true,cond_true]
  cases a with
  | none=>have:=h0a rfl; omega
  | some ab=>
   have hrow:=hk.row (hr ab rfl)
   have hg:=wr_get W i.toNat W[i.toNat] (List.getElem?_eq_getElem hlt')
   have hlen:=wr_length W
   have c0:h1.cell (ab.add (i.toNat * 2))=some (.int .i64 W[i.toNat].1):=by rw [hrow _ (by omega)]; exact hg.1
   have c1:h1.cell (ab.add (i.toNat * 2+1))=some (.string W[i.toNat].2):=by rw [hrow _ (by omega)]; exact hg.2
   have hw1:IntKind.wrap .i64 (i+1)=i+1:=by rw [IntKind.wrap_i64]; omega
   refine M.idx_of hi0 hlt ?_
   simp only [addr_add,load_eq,Nat.zero_add,Nat.add_zero,Nat.mul_one,Nat.one_mul,Nat.zero_mul,Nat.reduceAdd,List.setIfInBounds_toArray,List.set_cons_zero,List.set_cons_succ,List.getElem?_toArray,List.getElem?_cons_zero,List.getElem?_cons_succ,some_and,int_eq,bool_eq,str_eq,slc_eq,ptr_eq,nn_eq,M.val,cond_true,cond_false,Bool.not_true,Bool.not_false,add2,c0,c1]
   refine pred_spec (hk.cell hc) fun h2 k2=>?_
   by_cases he:(W[i.toNat].1 == at_)=true
   ·rw [he]
    have:W.findIdx? (fun w=>w.1 == at_)=some i.toNat:=by
     rw [List.findIdx?_eq_some_iff_getElem]
     exact ⟨hlt',he,fun j hj=>by simpa using hno j hj W[j] (List.getElem?_eq_getElem (by omega))⟩
    rw [this] at k
    have:=k h2 (hk.trans k2)
    have e:((i.toNat:Nat):Int)=i:=by omega
    simp only [e,cond_true] at this ⊢
    exact this
   ·rw [Bool.not_eq_true] at he
    rw [he]
    simp only [cond_false,hw1]
    refine hJ _ _ ⟨by omega,by omega,hk.trans k2,fun j hj w hw=>?_⟩ (by omega)
    by_cases hji:j=i.toNat
    ·subst hji
     rw [List.getElem?_eq_getElem hlt'] at hw
     simp only [Option.some.injEq] at hw
     rw [←hw]; exact he
    ·exact hno j (by omega) w hw
 ·simp only [hlt,decide_false,cond_false]
  have:W.findIdx? (fun w=>w.1 == at_)=none:=by
   rw [List.findIdx?_eq_none_iff]
   intro w hw
   obtain ⟨j,hj,rfl⟩:=List.getElem_of_mem hw
   exact hno j (by omega) _ (List.getElem?_eq_getElem hj)
  rw [this] at k
  exact k h1 hk
theorem Delete_spec {a:Option Addr} {l c cb:Nat} {W:List (Int × ByteArray)} {Q:Option Addr→Nat→Nat→H→Prop} (w:Wd h0 h [.blk cb (.cells #[.int .i64 at_] 3),.sl 131 2 a l c (wr W)]) (hl:W.length=l) (hmax:l<1000000000)
  (k:∀ l' h',l'=(W.filter fun w=>w.1≠at_).length→Wd h0 h' [.blk cb (.cells #[.int .i64 at_] 3),.sl 131 2 a l' c (wr (W.filter fun w=>w.1≠at_))]→Q a l' c h'):slices_DeleteFuncdisk_write_disk_write_disk_Disk_Tamper_1 a l c ⟨cb,0,none⟩ h Q:=by
 unfold slices_DeleteFuncdisk_write_disk_write_disk_Disk_Tamper_1 slices_DeleteFuncdisk_write_disk_write_disk_Disk_Tamper_1.g
 have hcb:=w.blk 0 rfl
 obtain ⟨hsl,hlc,hsn,hsr⟩:=w.slrow 1 rfl
 refine Index_spec (W:=W) (at_:=at_) (by rw [cell_in hcb]; rfl) hl hmax (fun e=>(hsn e).2) hsr fun h1 k1=>?_
 have w:=w.keeps k1
 cases hf:W.findIdx? (fun w=>w.1 == at_) with
 | none=>
  rw [List.findIdx?_eq_none_iff] at hf
  have hfl:(W.filter fun w=>w.1≠at_)=W:=List.filter_eq_self.2 fun w hw=>by simpa using hf w hw
  rw [hfl] at k
  simpa using k l h1 hl.symm w
 | some i0=>
  rw [List.findIdx?_eq_some_iff_getElem] at hf
  obtain ⟨hi0,hp0,hno⟩:=hf
  have hne:(((i0:Nat):Int) == -1)=false:=by simp
  have hw1:IntKind.wrap .i64 ((i0:Int)+1)=(i0:Int)+1:=by rw [IntKind.wrap_i64]; omega
  simp only [hne,cond_false]
  refine M.jn ?_
  simp only [addr_add,load_eq,Nat.zero_add,Nat.add_zero,Nat.mul_one,Nat.one_mul,Nat.zero_mul,Nat.reduceAdd,List.setIfInBounds_toArray,List.set_cons_zero,List.set_cons_succ,List.getElem?_toArray,List.getElem?_cons_zero,List.getElem?_cons_succ,some_and,int_eq,bool_eq,str_eq,slc_eq,ptr_eq,nn_eq,M.val,cond_true,cond_false,Bool.not_true,Bool.not_false,hw1]
  cases a with
  | none=>have:=(hsn rfl).2; omega
  | some ab=>
  have e0:(W.take (i0+1)).filter (fun w=>w.1≠at_)=W.take i0:=by
   rw [List.take_succ_eq_append_getElem hi0,List.filter_append]
   have:(W.take i0).filter (fun w=>w.1≠at_)=W.take i0:=List.filter_eq_self.2 fun w hw=>by
    obtain ⟨j,hj,rfl⟩:=List.getElem_of_mem hw
    simp at hj
    have:=hno j (by omega)
    simpa using this
   rw [this]
   simp only [beq_iff_eq] at hp0
   simp [hp0]
  refine M.loop_of (I:=fun (p:Int × Int) h'=>0≤p.1∧p.1<p.2∧p.2≤l∧∃ V:List (Int × ByteArray),V.length=l∧V.take p.1.toNat=(W.take p.2.toNat).filter (fun w=>w.1≠at_)∧V.drop p.2.toNat=W.drop p.2.toNat ∧
    Wd h0 h' [.blk cb (.cells #[.int .i64 at_] 3),.sl 131 2 (some ab) l c (wr V)]) (μ:=fun p=>(l-p.2).toNat)
   ⟨by simp,by simp only; omega,by simp only; omega,W,hl,?_,rfl,w⟩ ?_
  ·rw [show ((i0:Int)+1).toNat=i0+1 by omega,e0]; simp
  rintro ⟨i,j⟩ h2 J ⟨hi,hij,hj,V,hV,hVi,hVj,w⟩ hJ
  simp only at hi hij hj hVi hVj ⊢
  obtain ⟨_,_,_,hsr2⟩:=w.slrow 1 rfl
  have hlenV:=wr_length V
  by_cases hlt:j<l
  ·have hlt':j.toNat<V.length:=by omega
   have hltW:j.toNat<W.length:=by omega
   have hVW:V[j.toNat]=W[j.toNat]:=by
    have h1:=congrArg (fun z=>z[0]?) hVj
    simp only [List.getElem?_drop,Nat.add_zero,List.getElem?_eq_getElem hlt',List.getElem?_eq_getElem hltW,Option.some.injEq] at h1
    exact h1
   simp only [hlt,decide_true,cond_true]
   have hrow:=hsr2 ab rfl
   have hg:=wr_get V j.toNat V[j.toNat] (List.getElem?_eq_getElem hlt')
   have c0:h2.cell (ab.add (j.toNat * 2))=some (.int .i64 V[j.toNat].1):=by rw [hrow _ (by omega)]; exact hg.1
   have c1:h2.cell (ab.add (j.toNat * 2+1))=some (.string V[j.toNat].2):=by rw [hrow _ (by omega)]; exact hg.2
   have hw2:IntKind.wrap .i64 (j+1)=j+1:=by rw [IntKind.wrap_i64]; omega
   have hw3:IntKind.wrap .i64 (i+1)=i+1:=by rw [IntKind.wrap_i64]; omega
   have hnx:(j+1).toNat=j.toNat+1:=by omega
   refine M.jn ?_
   refine M.idx_of (by omega) hlt ?_
   simp only [addr_add,load_eq,Nat.zero_add,Nat.add_zero,Nat.mul_one,Nat.one_mul,Nat.zero_mul,Nat.reduceAdd,List.setIfInBounds_toArray,List.set_cons_zero,List.set_cons_succ,List.getElem?_toArray,List.getElem?_cons_zero,List.getElem?_cons_succ,some_and,int_eq,bool_eq,str_eq,slc_eq,ptr_eq,nn_eq,M.val,cond_true,cond_false,Bool.not_true,Bool.not_false,add2,c0,c1,hw2,hw3]
   refine M.new_w w fun b h3 w=>⟨rfl,?_⟩
   refine M.puts_w0 w 2 rfl (by simp [isPlainCell]) rfl fun h4 w=>?_
   have hb:=w.blk 2 rfl
   have hcb:=w.blk 0 rfl
   simp only [addr_add,load_eq,Nat.zero_add,Nat.add_zero,Nat.mul_one,Nat.one_mul,Nat.zero_mul,Nat.reduceAdd,List.setIfInBounds_toArray,List.set_cons_zero,List.set_cons_succ,List.getElem?_toArray,List.getElem?_cons_zero,List.getElem?_cons_succ,some_and,int_eq,bool_eq,str_eq,slc_eq,ptr_eq,nn_eq,M.val,cond_true,cond_false,Bool.not_true,Bool.not_false,cell_in hb]
   refine pred_spec (at_:=at_) (by rw [cell_in hcb]; rfl) fun h5 k5=>?_
   have w:=w.keeps k5
   have hb:=w.blk 2 rfl
   simp only [addr_add,load_eq,Nat.zero_add,Nat.add_zero,Nat.mul_one,Nat.one_mul,Nat.zero_mul,Nat.reduceAdd,List.setIfInBounds_toArray,List.set_cons_zero,List.set_cons_succ,List.getElem?_toArray,List.getElem?_cons_zero,List.getElem?_cons_succ,some_and,int_eq,bool_eq,str_eq,slc_eq,ptr_eq,nn_eq,M.val,cond_true,cond_false,Bool.not_true,Bool.not_false,cell_in hb]
   have htk:(W.take (j.toNat+1)).filter (fun w=>w.1≠at_)=(W.take j.toNat).filter (fun w=>w.1≠at_)++if V[j.toNat].1=at_ then [] else [V[j.toNat]]:=by
    rw [List.take_succ_eq_append_getElem hltW,List.filter_append,hVW]
    congr 1
    by_cases he:W[j.toNat].1=at_ <;> simp [he]
   by_cases he:V[j.toNat].1=at_
   ·have:(V[j.toNat].1 == at_)=true:=by simpa using he
    simp only [this,Bool.not_true,cond_false]
    refine hJ _ _ ⟨hi,by simp only; omega,by simp only; omega,V,hV,?_,?_,w.drop (i:=2) rfl⟩ (by simp only; omega)
    ·simp only [hnx,htk,he,if_true,List.append_nil]; exact hVi
    ·simp only [hnx]
     have:=congrArg (List.drop 1) hVj
     simpa [List.drop_drop] using this
   ·have:(V[j.toNat].1 == at_)=false:=by simpa using he
    simp only [this,Bool.not_false,cond_true]
    refine M.idx_of hi (by omega) ⟨rfl,?_⟩
    refine M.puts_sl w 1 rfl (by simp [isPlainCell]) (by simp; omega) fun h6 w=>?_
    have e2:List.take (i.toNat * 2) (wr V)++[Value.int .i64 V[j.toNat].1,Value.string V[j.toNat].2]++List.drop (i.toNat * 2+[Value.int IntKind.i64 V[j.toNat].1,Value.string V[j.toNat].2].length) (wr V)=wr (V.set i.toNat V[j.toNat]):=wr_set V i.toNat V[j.toNat] (by omega)
    rw [e2] at w
    have hni:(i+1).toNat=i.toNat+1:=by omega
    refine hJ _ _ ⟨by simp only; omega,by simp only; omega,by simp only; omega,V.set i.toNat V[j.toNat],by simpa using hV,?_,?_,w.drop (i:=2) rfl⟩ (by simp only; omega)
    ·simp only [hnx,hni,htk,he,if_false]
     rw [List.take_succ_eq_append_getElem (by simp; omega),List.take_set_of_le (Nat.le_refl _),hVi]
     simp
    ·simp only [hnx]
     rw [List.drop_set_of_lt (by omega)]
     have:=congrArg (List.drop 1) hVj
     simpa [List.drop_drop] using this
  ·simp only [hlt,decide_false,cond_false]
   have hjl:j.toNat=W.length:=by omega
   rw [hjl,List.take_length] at hVi
   have hil:i.toNat≤l:=by omega
   have hfl:(W.filter fun w=>w.1≠at_).length=i.toNat:=by rw [←hVi]; simp; omega
   refine ⟨hi,by omega,by omega,?_⟩
   have hlc2:l≤c:=by omega
   have hnc:¬ c=i.toNat:=by omega
   have es:sliceAddr (some ab) c i.toNat 2=some (ab.add (i.toNat * 2)):=by simp [sliceAddr,hnc]
   have hll:(((l:Nat):Int).toNat-i.toNat)=l-i.toNat:=by omega
   simp only [es,hll]
   refine ⟨fun e=>by simp at e,fun a' ea=>?_⟩
   simp only [Option.some.injEq] at ea
   subst ea
   refine M.puts_sl w 1 rfl (fun v hv=>?_) (by rw [zerosOf_length,hlenV]; simp; omega) fun h6 w=>?_
   ·unfold zerosOf at hv
    simp only [List.mem_flatten,List.mem_replicate] at hv
    obtain ⟨z,⟨_,rfl⟩,hz⟩:=hv
    simp at hz
    rcases hz with rfl | rfl <;> rfl
   ·have w:=w.shrink (i:=1) (l':=i.toNat) rfl hil
    have e3:(List.take (i.toNat * 2) (wr V)++zerosOf [Value.int .i64 0,Value.string ByteArray.empty] (l-i.toNat)++List.drop (i.toNat * 2+(zerosOf [Value.int .i64 0,Value.string ByteArray.empty] (l-i.toNat)).length) (wr V)).take (i.toNat * 2)=wr (W.filter fun w=>w.1≠at_):=by
     rw [List.append_assoc,List.take_append_of_le_length (by simp; omega),List.take_take,Nat.min_self,wr_take,hVi]
    rw [e3] at w
    refine M.sub0 hi (by omega) ?_
    exact k _ _ hfl.symm w
theorem Tamper_spec {Q:Bool→H→Prop} (w:Wd h0 h [diskC d D]) (hW:D.W.length<1000000000) (k:∀ h',Wd h0 h' [diskC d (D.tamper at_ s).2]→Q (D.tamper at_ s).1 h'):disk_Disk_Tamper (some ⟨d,0,none⟩) at_ s h Q:=by
 unfold disk_Disk_Tamper disk_Disk_Tamper.g
 refine M.new_w w fun cb h1 w=>?_
 refine M.jn ?_
 have hcb:=w.blk 1 rfl
 simp only [addr_add,load_eq,Nat.zero_add,Nat.add_zero,Nat.mul_one,Nat.one_mul,Nat.zero_mul,Nat.reduceAdd,List.setIfInBounds_toArray,List.set_cons_zero,List.set_cons_succ,List.getElem?_toArray,List.getElem?_cons_zero,List.getElem?_cons_succ,some_and,int_eq,bool_eq,str_eq,slc_eq,ptr_eq,nn_eq,M.val,cond_true,cond_false,Bool.not_true,Bool.not_false,cell_in hcb]
 have wd:=w
 obtain ⟨hx,_,kx,wx,_,_⟩:=w.on (i:=0) rfl
 refine usable_spec wx ?_
 unfold DiskM.tamper at k
 by_cases hu:D.usable at_ = 0
 ·have hu':=DiskM.usable_zero.1 hu
  by_cases hs:(s.size:Int) > 2048
  ·simp only [hu,hs,or_true,if_true] at k
   simp only [hu,hs,bne_self_eq_false,cond_false,decide_true,cond_true]
   exact k _ (w.drop (i:=1) rfl)
  ·simp only [hu,hs,ne_eq,not_true,or_self,if_false] at k
   simp only [addr_add,load_eq,Nat.zero_add,Nat.add_zero,Nat.mul_one,Nat.one_mul,Nat.zero_mul,Nat.reduceAdd,List.setIfInBounds_toArray,List.set_cons_zero,List.set_cons_succ,List.getElem?_toArray,List.getElem?_cons_zero,List.getElem?_cons_succ,some_and,int_eq,bool_eq,str_eq,slc_eq,ptr_eq,nn_eq,M.val,cond_true,cond_false,Bool.not_true,Bool.not_false,hu,hs,bne_self_eq_false,decide_false]
   obtain ⟨⟨bl,bn,a,l,c⟩,⟨ok,hl⟩,w⟩:=w.opn 0 rfl
   simp only at hl
   have hd:=w.blk 1 rfl
   simp only [addr_add,load_eq,Nat.zero_add,Nat.add_zero,Nat.mul_one,Nat.one_mul,Nat.zero_mul,Nat.reduceAdd,List.setIfInBounds_toArray,List.set_cons_zero,List.set_cons_succ,List.getElem?_toArray,List.getElem?_cons_zero,List.getElem?_cons_succ,some_and,int_eq,bool_eq,str_eq,slc_eq,ptr_eq,nn_eq,M.val,cond_true,cond_false,Bool.not_true,Bool.not_false,cell_in hd]
   have w:=(w.mv (i:=1) rfl).mv (i:=1) rfl
   have w:=w.mv (i:=1) rfl
   have wq:=w
   obtain ⟨h2,_,k2,w2,w3,back⟩:=w.split 2
   refine Delete_spec w2 hl.symm (by omega) fun l' h3 hl' w4=>?_
   have w:=back _ _ w4
   refine M.put_w w 2 rfl rfl (by simp) fun h4 w=>?_
   have hd:=w.blk 2 rfl
   have hcb:=w.blk 0 rfl
   have hat:at_.toNat<D.N.length:=by omega
   simp only [addr_add,load_eq,Nat.zero_add,Nat.add_zero,Nat.mul_one,Nat.one_mul,Nat.zero_mul,Nat.reduceAdd,List.setIfInBounds_toArray,List.set_cons_zero,List.set_cons_succ,List.getElem?_toArray,List.getElem?_cons_zero,List.getElem?_cons_succ,some_and,int_eq,bool_eq,str_eq,slc_eq,ptr_eq,nn_eq,M.val,cond_true,cond_false,Bool.not_true,Bool.not_false,cell_in hd,cell_in hcb]
   refine M.idx_of hu'.2.1 hu'.2.2 ?_
   simp only [addr_add,load_eq,Nat.zero_add,Nat.add_zero,Nat.mul_one,Nat.one_mul,Nat.zero_mul,Nat.reduceAdd,List.setIfInBounds_toArray,List.set_cons_zero,List.set_cons_succ,List.getElem?_toArray,List.getElem?_cons_zero,List.getElem?_cons_succ,some_and,int_eq,bool_eq,str_eq,slc_eq,ptr_eq,nn_eq,M.val,cond_true,cond_false,Bool.not_true,Bool.not_false]
   refine M.put_w w 3 rfl rfl (by rw [strs_size,ok.len]; exact hat) fun h5 w=>?_
   refine M.still_in hcb (w.blk 0 rfl) ?_
   refine M.idx_of hu'.2.1 hu'.2.2 ?_
   simp only [addr_add,load_eq,Nat.zero_add,Nat.add_zero,Nat.mul_one,Nat.one_mul,Nat.zero_mul,Nat.reduceAdd,List.setIfInBounds_toArray,List.set_cons_zero,List.set_cons_succ,List.getElem?_toArray,List.getElem?_cons_zero,List.getElem?_cons_succ,some_and,int_eq,bool_eq,str_eq,slc_eq,ptr_eq,nn_eq,M.val,cond_true,cond_false,Bool.not_true,Bool.not_false]
   refine M.put_w w 4 rfl rfl (by rw [strs_size]; exact hat) fun h6 w=>?_
   rw [strs_set,strs_set] at w
   have w:=(w.drop (i:=0) rfl).mv (i:=0) rfl
   refine k _ (w.close 0 (bl,bn,a,l',c) ?_ ⟨?_,hl'⟩)
   ·simp
   ·have:=DiskM.tamper_ok ok at_ s
    simpa only [DiskM.tamper,hu,hs,ne_eq,not_true,or_self,if_false] using this
 ·simp only [hu,ne_eq,not_false_iff,true_or,if_true] at k
  have:(D.usable at_ != 0)=true:=by simpa using hu
  simp only [this,cond_true]
  exact k _ (w.drop (i:=1) rfl)
end
end Go.Proofs.YthegnmanjdlmjaaGreatDoor
namespace Go.Proofs.YthegnmanjdlmjaaGreatDoor
open Go.Sh Go.RowKit
def applyW (W:List (Int × ByteArray)) (L:List ByteArray):List ByteArray:=W.foldl (fun L w=>L.set w.1.toNat w.2) L
theorem applyW_length:∀ (W:List (Int × ByteArray)) (L:List ByteArray),(applyW W L).length=L.length
 | [],_=>rfl
 | w::W,L=>by rw [show applyW (w::W) L=applyW W (L.set w.1.toNat w.2) from rfl,applyW_length]; simp
theorem applyW_append (W V:List (Int × ByteArray)) (L:List ByteArray):applyW (W++V) L=applyW V (applyW W L):=List.foldl_append
theorem applyW_off:∀ (W:List (Int × ByteArray)) (L:List ByteArray) (i:Nat),(∀ w ∈ W,w.1.toNat≠i)→(applyW W L)[i]? = L[i]?
 | [],_,_,_=>rfl
 | w::W,L,i,h=>by
  rw [show applyW (w::W) L=applyW W (L.set w.1.toNat w.2) from rfl,applyW_off W _ i fun v hv=>h v (by simp [hv]),List.getElem?_set_ne (h w (by simp))]
theorem applyW_filter:∀ (W:List (Int × ByteArray)) (L:List ByteArray) (a:Int) (s:ByteArray),0≤a→(∀ w ∈ W,0≤w.1)→applyW (W.filter fun w=>w.1≠a) (L.set a.toNat s)=(applyW W L).set a.toNat s
 | [],_,_,_,_,_=>rfl
 | w::W,L,a,s,ha,hW=>by
  have ih:=fun L=>applyW_filter W L a s ha fun v hv=>hW v (by simp [hv])
  have hw:=hW w (by simp)
  rw [show applyW (w::W) L=applyW W (L.set w.1.toNat w.2) from rfl,←ih,List.filter_cons]
  by_cases he:w.1=a
  ·simp [he,List.set_set]
  ·simp only [he,ne_eq,not_false_eq_true,decide_true,if_true]
   rw [show ∀ X,applyW (w::X) (L.set a.toNat s)=applyW X ((L.set a.toNat s).set w.1.toNat w.2) from fun _=>rfl,List.set_comm _ _ (by omega)]
namespace DiskM
def Sync (D:DiskM):Prop:=D.dead=false→D.N=applyW D.W D.L
variable {D:DiskM}
theorem new_sync (n:Int):(new n).Sync:=fun _=>rfl
theorem write_sync (o:D.Sync) (a:Int) (s:ByteArray):(D.write a s).2.Sync:=by
 unfold write
 split
 ·exact o
 ·split
  ·exact o
  ·intro hd
   rw [applyW_append,←o hd]; rfl
theorem flush_sync (o:D.Sync):D.flush.2.Sync:=by
 unfold flush
 split
 ·exact o
 ·exact fun _=>rfl
theorem crash_sync (o:D.Sync) (ks:List Bool):(D.crash ks).Sync:=by
 unfold crash
 split
 ·exact o
 ·exact fun _=>rfl
theorem tamper_sync (k:D.Ok) (o:D.Sync) (a:Int) (s:ByteArray):(D.tamper a s).2.Sync:=by
 unfold tamper
 split
 ·exact o
 ·rename_i h
  intro hd
  have hu:D.usable a=0:=Decidable.not_not.1 fun e=>h (.inl e)
  simp only
  rw [o hd,applyW_filter _ _ _ _ (usable_zero.1 hu).2.1 fun w hw=>(k.at_ w hw).1]
end DiskM
def refC (d:Nat) (D:DiskM):Chunk:=Wd.obj (α:=Nat × Option Addr × Nat × Nat) (fun v=>(D.Ok∧D.Sync)∧v.2.2.1=D.W.length)
 fun v=>[.blk d (.cells #[.slice (some ⟨v.1,0,none⟩) D.L.length D.L.length,.slice v.2.1 v.2.2.1 v.2.2.2,.bool D.dead] 212 (0,0)),
  .blk v.1 (.cells (strs D.L) 9 (0,0)),.sl 214 2 v.2.1 v.2.2.1 v.2.2.2 (wr D.W)]
section
variable {h0 h:H} {d:Nat} {D:DiskM} {at_:Int} {s:ByteArray}
theorem rNew {n:Int} {Q:Option Addr→H→Prop} (k:∀ d h',Wd h h' [refC d (DiskM.new n)]→Q (some ⟨d,0,none⟩) h'):ref09_New n h Q:=by
 have hn:=DiskM.new_len n
 have fin:∀ m h1,h1=h→m=mx 1 (mn n 512)→M.mk h1 9 [(.string (ByteArray.empty))] 16 m m fun a8 l9 c10 h11=>M.new h11 (.cells (#[(.slice a8 l9 c10),(.slice none 0 0),(.bool false)]:Array Value) 212) fun b12 h13=>Q (some (⟨b12,0,none⟩:Addr)) h13:=by
  rintro m h1 rfl rfl
  refine M.mk_w (Wd.start _) (by omega) (by omega) (by omega) (by omega) fun b1 h1 w=>?_
  refine M.new_w w fun b h3 w=>?_
  have w:=(w.mv (i:=0) rfl).nilsl 214 2
  refine k b h3 (w.close 0 (b1,none,0,0) ?_ ⟨⟨DiskM.new_ok n,DiskM.new_sync n⟩,rfl⟩)
  simp [DiskM.new,zeros_strs,wr]
 unfold ref09_New
 refine M.jn ?_
 unfold M.join
 by_cases h1:n<1
 ·simp only [h1,decide_true,cond_true]
  exact fin _ _ rfl (by unfold mx mn; split <;> split <;> omega)
 ·simp only [h1,decide_false,cond_false]
  by_cases h2:n > 512
  ·simp only [h2,decide_true,cond_true]
   exact fin _ _ rfl (by unfold mx mn; split <;> split <;> omega)
  ·simp only [h2,decide_false,cond_false]
   exact fin _ _ rfl (by unfold mx mn; split <;> split <;> omega)
theorem rPut {Q:Int→H→Prop} (w:Wd h0 h [refC d D]) (hW:D.W.length<1000000000) (k:∀ h',Wd h0 h' [refC d (D.write at_ s).2]→Q (D.write at_ s).1 h'):ref09_Put (some ⟨d,0,none⟩) at_ s h Q:=by
 have w0:=w
 obtain ⟨⟨bl,a,l,c⟩,⟨⟨ok,sy⟩,hl⟩,w⟩:=w.opn 0 rfl
 simp only at hl
 subst hl
 have hd:=w.blk 0 rfl
 unfold ref09_Put
 simp only [addr_add,load_eq,Nat.zero_add,Nat.add_zero,Nat.mul_one,Nat.one_mul,Nat.zero_mul,Nat.reduceAdd,List.setIfInBounds_toArray,List.set_cons_zero,List.set_cons_succ,List.getElem?_toArray,List.getElem?_cons_zero,List.getElem?_cons_succ,some_and,int_eq,bool_eq,str_eq,slc_eq,ptr_eq,nn_eq,M.val,cond_true,cond_false,Bool.not_true,Bool.not_false,cell_in hd]
 cases hdead:D.dead
 ·simp only [cond_false]
  refine M.join_of (fun b h'=>b=decide (at_ < 0∨at_ ≥ D.N.length)∧h'=h) (fun J hJ=>?_) ?_
  ·by_cases h1:at_ < 0
   ·simp only [h1,decide_true,cond_true]
    exact hJ _ _ ⟨by simp [h1],rfl⟩
   ·simp only [addr_add,load_eq,Nat.zero_add,Nat.add_zero,Nat.mul_one,Nat.one_mul,Nat.zero_mul,Nat.reduceAdd,List.setIfInBounds_toArray,List.set_cons_zero,List.set_cons_succ,List.getElem?_toArray,List.getElem?_cons_zero,List.getElem?_cons_succ,some_and,int_eq,bool_eq,str_eq,slc_eq,ptr_eq,nn_eq,M.val,cond_true,cond_false,Bool.not_true,Bool.not_false,h1,decide_false,cell_in hd]
    exact hJ _ _ ⟨by simp [h1,ok.len],rfl⟩
  ·rintro b h' ⟨rfl,rfl⟩
   unfold DiskM.write at k
   by_cases hr:at_ < 0∨at_ ≥ D.N.length
   ·have hu:D.usable at_ = 2:=by simp [DiskM.usable,hdead,hr]
    simp only [hu,ne_eq,show ¬ ((2:Int)=0) by omega,not_false_iff,if_true] at k
    simp only [hr,decide_true,cond_true]
    exact k _ w0
   ·have hu:D.usable at_ = 0:=DiskM.usable_zero.2 ⟨hdead,by omega,by omega⟩
    simp only [hr,decide_false,cond_false]
    by_cases hs:(s.size:Int) > 2048
    ·simp only [hu,hs,ne_eq,not_true,if_false,if_true] at k
     simp only [hs,decide_true,cond_true]
     exact k _ w0
    ·simp only [hu,hs,ne_eq,not_true,if_false] at k
     simp only [addr_add,load_eq,Nat.zero_add,Nat.add_zero,Nat.mul_one,Nat.one_mul,Nat.zero_mul,Nat.reduceAdd,List.setIfInBounds_toArray,List.set_cons_zero,List.set_cons_succ,List.getElem?_toArray,List.getElem?_cons_zero,List.getElem?_cons_succ,some_and,int_eq,bool_eq,str_eq,slc_eq,ptr_eq,nn_eq,M.val,cond_true,cond_false,Bool.not_true,Bool.not_false,hs,decide_false,cell_in hd]
     refine M.new_t w fun b h2 hb w=>?_
     refine cellsOf_in hb rfl ?_
     refine M.app_w w 2 rfl rfl rfl (by simp [isPlainCell]) (by omega) (by omega) fun a' c' h3 w=>?_
     refine M.put_w w 0 rfl rfl (by simp) fun h4 w=>?_
     refine k h4 (w.close 0 (bl,a',D.W.length+1,c') ?_ ⟨?_,by simp⟩)
     ·simp [wr_append,wr,hdead]
     ·have h1:=DiskM.write_ok ok at_ s
      have h2:=DiskM.write_sync sy at_ s
      simp only [DiskM.write,hu,ne_eq,not_true,if_false,hs] at h1 h2
      exact ⟨h1,h2⟩
 ·have hu:D.usable at_ = 20:=by simp [DiskM.usable,hdead]
  simp only [DiskM.write,hu,ne_eq,show ¬ ((20:Int)=0) by omega,not_false_iff,if_true] at k
  simp only [cond_true]
  exact k _ w0
theorem rRead {Q:ByteArray→Int→H→Prop} (w:Wd h0 h [refC d D]) (hW:D.W.length<1000000000) (k:Q (D.read at_).1 (D.read at_).2 h):ref09_Read (some ⟨d,0,none⟩) at_ h Q:=by
 have w0:=w
 obtain ⟨⟨bl,a,l,c⟩,⟨⟨ok,sy⟩,hl⟩,w⟩:=w.opn 0 rfl
 simp only at hl
 subst hl
 have hd:=w.blk 0 rfl
 have hbl:=w.blk 1 rfl
 obtain ⟨_,_,hsn,hsr⟩:=w.slrow 2 rfl
 unfold ref09_Read
 unfold DiskM.read at k
 simp only [addr_add,load_eq,Nat.zero_add,Nat.add_zero,Nat.mul_one,Nat.one_mul,Nat.zero_mul,Nat.reduceAdd,List.setIfInBounds_toArray,List.set_cons_zero,List.set_cons_succ,List.getElem?_toArray,List.getElem?_cons_zero,List.getElem?_cons_succ,some_and,int_eq,bool_eq,str_eq,slc_eq,ptr_eq,nn_eq,M.val,cond_true,cond_false,Bool.not_true,Bool.not_false,cell_in hd]
 cases hdead:D.dead
 ·simp only [cond_false]
  refine M.join_of (fun b h'=>b=decide (at_ < 0∨at_ ≥ D.N.length)∧h'=h) (fun J hJ=>?_) ?_
  ·by_cases h1:at_ < 0
   ·simp only [h1,decide_true,cond_true,cond_false]
    exact hJ _ _ ⟨by simp [h1],rfl⟩
   ·simp only [addr_add,load_eq,Nat.zero_add,Nat.add_zero,Nat.mul_one,Nat.one_mul,Nat.zero_mul,Nat.reduceAdd,List.setIfInBounds_toArray,List.set_cons_zero,List.set_cons_succ,List.getElem?_toArray,List.getElem?_cons_zero,List.getElem?_cons_succ,some_and,int_eq,bool_eq,str_eq,slc_eq,ptr_eq,nn_eq,M.val,cond_true,cond_false,Bool.not_true,Bool.not_false,h1,decide_false,cell_in hd]
    exact hJ _ _ ⟨by simp [h1,ok.len],rfl⟩
  ·rintro b h' ⟨rfl,rfl⟩
   by_cases hr:at_ < 0∨at_ ≥ D.N.length
   ·have hu:D.usable at_ = 2:=by simp [DiskM.usable,hdead,hr]
    simp only [hu,ne_eq,show ¬ ((2:Int)=0) by omega,not_false_iff,if_true] at k
    simp only [hr,decide_true,cond_true]
    exact k
   ·have hu:D.usable at_ = 0:=DiskM.usable_zero.2 ⟨hdead,by omega,by omega⟩
    have hat:at_.toNat<D.L.length:=by rw [ok.len]; omega
    simp only [hu,ne_eq,not_true,if_false,sy hdead] at k
    have hw:IntKind.wrap .i64 (((D.W.length:Nat):Int)-1)=(D.W.length:Int)-1:=by rw [IntKind.wrap_i64]; omega
    simp only [addr_add,load_eq,Nat.zero_add,Nat.add_zero,Nat.mul_one,Nat.one_mul,Nat.zero_mul,Nat.reduceAdd,List.setIfInBounds_toArray,List.set_cons_zero,List.set_cons_succ,List.getElem?_toArray,List.getElem?_cons_zero,List.getElem?_cons_succ,some_and,int_eq,bool_eq,str_eq,slc_eq,ptr_eq,nn_eq,M.val,cond_true,cond_false,Bool.not_true,Bool.not_false,hr,decide_false,cell_in hd,hw]
    refine M.jn ?_
    refine M.loop_of (I:=fun (i:Int) h2=>h2=h' ∧ -1≤i∧i<D.W.length∧∀ (j:Nat) (w:Int × ByteArray),i<(j:Int)→D.W[j]? = some w→w.1≠at_) (μ:=fun i=>(i+1).toNat) ⟨rfl,by omega,by omega,fun j w hj hw=>?_⟩ ?_
    ·have:=(List.getElem?_eq_some_iff.1 hw).1
     omega
    ·rintro i h2 J ⟨rfl,hi0,hi1,hno⟩ hJ
     simp only [addr_add,load_eq,Nat.zero_add,Nat.add_zero,Nat.mul_one,Nat.one_mul,Nat.zero_mul,Nat.reduceAdd,List.setIfInBounds_toArray,List.set_cons_zero,List.set_cons_succ,List.getElem?_toArray,List.getElem?_cons_zero,List.getElem?_cons_succ,some_and,int_eq,bool_eq,str_eq,slc_eq,ptr_eq,nn_eq,M.val,cond_true,cond_false,Bool.not_true,Bool.not_false,cell_in hd]
     by_cases hlt:i ≥ 0
     ·have hlt':i.toNat<D.W.length:=by omega
      cases a with
      | none=>have:D.W.length=0:=(hsn rfl).2; omega
      | some ab=>
       have hrow:=hsr ab rfl
       have hg:=wr_get D.W i.toNat D.W[i.toNat] (List.getElem?_eq_getElem hlt')
       have hlen:=wr_length D.W
       have c0:h2.cell (ab.add (i.toNat * 2))=some (.int .i64 D.W[i.toNat].1):=by rw [hrow _ (by omega)]; exact hg.1
       have c1:h2.cell (ab.add (i.toNat * 2+1))=some (.string D.W[i.toNat].2):=by rw [hrow _ (by omega)]; exact hg.2
       simp only [hlt,decide_true,cond_true]
       refine M.idx_of hlt hi1 ?_
       simp only [addr_add,load_eq,Nat.zero_add,Nat.add_zero,Nat.mul_one,Nat.one_mul,Nat.zero_mul,Nat.reduceAdd,List.setIfInBounds_toArray,List.set_cons_zero,List.set_cons_succ,List.getElem?_toArray,List.getElem?_cons_zero,List.getElem?_cons_succ,some_and,int_eq,bool_eq,str_eq,slc_eq,ptr_eq,nn_eq,M.val,cond_true,cond_false,Bool.not_true,Bool.not_false,add2,c0,c1]
       have hdr:D.W=D.W.take i.toNat++(D.W[i.toNat]::D.W.drop (i.toNat+1)):=by rw [←List.drop_eq_getElem_cons hlt',List.take_append_drop]
       by_cases he:D.W[i.toNat].1=at_
       ·simp only [he,beq_self_eq_true,cond_true]
        refine M.idx_of hlt hi1 ?_
        simp only [addr_add,load_eq,Nat.zero_add,Nat.add_zero,Nat.mul_one,Nat.one_mul,Nat.zero_mul,Nat.reduceAdd,List.setIfInBounds_toArray,List.set_cons_zero,List.set_cons_succ,List.getElem?_toArray,List.getElem?_cons_zero,List.getElem?_cons_succ,some_and,int_eq,bool_eq,str_eq,slc_eq,ptr_eq,nn_eq,M.val,cond_true,cond_false,Bool.not_true,Bool.not_false,add2,c0,c1]
        have e1:(applyW D.W D.L)[at_.toNat]? = some D.W[i.toNat].2:=by
         conv=>lhs; rw [hdr]
         rw [applyW_append,show ∀ X Y,applyW (D.W[i.toNat]::X) Y=applyW X (Y.set D.W[i.toNat].1.toNat D.W[i.toNat].2) from fun _ _=>rfl,applyW_off]
         ·rw [he,List.getElem?_set_self (by rw [applyW_length]; exact hat)]
         ·intro v hv
          obtain ⟨j,hj,rfl⟩:=List.getElem_of_mem hv
          have hjl:i.toNat+1+j<D.W.length:=by simp at hj; omega
          rw [List.getElem_drop]
          have h1:=hno (i.toNat+1+j) _ (by omega) (List.getElem?_eq_getElem hjl)
          have h2:=(ok.at_ _ (List.getElem_mem hjl)).1
          omega
        rw [List.getD_eq_getElem?_getD,e1] at k
        exact k
       ·have he':(D.W[i.toNat].1 == at_)=false:=by simpa using he
        have hw2:IntKind.wrap .i64 (i-1)=i-1:=by rw [IntKind.wrap_i64]; omega
        simp only [he',cond_false,hw2]
        refine hJ _ _ ⟨rfl,by omega,by omega,fun j w hj hw=>?_⟩ (by omega)
        by_cases hji:j=i.toNat
        ·subst hji
         rw [List.getElem?_eq_getElem hlt'] at hw
         simp only [Option.some.injEq] at hw
         rw [←hw]; exact he
        ·exact hno j w (by omega) hw
     ·simp only [hlt,decide_false,cond_false]
      refine M.idx_of (by omega) (by rw [ok.len]; omega) ?_
      have e1:(applyW D.W D.L)[at_.toNat]? = D.L[at_.toNat]?:=applyW_off _ _ _ fun v hv=>by
       obtain ⟨j,hj,rfl⟩:=List.getElem_of_mem hv
       have h1:=hno j _ (by omega) (List.getElem?_eq_getElem hj)
       have h2:=(ok.at_ _ (List.getElem_mem hj)).1
       omega
      simp only [addr_add,load_eq,Nat.zero_add,Nat.add_zero,Nat.mul_one,Nat.one_mul,Nat.zero_mul,Nat.reduceAdd,List.setIfInBounds_toArray,List.set_cons_zero,List.set_cons_succ,List.getElem?_toArray,List.getElem?_cons_zero,List.getElem?_cons_succ,some_and,int_eq,bool_eq,str_eq,slc_eq,ptr_eq,nn_eq,M.val,cond_true,cond_false,Bool.not_true,Bool.not_false,cell_in hbl,strs_get,List.getElem?_eq_getElem hat,Option.map_some]
      rw [List.getD_eq_getElem?_getD,e1,List.getElem?_eq_getElem hat] at k
      exact k
 ·have hu:D.usable at_ = 20:=by simp [DiskM.usable,hdead]
  simp only [hu,ne_eq,show ¬ ((20:Int)=0) by omega,not_false_iff,if_true] at k
  simp only [cond_true]
  exact k
theorem rFlush {Q:Int→H→Prop} (w:Wd h0 h [refC d D]) (hW:D.W.length<1000000000) (k:∀ h',Wd h0 h' [refC d D.flush.2]→Q D.flush.1 h'):ref09_Flush (some ⟨d,0,none⟩) h Q:=by
 have w0:=w
 obtain ⟨⟨bl,a,l,c⟩,⟨⟨ok,sy⟩,hl⟩,w⟩:=w.opn 0 rfl
 simp only at hl
 subst hl
 have hd:=w.blk 0 rfl
 unfold ref09_Flush
 have h1:=DiskM.flush_ok ok
 have h2:=DiskM.flush_sync sy
 unfold DiskM.flush at k h1 h2
 simp only [addr_add,load_eq,Nat.zero_add,Nat.add_zero,Nat.mul_one,Nat.one_mul,Nat.zero_mul,Nat.reduceAdd,List.setIfInBounds_toArray,List.set_cons_zero,List.set_cons_succ,List.getElem?_toArray,List.getElem?_cons_zero,List.getElem?_cons_succ,some_and,int_eq,bool_eq,str_eq,slc_eq,ptr_eq,nn_eq,M.val,cond_true,cond_false,Bool.not_true,Bool.not_false,cell_in hd]
 cases hdead:D.dead
 ·simp only [hdead,Bool.false_eq_true,if_false] at k h1 h2
  simp only [cond_false]
  refine M.jn ?_
  refine M.loop_of (I:=fun (i:Int) h'=>0≤i∧i≤D.W.length∧Wd h0 h' [.blk d (.cells #[.slice (some ⟨bl,0,none⟩) D.L.length D.L.length,.slice a D.W.length c,.bool false] 212 (0,0)),
    .blk bl (.cells (strs (applyW (D.W.take i.toNat) D.L)) 9 (0,0)),.sl 214 2 a D.W.length c (wr D.W)]) (μ:=fun i=>(D.W.length-i).toNat) ⟨by omega,by omega,by simpa [hdead,applyW] using w⟩ ?_
  rintro i h1' J ⟨hi0,hi1,w⟩ hJ
  have hd:=w.blk 0 rfl
  obtain ⟨_,_,hsn,hsr⟩:=w.slrow 2 rfl
  simp only [addr_add,load_eq,Nat.zero_add,Nat.add_zero,Nat.mul_one,Nat.one_mul,Nat.zero_mul,Nat.reduceAdd,List.setIfInBounds_toArray,List.set_cons_zero,List.set_cons_succ,List.getElem?_toArray,List.getElem?_cons_zero,List.getElem?_cons_succ,some_and,int_eq,bool_eq,str_eq,slc_eq,ptr_eq,nn_eq,M.val,cond_true,cond_false,Bool.not_true,Bool.not_false,cell_in hd]
  by_cases hlt:i<D.W.length
  ·have hlt':i.toNat<D.W.length:=by omega
   cases a with
   | none=>have:D.W.length=0:=(hsn rfl).2; omega
   | some ab=>
    have hrow:=hsr ab rfl
    have hg:=wr_get D.W i.toNat D.W[i.toNat] (List.getElem?_eq_getElem hlt')
    have hlen:=wr_length D.W
    have hin:=ok.at_ D.W[i.toNat] (List.getElem_mem _)
    have c0:h1'.cell (ab.add (i.toNat * 2))=some (.int .i64 D.W[i.toNat].1):=by rw [hrow _ (by omega)]; exact hg.1
    have c1:h1'.cell (ab.add (i.toNat * 2+1))=some (.string D.W[i.toNat].2):=by rw [hrow _ (by omega)]; exact hg.2
    have hw1:IntKind.wrap .i64 (i+1)=i+1:=by rw [IntKind.wrap_i64]; omega
    simp only [hlt,decide_true,cond_true]
    refine M.idx_of hi0 hlt ?_
    simp only [addr_add,load_eq,Nat.zero_add,Nat.add_zero,Nat.mul_one,Nat.one_mul,Nat.zero_mul,Nat.reduceAdd,List.setIfInBounds_toArray,List.set_cons_zero,List.set_cons_succ,List.getElem?_toArray,List.getElem?_cons_zero,List.getElem?_cons_succ,some_and,int_eq,bool_eq,str_eq,slc_eq,ptr_eq,nn_eq,M.val,cond_true,cond_false,Bool.not_true,Bool.not_false,add2,c0,c1,cell_in hd]
    refine M.idx_of hi0 hlt ?_
    simp only [addr_add,load_eq,Nat.zero_add,Nat.add_zero,Nat.mul_one,Nat.one_mul,Nat.zero_mul,Nat.reduceAdd,List.setIfInBounds_toArray,List.set_cons_zero,List.set_cons_succ,List.getElem?_toArray,List.getElem?_cons_zero,List.getElem?_cons_succ,some_and,int_eq,bool_eq,str_eq,slc_eq,ptr_eq,nn_eq,M.val,cond_true,cond_false,Bool.not_true,Bool.not_false,add2,c0,c1]
    refine M.idx_of hin.1 (by rw [ok.len]; exact hin.2) ?_
    simp only [addr_add,load_eq,Nat.zero_add,Nat.add_zero,Nat.mul_one,Nat.one_mul,Nat.zero_mul,Nat.reduceAdd,List.setIfInBounds_toArray,List.set_cons_zero,List.set_cons_succ,List.getElem?_toArray,List.getElem?_cons_zero,List.getElem?_cons_succ,some_and,int_eq,bool_eq,str_eq,slc_eq,ptr_eq,nn_eq,M.val,cond_true,cond_false,Bool.not_true,Bool.not_false]
    refine M.put_w w 1 rfl rfl (by rw [strs_size,applyW_length,ok.len]; omega) fun h2' w=>?_
    rw [strs_set] at w
    rw [hw1]
    refine hJ _ _ ⟨by omega,by omega,?_⟩ (by omega)
    have:applyW (D.W.take (i+1).toNat) D.L=(applyW (D.W.take i.toNat) D.L).set D.W[i.toNat].1.toNat D.W[i.toNat].2:=by
     rw [show (i+1).toNat=i.toNat+1 by omega,List.take_succ_eq_append_getElem hlt',applyW_append]; rfl
    rw [this]; exact w
  ·simp only [hlt,decide_false,cond_false]
   have:i.toNat=D.W.length:=by omega
   rw [this,List.take_length] at w
   refine M.put_w w 0 rfl rfl (by simp) fun h2' w=>?_
   have w:=(w.drop (i:=2) rfl).nilsl 214 2
   refine k h2' (w.close 0 (bl,none,0,0) ?_ ⟨⟨h1,h2⟩,rfl⟩)
   simp [sy hdead,applyW_length,wr,hdead]
 ·simp only [hdead,if_true] at k
  simp only [cond_true]
  exact k _ w0
theorem rCrash {Q:H→Prop} {ka:Option Addr} {kl kc:Nat} {kept:List Bool} (w:Wd h0 h [refC d D]) (hW:D.W.length<1000000000) (hk:kept.length=kl) (h0k:ka=none→kl=0) (hr:∀ b,ka=some b→Sh.rowAt h0 b (kept.map Value.bool))
  (k:∀ h',Wd h0 h' [refC d (D.crash kept)]→Q h'):ref09_Crash (some ⟨d,0,none⟩) ka kl kc h Q:=by
 have w0:=w
 obtain ⟨⟨bl,a,l,c⟩,⟨⟨ok,sy⟩,hl⟩,w⟩:=w.opn 0 rfl
 simp only at hl
 subst hl
 have hd:=w.blk 0 rfl
 unfold ref09_Crash
 have h1:=DiskM.crash_ok ok kept
 have h2:=DiskM.crash_sync sy kept
 unfold DiskM.crash at k h1 h2
 simp only [addr_add,load_eq,Nat.zero_add,Nat.add_zero,Nat.mul_one,Nat.one_mul,Nat.zero_mul,Nat.reduceAdd,List.setIfInBounds_toArray,List.set_cons_zero,List.set_cons_succ,List.getElem?_toArray,List.getElem?_cons_zero,List.getElem?_cons_succ,some_and,int_eq,bool_eq,str_eq,slc_eq,ptr_eq,nn_eq,M.val,cond_true,cond_false,Bool.not_true,Bool.not_false,cell_in hd]
 cases hdead:D.dead
 ·simp only [hdead,Bool.false_eq_true,if_false] at k h1 h2
  simp only [cond_false]
  refine M.jn ?_
  refine M.loop_of (I:=fun (i:Int) h'=>0≤i∧i≤D.W.length∧∃ L',L'.length=D.L.length∧DiskM.crashL (D.W.drop i.toNat) (kept.drop i.toNat) L'=DiskM.crashL D.W kept D.L∧Wd h0 h' [.blk d (.cells #[.slice (some ⟨bl,0,none⟩) D.L.length D.L.length,.slice a D.W.length c,.bool false] 212 (0,0)),
    .blk bl (.cells (strs L') 9 (0,0)),.sl 214 2 a D.W.length c (wr D.W)]) (μ:=fun i=>(D.W.length-i).toNat) ⟨by omega,by omega,D.L,rfl,rfl,by simpa [hdead] using w⟩ ?_
  rintro i h1' J ⟨hi0,hi1,L',hL',hcr,w⟩ hJ
  have hd:=w.blk 0 rfl
  obtain ⟨_,_,hsn,hsr⟩:=w.slrow 2 rfl
  have fin:∀ h',L'=DiskM.crashL D.W kept D.L→Wd h0 h' [.blk d (.cells #[.slice (some ⟨bl,0,none⟩) D.L.length D.L.length,.slice a D.W.length c,.bool false] 212 (0,0)),.blk bl (.cells (strs L') 9 (0,0)),.sl 214 2 a D.W.length c (wr D.W)] →
    (M.put h' ⟨d,1,none⟩ (.slice none 0 0) fun h53=>Q h53):=by
   intro h' e w
   refine M.put_w w 0 rfl rfl (by simp) fun h2' w=>?_
   have w:=(w.drop (i:=2) rfl).nilsl 214 2
   refine k h2' (w.close 0 (bl,none,0,0) ?_ ⟨⟨h1,h2⟩,rfl⟩)
   simp [←e,hL',wr,hdead]
  refine M.join_of (fun b h'=>b=decide (i<D.W.length∧i<kl)∧h'=h1') (fun J2 hJ2=>?_) ?_
  ·simp only [addr_add,load_eq,Nat.zero_add,Nat.add_zero,Nat.mul_one,Nat.one_mul,Nat.zero_mul,Nat.reduceAdd,List.setIfInBounds_toArray,List.set_cons_zero,List.set_cons_succ,List.getElem?_toArray,List.getElem?_cons_zero,List.getElem?_cons_succ,some_and,int_eq,bool_eq,str_eq,slc_eq,ptr_eq,nn_eq,M.val,cond_true,cond_false,Bool.not_true,Bool.not_false,cell_in hd]
   by_cases hlt:i<D.W.length
   ·simp only [hlt,decide_true,cond_true]
    exact hJ2 _ _ ⟨by simp [hlt],rfl⟩
   ·simp only [hlt,decide_false,cond_false]
    exact hJ2 _ _ ⟨by simp [hlt],rfl⟩
  ·rintro b h2' ⟨rfl,rfl⟩
   by_cases hlt:i<D.W.length∧i<kl
   ·have hlt':i.toNat<D.W.length:=by omega
    have hk1':i.toNat<kept.length:=by omega
    have hdrop:D.W.drop i.toNat=D.W[i.toNat]::D.W.drop (i.toNat+1):=List.drop_eq_getElem_cons hlt'
    have hkd:kept.drop i.toNat=kept[i.toNat]::kept.drop (i.toNat+1):=List.drop_eq_getElem_cons hk1'
    have hw1:IntKind.wrap .i64 (i+1)=i+1:=by rw [IntKind.wrap_i64]; omega
    have hnext:(i+1).toNat=i.toNat+1:=by omega
    rw [hdrop,hkd] at hcr
    simp only [DiskM.crashL] at hcr
    simp only [hlt,and_self,decide_true,cond_true]
    cases ka with
    | none=>have:=h0k rfl; omega
    | some kb=>
    cases a with
    | none=>have:D.W.length=0:=(hsn rfl).2; omega
    | some ab=>
     have hrow:=hsr ab rfl
     have hg:=wr_get D.W i.toNat D.W[i.toNat] (List.getElem?_eq_getElem hlt')
     have hlen:=wr_length D.W
     have hin:=ok.at_ D.W[i.toNat] (List.getElem_mem _)
     have c0:h2'.cell (ab.add (i.toNat * 2))=some (.int .i64 D.W[i.toNat].1):=by rw [hrow _ (by omega)]; exact hg.1
     have c1:h2'.cell (ab.add (i.toNat * 2+1))=some (.string D.W[i.toNat].2):=by rw [hrow _ (by omega)]; exact hg.2
     have ck:h2'.cell (kb.add i.toNat)=some (.bool kept[i.toNat]):=w.keep.cell (by rw [hr kb rfl _ (by simpa using hk1')]; simp [hk1'])
     refine M.jn ?_
     refine M.idx_of hi0 hlt.2 ?_
     simp only [addr_add,load_eq,Nat.zero_add,Nat.add_zero,Nat.mul_one,Nat.one_mul,Nat.zero_mul,Nat.reduceAdd,List.setIfInBounds_toArray,List.set_cons_zero,List.set_cons_succ,List.getElem?_toArray,List.getElem?_cons_zero,List.getElem?_cons_succ,some_and,int_eq,bool_eq,str_eq,slc_eq,ptr_eq,nn_eq,M.val,cond_true,cond_false,Bool.not_true,Bool.not_false,ck,hw1]
     cases hkv:kept[i.toNat]
     ·simp only [hkv,Bool.false_eq_true,if_false] at hcr
      simp only [cond_false]
      exact hJ _ _ ⟨by omega,by omega,L',hL',by rw [hnext]; exact hcr,w⟩ (by omega)
     ·simp only [hkv,if_true] at hcr
      simp only [addr_add,load_eq,Nat.zero_add,Nat.add_zero,Nat.mul_one,Nat.one_mul,Nat.zero_mul,Nat.reduceAdd,List.setIfInBounds_toArray,List.set_cons_zero,List.set_cons_succ,List.getElem?_toArray,List.getElem?_cons_zero,List.getElem?_cons_succ,some_and,int_eq,bool_eq,str_eq,slc_eq,ptr_eq,nn_eq,M.val,cond_true,cond_false,Bool.not_true,Bool.not_false,cell_in hd]
      refine M.idx_of hi0 hlt.1 ?_
      simp only [addr_add,load_eq,Nat.zero_add,Nat.add_zero,Nat.mul_one,Nat.one_mul,Nat.zero_mul,Nat.reduceAdd,List.setIfInBounds_toArray,List.set_cons_zero,List.set_cons_succ,List.getElem?_toArray,List.getElem?_cons_zero,List.getElem?_cons_succ,some_and,int_eq,bool_eq,str_eq,slc_eq,ptr_eq,nn_eq,M.val,cond_true,cond_false,Bool.not_true,Bool.not_false,add2,c0,c1,cell_in hd]
      refine M.idx_of hi0 hlt.1 ?_
      simp only [addr_add,load_eq,Nat.zero_add,Nat.add_zero,Nat.mul_one,Nat.one_mul,Nat.zero_mul,Nat.reduceAdd,List.setIfInBounds_toArray,List.set_cons_zero,List.set_cons_succ,List.getElem?_toArray,List.getElem?_cons_zero,List.getElem?_cons_succ,some_and,int_eq,bool_eq,str_eq,slc_eq,ptr_eq,nn_eq,M.val,cond_true,cond_false,Bool.not_true,Bool.not_false,add2,c0,c1]
      refine M.idx_of hin.1 (by rw [ok.len]; exact hin.2) ?_
      simp only [addr_add,load_eq,Nat.zero_add,Nat.add_zero,Nat.mul_one,Nat.one_mul,Nat.zero_mul,Nat.reduceAdd,List.setIfInBounds_toArray,List.set_cons_zero,List.set_cons_succ,List.getElem?_toArray,List.getElem?_cons_zero,List.getElem?_cons_succ,some_and,int_eq,bool_eq,str_eq,slc_eq,ptr_eq,nn_eq,M.val,cond_true,cond_false,Bool.not_true,Bool.not_false]
      refine M.put_w w 1 rfl rfl (by rw [strs_size,hL',ok.len]; omega) fun h4 w=>?_
      rw [strs_set] at w
      exact hJ _ _ ⟨by omega,by omega,_,by simpa using hL',by rw [hnext]; exact hcr,w⟩ (by omega)
   ·simp only [hlt,decide_false,cond_false]
    refine fin _ ?_ w
    rw [←hcr]
    by_cases hlt1:i<D.W.length
    ·have:kept.drop i.toNat=[]:=List.drop_eq_nil_of_le (by omega)
     rw [this]
     cases D.W.drop i.toNat <;> rfl
    ·have:D.W.drop i.toNat=[]:=List.drop_eq_nil_of_le (by omega)
     rw [this]
     cases kept.drop i.toNat <;> rfl
 ·simp only [hdead,if_true] at k
  simp only [cond_true]
  exact k _ w0
end
end Go.Proofs.YthegnmanjdlmjaaGreatDoor
namespace Go.Proofs.YthegnmanjdlmjaaGreatDoor
open Go.Sh Go.RowKit
section
variable {h0 h:H} {d:Nat} {D:DiskM} {at_:Int} {s:ByteArray}
theorem rTamper {Q:Bool→H→Prop} (w:Wd h0 h [refC d D]) (hW:D.W.length<1000000000) (k:∀ h',Wd h0 h' [refC d (D.tamper at_ s).2]→Q (D.tamper at_ s).1 h'):ref09_Tamper (some ⟨d,0,none⟩) at_ s h Q:=by
 have w0:=w
 obtain ⟨⟨bl,a,l,c⟩,⟨⟨ok,sy⟩,hl⟩,w⟩:=w.opn 0 rfl
 simp only at hl
 subst hl
 have hd:=w.blk 0 rfl
 unfold ref09_Tamper
 have t1:=DiskM.tamper_ok ok at_ s
 have t2:=DiskM.tamper_sync ok sy at_ s
 unfold DiskM.tamper at k t1 t2
 refine M.join_of (fun b h'=>b=decide (D.usable at_ ≠ 0∨(s.size:Int) > 2048)∧h'=h) (fun J hJ=>?_) ?_
 ·simp only [addr_add,load_eq,Nat.zero_add,Nat.add_zero,Nat.mul_one,Nat.one_mul,Nat.zero_mul,Nat.reduceAdd,List.setIfInBounds_toArray,List.set_cons_zero,List.set_cons_succ,List.getElem?_toArray,List.getElem?_cons_zero,List.getElem?_cons_succ,some_and,int_eq,bool_eq,str_eq,slc_eq,ptr_eq,nn_eq,M.val,cond_true,cond_false,Bool.not_true,Bool.not_false,cell_in hd]
  cases hdead:D.dead
  ·simp only [cond_false]
   by_cases h1:at_ < 0
   ·have:D.usable at_ = 2:=by simp [DiskM.usable,hdead,h1]
    simp only [h1,decide_true,cond_true]
    exact hJ _ _ ⟨by simp [this],rfl⟩
   ·simp only [addr_add,load_eq,Nat.zero_add,Nat.add_zero,Nat.mul_one,Nat.one_mul,Nat.zero_mul,Nat.reduceAdd,List.setIfInBounds_toArray,List.set_cons_zero,List.set_cons_succ,List.getElem?_toArray,List.getElem?_cons_zero,List.getElem?_cons_succ,some_and,int_eq,bool_eq,str_eq,slc_eq,ptr_eq,nn_eq,M.val,cond_true,cond_false,Bool.not_true,Bool.not_false,h1,decide_false,cell_in hd]
    by_cases h2:at_ ≥ D.L.length
    ·have:D.usable at_ = 2:=by rw [ok.len] at h2; simp [DiskM.usable,hdead,h2]
     simp only [h2,decide_true,cond_true]
     exact hJ _ _ ⟨by simp [this],rfl⟩
    ·have:D.usable at_ = 0:=DiskM.usable_zero.2 ⟨hdead,by omega,by rw [←ok.len]; omega⟩
     simp only [h2,decide_false,cond_false]
     exact hJ _ _ ⟨by simp [this],rfl⟩
  ·have:D.usable at_ = 20:=by simp [DiskM.usable,hdead]
   simp only [cond_true]
   exact hJ _ _ ⟨by simp [this],rfl⟩
 ·rintro b h' ⟨rfl,rfl⟩
  by_cases hc:D.usable at_ ≠ 0∨(s.size:Int) > 2048
  ·simp only [hc,if_true] at k
   simp only [hc,decide_true,cond_true]
   exact k _ w0
  ·simp only [hc,if_false] at k t1 t2
   have hu:D.usable at_ = 0:=Decidable.not_not.1 fun e=>hc (.inl e)
   have hu':=DiskM.usable_zero.1 hu
   simp only [hc,decide_false,cond_false]
   refine M.jn ?_
   have w:=w.nilsl 214 2
   refine M.loop_of (I:=fun (p:(Option Addr × Nat × Nat) × Int) h2=>0≤p.2∧p.2≤D.W.length∧p.1.2.1=((D.W.take p.2.toNat).filter fun w=>w.1≠at_).length ∧
    Wd h0 h2 [.blk d (.cells #[.slice (some ⟨bl,0,none⟩) D.L.length D.L.length,.slice a D.W.length c,.bool D.dead] 212 (0,0)),.blk bl (.cells (strs D.L) 9 (0,0)),.sl 214 2 a D.W.length c (wr D.W),
     .sl 214 2 p.1.1 p.1.2.1 p.1.2.2 (wr ((D.W.take p.2.toNat).filter fun w=>w.1≠at_))]) (μ:=fun p=>(D.W.length-p.2).toNat) ⟨by simp,by simp,by simp,by simpa [wr] using w⟩ ?_
   rintro ⟨⟨a',l',c'⟩,i⟩ h2 J ⟨hi0,hi1,hl',w⟩ hJ
   simp only at hi0 hi1 hl'
   have hd:=w.blk 0 rfl
   obtain ⟨_,_,hsn,hsr⟩:=w.slrow 2 rfl
   simp only [addr_add,load_eq,Nat.zero_add,Nat.add_zero,Nat.mul_one,Nat.one_mul,Nat.zero_mul,Nat.reduceAdd,List.setIfInBounds_toArray,List.set_cons_zero,List.set_cons_succ,List.getElem?_toArray,List.getElem?_cons_zero,List.getElem?_cons_succ,some_and,int_eq,bool_eq,str_eq,slc_eq,ptr_eq,nn_eq,M.val,cond_true,cond_false,Bool.not_true,Bool.not_false,cell_in hd]
   by_cases hlt:i<D.W.length
   ·have hlt':i.toNat<D.W.length:=by omega
    cases a with
    | none=>have:D.W.length=0:=(hsn rfl).2; omega
    | some ab=>
     have hrow:=hsr ab rfl
     have hg:=wr_get D.W i.toNat D.W[i.toNat] (List.getElem?_eq_getElem hlt')
     have hlen:=wr_length D.W
     have c0:h2.cell (ab.add (i.toNat * 2))=some (.int .i64 D.W[i.toNat].1):=by rw [hrow _ (by omega)]; exact hg.1
     have c1:h2.cell (ab.add (i.toNat * 2+1))=some (.string D.W[i.toNat].2):=by rw [hrow _ (by omega)]; exact hg.2
     have hw1:IntKind.wrap .i64 (i+1)=i+1:=by rw [IntKind.wrap_i64]; omega
     have hni:(i+1).toNat=i.toNat+1:=by omega
     have hll:l'≤D.W.length:=by
      have:=List.length_filter_le (fun w=>decide (w.1≠at_)) (D.W.take i.toNat)
      rw [hl']; simp at this ⊢; omega
     have htk:(D.W.take (i+1).toNat).filter (fun w=>w.1≠at_)=(D.W.take i.toNat).filter (fun w=>w.1≠at_)++if D.W[i.toNat].1=at_ then [] else [D.W[i.toNat]]:=by
      rw [hni,List.take_succ_eq_append_getElem hlt',List.filter_append]
      congr 1
      by_cases he:D.W[i.toNat].1=at_ <;> simp [he]
     simp only [hlt,decide_true,cond_true]
     refine M.jn ?_
     refine M.idx_of hi0 hlt ?_
     simp only [addr_add,load_eq,Nat.zero_add,Nat.add_zero,Nat.mul_one,Nat.one_mul,Nat.zero_mul,Nat.reduceAdd,List.setIfInBounds_toArray,List.set_cons_zero,List.set_cons_succ,List.getElem?_toArray,List.getElem?_cons_zero,List.getElem?_cons_succ,some_and,int_eq,bool_eq,str_eq,slc_eq,ptr_eq,nn_eq,M.val,cond_true,cond_false,Bool.not_true,Bool.not_false,add2,c0,c1,cell_in hd,hw1]
     by_cases he:D.W[i.toNat].1=at_
     ·have:(D.W[i.toNat].1 != at_)=false:=by simpa using he
      simp only [this,cond_false]
      simp only [he,if_true,List.append_nil] at htk
      exact hJ _ _ ⟨by simp only; omega,by simp only; omega,by simp only [htk]; exact hl',by simp only [htk]; exact w⟩ (by simp only; omega)
     ·have:(D.W[i.toNat].1 != at_)=true:=by simpa using he
      simp only [he,if_false] at htk
      simp only [this,cond_true]
      refine M.idx_of hi0 hlt ?_
      simp only [addr_add,load_eq,Nat.zero_add,Nat.add_zero,Nat.mul_one,Nat.one_mul,Nat.zero_mul,Nat.reduceAdd,List.setIfInBounds_toArray,List.set_cons_zero,List.set_cons_succ,List.getElem?_toArray,List.getElem?_cons_zero,List.getElem?_cons_succ,some_and,int_eq,bool_eq,str_eq,slc_eq,ptr_eq,nn_eq,M.val,cond_true,cond_false,Bool.not_true,Bool.not_false,add2,c0,c1,cell_in hd,hw1]
      refine M.new_t w fun b h3 hb w=>?_
      refine cellsOf_in hb rfl ?_
      refine M.app_w w 3 rfl rfl rfl (by simp [isPlainCell]) (by omega) (by omega) fun a2 c2 h4 w=>?_
      refine hJ _ _ ⟨by simp only; omega,by simp only; omega,by simp only [htk,List.length_append,hl']; rfl,?_⟩ (by simp only; omega)
      simp only [htk,wr_append]
      exact w
   ·have:i.toNat=D.W.length:=by omega
    rw [this,List.take_length] at w hl'
    simp only [hlt,decide_false,cond_false]
    refine M.put_w w 0 rfl rfl (by simp) fun h3 w=>?_
    have hd:=w.blk 0 rfl
    simp only [addr_add,load_eq,Nat.zero_add,Nat.add_zero,Nat.mul_one,Nat.one_mul,Nat.zero_mul,Nat.reduceAdd,List.setIfInBounds_toArray,List.set_cons_zero,List.set_cons_succ,List.getElem?_toArray,List.getElem?_cons_zero,List.getElem?_cons_succ,some_and,int_eq,bool_eq,str_eq,slc_eq,ptr_eq,nn_eq,M.val,cond_true,cond_false,Bool.not_true,Bool.not_false,cell_in hd]
    refine M.idx_of hu'.2.1 (by rw [ok.len]; exact hu'.2.2) ?_
    simp only [addr_add,load_eq,Nat.zero_add,Nat.add_zero,Nat.mul_one,Nat.one_mul,Nat.zero_mul,Nat.reduceAdd,List.setIfInBounds_toArray,List.set_cons_zero,List.set_cons_succ,List.getElem?_toArray,List.getElem?_cons_zero,List.getElem?_cons_succ,some_and,int_eq,bool_eq,str_eq,slc_eq,ptr_eq,nn_eq,M.val,cond_true,cond_false,Bool.not_true,Bool.not_false]
    refine M.put_w w 1 rfl rfl (by rw [strs_size,ok.len]; omega) fun h4 w=>?_
    rw [strs_set] at w
    have w:=w.drop (i:=2) rfl
    refine k h4 (w.close 0 (bl,a',l',c') ?_ ⟨⟨t1,t2⟩,hl'⟩)
    simp
end
end Go.Proofs.YthegnmanjdlmjaaGreatDoor
namespace Go.Proofs.YthegnmanjdlmjaaGreatDoor
open Go.Sh Go.RowKit
theorem tmod_lt {n k:Int} (h0:0≤n) (hk:0<k):0≤Int.tmod n k∧Int.tmod n k<k:=by
 rw [Int.tmod_eq_emod_of_nonneg h0]
 exact ⟨Int.emod_nonneg _ (by omega),Int.emod_lt_of_pos _ hk⟩
section
variable {h0 h:H} {d:Nat} {D:DiskM} {at_:Int} {s:ByteArray}
theorem mx0 (n:Int):0≤mx 0 n:=by unfold mx; split <;> omega
theorem strEq_iff {x y:ByteArray}:strEq x y=true↔x=y:=by
 unfold strEq
 rw [beq_iff_eq,ByteArray.toList_eq,ByteArray.toList_eq]
 obtain ⟨⟨x⟩⟩:=x
 obtain ⟨⟨y⟩⟩:=y
 simp
end
end Go.Proofs.YthegnmanjdlmjaaGreatDoor
namespace Go.Proofs.YthegnmanjdlmjaaGreatDoor
open Go.Sh Go.RowKit
namespace DiskM
theorem write_len (D:DiskM) (a:Int) (s:ByteArray):(D.write a s).2.W.length≤D.W.length+1∧(D.write a s).2.N.length=D.N.length∧(D.write a s).2.dead=D.dead:=by
 unfold write
 split
 ·exact ⟨by simp,rfl,rfl⟩
 ·split
  ·exact ⟨by simp,rfl,rfl⟩
  ·simp
theorem flush_len (D:DiskM):D.flush.2.W.length≤D.W.length∧D.flush.2.N.length=D.N.length∧D.flush.2.dead=D.dead:=by
 unfold flush
 split <;> simp
end DiskM
section
variable {h0 h:H} {d:Nat} {D:DiskM} {at_:Int} {s:ByteArray}
theorem z8 (n:Int) : -7≤Int.tmod n 8∧Int.tmod n 8≤7:=by
 rcases Int.le_total 0 n with h | h
 ·have:=tmod_lt h (show (0:Int)<8 by omega)
  omega
 ·have:=tmod_lt (show 0 ≤ -n by omega) (show (0:Int)<8 by omega)
  rw [Int.neg_tmod] at this
  omega
end
end Go.Proofs.YthegnmanjdlmjaaGreatDoor
namespace Go.Proofs.YthegnmanjdlmjaaGreatDoor
open Go.Sh Go.RowKit
section
variable {h0 h:H} {d:Nat} {D:DiskM} {at_:Int} {s:ByteArray}
theorem mn_take {l:Nat} {n:Int} (hn:0≤n):(mn ((l:Nat):Int) n).toNat=min l n.toNat∧(0:Int)≤mn ((l:Nat):Int) n∧mn ((l:Nat):Int) n≤l:=by unfold mn; split <;> omega
structure Texts (h:H) (a:Option Addr) (l:Nat) (xs:List ByteArray):Prop where
 len:xs.length=l
 nil:a=none→l=0
 row:∀ b,a=some b→Sh.rowAt h b (xs.map Value.string)
 size:∀ s ∈ xs,s.size≤maxLen
theorem row_take {h:H} {a:Addr} {vs:List Value} (r:Sh.rowAt h a vs) (n:Nat):Sh.rowAt h a (vs.take n):=fun i hi=>by
 rw [r i (by simp at hi; omega),List.getElem?_take,if_pos (by simp at hi; omega)]
end
end Go.Proofs.YthegnmanjdlmjaaGreatDoor
namespace Go.Proofs.YthegnmanjdlmjaaGreatDoor
open Go.Sh Go.RowKit
structure BankM where
 ds:List DiskM
 steps:Int
 fails:Bool
 left:Int
def BankM.bad (B:BankM) (i:Int):Prop:=i<0∨i ≥ B.ds.length
instance (B:BankM) (i:Int):Decidable (B.bad i):=by unfold BankM.bad; infer_instance
structure BankM.Ok (B:BankM):Prop where
 pos:0<B.ds.length
 small:B.ds.length≤12
 left:0≤B.left
 st0:0≤B.steps
namespace BankM
variable (B:BankM)
def there (i:Int):Int:=if B.bad i then 11 else 0
def disk (i:Int):DiskM:=B.ds.getD i.toNat ⟨[],[],[],true⟩
def set (i:Int) (D:DiskM):BankM:={ B with ds:=B.ds.set i.toNat D }
def noPower:Prop:=B.fails=true∧B.left=0
instance:Decidable B.noPower:=by unfold noPower; infer_instance
def spend:Int × BankM:=if B.noPower then (21,B) else (0,{ B with left:=if B.fails=true then B.left-1 else B.left,steps:=B.steps+1 })
def write (i at_:Int) (s:ByteArray):Int × BankM:=
 if B.bad i then (11,B) else if B.noPower then (21,B) else (((B.disk i).write at_ s).1,B.spend.2.set i ((B.disk i).write at_ s).2)
def flush (i:Int):Int × BankM:=
 if B.bad i then (11,B) else if B.noPower then (21,B) else ((B.disk i).flush.1,B.spend.2.set i (B.disk i).flush.2)
def read (i at_:Int):ByteArray × Int:=if B.bad i then (ByteArray.empty,11) else if B.noPower then (ByteArray.empty,21) else (B.disk i).read at_
def cut (n:Int):BankM:={ B with fails:=true,left:=mx 0 n }
def crash (kept:List (List Bool)):BankM:={ B with ds:=B.ds.mapIdx fun i D=>D.crash (kept.getD i []),fails:=false,left:=0 }
def new (n cells:Int):BankM:=⟨List.replicate (mx 1 (mn n 12)).toNat (DiskM.new cells),0,false,0⟩
theorem spend_ds:B.spend.2.ds=B.ds:=by unfold spend; split <;> rfl
variable {B}
theorem not_bad {i:Int}:¬ B.bad i↔0≤i∧i<B.ds.length:=by unfold bad; omega
theorem disk_at {i:Int} (hi:¬ B.bad i):∃ h:i.toNat<B.ds.length,B.ds[i.toNat]=B.disk i:=by
 have:=not_bad.1 hi
 have h:i.toNat<B.ds.length:=by omega
 exact ⟨h,by simp [disk,List.getD_eq_getElem?_getD,h]⟩
theorem new_len (n:Int):0<(mx 1 (mn n 12)).toNat∧(mx 1 (mn n 12)).toNat≤12:=by
 unfold mx mn
 split <;> split <;> omega
theorem new_ok (n c:Int):(new n c).Ok:=⟨by simpa [new] using (new_len n).1,by simpa [new] using (new_len n).2,by simp [new],by simp [new]⟩
theorem spend_ok (o:B.Ok):B.spend.2.Ok:=by
 unfold spend
 split
 ·exact o
 ·rename_i h
  refine ⟨o.pos,o.small,?_,by have:=o.st0; simp only; omega⟩
  simp only
  by_cases hf:B.fails=true
  ·have:=o.left
   have:B.left≠0:=fun e=>h ⟨hf,e⟩
   rw [if_pos hf]; omega
  ·rw [if_neg hf]; exact o.left
theorem set_ok (o:B.Ok) (i:Int) (D:DiskM):(B.set i D).Ok:=⟨by simpa [set] using o.pos,by simpa [set] using o.small,o.left,o.st0⟩
theorem write_ok (o:B.Ok) (i a:Int) (s:ByteArray):(B.write i a s).2.Ok:=by
 unfold write
 split
 ·exact o
 ·split
  ·exact o
  ·exact set_ok (spend_ok o) _ _
theorem flush_ok (o:B.Ok) (i:Int):(B.flush i).2.Ok:=by
 unfold flush
 split
 ·exact o
 ·split
  ·exact o
  ·exact set_ok (spend_ok o) _ _
theorem cut_ok (o:B.Ok) (n:Int):(B.cut n).Ok:=⟨o.pos,o.small,mx0 n,o.st0⟩
theorem crash_ok (o:B.Ok) (ks:List (List Bool)):(B.crash ks).Ok:=⟨by simpa [crash] using o.pos,by simpa [crash] using o.small,Int.le_refl 0,o.st0⟩
end BankM
def ptrs (l:List Nat):List Value:=l.map fun d=>Value.pointer (some ⟨d,0,none⟩)
theorem ptrs_len (l:List Nat):(ptrs l).length=l.length:=by simp [ptrs]
theorem ptrs_get {l:List Nat} {i:Nat} (h:i<l.length):(ptrs l)[i]? = some (.pointer (some ⟨l[i],0,none⟩)):=by simp [ptrs,h]
theorem disks_on {f:Nat→DiskM→Chunk} {h0 h:H} {L:List Chunk} {k:Nat} {ps:List Nat} {Ds:List DiskM} (w:Wd h0 h L) (hk:L[k]? = some (.sep (List.zipWith f ps Ds))) {j:Nat} (hp:j<ps.length) (hD:j<Ds.length):
  ∃ h1,Keep h0 h1∧Keep h1 h∧Wd h1 h [f ps[j] Ds[j]]∧Wd h0 h1 (L.eraseIdx k)∧∀ h' D',Wd h1 h' [f ps[j] D']→Wd h0 h' (L.set k (.sep (List.zipWith f ps (Ds.set j D')))):=by
 obtain ⟨h1,k0,k1,w1,wr,back⟩:=w.on hk
 have w1':Wd h1 h (List.zipWith f ps Ds):=w1.le (Chunk.sep_one _)
 have hj:(List.zipWith f ps Ds)[j]? = some (f ps[j] Ds[j]):=by rw [List.getElem?_zipWith]; simp [hp,hD]
 obtain ⟨h2,k2,k3,w2,wr2,back2⟩:=w1'.on hj
 refine ⟨h2,k0.trans k2,k3,w2,wr.keeps k2,fun h' D' w'=>back _ _ ?_⟩
 have:=back2 _ _ w'
 have e:(List.zipWith f ps Ds).set j (f ps[j] D')=List.zipWith f ps (Ds.set j D'):=by
  apply List.ext_getElem?
  intro x
  rw [List.getElem?_set,List.getElem?_zipWith,List.getElem?_zipWith,List.getElem?_set]
  by_cases hx:j=x
  ·subst hx
   simp [hp,hD]; omega
  ·simp [hx]
 rw [e] at this
 exact this.le (Chunk.one_sep _)
def bankC (b:Nat) (B:BankM):Chunk:=Wd.obj (α:=Option Addr × Nat × List Nat) (fun v=>B.Ok∧v.2.2.length=B.ds.length)
 fun v=>[.blk b (.cells #[.slice v.1 B.ds.length v.2.1,.int .i64 B.steps,.bool B.fails,.int .i64 B.left] 122 (0,0)),.sl 59 1 v.1 B.ds.length v.2.1 (ptrs v.2.2),.sep (List.zipWith diskC v.2.2 B.ds)]
section
variable {h0 h:H} {b:Nat} {B:BankM} {i at_:Int} {s:ByteArray}
theorem bank_ok (w:Wd h0 h [bankC b B]):B.Ok:=by
 obtain ⟨_,⟨ok,_⟩,_⟩:=w.opn 0 rfl
 exact ok
theorem bDisk {Q:Option Addr→H→Prop} (w:Wd h0 h [bankC b B]) (kn:B.bad i→Q none h)
  (k:¬ B.bad i→∀ p h1,Keep h0 h1→Keep h1 h→Wd h1 h [diskC p (B.disk i)]→(∀ h' D',Wd h1 h' [diskC p D']→Wd h0 h' [bankC b (B.set i D')])→Q (some ⟨p,0,none⟩) h):bank_Bank_Disk (some ⟨b,0,none⟩) i h Q:=by
 obtain ⟨⟨a,c,ps⟩,⟨ok,hl⟩,w⟩:=w.opn 0 rfl
 have hb:=w.blk 0 rfl
 obtain ⟨_,_,hsn,hsr⟩:=w.slrow 1 rfl
 simp only at hl hsn hsr
 unfold bank_Bank_Disk
 refine M.join_of (fun d h'=>d=decide (B.bad i)∧h=h') (fun J hJ=>?_) ?_
 ·simp only [addr_add,load_eq,Nat.zero_add,Nat.add_zero,Nat.mul_one,Nat.one_mul,Nat.zero_mul,Nat.reduceAdd,List.setIfInBounds_toArray,List.set_cons_zero,List.set_cons_succ,List.getElem?_toArray,List.getElem?_cons_zero,List.getElem?_cons_succ,some_and,int_eq,bool_eq,str_eq,slc_eq,ptr_eq,nn_eq,M.val,cond_true,cond_false,Bool.not_true,Bool.not_false,Option.isNone_some,cell_in hb]
  by_cases h1:i<0
  ·simp only [h1,decide_true,cond_true]
   exact hJ _ _ ⟨(decide_eq_true (.inl h1)).symm,rfl⟩
  ·simp only [h1,decide_false,cond_false]
   exact hJ _ _ ⟨by simp [BankM.bad,h1],rfl⟩
 ·rintro _ _ ⟨rfl,rfl⟩
  by_cases hbad:B.bad i
  ·simp only [hbad,decide_true,cond_true]
   exact kn hbad
  ·obtain ⟨hj,hd⟩:=BankM.disk_at hbad
   have hi:=BankM.not_bad.1 hbad
   simp only [addr_add,load_eq,Nat.zero_add,Nat.add_zero,Nat.mul_one,Nat.one_mul,Nat.zero_mul,Nat.reduceAdd,List.setIfInBounds_toArray,List.set_cons_zero,List.set_cons_succ,List.getElem?_toArray,List.getElem?_cons_zero,List.getElem?_cons_succ,some_and,int_eq,bool_eq,str_eq,slc_eq,ptr_eq,nn_eq,M.val,cond_true,cond_false,Bool.not_true,Bool.not_false,hbad,decide_false,cell_in hb]
   cases a with
   | none=>have:=(hsn rfl).2; omega
   | some ab=>
    refine M.idx_of hi.1 hi.2 ?_
    have hc:h.cell (ab.add i.toNat)=some (.pointer (some ⟨ps[i.toNat],0,none⟩)):=by
     rw [hsr ab rfl i.toNat (by rw [ptrs_len]; omega),ptrs_get (by omega)]
    simp only [addr_add,load_eq,Nat.zero_add,Nat.add_zero,Nat.mul_one,Nat.one_mul,Nat.zero_mul,Nat.reduceAdd,List.setIfInBounds_toArray,List.set_cons_zero,List.set_cons_succ,List.getElem?_toArray,List.getElem?_cons_zero,List.getElem?_cons_succ,some_and,int_eq,bool_eq,str_eq,slc_eq,ptr_eq,nn_eq,M.val,cond_true,cond_false,Bool.not_true,Bool.not_false,hc]
    obtain ⟨h1,k0,k1,w1,wr,back⟩:=disks_on (f:=diskC) (k:=2) w rfl (j:=i.toNat) (by show i.toNat<ps.length; omega) hj
    rw [hd] at w1
    refine k hbad ps[i.toNat] h1 k0 k1 w1 fun h' D' w'=>?_
    have w2:=back h' D' w'
    refine w2.close 0 (some ab,c,ps) ?_ ⟨BankM.set_ok ok i D',by simpa [BankM.set] using hl⟩
    simp [BankM.set]
theorem bThere {Q:Int→H→Prop} (w:Wd h0 h [bankC b B]) (k:Q (B.there i) h):bank_Bank_there (some ⟨b,0,none⟩) i h Q:=by
 unfold bank_Bank_there bank_Bank_there.g
 simp only [Option.isNone_some,cond_false]
 unfold BankM.there at k
 refine bDisk w (fun hb=>?_) fun hb p h1 _ _ _ _=>?_
 ·simpa [hb] using k
 ·simpa [hb] using k
theorem bSpend {Q:Int→H→Prop} (w:Wd h0 h [bankC b B]) (hs:B.steps<1000000000) (hlx:B.left≤9223372036854775807) (k:∀ h',Wd h0 h' [bankC b B.spend.2]→Q B.spend.1 h'):bank_Bank_Spend (some ⟨b,0,none⟩) h Q:=by
 have w0:=w
 obtain ⟨⟨a,c,ps⟩,⟨ok,hl⟩,w⟩:=w.opn 0 rfl
 have hb:=w.blk 0 rfl
 have ok2:=BankM.spend_ok ok
 have hst:=ok.st0
 have hlf:=ok.left
 have hw1:IntKind.wrap .i64 (B.steps+1)=B.steps+1:=by rw [IntKind.wrap_i64]; omega
 unfold bank_Bank_Spend
 unfold BankM.spend at k ok2
 by_cases hp:B.noPower
 ·simp only [hp,if_true] at k
  simp only [addr_add,load_eq,Nat.zero_add,Nat.add_zero,Nat.mul_one,Nat.one_mul,Nat.zero_mul,Nat.reduceAdd,List.setIfInBounds_toArray,List.set_cons_zero,List.set_cons_succ,List.getElem?_toArray,List.getElem?_cons_zero,List.getElem?_cons_succ,some_and,int_eq,bool_eq,str_eq,slc_eq,ptr_eq,nn_eq,M.val,cond_true,cond_false,Bool.not_true,Bool.not_false,M.join,Option.isNone_some,cell_in hb,hp.1,hp.2,beq_self_eq_true]
  exact k _ w0
 ·simp only [hp,if_false] at k ok2
  refine M.jn ?_
  simp only [Option.isNone_some,cond_false]
  refine M.join_of (fun d h'=>d=false∧h=h') (fun J hJ=>?_) ?_
  ·simp only [addr_add,load_eq,Nat.zero_add,Nat.add_zero,Nat.mul_one,Nat.one_mul,Nat.zero_mul,Nat.reduceAdd,List.setIfInBounds_toArray,List.set_cons_zero,List.set_cons_succ,List.getElem?_toArray,List.getElem?_cons_zero,List.getElem?_cons_succ,some_and,int_eq,bool_eq,str_eq,slc_eq,ptr_eq,nn_eq,M.val,cond_true,cond_false,Bool.not_true,Bool.not_false,Option.isNone_some,cell_in hb]
   cases hf:B.fails
   ·exact hJ _ _ ⟨rfl,rfl⟩
   ·have:(B.left == 0)=false:=by
     have:B.left≠0:=fun e=>hp ⟨hf,e⟩
     simpa using this
    simp only [cond_true,this]
    exact hJ _ _ ⟨rfl,rfl⟩
  ·rintro _ _ ⟨rfl,rfl⟩
   simp only [addr_add,load_eq,Nat.zero_add,Nat.add_zero,Nat.mul_one,Nat.one_mul,Nat.zero_mul,Nat.reduceAdd,List.setIfInBounds_toArray,List.set_cons_zero,List.set_cons_succ,List.getElem?_toArray,List.getElem?_cons_zero,List.getElem?_cons_succ,some_and,int_eq,bool_eq,str_eq,slc_eq,ptr_eq,nn_eq,M.val,cond_true,cond_false,Bool.not_true,Bool.not_false,cell_in hb]
   cases hf:B.fails
   ·simp only [hf,Bool.false_eq_true,if_false] at k ok2
    simp only [addr_add,load_eq,Nat.zero_add,Nat.add_zero,Nat.mul_one,Nat.one_mul,Nat.zero_mul,Nat.reduceAdd,List.setIfInBounds_toArray,List.set_cons_zero,List.set_cons_succ,List.getElem?_toArray,List.getElem?_cons_zero,List.getElem?_cons_succ,some_and,int_eq,bool_eq,str_eq,slc_eq,ptr_eq,nn_eq,M.val,cond_true,cond_false,Bool.not_true,Bool.not_false,cell_in hb,hw1]
    refine M.put_w w 0 rfl rfl (by simp) fun h1 w=>?_
    exact k _ (w.close 0 (a,c,ps) (by simp [hf]) ⟨ok2,hl⟩)
   ·simp only [hf,if_true] at k ok2
    have hw2:IntKind.wrap .i64 (B.left-1)=B.left-1:=by rw [IntKind.wrap_i64]; omega
    simp only [addr_add,load_eq,Nat.zero_add,Nat.add_zero,Nat.mul_one,Nat.one_mul,Nat.zero_mul,Nat.reduceAdd,List.setIfInBounds_toArray,List.set_cons_zero,List.set_cons_succ,List.getElem?_toArray,List.getElem?_cons_zero,List.getElem?_cons_succ,some_and,int_eq,bool_eq,str_eq,slc_eq,ptr_eq,nn_eq,M.val,cond_true,cond_false,Bool.not_true,Bool.not_false,cell_in hb,hw2]
    refine M.put_w w 0 rfl rfl (by simp) fun h1 w=>?_
    have hb:=w.blk 0 rfl
    simp only [addr_add,load_eq,Nat.zero_add,Nat.add_zero,Nat.mul_one,Nat.one_mul,Nat.zero_mul,Nat.reduceAdd,List.setIfInBounds_toArray,List.set_cons_zero,List.set_cons_succ,List.getElem?_toArray,List.getElem?_cons_zero,List.getElem?_cons_succ,some_and,int_eq,bool_eq,str_eq,slc_eq,ptr_eq,nn_eq,M.val,cond_true,cond_false,Bool.not_true,Bool.not_false,cell_in hb,hw1]
    refine M.put_w w 0 rfl rfl (by simp) fun h2 w=>?_
    exact k _ (w.close 0 (a,c,ps) (by simp [hf]) ⟨ok2,hl⟩)
theorem bGo {Q:Option Addr→Prop} (w:Wd h0 h [bankC b B]) (hb:¬ B.bad i)
  (k:∀ p h1,Keep h0 h1→Keep h1 h→Wd h1 h [diskC p (B.disk i)]→(∀ h' D',Wd h1 h' [diskC p D']→Wd h0 h' [bankC b (B.set i D')])→Q (some ⟨p,0,none⟩)):
  M.nn (some ⟨b,0,none⟩) fun a6=>M.load h (Addr.add a6 0) fun v7=>M.slc v7 fun a8 l9 c10=>M.idx a8 l9 i fun a11 j12=>M.load h (Addr.add a11 (j12*1)) fun v13=>M.ptr v13 fun p14=>Q p14:=by
 obtain ⟨⟨a,c,ps⟩,⟨ok,hl⟩,w⟩:=w.opn 0 rfl
 have hbb:=w.blk 0 rfl
 obtain ⟨_,_,hsn,hsr⟩:=w.slrow 1 rfl
 simp only at hl hsn hsr
 obtain ⟨hj,hd⟩:=BankM.disk_at hb
 have hi:=BankM.not_bad.1 hb
 simp only [addr_add,load_eq,Nat.zero_add,Nat.add_zero,Nat.mul_one,Nat.one_mul,Nat.zero_mul,Nat.reduceAdd,List.setIfInBounds_toArray,List.set_cons_zero,List.set_cons_succ,List.getElem?_toArray,List.getElem?_cons_zero,List.getElem?_cons_succ,some_and,int_eq,bool_eq,str_eq,slc_eq,ptr_eq,nn_eq,M.val,cond_true,cond_false,Bool.not_true,Bool.not_false,cell_in hbb]
 cases a with
 | none=>have:=(hsn rfl).2; omega
 | some ab=>
  refine M.idx_of hi.1 hi.2 ?_
  have hc:h.cell (ab.add i.toNat)=some (.pointer (some ⟨ps[i.toNat],0,none⟩)):=by
   rw [hsr ab rfl i.toNat (by rw [ptrs_len]; omega),ptrs_get (by omega)]
  simp only [addr_add,load_eq,Nat.zero_add,Nat.add_zero,Nat.mul_one,Nat.one_mul,Nat.zero_mul,Nat.reduceAdd,List.setIfInBounds_toArray,List.set_cons_zero,List.set_cons_succ,List.getElem?_toArray,List.getElem?_cons_zero,List.getElem?_cons_succ,some_and,int_eq,bool_eq,str_eq,slc_eq,ptr_eq,nn_eq,M.val,cond_true,cond_false,Bool.not_true,Bool.not_false,hc]
  obtain ⟨h1,k0,k1,w1,wr,back⟩:=disks_on (f:=diskC) (k:=2) w rfl (j:=i.toNat) (by show i.toNat<ps.length; omega) hj
  rw [hd] at w1
  refine k ps[i.toNat] h1 k0 k1 w1 fun h' D' w'=>?_
  refine (back h' D' w').close 0 (some ab,c,ps) ?_ ⟨BankM.set_ok ok i D',by simpa [BankM.set] using hl⟩
  simp [BankM.set]
theorem spend_disk:B.spend.2.disk i=B.disk i:=by simp [BankM.disk,BankM.spend_ds]
theorem spend_bad:B.spend.2.bad i↔B.bad i:=by simp [BankM.bad,BankM.spend_ds]
theorem bWrite {Q:Int→H→Prop} (w:Wd h0 h [bankC b B]) (hs:B.steps<1000000000) (hlx:B.left≤9223372036854775807) (hW:(B.disk i).W.length<1000000000) (k:∀ h',Wd h0 h' [bankC b (B.write i at_ s).2]→Q (B.write i at_ s).1 h'):bank_Bank_Write (some ⟨b,0,none⟩) i at_ s h Q:=by
 unfold bank_Bank_Write bank_Bank_Write.g
 refine bThere w ?_
 unfold BankM.there
 unfold BankM.write at k
 by_cases hb:B.bad i
 ·simp only [hb,if_true] at k ⊢
  exact k _ w
 ·simp only [hb,if_false] at k ⊢
  simp only [bne_self_eq_false,cond_false]
  refine bSpend w hs hlx fun h1 w=>?_
  by_cases hp:B.noPower
  ·have e:B.spend=(21,B):=by simp [BankM.spend,hp]
   rw [e] at w ⊢
   simp only [hp,if_true] at k
   exact k _ w
  ·have e:B.spend.1=0:=by simp [BankM.spend,hp]
   simp only [hp,if_false] at k
   simp only [e,bne_self_eq_false,cond_false]
   refine bGo w (fun x=>hb (spend_bad.1 x)) fun p h2 k0 k1 w2 back=>?_
   rw [spend_disk] at w2
   exact Write_spec w2 hW fun h' w3=>k h' (back _ _ w3)
theorem bFlush {Q:Int→H→Prop} (w:Wd h0 h [bankC b B]) (hs:B.steps<1000000000) (hlx:B.left≤9223372036854775807) (k:∀ h',Wd h0 h' [bankC b (B.flush i).2]→Q (B.flush i).1 h'):bank_Bank_Flush (some ⟨b,0,none⟩) i h Q:=by
 unfold bank_Bank_Flush bank_Bank_Flush.g
 refine bThere w ?_
 unfold BankM.there
 unfold BankM.flush at k
 by_cases hb:B.bad i
 ·simp only [hb,if_true] at k ⊢
  exact k _ w
 ·simp only [hb,if_false] at k ⊢
  simp only [bne_self_eq_false,cond_false]
  refine bSpend w hs hlx fun h1 w=>?_
  by_cases hp:B.noPower
  ·have e:B.spend=(21,B):=by simp [BankM.spend,hp]
   rw [e] at w ⊢
   simp only [hp,if_true] at k
   exact k _ w
  ·have e:B.spend.1=0:=by simp [BankM.spend,hp]
   simp only [hp,if_false] at k
   simp only [e,bne_self_eq_false,cond_false]
   refine bGo w (fun x=>hb (spend_bad.1 x)) fun p h2 k0 k1 w2 back=>?_
   rw [spend_disk] at w2
   exact Flush_spec w2 fun h' w3=>k h' (back _ _ w3)
theorem bRead {Q:ByteArray→Int→H→Prop} (w:Wd h0 h [bankC b B]) (k:Q (B.read i at_).1 (B.read i at_).2 h):bank_Bank_Read (some ⟨b,0,none⟩) i at_ h Q:=by
 unfold bank_Bank_Read bank_Bank_Read.g
 refine bThere w ?_
 unfold BankM.there
 unfold BankM.read at k
 by_cases hb:B.bad i
 ·simp only [hb,if_true] at k ⊢
  exact k
 ·simp only [hb,if_false] at k ⊢
  simp only [bne_self_eq_false,cond_false]
  refine M.join_of (fun d h'=>d=decide B.noPower∧h=h') (fun J hJ=>?_) ?_
  ·obtain ⟨v,⟨ok,hl⟩,w⟩:=w.opn 0 rfl
   have hbb:=w.blk 0 rfl
   simp only [addr_add,load_eq,Nat.zero_add,Nat.add_zero,Nat.mul_one,Nat.one_mul,Nat.zero_mul,Nat.reduceAdd,List.setIfInBounds_toArray,List.set_cons_zero,List.set_cons_succ,List.getElem?_toArray,List.getElem?_cons_zero,List.getElem?_cons_succ,some_and,int_eq,bool_eq,str_eq,slc_eq,ptr_eq,nn_eq,M.val,cond_true,cond_false,Bool.not_true,Bool.not_false,cell_in hbb]
   cases hf:B.fails
   ·exact hJ _ _ ⟨by simp [BankM.noPower,hf],rfl⟩
   ·refine hJ _ _ ⟨?_,rfl⟩
    by_cases h0:B.left=0 <;> simp [BankM.noPower,hf,h0]
  ·rintro _ _ ⟨rfl,rfl⟩
   by_cases hp:B.noPower
   ·simp only [hp,if_true] at k
    simp only [hp,decide_true,cond_true]
    exact k
   ·simp only [hp,if_false] at k
    simp only [hp,decide_false,cond_false]
    refine bGo w hb fun p h2 k0 k1 w2 back=>?_
    exact Read_spec w2 k
theorem bCut {n:Int} {Q:H→Prop} (w:Wd h0 h [bankC b B]) (k:∀ h',Wd h0 h' [bankC b (B.cut n)]→Q h'):bank_Bank_Cut (some ⟨b,0,none⟩) n h Q:=by
 obtain ⟨⟨a,c,ps⟩,⟨ok,hl⟩,w⟩:=w.opn 0 rfl
 unfold bank_Bank_Cut
 simp only [addr_add,load_eq,Nat.zero_add,Nat.add_zero,Nat.mul_one,Nat.one_mul,Nat.zero_mul,Nat.reduceAdd,List.setIfInBounds_toArray,List.set_cons_zero,List.set_cons_succ,List.getElem?_toArray,List.getElem?_cons_zero,List.getElem?_cons_succ,some_and,int_eq,bool_eq,str_eq,slc_eq,ptr_eq,nn_eq,M.val,cond_true,cond_false,Bool.not_true,Bool.not_false,Option.isNone_some]
 refine M.put_w w 0 rfl rfl (by simp) fun h1 w=>?_
 refine M.put_w w 0 rfl rfl (by simp) fun h2 w=>?_
 exact k _ (w.close 0 (a,c,ps) (by simp [BankM.cut]) ⟨BankM.cut_ok ok n,hl⟩)
structure Lists (h:H) (a:Option Addr) (l:Nat) (ks:List (List Bool)):Prop where
 len:ks.length=l
 nil:a=none→l=0
 row:∀ b,a=some b→∀ i ys,ks[i]? = some ys→∃ ya yl yc,h.cell (b.add i)=some (.slice ya yl yc)∧ys.length=yl∧yl≤yc∧(ya=none→yl=0)∧∀ y,ya=some y→Sh.rowAt h y (ys.map Value.bool)
theorem bCrash {a:Option Addr} {l c:Nat} {ks:List (List Bool)} {Q:H→Prop} (w:Wd h0 h [bankC b B]) (hW:∀ D ∈ B.ds,D.W.length<1000000000) (hk:Lists h0 a l ks) (k:∀ h',Wd h0 h' [bankC b (B.crash ks)]→Q h'):
  bank_Bank_Crash (some ⟨b,0,none⟩) a l c h Q:=by
 unfold bank_Bank_Crash bank_Bank_Crash.g
 obtain ⟨⟨pa,pc,ps⟩,⟨ok,hl⟩,w⟩:=w.opn 0 rfl
 simp only at hl
 have hb:=w.blk 0 rfl
 have hsm:=ok.small
 simp only [addr_add,load_eq,Nat.zero_add,Nat.add_zero,Nat.mul_one,Nat.one_mul,Nat.zero_mul,Nat.reduceAdd,List.setIfInBounds_toArray,List.set_cons_zero,List.set_cons_succ,List.getElem?_toArray,List.getElem?_cons_zero,List.getElem?_cons_succ,some_and,int_eq,bool_eq,str_eq,slc_eq,ptr_eq,nn_eq,M.val,cond_true,cond_false,Bool.not_true,Bool.not_false,Option.isNone_some,cell_in hb]
 refine M.jn ?_
 refine M.loop_of (I:=fun (i:Int) h'=>0≤i∧i≤B.ds.length∧Wd h0 h' [.blk b (.cells #[.slice pa B.ds.length pc,.int .i64 B.steps,.bool B.fails,.int .i64 B.left] 122 (0,0)),.sl 59 1 pa B.ds.length pc (ptrs ps),
   .sep (List.zipWith diskC ps (B.ds.mapIdx fun j D=>if j<i.toNat then D.crash (ks.getD j []) else D))]) (μ:=fun i=>(B.ds.length-i).toNat) ⟨by omega,by omega,?_⟩ ?_
 ·have:B.ds.mapIdx (fun j D=>if j<(0:Int).toNat then D.crash (ks.getD j []) else D)=B.ds:=by
   apply List.ext_getElem?
   intro x
   simp
  rw [this]; exact w
 rintro i h1 J ⟨hi0,hi1,w⟩ hJ
 obtain ⟨_,_,hsn,hsr⟩:=w.slrow 1 rfl
 by_cases hlt:i<B.ds.length
 ·have hj:i.toNat<B.ds.length:=by omega
  have hjp:i.toNat<ps.length:=by omega
  have hw1:IntKind.wrap .i64 (i+1)=i+1:=by rw [IntKind.wrap_i64]; omega
  simp only [hlt,decide_true,cond_true]
  cases pa with
  | none=>have:B.ds.length=0:=(hsn rfl).2; omega
  | some ab=>
   refine M.idx_of hi0 hlt ?_
   have hc:h1.cell (ab.add i.toNat)=some (.pointer (some ⟨ps[i.toNat],0,none⟩)):=by
    rw [hsr ab rfl i.toNat (by rw [ptrs_len]; exact hjp),ptrs_get hjp]
   simp only [addr_add,load_eq,Nat.zero_add,Nat.add_zero,Nat.mul_one,Nat.one_mul,Nat.zero_mul,Nat.reduceAdd,List.setIfInBounds_toArray,List.set_cons_zero,List.set_cons_succ,List.getElem?_toArray,List.getElem?_cons_zero,List.getElem?_cons_succ,some_and,int_eq,bool_eq,str_eq,slc_eq,ptr_eq,nn_eq,M.val,cond_true,cond_false,Bool.not_true,Bool.not_false,hc,hw1]
   obtain ⟨h2,k0,k1,w2,wr,back⟩:=disks_on (f:=diskC) (k:=2) (Ds:=B.ds.mapIdx fun j D=>if j<i.toNat then D.crash (ks.getD j []) else D) w rfl (j:=i.toNat) hjp (by simpa using hj)
   have hD:(B.ds.mapIdx fun j D=>if j<i.toNat then D.crash (ks.getD j []) else D)[i.toNat]'(by simpa using hj)=B.ds[i.toNat]:=by simp; omega
   rw [hD] at w2
   have fin:∀ h',Wd h2 h' [diskC ps[i.toNat] (B.ds[i.toNat].crash (ks.getD i.toNat []))]→J (i+1) h':=by
    intro h' w'
    have w3:=back h' _ w'
    refine hJ _ _ ⟨by omega,by omega,?_⟩ (by omega)
    have e:(B.ds.mapIdx fun j D=>if j<i.toNat then D.crash (ks.getD j []) else D).set i.toNat (B.ds[i.toNat].crash (ks.getD i.toNat []))=B.ds.mapIdx fun j D=>if j<(i+1).toNat then D.crash (ks.getD j []) else D:=by
     apply List.ext_getElem?
     intro x
     rw [List.getElem?_set]
     by_cases hx:i.toNat=x
     ·subst hx
      have:i.toNat<(i+1).toNat:=by omega
      simp [hj,this]; omega
     ·rw [if_neg hx,List.getElem?_mapIdx,List.getElem?_mapIdx]
      have:x<i.toNat↔x<(i+1).toNat:=by omega
      simp [this]
    rw [e] at w3
    exact w3
   have hWi:=hW _ (List.getElem_mem hj)
   by_cases hil:i<l
   ·have hik:i.toNat<ks.length:=by rw [hk.len]; omega
    simp only [hil,decide_true,cond_true]
    cases a with
    | none=>have:=hk.nil rfl; omega
    | some kb=>
     obtain ⟨ya,yl,yc,hyc,hy1,hy2,hy3,hy4⟩:=hk.row kb rfl i.toNat _ (List.getElem?_eq_getElem hik)
     have hg:ks.getD i.toNat []=ks[i.toNat]:=by simp [List.getD_eq_getElem?_getD,hik]
     refine M.idx_of hi0 hil ?_
     simp only [addr_add,load_eq,Nat.zero_add,Nat.add_zero,Nat.mul_one,Nat.one_mul,Nat.zero_mul,Nat.reduceAdd,List.setIfInBounds_toArray,List.set_cons_zero,List.set_cons_succ,List.getElem?_toArray,List.getElem?_cons_zero,List.getElem?_cons_succ,some_and,int_eq,bool_eq,str_eq,slc_eq,ptr_eq,nn_eq,M.val,cond_true,cond_false,Bool.not_true,Bool.not_false,w.keep.cell hyc]
     rw [hg] at fin
     exact Crash_spec w2 hWi hy1 hy3 (fun y e=>k0.row (hy4 y e)) fin
   ·have hg:ks.getD i.toNat []=[]:=by
     rw [List.getD_eq_getElem?_getD,List.getElem?_eq_none (by rw [hk.len]; omega)]; rfl
    rw [hg] at fin
    simp only [hil,decide_false,cond_false]
    exact Crash_spec (kept:=[]) w2 hWi rfl (fun _=>rfl) (fun y e=>by simp at e) fin
 ·simp only [hlt,decide_false,cond_false]
  have hi:i.toNat=B.ds.length:=by omega
  have e:(B.ds.mapIdx fun j D=>if j<i.toNat then D.crash (ks.getD j []) else D)=B.ds.mapIdx fun j D=>D.crash (ks.getD j []):=by
   apply List.ext_getElem?
   intro x
   rw [List.getElem?_mapIdx,List.getElem?_mapIdx]
   by_cases hx:x<B.ds.length
   ·rw [hi]; simp [hx]
   ·simp [Nat.le_of_not_lt hx]
  rw [e] at w
  refine M.put_w w 0 rfl rfl (by simp) fun h2 w=>?_
  refine M.put_w w 0 rfl rfl (by simp) fun h3 w=>?_
  exact k _ (w.close 0 (pa,pc,ps) (by simp [BankM.crash]) ⟨BankM.crash_ok ok ks,by simpa [BankM.crash] using hl⟩)
theorem bNew {n cells:Int} {Q:Option Addr→H→Prop} (k:∀ b h',Wd h h' [bankC b (BankM.new n cells)]→Q (some ⟨b,0,none⟩) h'):bank_New n cells h Q:=by
 unfold bank_New bank_New.g
 have hn:=BankM.new_len n
 refine M.new_w (Wd.start h) fun b h1 w=>?_
 have w:=w.nilsl 59 1
 have w:Wd h h1 [.blk b (.cells #[.slice none 0 0,.int .i64 0,.bool false,.int .i64 0] 122 (0,0)),.sl 59 1 none 0 0 (ptrs []),.sep (List.zipWith diskC [] [])]:=
  w.fold 2 (c:=.sep (List.zipWith diskC [] [])) (Chunk.Le.refl _)
 refine M.loop_of (I:=fun (i:Int) h'=>0≤i∧i≤mx 1 (mn n 12)∧∃ a c ps,ps.length=i.toNat∧Wd h h' [.blk b (.cells #[.slice a i.toNat c,.int .i64 0,.bool false,.int .i64 0] 122 (0,0)),.sl 59 1 a i.toNat c (ptrs ps),
   .sep (List.zipWith diskC ps (List.replicate i.toNat (DiskM.new cells)))]) (μ:=fun i=>(mx 1 (mn n 12)-i).toNat) ⟨by omega,by omega,none,0,[],rfl,w⟩ ?_
 rintro i h2 J ⟨hi0,hi1,a,c,ps,hps,w⟩ hJ
 by_cases hlt:i<mx 1 (mn n 12)
 ·have hw1:IntKind.wrap .i64 (i+1)=i+1:=by rw [IntKind.wrap_i64]; omega
  have hb:=w.blk 0 rfl
  simp only [addr_add,load_eq,Nat.zero_add,Nat.add_zero,Nat.mul_one,Nat.one_mul,Nat.zero_mul,Nat.reduceAdd,List.setIfInBounds_toArray,List.set_cons_zero,List.set_cons_succ,List.getElem?_toArray,List.getElem?_cons_zero,List.getElem?_cons_succ,some_and,int_eq,bool_eq,str_eq,slc_eq,ptr_eq,nn_eq,M.val,cond_true,cond_false,Bool.not_true,Bool.not_false,hlt,decide_true,cell_in hb,hw1]
  refine New_spec fun d h3 w3=>?_
  have w:=w.join w3
  refine M.still_in hb (w.blk 0 rfl) ?_
  refine M.new_t w fun t h4 ht w=>?_
  refine M.still_in hb (w.blk 0 rfl) ?_
  refine cellsOf_in ht rfl ?_
  refine M.app_w w 1 rfl rfl rfl (by simp [isPlainCell]) (by omega) (by omega) fun a' c' h5 w=>?_
  refine M.put_w w 0 rfl rfl (by simp) fun h6 w=>?_
  have hni:(i+1).toNat=i.toNat+1:=by omega
  have w:=w.fold 2 (c:=.sep (List.zipWith diskC (ps++[d]) (List.replicate (i.toNat+1) (DiskM.new cells)))) (by
   rw [List.replicate_succ',List.zipWith_append (by simp [hps])]
   exact (Chunk.star_mono (Chunk.Le.refl _) (Chunk.Le.refl _)).trans (Chunk.app_sep _ _))
  refine hJ _ _ ⟨by omega,by omega,a',c',ps++[d],by simp [hps,hni],?_⟩ (by omega)
  rw [hni]
  simpa [ptrs] using w
 ·simp only [hlt,decide_false,cond_false]
  have hi:i=mx 1 (mn n 12):=by omega
  subst hi
  refine k b _ (w.close 0 (a,c,ps) ?_ ⟨BankM.new_ok n cells,by simpa [BankM.new] using hps⟩)
  simp [BankM.new]
end
end Go.Proofs.YthegnmanjdlmjaaGreatDoor
namespace Go.Proofs.YthegnmanjdlmjaaGreatDoor
open Go.Sh Go.RowKit
def BankM.rleft (B:BankM):Int:=if B.fails=true then B.left else -1
def rbankC (b:Nat) (B:BankM):Chunk:=Wd.obj (α:=Option Addr × Nat × List Nat) (fun v=>B.Ok∧v.2.2.length=B.ds.length)
 fun v=>[.blk b (.cells #[.slice v.1 B.ds.length v.2.1,.int .i64 B.steps,.int .i64 B.rleft] 145 (0,0)),.sl 142 1 v.1 B.ds.length v.2.1 (ptrs v.2.2),.sep (List.zipWith refC v.2.2 B.ds)]
section
variable {h0 h:H} {b:Nat} {B:BankM} {i at_:Int} {s:ByteArray}
theorem noPower_iff (o:B.Ok):B.rleft=0↔B.noPower:=by
 unfold BankM.rleft BankM.noPower
 cases B.fails <;> simp
theorem rbGo {Q:Option Addr→Prop} (w:Wd h0 h [rbankC b B]) (hb:¬ B.bad i)
  (k:∀ p h1,Keep h0 h1→Keep h1 h→Wd h1 h [refC p (B.disk i)]→(∀ h' D',Wd h1 h' [refC p D']→Wd h0 h' [rbankC b (B.set i D')])→Q (some ⟨p,0,none⟩)):
  M.nn (some ⟨b,0,none⟩) fun a6=>M.load h (Addr.add a6 0) fun v7=>M.slc v7 fun a8 l9 c10=>M.idx a8 l9 i fun a11 j12=>M.load h (Addr.add a11 (j12*1)) fun v13=>M.ptr v13 fun p14=>Q p14:=by
 obtain ⟨⟨a,c,ps⟩,⟨ok,hl⟩,w⟩:=w.opn 0 rfl
 have hbb:=w.blk 0 rfl
 obtain ⟨_,_,hsn,hsr⟩:=w.slrow 1 rfl
 simp only at hl hsn hsr
 obtain ⟨hj,hd⟩:=BankM.disk_at hb
 have hi:=BankM.not_bad.1 hb
 simp only [addr_add,load_eq,Nat.zero_add,Nat.add_zero,Nat.mul_one,Nat.one_mul,Nat.zero_mul,Nat.reduceAdd,List.setIfInBounds_toArray,List.set_cons_zero,List.set_cons_succ,List.getElem?_toArray,List.getElem?_cons_zero,List.getElem?_cons_succ,some_and,int_eq,bool_eq,str_eq,slc_eq,ptr_eq,nn_eq,M.val,cond_true,cond_false,Bool.not_true,Bool.not_false,cell_in hbb]
 cases a with
 | none=>have:=(hsn rfl).2; omega
 | some ab=>
  refine M.idx_of hi.1 hi.2 ?_
  have hc:h.cell (ab.add i.toNat)=some (.pointer (some ⟨ps[i.toNat],0,none⟩)):=by
   rw [hsr ab rfl i.toNat (by rw [ptrs_len]; omega),ptrs_get (by omega)]
  simp only [addr_add,load_eq,Nat.zero_add,Nat.add_zero,Nat.mul_one,Nat.one_mul,Nat.zero_mul,Nat.reduceAdd,List.setIfInBounds_toArray,List.set_cons_zero,List.set_cons_succ,List.getElem?_toArray,List.getElem?_cons_zero,List.getElem?_cons_succ,some_and,int_eq,bool_eq,str_eq,slc_eq,ptr_eq,nn_eq,M.val,cond_true,cond_false,Bool.not_true,Bool.not_false,hc]
  obtain ⟨h1,k0,k1,w1,wr,back⟩:=disks_on (f:=refC) (k:=2) w rfl (j:=i.toNat) (by show i.toNat<ps.length; omega) hj
  rw [hd] at w1
  refine k ps[i.toNat] h1 k0 k1 w1 fun h' D' w'=>?_
  refine (back h' D' w').close 0 (some ab,c,ps) ?_ ⟨BankM.set_ok ok i D',by simpa [BankM.set] using hl⟩
  simp [BankM.set,BankM.rleft]
  rfl
theorem rbBad {K:Bool→Prop} (w:Wd h0 h [rbankC b B]) (k:K (decide (B.bad i))):
  (bif (decide (i<(0:Int))) then K true else M.nn (some ⟨b,0,none⟩) fun a3=>M.load h (Addr.add a3 0) fun v4=>M.slc v4 fun a5 l6 c7=>K (decide (i ≥ ((l6:Nat):Int)))):=by
 obtain ⟨v,⟨ok,hl⟩,w⟩:=w.opn 0 rfl
 have hb:=w.blk 0 rfl
 by_cases h1:i<0
 ·simp only [h1,decide_true,cond_true]
  have:decide (B.bad i)=true:=decide_eq_true (.inl h1)
  rwa [this] at k
 ·simp only [addr_add,load_eq,Nat.zero_add,Nat.add_zero,Nat.mul_one,Nat.one_mul,Nat.zero_mul,Nat.reduceAdd,List.setIfInBounds_toArray,List.set_cons_zero,List.set_cons_succ,List.getElem?_toArray,List.getElem?_cons_zero,List.getElem?_cons_succ,some_and,int_eq,bool_eq,str_eq,slc_eq,ptr_eq,nn_eq,M.val,cond_true,cond_false,Bool.not_true,Bool.not_false,h1,decide_false,cell_in hb]
  have:decide (B.bad i)=decide (i ≥ B.ds.length):=by simp [BankM.bad,h1]
  rwa [this] at k
theorem rbSpend {Q:Int→H→Prop} (w:Wd h0 h [rbankC b B]) (hs:B.steps<1000000000) (hlx:B.left≤9223372036854775807) (k:∀ h',Wd h0 h' [rbankC b B.spend.2]→Q B.spend.1 h'):ref10_Spend (some ⟨b,0,none⟩) h Q:=by
 have w0:=w
 obtain ⟨⟨a,c,ps⟩,⟨ok,hl⟩,w⟩:=w.opn 0 rfl
 have hb:=w.blk 0 rfl
 have ok2:=BankM.spend_ok ok
 have hst:=ok.st0
 have hlf:=ok.left
 have hw1:IntKind.wrap .i64 (B.steps+1)=B.steps+1:=by rw [IntKind.wrap_i64]; omega
 unfold ref10_Spend
 unfold BankM.spend at k ok2
 by_cases hp:B.noPower
 ·simp only [hp,if_true] at k
  have hr:=(noPower_iff ok).2 hp
  simp only [addr_add,load_eq,Nat.zero_add,Nat.add_zero,Nat.mul_one,Nat.one_mul,Nat.zero_mul,Nat.reduceAdd,List.setIfInBounds_toArray,List.set_cons_zero,List.set_cons_succ,List.getElem?_toArray,List.getElem?_cons_zero,List.getElem?_cons_succ,some_and,int_eq,bool_eq,str_eq,slc_eq,ptr_eq,nn_eq,M.val,cond_true,cond_false,Bool.not_true,Bool.not_false,cell_in hb,hr,beq_self_eq_true]
  exact k _ w0
 ·simp only [hp,if_false] at k ok2
  have hr:(B.rleft == 0)=false:=by
   have:¬ B.rleft=0:=fun e=>hp ((noPower_iff ok).1 e)
   simpa using this
  simp only [addr_add,load_eq,Nat.zero_add,Nat.add_zero,Nat.mul_one,Nat.one_mul,Nat.zero_mul,Nat.reduceAdd,List.setIfInBounds_toArray,List.set_cons_zero,List.set_cons_succ,List.getElem?_toArray,List.getElem?_cons_zero,List.getElem?_cons_succ,some_and,int_eq,bool_eq,str_eq,slc_eq,ptr_eq,nn_eq,M.val,cond_true,cond_false,Bool.not_true,Bool.not_false,cell_in hb,hr]
  refine M.jn ?_
  cases hf:B.fails
  ·simp only [hf,Bool.false_eq_true,if_false] at k ok2
   have hrl:B.rleft = -1:=by simp [BankM.rleft,hf]
   simp only [addr_add,load_eq,Nat.zero_add,Nat.add_zero,Nat.mul_one,Nat.one_mul,Nat.zero_mul,Nat.reduceAdd,List.setIfInBounds_toArray,List.set_cons_zero,List.set_cons_succ,List.getElem?_toArray,List.getElem?_cons_zero,List.getElem?_cons_succ,some_and,int_eq,bool_eq,str_eq,slc_eq,ptr_eq,nn_eq,M.val,cond_true,cond_false,Bool.not_true,Bool.not_false,hrl,show decide ((-1:Int) > 0)=false by decide,cell_in hb,hw1]
   refine M.put_w w 0 rfl rfl (by simp) fun h1 w=>?_
   exact k _ (w.close 0 (a,c,ps) (by simp [hf,BankM.rleft]) ⟨ok2,hl⟩)
  ·simp only [hf,if_true] at k ok2
   have hrl:B.rleft=B.left:=by simp [BankM.rleft,hf]
   have hl0:B.left≠0:=fun e=>hp ⟨hf,e⟩
   have hw2:IntKind.wrap .i64 (B.left-1)=B.left-1:=by rw [IntKind.wrap_i64]; omega
   have hgt:decide (B.left > 0)=true:=decide_eq_true (by omega)
   simp only [addr_add,load_eq,Nat.zero_add,Nat.add_zero,Nat.mul_one,Nat.one_mul,Nat.zero_mul,Nat.reduceAdd,List.setIfInBounds_toArray,List.set_cons_zero,List.set_cons_succ,List.getElem?_toArray,List.getElem?_cons_zero,List.getElem?_cons_succ,some_and,int_eq,bool_eq,str_eq,slc_eq,ptr_eq,nn_eq,M.val,cond_true,cond_false,Bool.not_true,Bool.not_false,hrl,hgt,hw2]
   refine M.put_w w 0 rfl rfl (by simp) fun h1 w=>?_
   have hb:=w.blk 0 rfl
   simp only [addr_add,load_eq,Nat.zero_add,Nat.add_zero,Nat.mul_one,Nat.one_mul,Nat.zero_mul,Nat.reduceAdd,List.setIfInBounds_toArray,List.set_cons_zero,List.set_cons_succ,List.getElem?_toArray,List.getElem?_cons_zero,List.getElem?_cons_succ,some_and,int_eq,bool_eq,str_eq,slc_eq,ptr_eq,nn_eq,M.val,cond_true,cond_false,Bool.not_true,Bool.not_false,cell_in hb,hw1]
   refine M.put_w w 0 rfl rfl (by simp) fun h2 w=>?_
   exact k _ (w.close 0 (a,c,ps) (by simp [hf,BankM.rleft]) ⟨ok2,hl⟩)
theorem rbWrite {Q:Int→H→Prop} (w:Wd h0 h [rbankC b B]) (hs:B.steps<1000000000) (hlx:B.left≤9223372036854775807) (hW:(B.disk i).W.length<1000000000) (k:∀ h',Wd h0 h' [rbankC b (B.write i at_ s).2]→Q (B.write i at_ s).1 h'):ref10_Write (some ⟨b,0,none⟩) i at_ s h Q:=by
 unfold ref10_Write ref10_Write.g
 unfold BankM.write at k
 refine M.join_of (fun d h'=>d=decide (B.bad i)∧h=h') (fun J hJ=>rbBad (K:=fun d=>J d h) w (hJ _ _ ⟨rfl,rfl⟩)) ?_
 rintro _ _ ⟨rfl,rfl⟩
 by_cases hb:B.bad i
 ·simp only [hb,if_true] at k
  simp only [hb,decide_true,cond_true]
  exact k _ w
 ·simp only [hb,if_false] at k
  simp only [hb,decide_false,cond_false]
  refine rbSpend w hs hlx fun h1 w=>?_
  by_cases hp:B.noPower
  ·have e:B.spend=(21,B):=by simp [BankM.spend,hp]
   rw [e] at w ⊢
   simp only [hp,if_true] at k
   exact k _ w
  ·have e:B.spend.1=0:=by simp [BankM.spend,hp]
   simp only [hp,if_false] at k
   simp only [e,bne_self_eq_false,cond_false]
   refine rbGo w (fun x=>hb (spend_bad.1 x)) fun p h2 k0 k1 w2 back=>?_
   rw [spend_disk] at w2
   exact rPut w2 hW fun h' w3=>k h' (back _ _ w3)
theorem rbFlush {Q:Int→H→Prop} (w:Wd h0 h [rbankC b B]) (hs:B.steps<1000000000) (hlx:B.left≤9223372036854775807) (hW:(B.disk i).W.length<1000000000) (k:∀ h',Wd h0 h' [rbankC b (B.flush i).2]→Q (B.flush i).1 h'):ref10_Flush (some ⟨b,0,none⟩) i h Q:=by
 unfold ref10_Flush ref10_Flush.g
 unfold BankM.flush at k
 refine M.join_of (fun d h'=>d=decide (B.bad i)∧h=h') (fun J hJ=>rbBad (K:=fun d=>J d h) w (hJ _ _ ⟨rfl,rfl⟩)) ?_
 rintro _ _ ⟨rfl,rfl⟩
 by_cases hb:B.bad i
 ·simp only [hb,if_true] at k
  simp only [hb,decide_true,cond_true]
  exact k _ w
 ·simp only [hb,if_false] at k
  simp only [hb,decide_false,cond_false]
  refine rbSpend w hs hlx fun h1 w=>?_
  by_cases hp:B.noPower
  ·have e:B.spend=(21,B):=by simp [BankM.spend,hp]
   rw [e] at w ⊢
   simp only [hp,if_true] at k
   exact k _ w
  ·have e:B.spend.1=0:=by simp [BankM.spend,hp]
   simp only [hp,if_false] at k
   simp only [e,bne_self_eq_false,cond_false]
   refine rbGo w (fun x=>hb (spend_bad.1 x)) fun p h2 k0 k1 w2 back=>?_
   rw [spend_disk] at w2
   exact rFlush w2 hW fun h' w3=>k h' (back _ _ w3)
theorem rbRead {Q:ByteArray→Int→H→Prop} (w:Wd h0 h [rbankC b B]) (hW:(B.disk i).W.length<1000000000) (k:Q (B.read i at_).1 (B.read i at_).2 h):ref10_Read (some ⟨b,0,none⟩) i at_ h Q:=by
 unfold ref10_Read ref10_Read.g
 unfold BankM.read at k
 refine M.join_of (fun d h'=>d=decide (B.bad i)∧h=h') (fun J hJ=>rbBad (K:=fun d=>J d h) w (hJ _ _ ⟨rfl,rfl⟩)) ?_
 rintro _ _ ⟨rfl,rfl⟩
 by_cases hb:B.bad i
 ·simp only [hb,if_true] at k
  simp only [hb,decide_true,cond_true]
  exact k
 ·simp only [hb,if_false] at k
  simp only [hb,decide_false,cond_false]
  have w':=w
  obtain ⟨v,⟨ok,hl⟩,w'⟩:=w'.opn 0 rfl
  have hbb:=w'.blk 0 rfl
  have e1:∀ K:Int→Prop,K B.rleft→(M.nn (some ⟨b,0,none⟩) fun a11=>M.load h (Addr.add a11 2) fun v12=>M.int .i64 v12 fun n13=>K n13):=by
   intro K hK
   simp only [addr_add,load_eq,Nat.zero_add,Nat.add_zero,Nat.mul_one,Nat.one_mul,Nat.zero_mul,Nat.reduceAdd,List.setIfInBounds_toArray,List.set_cons_zero,List.set_cons_succ,List.getElem?_toArray,List.getElem?_cons_zero,List.getElem?_cons_succ,some_and,int_eq,bool_eq,str_eq,slc_eq,ptr_eq,nn_eq,M.val,cond_true,cond_false,Bool.not_true,Bool.not_false,cell_in hbb]
   exact hK
  refine e1 _ ?_
  by_cases hp:B.noPower
  ·have hr:=(noPower_iff ok).2 hp
   simp only [hp,if_true] at k
   simp only [hr,beq_self_eq_true,cond_true]
   exact k
  ·have hr:(B.rleft == 0)=false:=by
    have:¬ B.rleft=0:=fun e=>hp ((noPower_iff ok).1 e)
    simpa using this
   simp only [hp,if_false] at k
   simp only [hr,cond_false]
   exact rbGo w hb fun p h2 k0 k1 w2 back=>rRead w2 hW k
theorem rbCut {n:Int} {Q:H→Prop} (w:Wd h0 h [rbankC b B]) (k:∀ h',Wd h0 h' [rbankC b (B.cut n)]→Q h'):ref10_Cut (some ⟨b,0,none⟩) n h Q:=by
 obtain ⟨⟨a,c,ps⟩,⟨ok,hl⟩,w⟩:=w.opn 0 rfl
 unfold ref10_Cut
 refine M.join_of (fun d h'=>d=mx 0 n∧h=h') (fun J hJ=>?_) ?_
 ·by_cases h1:n<0
  ·simp only [h1,decide_true,cond_true]
   exact hJ _ _ ⟨by unfold mx; split <;> omega,rfl⟩
  ·simp only [h1,decide_false,cond_false]
   exact hJ _ _ ⟨by unfold mx; split <;> omega,rfl⟩
 ·rintro _ _ ⟨rfl,rfl⟩
  simp only [addr_add,load_eq,Nat.zero_add,Nat.add_zero,Nat.mul_one,Nat.one_mul,Nat.zero_mul,Nat.reduceAdd,List.setIfInBounds_toArray,List.set_cons_zero,List.set_cons_succ,List.getElem?_toArray,List.getElem?_cons_zero,List.getElem?_cons_succ,some_and,int_eq,bool_eq,str_eq,slc_eq,ptr_eq,nn_eq,M.val,cond_true,cond_false,Bool.not_true,Bool.not_false]
  refine M.put_w w 0 rfl rfl (by simp) fun h2 w=>?_
  exact k _ (w.close 0 (a,c,ps) (by simp [BankM.cut,BankM.rleft]) ⟨BankM.cut_ok ok n,hl⟩)
theorem rbCrash {a:Option Addr} {l c:Nat} {ks:List (List Bool)} {Q:H→Prop} (w:Wd h0 h [rbankC b B]) (hW:∀ D ∈ B.ds,D.W.length<1000000000) (hk:Lists h0 a l ks) (k:∀ h',Wd h0 h' [rbankC b (B.crash ks)]→Q h'):
  ref10_Crash (some ⟨b,0,none⟩) a l c h Q:=by
 unfold ref10_Crash ref10_Crash.g
 obtain ⟨⟨pa,pc,ps⟩,⟨ok,hl⟩,w⟩:=w.opn 0 rfl
 simp only at hl
 have hsm:=ok.small
 refine M.jn ?_
 refine M.loop_of (I:=fun (i:Int) h'=>0≤i∧i≤B.ds.length∧Wd h0 h' [.blk b (.cells #[.slice pa B.ds.length pc,.int .i64 B.steps,.int .i64 B.rleft] 145 (0,0)),.sl 142 1 pa B.ds.length pc (ptrs ps),
   .sep (List.zipWith refC ps (B.ds.mapIdx fun j D=>if j<i.toNat then D.crash (ks.getD j []) else D))]) (μ:=fun i=>(B.ds.length-i).toNat) ⟨by omega,by omega,?_⟩ ?_
 ·have:B.ds.mapIdx (fun j D=>if j<(0:Int).toNat then D.crash (ks.getD j []) else D)=B.ds:=by
   apply List.ext_getElem?
   intro x
   simp
  rw [this]; exact w
 rintro i h1 J ⟨hi0,hi1,w⟩ hJ
 obtain ⟨_,_,hsn,hsr⟩:=w.slrow 1 rfl
 have hb:=w.blk 0 rfl
 simp only [addr_add,load_eq,Nat.zero_add,Nat.add_zero,Nat.mul_one,Nat.one_mul,Nat.zero_mul,Nat.reduceAdd,List.setIfInBounds_toArray,List.set_cons_zero,List.set_cons_succ,List.getElem?_toArray,List.getElem?_cons_zero,List.getElem?_cons_succ,some_and,int_eq,bool_eq,str_eq,slc_eq,ptr_eq,nn_eq,M.val,cond_true,cond_false,Bool.not_true,Bool.not_false,cell_in hb]
 by_cases hlt:i<B.ds.length
 ·have hj:i.toNat<B.ds.length:=by omega
  have hjp:i.toNat<ps.length:=by omega
  have hw1:IntKind.wrap .i64 (i+1)=i+1:=by rw [IntKind.wrap_i64]; omega
  simp only [hlt,decide_true,cond_true]
  cases pa with
  | none=>have:B.ds.length=0:=(hsn rfl).2; omega
  | some ab=>
   have hc:h1.cell (ab.add i.toNat)=some (.pointer (some ⟨ps[i.toNat],0,none⟩)):=by
    rw [hsr ab rfl i.toNat (by rw [ptrs_len]; exact hjp),ptrs_get hjp]
   obtain ⟨h2,k0,k1,w2,wr,back⟩:=disks_on (f:=refC) (k:=2) (Ds:=B.ds.mapIdx fun j D=>if j<i.toNat then D.crash (ks.getD j []) else D) w rfl (j:=i.toNat) hjp (by simpa using hj)
   have hD:(B.ds.mapIdx fun j D=>if j<i.toNat then D.crash (ks.getD j []) else D)[i.toNat]'(by simpa using hj)=B.ds[i.toNat]:=by simp; omega
   rw [hD] at w2
   have fin:∀ h',Wd h2 h' [refC ps[i.toNat] (B.ds[i.toNat].crash (ks.getD i.toNat []))]→J (i+1) h':=by
    intro h' w'
    have w3:=back h' _ w'
    refine hJ _ _ ⟨by omega,by omega,?_⟩ (by omega)
    have e:(B.ds.mapIdx fun j D=>if j<i.toNat then D.crash (ks.getD j []) else D).set i.toNat (B.ds[i.toNat].crash (ks.getD i.toNat []))=B.ds.mapIdx fun j D=>if j<(i+1).toNat then D.crash (ks.getD j []) else D:=by
     apply List.ext_getElem?
     intro x
     rw [List.getElem?_set]
     by_cases hx:i.toNat=x
     ·subst hx
      have:i.toNat<(i+1).toNat:=by omega
      simp [hj,this]; omega
     ·rw [if_neg hx,List.getElem?_mapIdx,List.getElem?_mapIdx]
      have:x<i.toNat↔x<(i+1).toNat:=by omega
      simp [this]
    rw [e] at w3
    exact w3
   have hWi:=hW _ (List.getElem_mem hj)
   refine M.join_of (fun v h'=>h1=h'∧(ks.getD i.toNat []).length=v.2.1∧(v.1=none→v.2.1=0)∧∀ y,v.1=some y→Sh.rowAt h0 y ((ks.getD i.toNat []).map Value.bool)) (fun J2 hJ2=>?_) ?_
   ·by_cases hil:i<l
    ·have hik:i.toNat<ks.length:=by rw [hk.len]; omega
     simp only [hil,decide_true,cond_true]
     cases a with
     | none=>have:=hk.nil rfl; omega
     | some kb=>
      obtain ⟨ya,yl,yc,hyc,hy1,hy2,hy3,hy4⟩:=hk.row kb rfl i.toNat _ (List.getElem?_eq_getElem hik)
      have hg:ks.getD i.toNat []=ks[i.toNat]:=by simp [List.getD_eq_getElem?_getD,hik]
      refine M.idx_of hi0 hil ?_
      simp only [addr_add,load_eq,Nat.zero_add,Nat.add_zero,Nat.mul_one,Nat.one_mul,Nat.zero_mul,Nat.reduceAdd,List.setIfInBounds_toArray,List.set_cons_zero,List.set_cons_succ,List.getElem?_toArray,List.getElem?_cons_zero,List.getElem?_cons_succ,some_and,int_eq,bool_eq,str_eq,slc_eq,ptr_eq,nn_eq,M.val,cond_true,cond_false,Bool.not_true,Bool.not_false,w.keep.cell hyc]
      exact hJ2 _ _ ⟨rfl,by rw [hg]; exact hy1,hy3,fun y e=>by rw [hg]; exact hy4 y e⟩
    ·have hg:ks.getD i.toNat []=[]:=by
      rw [List.getD_eq_getElem?_getD,List.getElem?_eq_none (by rw [hk.len]; omega)]; rfl
     simp only [hil,decide_false,cond_false]
     exact hJ2 _ _ ⟨rfl,by rw [hg]; rfl,fun _=>rfl,fun y e=>by simp at e⟩
   ·rintro ⟨va,vl,vc⟩ _ ⟨rfl,hv1,hv2,hv3⟩
    simp only [addr_add,load_eq,Nat.zero_add,Nat.add_zero,Nat.mul_one,Nat.one_mul,Nat.zero_mul,Nat.reduceAdd,List.setIfInBounds_toArray,List.set_cons_zero,List.set_cons_succ,List.getElem?_toArray,List.getElem?_cons_zero,List.getElem?_cons_succ,some_and,int_eq,bool_eq,str_eq,slc_eq,ptr_eq,nn_eq,M.val,cond_true,cond_false,Bool.not_true,Bool.not_false,cell_in hb]
    refine M.idx_of hi0 hlt ?_
    simp only [addr_add,load_eq,Nat.zero_add,Nat.add_zero,Nat.mul_one,Nat.one_mul,Nat.zero_mul,Nat.reduceAdd,List.setIfInBounds_toArray,List.set_cons_zero,List.set_cons_succ,List.getElem?_toArray,List.getElem?_cons_zero,List.getElem?_cons_succ,some_and,int_eq,bool_eq,str_eq,slc_eq,ptr_eq,nn_eq,M.val,cond_true,cond_false,Bool.not_true,Bool.not_false,hc,hw1]
    exact rCrash w2 hWi hv1 hv2 (fun y e=>k0.row (hv3 y e)) fin
 ·simp only [hlt,decide_false,cond_false]
  have hi:i.toNat=B.ds.length:=by omega
  have e:(B.ds.mapIdx fun j D=>if j<i.toNat then D.crash (ks.getD j []) else D)=B.ds.mapIdx fun j D=>D.crash (ks.getD j []):=by
   apply List.ext_getElem?
   intro x
   rw [List.getElem?_mapIdx,List.getElem?_mapIdx]
   by_cases hx:x<B.ds.length
   ·rw [hi]; simp [hx]
   ·simp [Nat.le_of_not_lt hx]
  rw [e] at w
  refine M.put_w w 0 rfl rfl (by simp) fun h2 w=>?_
  exact k _ (w.close 0 (pa,pc,ps) (by simp [BankM.crash,BankM.rleft]) ⟨BankM.crash_ok ok ks,by simpa [BankM.crash] using hl⟩)
theorem rbNew {n cells:Int} {Q:Option Addr→H→Prop} (k:∀ b h',Wd h h' [rbankC b (BankM.new n cells)]→Q (some ⟨b,0,none⟩) h'):ref10_New n cells h Q:=by
 unfold ref10_New ref10_New.g
 have hn:=BankM.new_len n
 refine M.join_of (fun d h'=>d=mx 1 n∧h=h') (fun J hJ=>?_) ?_
 ·by_cases h1:n<1
  ·simp only [h1,decide_true,cond_true]
   exact hJ _ _ ⟨by unfold mx; split <;> omega,rfl⟩
  ·simp only [h1,decide_false,cond_false]
   exact hJ _ _ ⟨by unfold mx; split <;> omega,rfl⟩
 rintro _ _ ⟨rfl,rfl⟩
 refine M.join_of (fun d h'=>d=mx 1 (mn n 12)∧h=h') (fun J hJ=>?_) ?_
 ·by_cases h1:mx 1 n > 12
  ·simp only [h1,decide_true,cond_true]
   exact hJ _ _ ⟨by unfold mx mn at *; split <;> split <;> (try split at h1) <;> omega,rfl⟩
  ·simp only [h1,decide_false,cond_false]
   exact hJ _ _ ⟨by unfold mx mn at *; split <;> split <;> (try split at h1) <;> (try split) <;> omega,rfl⟩
 rintro _ _ ⟨rfl,rfl⟩
 refine M.new_w (Wd.start h) fun b h1 w=>?_
 have w:=w.nilsl 142 1
 have w:Wd h h1 [.blk b (.cells #[.slice none 0 0,.int .i64 0,.int .i64 (-1)] 145 (0,0)),.sl 142 1 none 0 0 (ptrs []),.sep (List.zipWith refC [] [])]:=
  w.fold 2 (c:=.sep (List.zipWith refC [] [])) (Chunk.Le.refl _)
 refine M.loop_of (I:=fun (i:Int) h'=>0≤i∧i≤mx 1 (mn n 12)∧∃ a c ps,ps.length=i.toNat∧Wd h h' [.blk b (.cells #[.slice a i.toNat c,.int .i64 0,.int .i64 (-1)] 145 (0,0)),.sl 142 1 a i.toNat c (ptrs ps),
   .sep (List.zipWith refC ps (List.replicate i.toNat (DiskM.new cells)))]) (μ:=fun i=>(mx 1 (mn n 12)-i).toNat) ⟨by omega,by omega,none,0,[],rfl,w⟩ ?_
 rintro i h2 J ⟨hi0,hi1,a,c,ps,hps,w⟩ hJ
 by_cases hlt:i<mx 1 (mn n 12)
 ·have hw1:IntKind.wrap .i64 (i+1)=i+1:=by rw [IntKind.wrap_i64]; omega
  simp only [hlt,decide_true,cond_true]
  refine rNew fun d h3 w3=>?_
  have w:=w.join w3
  have hb:=w.blk 0 rfl
  simp only [addr_add,load_eq,Nat.zero_add,Nat.add_zero,Nat.mul_one,Nat.one_mul,Nat.zero_mul,Nat.reduceAdd,List.setIfInBounds_toArray,List.set_cons_zero,List.set_cons_succ,List.getElem?_toArray,List.getElem?_cons_zero,List.getElem?_cons_succ,some_and,int_eq,bool_eq,str_eq,slc_eq,ptr_eq,nn_eq,M.val,cond_true,cond_false,Bool.not_true,Bool.not_false,cell_in hb,hw1]
  refine M.new_t w fun t h4 ht w=>?_
  refine cellsOf_in ht rfl ?_
  refine M.app_w w 1 rfl rfl rfl (by simp [isPlainCell]) (by omega) (by omega) fun a' c' h5 w=>?_
  refine M.put_w w 0 rfl rfl (by simp) fun h6 w=>?_
  have hni:(i+1).toNat=i.toNat+1:=by omega
  have w:=w.fold 2 (c:=.sep (List.zipWith refC (ps++[d]) (List.replicate (i.toNat+1) (DiskM.new cells)))) (by
   rw [List.replicate_succ',List.zipWith_append (by simp [hps])]
   exact (Chunk.star_mono (Chunk.Le.refl _) (Chunk.Le.refl _)).trans (Chunk.app_sep _ _))
  refine hJ _ _ ⟨by omega,by omega,a',c',ps++[d],by simp [hps,hni],?_⟩ (by omega)
  rw [hni]
  simpa [ptrs] using w
 ·simp only [hlt,decide_false,cond_false]
  have hi:i=mx 1 (mn n 12):=by omega
  subst hi
  refine k b _ (w.close 0 (a,c,ps) ?_ ⟨BankM.new_ok n cells,by simpa [BankM.new] using hps⟩)
  simp [BankM.new,BankM.rleft]
end
end Go.Proofs.YthegnmanjdlmjaaGreatDoor
namespace Go.Proofs.YthegnmanjdlmjaaGreatDoor
open Go.Sh Go.RowKit
section
variable {h0 h:H} {b:Nat} {B:BankM} {i at_:Int} {s:ByteArray}
theorem rb_ptr (w:Wd h0 h [rbankC b B]) (hb:¬ B.bad i):∃ a c p h1,h b=some (.cells #[.slice (some a) B.ds.length c,.int .i64 B.steps,.int .i64 B.rleft] 145 (0,0))∧h.cell (a.add i.toNat)=some (.pointer (some ⟨p,0,none⟩)) ∧
  Keep h0 h1∧Keep h1 h∧Wd h1 h [refC p (B.disk i)]∧∀ h' D',Wd h1 h' [refC p D']→Wd h0 h' [rbankC b (B.set i D')]:=by
 obtain ⟨⟨a,c,ps⟩,⟨ok,hl⟩,w⟩:=w.opn 0 rfl
 have hbb:=w.blk 0 rfl
 obtain ⟨_,_,hsn,hsr⟩:=w.slrow 1 rfl
 simp only at hl hsn hsr hbb
 obtain ⟨hj,hd⟩:=BankM.disk_at hb
 have hi:=BankM.not_bad.1 hb
 cases a with
 | none=>have:=(hsn rfl).2; omega
 | some ab=>
  have hc:h.cell (ab.add i.toNat)=some (.pointer (some ⟨ps[i.toNat],0,none⟩)):=by
   rw [hsr ab rfl i.toNat (by rw [ptrs_len]; omega),ptrs_get (by omega)]
  obtain ⟨h1,k0,k1,w1,wr,back⟩:=disks_on (f:=refC) (k:=2) w rfl (j:=i.toNat) (by show i.toNat<ps.length; omega) hj
  rw [hd] at w1
  refine ⟨ab,c,ps[i.toNat],h1,hbb,hc,k0,k1,w1,fun h' D' w'=>?_⟩
  refine (back h' D' w').close 0 (some ab,c,ps) ?_ ⟨BankM.set_ok ok i D',by simpa [BankM.set] using hl⟩
  simp [BankM.set,BankM.rleft]
  rfl
theorem disk_mem (hb:¬ B.bad i):B.disk i ∈ B.ds:=by
 obtain ⟨hj,hd⟩:=BankM.disk_at hb
 rw [←hd]; exact List.getElem_mem hj
end
end Go.Proofs.YthegnmanjdlmjaaGreatDoor
namespace Go.Proofs.YthegnmanjdlmjaaGreatDoor
open Go.Sh Go.RowKit
section
variable {h0 h:H} {b:Nat} {B:BankM} {i at_:Int} {s:ByteArray}
theorem lists_nil:Lists h none 0 []:=⟨rfl,fun _=>rfl,fun b e=>by simp at e⟩
end
end Go.Proofs.YthegnmanjdlmjaaGreatDoor
namespace Go.Proofs.YthegnmanjdlmjaaGreatDoor
open Go.Sh Go.RowKit
theorem pathV_eq {n s:Int} (hd:dep n≠0) (hs:0≤s∧s<n):pathV n s=pathN n s:=by
 have key:∀ s:Fin 16,(s.val<2→pathV 2 s.val=pathN 2 s.val)∧(s.val<4→pathV 4 s.val=pathN 4 s.val)∧(s.val<8→pathV 8 s.val=pathN 8 s.val)∧pathV 16 s.val=pathN 16 s.val:=by decide
 have h16:n≤16:=by rcases dep_ne hd with rfl | rfl | rfl | rfl <;> decide
 have k:=key ⟨s.toNat,by omega⟩
 simp only [Int.toNat_of_nonneg hs.1] at k
 rcases dep_ne hd with rfl | rfl | rfl | rfl
 ·exact k.1 (by omega)
 ·exact k.2.1 (by omega)
 ·exact k.2.2.1 (by omega)
 ·exact k.2.2.2
section
variable {h:H} {n s:Int}
theorem treePath_spec {Q:Option Addr→Nat→Nat→Int→H→Prop} (hd:dep n≠0) (hs:0≤s∧s<n) (tb:Tabs h) (k:∀ a c h',Wd h h' [.sl 3 1 a (dep n) c (eI.row (pathN n s))]→Q a (dep n) c 0 h'):tree_Path n s h Q:=by
 have hn:n≤16:=by rcases dep_ne hd with rfl | rfl | rfl | rfl <;> decide
 refine ⟨(dep n:Int),depth_spec tb ⟨rfl,Keep.refl h⟩,fun e=>?_,fun _=>⟨by omega,fun a c h' w=>?_⟩⟩
 ·unfold pathBad at e
  omega
 ·rw [pathV_eq hd hs,←eI_row,pathN_len] at w
  rw [pathV_eq hd hs,pathN_len]
  exact k a c h' w
theorem treePath_bad {Q:Option Addr→Nat→Nat→Int→H→Prop} (hb:¬ (dep n≠0∧0≤s∧s<n)) (tb:Tabs h) (k:∀ h',Keep h h'→Q none 0 0 2 h'):tree_Path n s h Q:=by
 refine ⟨(dep n:Int),depth_spec tb ⟨rfl,Keep.refl h⟩,fun _=>k,fun e=>absurd ?_ hb⟩
 unfold pathBad at e
 omega
def num8 (n:Nat):ByteArray:=textOf true [BitVec.ofNat 32 (n / 4294967296),BitVec.ofNat 32 n]
theorem num8_size (n:Nat):(num8 n).size=8:=by rw [num8,textOf_size]; rfl
theorem Num_spec {n:Nat} {Q:ByteArray→H→Prop} (hn:n<18446744073709551616) (k:∀ h',Keep h h'→Q (num8 n) h'):codec_Num (n:Int) h Q:=by
 unfold codec_Num codec_Num.g
 have w:=Wd.start h
 have e:(n:Int)=q64 n:=(q64_lt hn).symm
 have e2:n % 18446744073709551616=n:=Nat.mod_eq_of_lt hn
 rw [e]
 refine ⟨(by omega),?_⟩
 simp only [shr32_q,wrap32_q,e2]
 refine M.vin ?_
 simp only [wrap32_q]
 refine M.vin ?_
 refine M.vin ?_
 refine M.new_w w fun b2 h1 w=>?_
 refine FromBig_spec (words_blk (us:=[BitVec.ofNat 32 (n / 4294967296),BitVec.ofNat 32 n]) (rest:=[]) (w.blk 0 rfl) (by simp)) fun h2 k2=>?_
 exact k _ (w.keep.trans k2)
end
def goodS (B:BankM) (d n:Int) (key:ByteArray):Prop:=dep n≠0∧key.size=32∧¬ B.bad d
instance (B:BankM) (d n:Int) (key:ByteArray):Decidable (goodS B d n key):=by unfold goodS; infer_instance
section
variable {hx h:H} {b:Nat} {B:BankM} {d n slot:Int} {key nonce pl:ByteArray}
theorem good_spec {Q:Bool→H→Prop} (wx:Wd hx h [bankC b B]) (tb:Tabs h) (k:∀ h',Keep h h'→Q (decide (goodS B d n key)) h'):slab_Slab_good (some ⟨b,0,none⟩) d n key h Q:=by
 unfold slab_Slab_good slab_Slab_good.g
 have w:=Wd.start h
 refine M.new_w w fun b2 h1 w=>?_
 simp only [bs,lb (w.blk 0 rfl)]
 by_cases hd:dep n=0
 ·refine treePath_bad (by omega) (tb.keep w.keep) fun h2 k2=>?_
  have w:=w.keeps k2
  rw [decide_eq_false (show ¬ goodS B d n key from fun g=>g.1 hd)] at k
  exact M.jn (cf rfl (k _ w.keep))
 ·refine treePath_spec hd ⟨by omega,by rcases dep_ne hd with h | h | h | h <;> omega⟩ (tb.keep w.keep) fun a2 c2 h2 w'=>?_
  have w:=w.join w'
  clear w'
  refine M.jn (ct rfl ?_)
  simp only [bs,lb (w.blk 0 rfl)]
  by_cases hk:key.size=32
  ·refine ct (by rw [hk]; rfl) ?_
   have wb:=wx.keeps w.keep
   refine bDisk wb (fun hb=>?_) fun hb p h3 _ k3 _ _=>?_
   ·rw [decide_eq_false (show ¬ goodS B d n key from fun g=>g.2.2 hb)] at k
    exact k _ w.keep
   ·rw [decide_eq_true (show goodS B d n key from ⟨hd,hk,hb⟩)] at k
    exact k _ w.keep
  ·refine cf (by rw [beq_eq_false_iff_ne]; omega) ?_
   rw [decide_eq_false (show ¬ goodS B d n key from fun g=>hk g.2.1)] at k
   exact k _ w.keep
def mayZ (g:Prop) [Decidable g] (n slot:Int):Int:=if ¬ g then 4 else if slot<0∨slot ≥ n then 2 else 0
theorem may_spec {Q:Int→H→Prop} (wx:Wd hx h [bankC b B]) (tb:Tabs h) (k:∀ h',Keep h h'→Q (mayZ (goodS B d n key) n slot) h'):slab_Slab_may (some ⟨b,0,none⟩) d n key slot h Q:=by
 unfold slab_Slab_may slab_Slab_may.g
 have w:=Wd.start h
 refine M.new_w w fun b2 h1 w=>?_
 simp only [bs,lb (w.blk 0 rfl)]
 refine good_spec (wx.keeps w.keep) (tb.keep w.keep) fun h2 k2=>?_
 have w:=w.keeps k2
 unfold mayZ at k
 by_cases g:goodS B d n key
 ·rw [if_neg (by simp [g])] at k
  refine cf (by simp [g]) (M.jn ?_)
  refine cd (fun e=>?_) fun e=>?_
  ·rw [if_pos (.inl e)] at k
   exact k _ w.keep
  ·simp only [bs,lb (w.blk 0 rfl)]
   refine cd (fun e2=>?_) fun e2=>?_
   ·rw [if_pos (.inr e2)] at k
    exact k _ w.keep
   ·rw [if_neg (by omega)] at k
    exact k _ w.keep
 ·rw [if_pos g] at k
  exact ct (by simp [g]) (k _ w.keep)
def withB (d slot:Int):ByteArray:=num8 d.toNat++num8 slot.toNat
theorem withB_size (d slot:Int):(withB d slot).size=16:=by rw [withB,ByteArray.size_append,num8_size,num8_size]
theorem with_spec {p:Option Addr} {Q:ByteArray→H→Prop} (hd:0≤d∧d≤1000) (hs:0≤slot∧slot≤1000) (k:∀ h',Keep h h'→Q (withB d slot) h'):slab_Slab_with p d n key slot h Q:=by
 unfold slab_Slab_with slab_Slab_with.g
 have w:=Wd.start h
 have v1:IntKind.wrap .u64 d=(d.toNat:Int):=by rw [IntKind.wrap_u64]; omega
 have v2:IntKind.wrap .u64 slot=(slot.toNat:Int):=by rw [IntKind.wrap_u64]; omega
 have z1:=num8_size d.toNat
 have z2:=num8_size slot.toNat
 refine M.new_w w fun b2 h1 w=>?_
 simp only [bs,v1,v2,lb (w.blk 0 rfl)]
 refine M.vin ?_
 refine Num_spec (by omega) fun h3 k_=>?_
 have w:=w.keeps k_
 clear k_
 refine M.vin ?_
 refine Num_spec (by omega) fun h4 k_=>?_
 have w:=w.keeps k_
 clear k_
 refine ⟨(by simp; omega),?_⟩
 simp only []
 exact k _ w.keep
def cellOf (key:ByteArray) (d slot:Int) (nonce pl:ByteArray):ByteArray:=nonce++sealA key nonce (withB d slot) pl
theorem cellOf_size (key:ByteArray) (d slot:Int) (nonce pl:ByteArray):(cellOf key d slot nonce pl).size=nonce.size+pl.size+16:=by rw [cellOf,ByteArray.size_append,sealA_size]; omega
def sealM (g:Prop) [Decidable g] (key:ByteArray) (d n slot:Int) (nonce pl:ByteArray):ByteArray × Int:=
 if mayZ g n slot≠0 then (ByteArray.empty,mayZ g n slot) else if nonce.size≠12∨pl.size≠32 then (ByteArray.empty,7) else (cellOf key d slot nonce pl,0)
theorem mayZ_zero {g:Prop} [Decidable g] {n slot:Int}:mayZ g n slot=0↔g∧0≤slot∧slot<n:=by
 unfold mayZ
 by_cases h:g
 ·rw [if_neg (by simp [h])]
  by_cases h2:slot<0∨slot ≥ n
  ·rw [if_pos h2]; simp; omega
  ·rw [if_neg h2]; simp [h]; omega
 ·rw [if_pos h]; simp [h]
theorem dep_small {n:Int} (h:dep n≠0):2≤n∧n≤16:=by rcases dep_ne h with rfl | rfl | rfl | rfl <;> decide
theorem Seal2_spec {Q:ByteArray→Int→H→Prop} (wx:Wd hx h [bankC b B]) (tb:Tabs h) (k:∀ h',Keep h h'→Q (sealM (goodS B d n key) key d n slot nonce pl).1 (sealM (goodS B d n key) key d n slot nonce pl).2 h'):
  slab_Slab_Seal (some ⟨b,0,none⟩) d n key slot nonce pl h Q:=by
 unfold slab_Slab_Seal slab_Slab_Seal.g
 have w:=Wd.start h
 have ok:=bank_ok wx
 refine M.new_w w fun b2 h1 w=>?_
 simp only [bs,lb (w.blk 0 rfl)]
 refine may_spec (wx.keeps w.keep) (tb.keep w.keep) fun h2 k2=>?_
 have w:=w.keeps k2
 unfold sealM at k
 by_cases hm:mayZ (goodS B d n key) n slot=0
 ·obtain ⟨⟨hd,hk,hb⟩,hs⟩:=mayZ_zero.1 hm
  have hn:=dep_small hd
  have hb':=BankM.not_bad.1 hb
  have hsm:=ok.small
  rw [if_neg (by simp [hm])] at k
  rw [hm]
  refine cf rfl (M.jn ?_)
  have main:∀ (K:Prop),nonce.size=12→pl.size=32→K→K:=fun K _ _ k=>k
  by_cases h1:nonce.size=12
  ·refine cf (by rw [h1]; rfl) ?_
   by_cases h2:pl.size=32
   ·rw [if_neg (by simp [h1,h2])] at k
    refine cf (by rw [h2]; rfl) ?_
    have hs0:=w.blk 0 rfl
    have z:=withB_size d slot
    have z2:=sealA_size key nonce (withB d slot) pl
    simp only [bs,lb (w.blk 0 rfl)]
    refine with_spec (by omega) (by omega) fun h3 k_=>?_
    have w:=w.keeps k_
    clear k_
    refine M.still_at hs0 (w.blk 0 rfl) ?_
    refine Seal_spec (by assumption) (by assumption) (by omega) (by omega) fun h4 k_=>?_
    have w:=w.keeps k_
    clear k_
    refine ⟨(by simp; omega),?_⟩
    simp only []
    exact k _ w.keep
   ·rw [if_pos (.inr h2)] at k
    exact ct (by rw [bne_iff_ne]; omega) (k _ w.keep)
  ·rw [if_pos (.inl h1)] at k
   exact ct (by rw [bne_iff_ne]; omega) (k _ w.keep)
 ·rw [if_pos hm] at k
  exact ct (by rw [bne_iff_ne]; exact hm) (k _ w.keep)
end
end Go.Proofs.YthegnmanjdlmjaaGreatDoor

/- Poly1305: the program's products, and what is least. Poly1305: what is least. Poly1305: numbers of texts, and texts of numbers. Poly1305: the key's first half, tags compared. Poly1305: the program's tag. ChaCha20-Poly1305: the program's. A disk in plain words: what lasts, what is, what waits. The program's disk, walked: what each function leaves. The program's disk, walked, 2: a new one; tampering. The document's disk, walked: it is the program's disk where what is, is what lasts with the writes laid over it. The disk's statements: what an act is, what they do with one. One act on both disks: they answer alike. The disk's statements, walked: DiskPlays, DiskRestores, DiskDead. The program's bank, walked. -/
import Derived.Test.YtmfcgihgdhfalaaGreatDoorN07
import Derived.Test.YtmfcgihgdhfalaaGreatDoorN01
import Derived.Test.YtmfcgihgdhfalaaGreatDoorN06
open ByteArray(empty)
open Int(reduceToNat)
open Go.IntKind(wrap)
set_option linter.unusedSimpArgs false
set_option linter.unusedVariables false
namespace Go.Proofs.YtmfcgihgdhfalaaGreatDoor
open Go.Sh Go.RowKit
section
variable {h0 h:H}{b:Nat}{x r:L5}{Q:H->Prop}
theorem HK(w:Wd h0 h [.blk b x.o])(k:∀h',Wd h0 h' [.blk b (x.mul r).carry.o]->Q h'):cW (some ⟨b,0,none⟩) (kH r.a) (kH r.b) (kH r.c) (kH r.d) (kH r.e) h Q:=by
 unfold cW;unfold L5.o at w;refine M.aK w λb2 h1 w=>?_;refine M.aK w λb4 h3 w=>?_;refine M.jn (M.times 6 ?_);refine M.bM ?_;refine eN (by decide) ?_;simp only[bs,lb (w.blk 0 rfl),lb (w.blk 1 rfl)];refine⟨(by omega),(by omega),?_⟩;simp only[];simp only[bs,reduceToNat];refine M.times 6 ?_;refine M.bM ?_;refine eN (by omega) ?_;refine⟨(by omega),(by omega),?_⟩;simp only[];simp only[bs,reduceToNat,lX,lb (w.blk 2 rfl)];refine M.vis (0) (by decide) ?_;refine eN (by omega) ?_;refine M.vis (0) (by decide) ?_;refine⟨(by omega),(by omega),?_⟩;simp only[];simp only[bs,reduceToNat];refine M.dN ?_;simp only[yH];refine M.dN ?_;refine⟨(by omega),(by omega),?_⟩;simp only[];simp only[bs,reduceToNat];refine M.bg w 2 rfl rfl (by simp) λh4 w=>?_;simp only[bs]at w;refine M.vis (1) (by decide) ?_;refine M.bM ?_;refine eN (by omega) ?_;refine⟨(by omega),(by omega),?_⟩;simp only[];simp only[bs,reduceToNat,lX,lb (w.blk 2 rfl)];refine M.vis (1) (by decide) ?_;refine eN (by omega) ?_;refine M.vis (1) (by decide) ?_;refine⟨(by omega),(by omega),?_⟩;simp only[];simp only[bs,reduceToNat];refine M.dN ?_;simp only[yH];refine M.dN ?_;refine⟨(by omega),(by omega),?_⟩;simp only[];simp only[Nat.reduceMul,reduceToNat];refine M.bg w 2 rfl rfl (by simp) λh6 w=>?_;simp only[bs]at w;refine M.vis (2) (by decide) ?_;refine M.bM ?_;refine eN (by omega) ?_;refine⟨(by omega),(by omega),?_⟩;simp only[];simp only[bs,reduceToNat,lX,lb (w.blk 2 rfl)];refine M.vis (2) (by decide) ?_;refine eN (by omega) ?_
 refine M.vis (2) (by decide) ?_;refine⟨(by omega),(by omega),?_⟩;simp only[];simp only[bs,reduceToNat];refine M.dN ?_;simp only[yH];refine M.dN ?_;refine⟨(by omega),(by omega),?_⟩;simp only[];simp only[Nat.reduceMul,reduceToNat];refine M.bg w 2 rfl rfl (by simp) λh8 w=>?_;simp only[bs]at w;refine M.vis (3) (by decide) ?_;refine M.bM ?_;refine eN (by omega) ?_;refine⟨(by omega),(by omega),?_⟩;simp only[];simp only[bs,reduceToNat,lX,lb (w.blk 2 rfl)];refine M.vis (3) (by decide) ?_;refine eN (by omega) ?_;refine M.vis (3) (by decide) ?_;refine⟨(by omega),(by omega),?_⟩;simp only[];simp only[bs,reduceToNat];refine M.dN ?_;simp only[yH];refine M.dN ?_;refine⟨(by omega),(by omega),?_⟩;simp only[];simp only[Nat.reduceMul,reduceToNat];refine M.bg w 2 rfl rfl (by simp) λh10 w=>?_;simp only[bs]at w;refine M.vis (4) (by decide) ?_;refine M.bM ?_;refine eN (by omega) ?_;refine⟨(by omega),(by omega),?_⟩;simp only[];simp only[bs,reduceToNat,lX,lb (w.blk 2 rfl)];refine M.vis (4) (by decide) ?_;refine eN (by omega) ?_;refine M.vis (4) (by decide) ?_;refine⟨(by omega),(by omega),?_⟩;simp only[];simp only[bs,reduceToNat];refine M.dN ?_;simp only[yH];refine M.dN ?_;refine⟨(by omega),(by omega),?_⟩;simp only[];simp only[Nat.reduceMul,reduceToNat];refine M.bg w 2 rfl rfl (by simp) λh12 w=>?_;simp only[bs]at w;refine M.vis (5) (by decide) ?_;refine M.bM ?_;refine gI (by omega) ?_;refine M.vis (1) (by decide) ?_;refine M.bM ?_;refine eN (by omega) ?_;refine⟨(by omega),(by omega),?_⟩
 simp only[bs,reduceToNat,lb (w.blk 0 rfl),lb (w.blk 1 rfl)];refine M.times 6 ?_;refine M.bM ?_;refine eN (by omega) ?_;refine⟨(by omega),(by omega),?_⟩;simp only[];simp only[bs,reduceToNat,lX,lb (w.blk 2 rfl)];refine M.vis (1) (by decide) ?_;refine eN (by omega) ?_;refine M.vis (1) (by decide) ?_;refine⟨(by omega),(by omega),?_⟩;simp only[];simp only[bs,reduceToNat];refine M.dN ?_;simp only[jA];refine M.dN ?_;refine⟨(by omega),(by omega),?_⟩;simp only[];simp only[Nat.reduceMul,reduceToNat];refine M.bg w 2 rfl rfl (by simp) λh5 w=>?_;simp only[bs]at w;refine M.vis (1) (by decide) ?_;refine M.bM ?_;refine eN (by omega) ?_;refine⟨(by omega),(by omega),?_⟩;simp only[];simp only[bs,reduceToNat,lX,lb (w.blk 2 rfl)];refine M.vis (2) (by decide) ?_;refine eN (by omega) ?_;refine M.vis (2) (by decide) ?_;refine⟨(by omega),(by omega),?_⟩;simp only[];simp only[bs,reduceToNat];refine M.dN ?_;simp only[jA];refine M.dN ?_;refine⟨(by omega),(by omega),?_⟩;simp only[];simp only[Nat.reduceMul,reduceToNat];refine M.bg w 2 rfl rfl (by simp) λh9 w=>?_;simp only[bs]at w;refine M.vis (2) (by decide) ?_;refine M.bM ?_;refine eN (by omega) ?_;refine⟨(by omega),(by omega),?_⟩;simp only[];simp only[bs,reduceToNat,lX,lb (w.blk 2 rfl)];refine M.vis (3) (by decide) ?_;refine eN (by omega) ?_;refine M.vis (3) (by decide) ?_;refine⟨(by omega),(by omega),?_⟩;simp only[];simp only[bs,reduceToNat];refine M.dN ?_;simp only[jA];refine M.dN ?_;refine⟨(by omega),(by omega),?_⟩
 simp only[];simp only[Nat.reduceMul,reduceToNat];refine M.bg w 2 rfl rfl (by simp) λh13 w=>?_;simp only[bs]at w;refine M.vis (3) (by decide) ?_;refine M.bM ?_;refine eN (by omega) ?_;refine⟨(by omega),(by omega),?_⟩;simp only[];simp only[bs,reduceToNat,lX,lb (w.blk 2 rfl)];refine M.vis (4) (by decide) ?_;refine eN (by omega) ?_;refine M.vis (4) (by decide) ?_;refine⟨(by omega),(by omega),?_⟩;simp only[];simp only[bs,reduceToNat];refine M.dN ?_;simp only[jA];refine M.dN ?_;refine⟨(by omega),(by omega),?_⟩;simp only[];simp only[Nat.reduceMul,reduceToNat];refine M.bg w 2 rfl rfl (by simp) λh15 w=>?_;simp only[bs]at w;refine M.vis (4) (by decide) ?_;refine M.bM ?_;refine eN (by omega) ?_;refine⟨(by omega),(by omega),?_⟩;simp only[];simp only[bs,reduceToNat,lX,lb (w.blk 2 rfl)];refine M.vis (5) (by decide) ?_;refine gI (by omega) ?_;refine M.vis (5) (by decide) ?_;refine M.vis (0) (by decide) ?_;refine⟨(by omega),(by omega),?_⟩;simp only[];simp only[bs,reduceToNat];refine M.dN ?_;simp only[ny];refine M.dN ?_;simp only[jA];refine M.dN ?_;refine⟨(by omega),(by omega),?_⟩;simp only[];simp only[bs,reduceToNat];refine M.bg w 2 rfl rfl (by simp) λh17 w=>?_;simp only[bs]at w;refine M.vis (5) (by decide) ?_;refine M.bM ?_;refine gI (by omega) ?_;refine M.vis (2) (by decide) ?_;refine M.bM ?_;refine eN (by omega) ?_;refine⟨(by omega),(by omega),?_⟩;simp only[bs,reduceToNat,lb (w.blk 0 rfl),lb (w.blk 1 rfl)];refine M.times 6 ?_;refine M.bM ?_;refine eN (by omega) ?_
 refine⟨(by omega),(by omega),?_⟩;simp only[];simp only[bs,reduceToNat,lX,lb (w.blk 2 rfl)];refine M.vis (2) (by decide) ?_;refine eN (by omega) ?_;refine M.vis (2) (by decide) ?_;refine⟨(by omega),(by omega),?_⟩;simp only[];simp only[bs,reduceToNat];refine M.dN ?_;simp only[jA];refine M.dN ?_;refine⟨(by omega),(by omega),?_⟩;simp only[];simp only[Nat.reduceMul,reduceToNat];refine M.bg w 2 rfl rfl (by simp) λh7 w=>?_;simp only[bs]at w;refine M.vis (1) (by decide) ?_;refine M.bM ?_;refine eN (by omega) ?_;refine⟨(by omega),(by omega),?_⟩;simp only[];simp only[bs,reduceToNat,lX,lb (w.blk 2 rfl)];refine M.vis (3) (by decide) ?_;refine eN (by omega) ?_;refine M.vis (3) (by decide) ?_;refine⟨(by omega),(by omega),?_⟩;simp only[];simp only[bs,reduceToNat];refine M.dN ?_;simp only[jA];refine M.dN ?_;refine⟨(by omega),(by omega),?_⟩;simp only[];simp only[Nat.reduceMul,reduceToNat];refine M.bg w 2 rfl rfl (by simp) λh14 w=>?_;simp only[bs]at w;refine M.vis (2) (by decide) ?_;refine M.bM ?_;refine eN (by omega) ?_;refine⟨(by omega),(by omega),?_⟩;simp only[];simp only[bs,reduceToNat,lX,lb (w.blk 2 rfl)];refine M.vis (4) (by decide) ?_;refine eN (by omega) ?_;refine M.vis (4) (by decide) ?_;refine⟨(by omega),(by omega),?_⟩;simp only[];simp only[bs,reduceToNat];refine M.dN ?_;simp only[jA];refine M.dN ?_;refine⟨(by omega),(by omega),?_⟩;simp only[];simp only[Nat.reduceMul,reduceToNat];refine M.bg w 2 rfl rfl (by simp) λh18 w=>?_;simp only[bs]at w;refine M.vis (3) (by decide) ?_
 refine M.bM ?_;refine eN (by omega) ?_;refine⟨(by omega),(by omega),?_⟩;simp only[];simp only[bs,reduceToNat,lX,lb (w.blk 2 rfl)];refine M.vis (5) (by decide) ?_;refine gI (by omega) ?_;refine M.vis (5) (by decide) ?_;refine M.vis (0) (by decide) ?_;refine⟨(by omega),(by omega),?_⟩;simp only[];simp only[bs,reduceToNat];refine M.dN ?_;simp only[ny];refine M.dN ?_;simp only[jA];refine M.dN ?_;refine⟨(by omega),(by omega),?_⟩;simp only[];simp only[bs,reduceToNat];refine M.bg w 2 rfl rfl (by simp) λh20 w=>?_;simp only[bs]at w;refine M.vis (4) (by decide) ?_;refine M.bM ?_;refine eN (by omega) ?_;refine⟨(by omega),(by omega),?_⟩;simp only[];simp only[bs,reduceToNat,lX,lb (w.blk 2 rfl)];refine M.vis (6) (by decide) ?_;refine gI (by omega) ?_;refine M.vis (6) (by decide) ?_;refine M.vis (1) (by decide) ?_;refine⟨(by omega),(by omega),?_⟩;simp only[];simp only[bs,reduceToNat];refine M.dN ?_;simp only[ny];refine M.dN ?_;simp only[jA];refine M.dN ?_;refine⟨(by omega),(by omega),?_⟩;simp only[];simp only[Nat.reduceMul,reduceToNat];refine M.bg w 2 rfl rfl (by simp) λh22 w=>?_;simp only[bs]at w;refine M.vis (5) (by decide) ?_;refine M.bM ?_;refine gI (by omega) ?_;refine M.vis (3) (by decide) ?_;refine M.bM ?_;refine eN (by omega) ?_;refine⟨(by omega),(by omega),?_⟩;simp only[bs,reduceToNat,lb (w.blk 0 rfl),lb (w.blk 1 rfl)];refine M.times 6 ?_;refine M.bM ?_;refine eN (by omega) ?_;refine⟨(by omega),(by omega),?_⟩;simp only[];simp only[bs,reduceToNat,lX,lb (w.blk 2 rfl)]
 refine M.vis (3) (by decide) ?_;refine eN (by omega) ?_;refine M.vis (3) (by decide) ?_;refine⟨(by omega),(by omega),?_⟩;simp only[];simp only[bs,reduceToNat];refine M.dN ?_;simp only[jA];refine M.dN ?_;refine⟨(by omega),(by omega),?_⟩;simp only[];simp only[Nat.reduceMul,reduceToNat];refine M.bg w 2 rfl rfl (by simp) λh11 w=>?_;simp only[bs]at w;refine M.vis (1) (by decide) ?_;refine M.bM ?_;refine eN (by omega) ?_;refine⟨(by omega),(by omega),?_⟩;simp only[];simp only[bs,reduceToNat,lX,lb (w.blk 2 rfl)];refine M.vis (4) (by decide) ?_;refine eN (by omega) ?_;refine M.vis (4) (by decide) ?_;refine⟨(by omega),(by omega),?_⟩;simp only[];simp only[bs,reduceToNat];refine M.dN ?_;simp only[jA];refine M.dN ?_;refine⟨(by omega),(by omega),?_⟩;simp only[];simp only[Nat.reduceMul,reduceToNat];refine M.bg w 2 rfl rfl (by simp) λh19 w=>?_;simp only[bs]at w;refine M.vis (2) (by decide) ?_;refine M.bM ?_;refine eN (by omega) ?_;refine⟨(by omega),(by omega),?_⟩;simp only[];simp only[bs,reduceToNat,lX,lb (w.blk 2 rfl)];refine M.vis (5) (by decide) ?_;refine gI (by omega) ?_;refine M.vis (5) (by decide) ?_;refine M.vis (0) (by decide) ?_;refine⟨(by omega),(by omega),?_⟩;simp only[];simp only[bs,reduceToNat];refine M.dN ?_;simp only[ny];refine M.dN ?_;simp only[jA];refine M.dN ?_;refine⟨(by omega),(by omega),?_⟩;simp only[];simp only[bs,reduceToNat];refine M.bg w 2 rfl rfl (by simp) λh23 w=>?_;simp only[bs]at w;refine M.vis (3) (by decide) ?_;refine M.bM ?_;refine eN (by omega) ?_
 refine⟨(by omega),(by omega),?_⟩;simp only[];simp only[bs,reduceToNat,lX,lb (w.blk 2 rfl)];refine M.vis (6) (by decide) ?_;refine gI (by omega) ?_;refine M.vis (6) (by decide) ?_;refine M.vis (1) (by decide) ?_;refine⟨(by omega),(by omega),?_⟩;simp only[];simp only[bs,reduceToNat];refine M.dN ?_;simp only[ny];refine M.dN ?_;simp only[jA];refine M.dN ?_;refine⟨(by omega),(by omega),?_⟩;simp only[];simp only[Nat.reduceMul,reduceToNat];refine M.bg w 2 rfl rfl (by simp) λh25 w=>?_;simp only[bs]at w;refine M.vis (4) (by decide) ?_;refine M.bM ?_;refine eN (by omega) ?_;refine⟨(by omega),(by omega),?_⟩;simp only[];simp only[bs,reduceToNat,lX,lb (w.blk 2 rfl)];refine M.vis (7) (by decide) ?_;refine gI (by omega) ?_;refine M.vis (7) (by decide) ?_;refine M.vis (2) (by decide) ?_;refine⟨(by omega),(by omega),?_⟩;simp only[];simp only[bs,reduceToNat];refine M.dN ?_;simp only[ny];refine M.dN ?_;simp only[jA];refine M.dN ?_;refine⟨(by omega),(by omega),?_⟩;simp only[];simp only[Nat.reduceMul,reduceToNat];refine M.bg w 2 rfl rfl (by simp) λh27 w=>?_;simp only[bs]at w;refine M.vis (5) (by decide) ?_;refine M.bM ?_;refine gI (by omega) ?_;refine M.vis (4) (by decide) ?_;refine M.bM ?_;refine eN (by omega) ?_;refine⟨(by omega),(by omega),?_⟩;simp only[bs,reduceToNat,lb (w.blk 0 rfl),lb (w.blk 1 rfl)];refine M.times 6 ?_;refine M.bM ?_;refine eN (by omega) ?_;refine⟨(by omega),(by omega),?_⟩;simp only[];simp only[bs,reduceToNat,lX,lb (w.blk 2 rfl)];refine M.vis (4) (by decide) ?_
 refine eN (by omega) ?_;refine M.vis (4) (by decide) ?_;refine⟨(by omega),(by omega),?_⟩;simp only[];simp only[bs,reduceToNat];refine M.dN ?_;simp only[jA];refine M.dN ?_;refine⟨(by omega),(by omega),?_⟩;simp only[];simp only[Nat.reduceMul,reduceToNat];refine M.bg w 2 rfl rfl (by simp) λh16 w=>?_;simp only[bs]at w;refine M.vis (1) (by decide) ?_;refine M.bM ?_;refine eN (by omega) ?_;refine⟨(by omega),(by omega),?_⟩;simp only[];simp only[bs,reduceToNat,lX,lb (w.blk 2 rfl)];refine M.vis (5) (by decide) ?_;refine gI (by omega) ?_;refine M.vis (5) (by decide) ?_;refine M.vis (0) (by decide) ?_;refine⟨(by omega),(by omega),?_⟩;simp only[];simp only[bs,reduceToNat];refine M.dN ?_;simp only[ny];refine M.dN ?_;simp only[jA];refine M.dN ?_;refine⟨(by omega),(by omega),?_⟩;simp only[];simp only[bs,reduceToNat];refine M.bg w 2 rfl rfl (by simp) λh24 w=>?_;simp only[bs]at w;refine M.vis (2) (by decide) ?_;refine M.bM ?_;refine eN (by omega) ?_;refine⟨(by omega),(by omega),?_⟩;simp only[];simp only[bs,reduceToNat,lX,lb (w.blk 2 rfl)];refine M.vis (6) (by decide) ?_;refine gI (by omega) ?_;refine M.vis (6) (by decide) ?_;refine M.vis (1) (by decide) ?_;refine⟨(by omega),(by omega),?_⟩;simp only[];simp only[bs,reduceToNat];refine M.dN ?_;simp only[ny];refine M.dN ?_;simp only[jA];refine M.dN ?_;refine⟨(by omega),(by omega),?_⟩;simp only[];simp only[Nat.reduceMul,reduceToNat];refine M.bg w 2 rfl rfl (by simp) λh28 w=>?_;simp only[bs]at w;refine M.vis (3) (by decide) ?_
 refine M.bM ?_;refine eN (by omega) ?_;refine⟨(by omega),(by omega),?_⟩;simp only[];simp only[bs,reduceToNat,lX,lb (w.blk 2 rfl)];refine M.vis (7) (by decide) ?_;refine gI (by omega) ?_;refine M.vis (7) (by decide) ?_;refine M.vis (2) (by decide) ?_;refine⟨(by omega),(by omega),?_⟩;simp only[];simp only[bs,reduceToNat];refine M.dN ?_;simp only[ny];refine M.dN ?_;simp only[jA];refine M.dN ?_;refine⟨(by omega),(by omega),?_⟩;simp only[];simp only[Nat.reduceMul,reduceToNat];refine M.bg w 2 rfl rfl (by simp) λh30 w=>?_;simp only[bs]at w;refine M.vis (4) (by decide) ?_;refine M.bM ?_;refine eN (by omega) ?_;refine⟨(by omega),(by omega),?_⟩;simp only[];simp only[bs,reduceToNat,lX,lb (w.blk 2 rfl)];refine M.vis (8) (by decide) ?_;refine gI (by omega) ?_;refine M.vis (8) (by decide) ?_;refine M.vis (3) (by decide) ?_;refine⟨(by omega),(by omega),?_⟩;simp only[];simp only[bs,reduceToNat];refine M.dN ?_;simp only[ny];refine M.dN ?_;simp only[jA];refine M.dN ?_;refine⟨(by omega),(by omega),?_⟩;simp only[];simp only[Nat.reduceMul,reduceToNat];refine M.bg w 2 rfl rfl (by simp) λh32 w=>?_;simp only[bs]at w;refine M.vis (5) (by decide) ?_;refine M.bM ?_;refine gI (by omega) ?_;refine M.vis (5) (by decide) ?_;refine M.bM ?_;refine gI (by omega) ?_;have w:Wd h0 _ [.blk b x.o,_,.blk b4 (x.mul r).o]:=w;obtain⟨hx,k0,k1,wx,wr,back⟩:=w.on (i:=2) rfl;refine vO wx λh9 w1=>?_;have w:=back _ _ w1;generalize (x.mul r).carry=y at *;unfold L5.o at w;simp only[bs,lb (w.blk 2 rfl)]
 refine⟨(rfl),?_⟩;refine M.bz w 0 rfl (by simp[ag]) (by simp) λh2 w=>?_;simp only[bs]at w;exact k _ ((w.drop (i:=1) rfl).drop (i:=1) rfl)
end
namespace L5
theorem Qf{x:L5}(h:x.Lt 4611686018427387904):x.carry.carry.Lt 67108864:=by
 obtain⟨k,ka,kc,kd,ke,kb⟩:=Bz h;generalize x.carry=y at *;have ha:y.carry.a<67108864:=Nat.mod_lt _ (by decide);have hc:y.carry.c<67108864:=Nat.mod_lt _ (by decide);have hd:y.carry.d<67108864:=Nat.mod_lt _ (by decide);have he:y.carry.e<67108864:=Nat.mod_lt _ (by decide);refine⟨ha,?_,hc,hd,he⟩;obtain⟨m1,e1,l1,s1⟩:=Ey y.a (by omega);have r1:y.c1=sh y.a:=rfl;have r2:y.c2=sh (y.b+y.c1):=rfl;have r3:y.c3=sh (y.c+y.c2):=rfl;have r4:y.c4=sh (y.d+y.c3):=rfl;have r5:y.c5=sh (y.e+y.c4):=rfl;rw[←r1]at s1;obtain⟨m2,e2,l2,s2⟩:=Ey (y.b+y.c1) (by omega);rw[←r2]at s2;obtain⟨m3,e3,l3,s3⟩:=Ey (y.c+y.c2) (by omega);rw[←r3]at s3;obtain⟨m4,e4,l4,s4⟩:=Ey (y.d+y.c3) (by omega);rw[←r4]at s4;obtain⟨m5,e5,l5,s5⟩:=Ey (y.e+y.c4) (by omega);rw[←r5]at s5;obtain⟨m6,e6,l6,s6⟩:=Ey (m1+y.c5*5) (by omega);simp only[carry,e1,e2];clear r1 r2 r3 r4 r5 e1 e2 e3 e4 e5 e6;generalize y.c1=c1 at *;generalize y.c2=c2 at *;generalize y.c3=c3 at *;generalize y.c4=c4 at *;generalize y.c5=c5 at *;generalize sh (m1+c5*5)=c6 at *;omega
theorem On{x:L5}(h:x.Lt 4611686018427387904):x.carry.carry.val%P=x.val%P:=by
 have h1:=x8 h;have h2:=x8 ((Bz h).1.mono (by decide:134217728≤4611686018427387904));rw[←h1,←h2,Nat.add_mul_mod_self_right,Nat.add_mul_mod_self_right]
def tq(z:L5):L5:=
 ⟨(z.a+5)%67108864,(z.b+sh (z.a+5))%67108864,(z.c+sh (z.b+sh (z.a+5)))%67108864,(z.d+sh (z.c+sh (z.b+sh (z.a+5))))%67108864,z.e+sh (z.d+sh (z.c+sh (z.b+sh (z.a+5))))⟩
def cut(z:L5):L5:={ z with e:=z.e%67108864 }
theorem AL{z:L5}(h:z.Lt 67108864):z.tq.val=z.val+5∧z.tq.e<134217728∧z.tq.cut.Lt 67108864:=by
 obtain⟨h1,h2,h3,h4,h5⟩:=h;obtain⟨m1,e1,l1,s1⟩:=Ey (z.a+5) (by omega);obtain⟨m2,e2,l2,s2⟩:=Ey (z.b+sh (z.a+5)) (by omega);obtain⟨m3,e3,l3,s3⟩:=Ey (z.c+sh (z.b+sh (z.a+5))) (by omega);obtain⟨m4,e4,l4,s4⟩:=Ey (z.d+sh (z.c+sh (z.b+sh (z.a+5)))) (by omega);refine⟨?_,?_,⟨Nat.mod_lt _ (by decide),Nat.mod_lt _ (by decide),Nat.mod_lt _ (by decide),Nat.mod_lt _ (by decide),Nat.mod_lt _ (by decide)⟩⟩
 ·simp only[tq,val,e1,e2,e3,e4];omega
 ·simp only[tq];omega
theorem M1{z:L5}(h:z.Lt 67108864)(hs:sh z.tq.e≠0):z.tq.cut.val=z.val%P:=by
 obtain⟨f1,f2,_⟩:=AL h;obtain⟨m,e,l,s⟩:=Ey z.tq.e (by omega);have hv:z.tq.cut.val+1361129467683753853853498429727072845824=z.val+5:=by
  rw[←f1];simp only[cut,val,e];omega
 have hz:z.val<1361129467683753853853498429727072845824:=by
  obtain⟨h1,h2,h3,h4,h5⟩:=h;simp only[val];omega
 have:z.val=z.tq.cut.val+P:=by simp only[P];omega
 rw[this,Nat.add_mod_right,Nat.mod_eq_of_lt (by simp only[P]at *;omega)]
theorem Mc{z:L5}(h:z.Lt 67108864)(hs:sh z.tq.e=0):z.val=z.val%P:=by
 obtain⟨f1,f2,f3⟩:=AL h;obtain⟨m,e,l,s⟩:=Ey z.tq.e (by omega);have hb:z.tq.val<1361129467683753853853498429727072845824:=by
  have a1:=f3.a;have a2:=f3.b;have a3:=f3.c;have a4:=f3.d;simp only[cut]at a1 a2 a3 a4;simp only[val];omega
 rw[Nat.mod_eq_of_lt (by simp only[P];omega)]
end L5
section
variable {h0 h:H}{b:Nat}{x:L5}{Q:H->Prop}
theorem Hl(w:Wd h0 h [.blk b x.o])(hx:x.Lt 4611686018427387904)(k:∀h' (y:L5),y.Lt 67108864->y.val=x.val%L5.P->Wd h0 h' [.blk b y.o]->Q h'):cX (some ⟨b,0,none⟩) h Q:=by
 unfold cX;refine vO w λh1 w=>vO w λh2 w=>?_;have hz:=L5.Qf hx;have hv:=L5.On hx;generalize x.carry.carry=z at *;unfold L5.o at w;simp only[bs,lb (w.blk 0 rfl)];refine M.aK w λb4 h3 w=>?_;refine⟨(rfl),?_⟩;refine M.bz w 1 rfl (by simp[ag]) (by simp) λh5 w=>?_;simp only[bs]at w;refine⟨(by omega),(by omega),?_⟩;simp only[bs,reduceToNat,Qk,lb (w.blk 1 rfl)];refine M.dN ?_;refine⟨(by omega),(by omega),?_⟩;simp only[];simp only[bs,reduceToNat];refine M.bg w 1 rfl rfl (by simp) λh7 w=>?_;simp only[bs]at w;refine M.jn (M.times 5 ?_);refine M.bM ?_;refine eN (by omega) ?_;refine M.vis (1) (by decide) ?_;refine⟨(by omega),(by omega),?_⟩;simp only[bs,reduceToNat,lb (w.blk 1 rfl)];refine⟨(by omega),(by omega),?_⟩;simp only[];simp only[bs,reduceToNat,tC];refine⟨(by omega),?_⟩;refine M.dN ?_;simp only[jA];refine M.dN ?_;refine⟨(by omega),(by omega),?_⟩;simp only[];simp only[Nat.reduceMul,reduceToNat];refine M.bg w 1 rfl rfl (by simp) λh6 w=>?_;simp only[bs]at w;refine⟨(by omega),(by omega),?_⟩;simp only[bs,reduceToNat,qi,lb (w.blk 1 rfl)];refine M.dN ?_;refine⟨(by omega),(by omega),?_⟩;simp only[];simp only[bs,reduceToNat];refine M.bg w 1 rfl rfl (by simp) λh9 w=>?_;simp only[bs]at w;refine M.vis (1) (by decide) ?_;refine M.bM ?_;refine eN (by omega) ?_;refine M.vis (2) (by decide) ?_;refine⟨(by omega),(by omega),?_⟩;simp only[bs,reduceToNat,lb (w.blk 1 rfl)];refine⟨(by omega),(by omega),?_⟩;simp only[];simp only[bs,reduceToNat,tC];refine⟨(by omega),?_⟩;refine M.dN ?_
 simp only[jA];refine M.dN ?_;refine⟨(by omega),(by omega),?_⟩;simp only[];simp only[Nat.reduceMul,reduceToNat];refine M.bg w 1 rfl rfl (by simp) λh11 w=>?_;simp only[bs]at w;refine⟨(by omega),(by omega),?_⟩;simp only[bs,reduceToNat,qi,lb (w.blk 1 rfl)];refine M.dN ?_;refine⟨(by omega),(by omega),?_⟩;simp only[];simp only[Nat.reduceMul,reduceToNat];refine M.bg w 1 rfl rfl (by simp) λh13 w=>?_;simp only[bs]at w;refine M.vis (2) (by decide) ?_;refine M.bM ?_;refine eN (by omega) ?_;refine M.vis (3) (by decide) ?_;refine⟨(by omega),(by omega),?_⟩;simp only[bs,reduceToNat,lb (w.blk 1 rfl)];refine⟨(by omega),(by omega),?_⟩;simp only[];simp only[bs,reduceToNat,tC];refine⟨(by omega),?_⟩;refine M.dN ?_;simp only[jA];refine M.dN ?_;refine⟨(by omega),(by omega),?_⟩;simp only[];simp only[Nat.reduceMul,reduceToNat];refine M.bg w 1 rfl rfl (by simp) λh15 w=>?_;simp only[bs]at w;refine⟨(by omega),(by omega),?_⟩;simp only[bs,reduceToNat,qi,lb (w.blk 1 rfl)];refine M.dN ?_;refine⟨(by omega),(by omega),?_⟩;simp only[];simp only[Nat.reduceMul,reduceToNat];refine M.bg w 1 rfl rfl (by simp) λh17 w=>?_;simp only[bs]at w;refine M.vis (3) (by decide) ?_;refine M.bM ?_;refine eN (by omega) ?_;refine M.vis (4) (by decide) ?_;refine⟨(by omega),(by omega),?_⟩;simp only[bs,reduceToNat,lb (w.blk 1 rfl)];refine⟨(by omega),(by omega),?_⟩;simp only[];simp only[bs,reduceToNat,tC];refine⟨(by omega),?_⟩;refine M.dN ?_;simp only[jA];refine M.dN ?_;refine⟨(by omega),(by omega),?_⟩
 simp only[];simp only[Nat.reduceMul,reduceToNat];refine M.bg w 1 rfl rfl (by simp) λh19 w=>?_;simp only[bs]at w;refine⟨(by omega),(by omega),?_⟩;simp only[bs,reduceToNat,qi,lb (w.blk 1 rfl)];refine M.dN ?_;refine⟨(by omega),(by omega),?_⟩;simp only[];simp only[Nat.reduceMul,reduceToNat];refine M.bg w 1 rfl rfl (by simp) λh21 w=>?_;simp only[bs]at w;refine M.vis (4) (by decide) ?_;refine M.bM ?_;refine gI (by omega) ?_;refine⟨(by omega),(by omega),?_⟩;simp only[bs,reduceToNat,tC,lb (w.blk 1 rfl)];refine⟨(by omega),?_⟩;refine M.dN ?_;by_cases hs:L5.sh z.tq.e=0
 ·refine cf (show(kH (L5.sh z.tq.e) != 0)=false by rw[hs];rfl) ?_;exact k _ z hz (by rw[←hv];exact L5.Mc hz hs) (w.drop (i:=1) rfl)
 ·refine ct (show(kH (L5.sh z.tq.e) != 0)=true by
   have:L5.sh z.tq.e<18446744073709551616:=by unfold L5.sh;omega
   rw[A9 this,bne_iff_ne];omega) ?_
  refine⟨(by omega),(by omega),?_⟩;simp only[];simp only[bs,reduceToNat,qi];refine M.dN ?_;refine⟨(by omega),(by omega),?_⟩;simp only[];simp only[Nat.reduceMul,reduceToNat];refine M.bg w 1 rfl rfl (by simp) λh8 w=>?_;simp only[bs]at w;simp only[bs,lb (w.blk 1 rfl)];refine⟨(rfl),?_⟩;refine M.bz w 0 rfl (by simp[ag]) (by simp) λh10 w=>?_;simp only[bs]at w;exact k _ z.tq.cut (L5.AL hz).2.2 (by rw[←hv];exact L5.M1 hz hs) (w.drop (i:=1) rfl)
end
def BV(s:ByteArray):Nat->Nat
 | 0=>0
 | n+1=>BV s n+(aF s n).toNat * 256^n
def RB(n:Nat):ByteArray:=yp 16 λi=>((n/256^i%256:Nat):Int)
theorem xP(s:ByteArray)(i:Nat):(kr false s i).toNat=(aF s (4*i)).toNat+(aF s (4*i+1)).toNat * 256+(aF s (4*i+2)).toNat * 65536+(aF s (4*i+3)).toNat * 16777216:=by
 have h0:=dZ s (4*i);have h1:=dZ s (4*i+1);have h2:=dZ s (4*i+2);have h3:=dZ s (4*i+3);unfold kr AP;rw[cond_false,BitVec.toNat_ofInt];omega
theorem uG(s:ByteArray)(i:Nat)(h:i<s.size/4):jV (bP false s) i=kr false s i:=by
 rw[rX _ _ (by rw[ju];exact h)];simp[bP]
theorem O5(s:ByteArray)(h:s.size=16):BV s 16=(jV (bP false s) 0).toNat+(jV (bP false s) 1).toNat * 4294967296+(jV (bP false s) 2).toNat * 18446744073709551616+(jV (bP false s) 3).toNat * 79228162514264337593543950336:=by
 rw[uG _ _ (by omega),uG _ _ (by omega),uG _ _ (by omega),uG _ _ (by omega),xP,xP,xP,xP];simp only[BV,Nat.reduceMul,Nat.reduceAdd,Nat.reducePow];omega
theorem qU(x:U):wrap .u64 (ui x)=kH x.toNat:=by
 have:=x.isLt;rw[IntKind.wrap_u64,ui,kH];omega
theorem oU(n:Nat):wrap .u32 (kH n)=ui (BitVec.ofNat 32 n):=by
 rw[IntKind.wrap_u32,ui,kH,BitVec.toNat_ofNat];omega
theorem wT(n k:Nat)(hk:k≤64):shr .u64 (kH n) (k:Int)=kH (n%18446744073709551616/2^k):=by
 have h:shr .u64 (kH n) (k:Int)=_:=xB .u64 (n%18446744073709551616) k hk;refine h.trans ?_;have:=Nat.div_le_self (n%18446744073709551616) (2^k);rw[A9 (by omega)]
theorem uy(n k:Nat)(hk:k≤64):shl .u64 (kH n) (k:Int)=kH (n*2^k):=by
 rw[shl,Int.toNat_natCast,show IntKind.bits .u64=64 from rfl,Nat.min_eq_left hk,kH,kH];have e:(((n%18446744073709551616:Nat):Int)*2^k)=((n%18446744073709551616*2^k:Nat):Int):=by
  rw[Int.natCast_mul,Int.natCast_pow];rfl
 rw[e,IntKind.wrap_u64];have:=Nat.mod_mul_mod n (2^k) 18446744073709551616;omega
theorem GF{a c:Nat}(k:Nat)(ha:a<2^k)(h1:a<18446744073709551616)(h2:c*2^k<18446744073709551616):ye .u64 (kH a) (kH (c*2^k))=kH (a+c*2^k):=by
 rw[A9 h1,A9 h2];have e:∀n:Nat,n<18446744073709551616->(BitVec.ofInt 64 (n:Int)).toNat=n:=λn h=>by rw[BitVec.ofInt_natCast,BitVec.toNat_ofNat,Nat.mod_eq_of_lt h]
 have h3:(BitVec.ofInt 64 (a:Int) ||| BitVec.ofInt 64 ((c*2^k:Nat):Int)).toNat=a+c*2^k:=by
  rw[BitVec.toNat_or,e a h1,e _ h2,Nat.or_comm,Nat.mul_comm c,←Nat.two_pow_add_eq_or_of_lt ha];omega
 show wrap .u64 ((BitVec.ofInt 64 (a:Int) ||| BitVec.ofInt 64 ((c*2^k:Nat):Int)).toNat:Int)=_;rw[h3,IntKind.wrap_u64,kH];omega
section
variable {h:H}{s:ByteArray}
theorem DC{ab:Nat}{Q:Int->Int->Int->Int->Int->H->Prop}(hs:s.size=16)(hab:ab≤1)(k:∀h' (y:L5),y.Lt 67108864->y.val=BV s 16+ab*340282366920938463463374607431768211456->bq h h'->Q (kH y.a) (kH y.b) (kH y.c) (kH y.d) (kH y.e) h'):jU s (kH ab) h Q:=by
 unfold jU;refine M.aK (Wd.start h) λb1 h1 w=>?_;refine qN (by omega) (by omega) λa2 c2 h2 w'=>?_;have w:=w.join w';clear w';rw[hs]at w ⊢;have hN:=O5 s hs;have hl:(bP false s).length=4:=by rw[ju,hs]
 have h4:bP false s=[jV (bP false s) 0,jV (bP false s) 1,jV (bP false s) 2,jV (bP false s) 3]:=by
  generalize bP false s=l at hl
  match l,hl with
  | [a,b,c,d],_=>rfl
 rw[h4]at w;generalize jV (bP false s) 0=x0 at *;generalize jV (bP false s) 1=x1 at *;generalize jV (bP false s) 2=x2 at *;generalize jV (bP false s) 3=x3 at *;clear h4;simp only[Nat.reduceDiv]at w ⊢;refine M.aK w λb4 h3 w=>?_;refine M.jn (M.times 5 ?_);have g0:[x0,x1,x2,x3].getD (Int.toNat 0) 0=x0:=rfl;have g1:[x0,x1,x2,x3].getD (Int.toNat 1) 0=x1:=rfl;have g2:[x0,x1,x2,x3].getD (Int.toNat 2) 0=x2:=rfl;have g3:[x0,x1,x2,x3].getD (Int.toNat 3) 0=x3:=rfl;have l0:=x0.isLt;have l1:=x1.isLt;have l2:=x2.isLt;have l3:=x3.isLt;have s26:=λn=>wT n 26 (by decide);have s20:=λn=>wT n 20 (by decide);have s14:=λn=>wT n 14 (by decide);have s8:=λn=>wT n 8 (by decide);have t6:=λn=>uy n 6 (by decide);have t12:=λn=>uy n 12 (by decide);have t18:=λn=>uy n 18 (by decide);have t24:=λn=>uy n 24 (by decide);have o1:=GF (a:=x0.toNat%18446744073709551616/2^26) (c:=x1.toNat) 6 (by omega) (by omega) (by omega);have o2:=GF (a:=x1.toNat%18446744073709551616/2^20) (c:=x2.toNat) 12 (by omega) (by omega) (by omega);have o3:=GF (a:=x2.toNat%18446744073709551616/2^14) (c:=x3.toNat) 18 (by omega) (by omega) (by omega);have o4:=GF (a:=x3.toNat%18446744073709551616/2^8) (c:=ab) 24 (by omega) (by omega) (by omega);simp only[Int.reduceNatCast,Int.cast_ofNat_Int]at s26 s20 s14 s8 t6 t12 t18 t24;refine M.bM ?_;simp only[t24];refine eN (by omega) ?_;refine Ro.OX (w.Pg 1 rfl) (by omega) (by omega) ?_;simp only[g0,qU];refine M.dN ?_;refine⟨(by omega),(by omega),?_⟩;simp only[];simp only[bs,reduceToNat];refine M.bg w 2 rfl rfl (by simp) λh6 w=>?_
 simp only[bs]at w;refine M.vis (1) (by decide) ?_;refine M.bM ?_;refine eN (by omega) ?_;refine Ro.OX (w.Pg 1 rfl) (by omega) (by omega) ?_;simp only[g1,qU];refine M.dN ?_;refine⟨(by omega),(by omega),?_⟩;simp only[];simp only[Nat.reduceMul,reduceToNat];refine M.bg w 2 rfl rfl (by simp) λh11 w=>?_;simp only[bs]at w;refine M.vis (2) (by decide) ?_;refine M.bM ?_;refine eN (by omega) ?_;refine Ro.OX (w.Pg 1 rfl) (by omega) (by omega) ?_;simp only[g2,qU];refine M.dN ?_;refine⟨(by omega),(by omega),?_⟩;simp only[];simp only[Nat.reduceMul,reduceToNat];refine M.bg w 2 rfl rfl (by simp) λh16 w=>?_;simp only[bs]at w;refine M.vis (3) (by decide) ?_;refine M.bM ?_;refine eN (by omega) ?_;refine Ro.OX (w.Pg 1 rfl) (by omega) (by omega) ?_;simp only[g3,qU];refine M.dN ?_;refine⟨(by omega),(by omega),?_⟩;simp only[];simp only[Nat.reduceMul,reduceToNat];refine M.bg w 2 rfl rfl (by simp) λh21 w=>?_;simp only[bs]at w;refine M.vis (4) (by decide) ?_;refine M.bM ?_;refine gI (by omega) ?_;refine⟨(by omega),(by omega),?_⟩;simp only[bs,reduceToNat,qi,lb (w.blk 2 rfl)];refine M.dN ?_;refine⟨(by omega),(by omega),?_⟩;simp only[];simp only[bs,reduceToNat,s26];refine⟨(by omega),?_⟩;refine M.dN ?_;refine⟨(by omega),(by omega),?_⟩;simp only[];simp only[bs,reduceToNat,t6];refine⟨(by omega),?_⟩;refine M.dN ?_;simp only[o1];refine M.dN ?_;simp only[qi];refine M.dN ?_;refine⟨(by omega),(by omega),?_⟩;simp only[];simp only[bs,reduceToNat,s20];refine⟨(by omega),?_⟩;refine M.dN ?_
 refine⟨(by omega),(by omega),?_⟩;simp only[];simp only[bs,reduceToNat,t12];refine⟨(by omega),?_⟩;refine M.dN ?_;simp only[o2];refine M.dN ?_;simp only[qi];refine M.dN ?_;refine⟨(by omega),(by omega),?_⟩;simp only[];simp only[bs,reduceToNat,s14];refine⟨(by omega),?_⟩;refine M.dN ?_;refine⟨(by omega),(by omega),?_⟩;simp only[];simp only[bs,reduceToNat,t18];refine⟨(by omega),?_⟩;refine M.dN ?_;simp only[o3];refine M.dN ?_;simp only[qi];refine M.dN ?_;refine⟨(by omega),(by omega),?_⟩;simp only[];simp only[bs,reduceToNat,s8];refine⟨(by omega),?_⟩;refine M.dN ?_;refine⟨(by omega),?_⟩;refine M.dN ?_;simp only[o4];refine M.dN ?_;refine⟨(rfl),?_⟩;refine M.bz w 0 rfl (by simp[ag]) (by simp) λh22 w=>?_;simp only[bs]at w;simp only[bs,lb (w.blk 0 rfl)];refine k _ ⟨x0.toNat%67108864,(x0.toNat%18446744073709551616/2^26+x1.toNat * 2^6)%67108864,(x1.toNat%18446744073709551616/2^20+x2.toNat * 2^12)%67108864,(x2.toNat%18446744073709551616/2^14+x3.toNat * 2^18)%67108864,x3.toNat%18446744073709551616/2^8+ab*2^24⟩ ⟨by simp only;omega,by simp only;omega,by simp only;omega,by simp only;omega,by simp only;omega⟩ ?_ w.keep;rw[hN];simp only[L5.val];omega
theorem Se(n:Nat):RB n=lf false [BitVec.ofNat 32 n,BitVec.ofNat 32 (n/4294967296),BitVec.ofNat 32 (n/18446744073709551616),BitVec.ofNat 32 (n/79228162514264337593543950336)]:=by
 unfold RB yp lf;congr 1;simp only[Dw,List.flatMap_cons,List.flatMap_nil,wz,cond_false,vF,BitVec.toNat_ofNat,List.range,List.range.loop,List.map_cons,List.map_nil,List.cons_append,List.nil_append,List.append_nil,Nat.reducePow];simp only[List.cons.injEq,and_true];refine⟨by omega,by omega,by omega,by omega,by omega,by omega,by omega,by omega,by omega,by omega,by omega,by omega,by omega,by omega,by omega,by omega⟩
theorem Ld{x:L5}{Q:ByteArray->H->Prop}(hs:s.size=16)(hx:x.Lt 67108864)(k:∀h',bq h h'->Q (RB (x.val+BV s 16)) h'):dG (kH x.a) (kH x.b) (kH x.c) (kH x.d) (kH x.e) s h Q:=by
 unfold dG;obtain⟨h1,h2,h3,h4,h5⟩:=hx;refine M.aK (Wd.start h) λb1 h1 w=>?_;refine qN (by omega) (by omega) λa2 c2 h2 w'=>?_;have w:=w.join w';clear w';rw[hs]at w ⊢;have hN:=O5 s hs;have hl:(bP false s).length=4:=by rw[ju,hs]
 have hl4:bP false s=[jV (bP false s) 0,jV (bP false s) 1,jV (bP false s) 2,jV (bP false s) 3]:=by
  generalize bP false s=l at hl
  match l,hl with
  | [a,b,c,d],_=>rfl
 rw[hl4]at w;generalize jV (bP false s) 0=x0 at *;generalize jV (bP false s) 1=x1 at *;generalize jV (bP false s) 2=x2 at *;generalize jV (bP false s) 3=x3 at *;clear hl4;simp only[Nat.reduceDiv]at w ⊢;have g0:[x0,x1,x2,x3].getD (Int.toNat 0) 0=x0:=rfl;have g1:[x0,x1,x2,x3].getD (Int.toNat 1) 0=x1:=rfl;have g2:[x0,x1,x2,x3].getD (Int.toNat 2) 0=x2:=rfl;have g3:[x0,x1,x2,x3].getD (Int.toNat 3) 0=x3:=rfl;have l0:=x0.isLt;have l1:=x1.isLt;have l2:=x2.isLt;have l3:=x3.isLt;have t26:=λn=>uy n 26 (by decide);have t20:=λn=>uy n 20 (by decide);have t14:=λn=>uy n 14 (by decide);have t8:=λn=>uy n 8 (by decide);have s6:=λn=>wT n 6 (by decide);have s12:=λn=>wT n 12 (by decide);have s18:=λn=>wT n 18 (by decide);have o1:=GF (a:=x.a) (c:=x.b) 26 (by omega) (by omega) (by omega);have o2:=GF (a:=x.b%18446744073709551616/2^6) (c:=x.c) 20 (by omega) (by omega) (by omega);have o3:=GF (a:=x.c%18446744073709551616/2^12) (c:=x.d) 14 (by omega) (by omega) (by omega);have o4:=GF (a:=x.d%18446744073709551616/2^18) (c:=x.e) 8 (by omega) (by omega) (by omega);simp only[Int.reduceNatCast,Int.cast_ofNat_Int]at t26 t20 t14 t8 s6 s12 s18;refine⟨(by omega),(by omega),?_⟩;simp only[bs,reduceToNat,lb (w.blk 0 rfl)];refine⟨(by omega),(by omega),?_⟩;simp only[];simp only[bs,reduceToNat,t26];refine⟨(by omega),?_⟩;refine M.dN ?_;simp only[o1];refine M.dN ?_;refine⟨(by omega),(by omega),?_⟩;simp only[];simp only[bs,reduceToNat,s6];refine⟨(by omega),?_⟩;refine M.dN ?_;refine⟨(by omega),(by omega),?_⟩;simp only[]
 simp only[bs,reduceToNat,t20];refine⟨(by omega),?_⟩;refine M.dN ?_;simp only[o2];refine M.dN ?_;refine⟨(by omega),(by omega),?_⟩;simp only[];simp only[bs,reduceToNat,s12];refine⟨(by omega),?_⟩;refine M.dN ?_;refine⟨(by omega),(by omega),?_⟩;simp only[];simp only[bs,reduceToNat,t14];refine⟨(by omega),?_⟩;refine M.dN ?_;simp only[o3];refine M.dN ?_;refine⟨(by omega),(by omega),?_⟩;simp only[];simp only[bs,reduceToNat,s18];refine⟨(by omega),?_⟩;refine M.dN ?_;refine⟨(by omega),(by omega),?_⟩;simp only[];simp only[bs,reduceToNat,t8];refine⟨(by omega),?_⟩;refine M.dN ?_;simp only[o4];refine M.dN ?_;refine M.aK w λb7 h6 w=>?_;refine⟨(rfl),?_⟩;refine M.bz w 2 rfl (by simp[ag]) (by simp) λh8 w=>?_;simp only[bs]at w;refine M.uj w (by omega) (by omega) (by omega) (by omega) rfl λa9 h10 w=>?_;simp only[zs]at w ⊢;refine M.jn (M.times 5 ?_);refine M.bM ?_;simp only[];refine eN (by omega) ?_;refine⟨(by omega),(by omega),?_⟩;simp only[bs,reduceToNat,Ah,lb (w.blk 2 rfl)];refine M.dN ?_;refine Ro.OX (w.Pg 1 rfl) (by omega) (by omega) ?_;simp only[g0,qU];refine M.dN ?_;refine⟨λ_ _=>rfl,?_⟩;simp only[jA];refine M.dN ?_;simp only[yH];refine M.dN ?_;simp only[oU,uJ];refine M.dN ?_;refine w.xD 3 rfl rfl _ rfl (by omega) (by omega) λh9 w=>?_;simp only[bs,reduceToNat]at w;refine⟨(by omega),?_⟩;refine M.dN ?_;refine M.vis (1) (by decide) ?_;refine M.bM ?_;simp only[];refine eN (by omega) ?_;refine⟨(by omega),(by omega),?_⟩;simp only[bs,Nat.reduceMul,reduceToNat,Ah,lb (w.blk 2 rfl)]
 refine M.dN ?_;refine Ro.OX (w.Pg 1 rfl) (by omega) (by omega) ?_;simp only[g1,qU];refine M.dN ?_;refine⟨λ_ _=>rfl,?_⟩;simp only[jA];refine M.dN ?_;simp only[jA];refine M.dN ?_;simp only[oU,uJ];refine M.dN ?_;refine w.xD 3 rfl rfl _ rfl (by omega) (by omega) λh16 w=>?_;simp only[bs,reduceToNat]at w;refine⟨(by omega),?_⟩;refine M.dN ?_;refine M.vis (2) (by decide) ?_;refine M.bM ?_;simp only[];refine eN (by omega) ?_;refine⟨(by omega),(by omega),?_⟩;simp only[bs,Nat.reduceMul,reduceToNat,Ah,lb (w.blk 2 rfl)];refine M.dN ?_;refine Ro.OX (w.Pg 1 rfl) (by omega) (by omega) ?_;simp only[g2,qU];refine M.dN ?_;refine⟨λ_ _=>rfl,?_⟩;simp only[jA];refine M.dN ?_;simp only[jA];refine M.dN ?_;simp only[oU,uJ];refine M.dN ?_;refine w.xD 3 rfl rfl _ rfl (by omega) (by omega) λh23 w=>?_;simp only[bs,reduceToNat]at w;refine⟨(by omega),?_⟩;refine M.dN ?_;refine M.vis (3) (by decide) ?_;refine M.bM ?_;simp only[];refine eN (by omega) ?_;refine⟨(by omega),(by omega),?_⟩;simp only[bs,Nat.reduceMul,reduceToNat,Ah,lb (w.blk 2 rfl)];refine M.dN ?_;refine Ro.OX (w.Pg 1 rfl) (by omega) (by omega) ?_;simp only[g3,qU];refine M.dN ?_;refine⟨λ_ _=>rfl,?_⟩;simp only[jA];refine M.dN ?_;simp only[jA];refine M.dN ?_;simp only[oU,uJ];refine M.dN ?_;refine w.xD 3 rfl rfl _ rfl (by omega) (by omega) λh30 w=>?_;simp only[bs,reduceToNat]at w;refine⟨(by omega),?_⟩;refine M.dN ?_;refine M.vis (4) (by decide) ?_;refine M.bM ?_;simp only[];refine gI (by omega) ?_;rw[←Ju]at w;refine o6 (tB w 3 rfl (by simp)) λh31 k31=>?_
 have:=k _ (w.keep.trans k31);rw[Se,hN]at this;obtain⟨d0,d1,d2,d3,q0,q1,q2,q3,⟨r,hv⟩,u0,u1,u2,u3⟩:∃d0 d1 d2 d3:Nat,(x.a+x.b*2^26)%4294967296=d0∧(x.b%18446744073709551616/2^6+x.c*2^20)%4294967296=d1∧(x.c%18446744073709551616/2^12+x.d*2^14)%4294967296=d2∧(x.d%18446744073709551616/2^18+x.e*2^8)%4294967296=d3
   ∧ (∃r,x.val=d0+d1*4294967296+d2*18446744073709551616+d3*79228162514264337593543950336+r*340282366920938463463374607431768211456)∧d0<4294967296∧d1<4294967296∧d2<4294967296∧d3<4294967296:=by
  refine⟨_,_,_,_,rfl,rfl,rfl,rfl,⟨x.val/340282366920938463463374607431768211456,?_⟩,Nat.mod_lt _ (by decide),Nat.mod_lt _ (by decide),Nat.mod_lt _ (by decide),Nat.mod_lt _ (by decide)⟩;simp only[L5.val];omega
 simp only[q0,q1,q2,q3]at w ⊢;rw[hv]at this;clear w q0 q1 q2 q3 hv hN o1 o2 o3 o4 t26 t20 t14 t8 s6 s12 s18 k;have key:∀n m:Nat,n%4294967296=m%4294967296->BitVec.ofNat 32 n=BitVec.ofNat 32 m:=λn m e=>BitVec.eq_of_toNat_eq (by rw[BitVec.toNat_ofNat,BitVec.toNat_ofNat];exact e);obtain⟨N,hN⟩:∃N,d0+d1*4294967296+d2*18446744073709551616+d3*79228162514264337593543950336+r*340282366920938463463374607431768211456+(x0.toNat+x1.toNat * 4294967296+x2.toNat * 18446744073709551616+x3.toNat * 79228162514264337593543950336)=N:=⟨_,rfl⟩;rw[hN]at this
 rw[key N (d0+x0.toNat) (by omega),key (N/4294967296) ((d0+x0.toNat)%18446744073709551616/4294967296+(d1+x1.toNat)) (by omega),
  key (N/18446744073709551616) (((d0+x0.toNat)%18446744073709551616/4294967296+(d1+x1.toNat))%18446744073709551616/4294967296+(d2+x2.toNat)) (by omega),
  key (N/79228162514264337593543950336) ((((d0+x0.toNat)%18446744073709551616/4294967296+(d1+x1.toNat))%18446744073709551616/4294967296+(d2+x2.toNat))%18446744073709551616/4294967296+(d3+x3.toNat)) (by omega)]at this
 exact this
end
def GQ(x:Int)(i:Nat):Int:=if i%4=3 then x%16 else if i%4=0∧0<i then x-x%4 else x
def BD(r:ByteArray):ByteArray:=yp 16 λi=>GQ (aF r i) i
theorem Sr(x:Int)(m k:Nat)(h:0≤x∧x<256)(hm:m=2^k-1)(hk:k≤8):lS .u8 x (m:Int)=x%2^k:=by
 obtain⟨n,rfl⟩:=Int.eq_ofNat_of_zero_le h.1;have hm8:m<256:=by
  have:2^k≤2^8:=Nat.pow_le_pow_right (by omega) hk;omega
 have e:∀n:Nat,n<256->(BitVec.ofInt 8 (n:Int)).toNat=n:=λn h=>by rw[BitVec.ofInt_natCast,BitVec.toNat_ofNat];omega
 have h1:(BitVec.ofInt 8 (n:Int) &&& BitVec.ofInt 8 (m:Int)).toNat=n%2^k:=by
  rw[BitVec.toNat_and,e n (by omega),e m hm8,hm,Nat.and_two_pow_sub_one_eq_mod]
 show wrap .u8 ((BitVec.ofInt 8 (n:Int) &&& BitVec.ofInt 8 (m:Int)).toNat:Int)=_;have:=Nat.mod_le n (2^k);rw[h1,IntKind.wrap_u8,Int.natCast_emod,Int.natCast_pow];have e2:((n:Int)%2^k)=((n%2^k:Nat):Int):=by rw[Int.natCast_emod,Int.natCast_pow];rfl
 show((n:Int)%2^k)%256=_;rw[e2];omega
theorem QC{x:Int}(h:0≤x∧x<256):lS .u8 x 15=x%16:=Sr x 15 4 h rfl (by decide)
theorem P5{x:Int}(h:0≤x∧x<256):lS .u8 x 252=x-x%4:=by
 have:∀n:Fin 256,lS .u8 ((n.val:Nat):Int) 252=((n.val:Nat):Int)-((n.val:Nat):Int)%4:=by decide +kernel
 have:=this ⟨x.toNat,by omega⟩;simp only[Int.toNat_of_nonneg h.1]at this;exact this
theorem Mx(r:ByteArray)(m:Nat)(hm:m<16)(v:Int)(hv:v=GQ (aF r m) m):((List.range 16).map λi=>if i<m then GQ (aF r i) i else aF r i).set m v=(List.range 16).map λi=>if i<m+1 then GQ (aF r i) i else aF r i:=by
 rw[jY];apply List.map_congr_left;intro i hi;by_cases h1:i=m
 ·subst h1;rw[if_pos rfl,if_pos (by omega),hv]
 ·rw[if_neg h1];by_cases h2:i<m
  ·rw[if_pos h2,if_pos (by omega)]
  ·rw[if_neg h2,if_neg (by omega)]
theorem Jb(r:ByteArray)(m:Nat)(hm:m<16)(hv:aF r m=GQ (aF r m) m):((List.range 16).map λi=>if i<m then GQ (aF r i) i else aF r i)=(List.range 16).map λi=>if i<m+1 then GQ (aF r i) i else aF r i:=by
 apply List.map_congr_left;intro i hi;by_cases h2:i<m
 ·rw[if_pos h2,if_pos (by omega)]
 ·by_cases h1:i=m
  ·subst h1;rw[if_neg h2,if_pos (by omega),←hv]
  ·rw[if_neg h2,if_neg (by omega)]
theorem zm(s:ByteArray)(n:Nat)(h:s.size=n):bytesOf s=eB.row ((List.range n).map (aF s)):=by
 rw[←DN,←h,Ec,bytesOf,oT,List.map_map];rfl
section
variable {h:H}{r a b:ByteArray}
theorem GS{Q:ByteArray->Int->H->Prop}(hr:r.size=16)(k:∀h',bq h h'->Q (BD r) 0 h'):iP r h Q:=by
 unfold iP;refine cf (by rw[hr];rfl) ?_;refine M.Pe (Wd.start h) λb3 c3 h1 w=>?_;rw[zm r 16 hr,hr]at w;rw[hr];refine M.jn ?_;refine M.aP (I:=λ(i:Int) h'=>∃m:Nat,m≤16∧i=(m:Int)∧Wd h h' [.sl 5 1 (some ⟨b3,0,none⟩) 16 c3 (eB.row ((List.range 16).map λi=>if i<m then GQ (aF r i) i else aF r i))]) (μ:=λi=>(16-i).toNat) ⟨0,by omega,rfl,?_⟩ ?_
 ·have:((List.range 16).map λi=>if i<0 then GQ (aF r i) i else aF r i)=(List.range 16).map (aF r):=List.map_congr_left λi hi=>if_neg (by omega)
  rw[this];exact w
 clear w;rintro _ h2 J ⟨m,hm,rfl,w⟩ hJ;by_cases hlt:m<16
 ·refine eN (by omega) ⟨by decide,?_⟩;have vt:Int.tmod (m:Int) 4=((m%4:Nat):Int):=by rw[Int.tmod_eq_emod_of_nonneg (by omega)];omega
  have v1:wrap .i64 ((m:Int)+1)=((m+1:Nat):Int):=by rw[IntKind.wrap_i64];omega
  have hb:=dZ r m;have hz:za ((List.range 16).map λi=>if i<m then GQ (aF r i) i else aF r i) m=aF r m:=by
   rw[kP (by simpa using hlt)];simp
  refine M.vis _ vt ?_;by_cases h3:m%4=3
  ·refine ct (by rw[beq_iff_eq];omega) ?_;have ha:=QC hb;simp only[v1];refine Ro.Sw (w.ro 0 rfl (by decide)) (by omega) (by omega) ?_;simp only[Int.toNat_natCast,hz,ha];refine M.dN ?_;refine w.xD 0 rfl rfl _ rfl (by omega) (by omega) λh10 w=>?_;simp only[bs,Int.toNat_natCast]at w;refine M.dN ?_;rw[Mx r m hlt _ (by unfold GQ;rw[if_pos h3])]at w;exact hJ _ _ ⟨m+1,by omega,rfl,w⟩ (by omega)
  ·refine cf (by rw[beq_eq_false_iff_ne];omega) ?_;refine M.jn ⟨by decide,M.vis _ vt ?_⟩;by_cases h0:m%4=0
   ·refine ct (by rw[beq_iff_eq];omega) ?_;by_cases hp:0<m
    ·refine eN (by omega) ?_;have ha:=P5 hb;simp only[v1];refine Ro.Sw (w.ro 0 rfl (by decide)) (by omega) (by omega) ?_;simp only[Int.toNat_natCast,hz,ha];refine M.dN ?_;refine w.xD 0 rfl rfl _ rfl (by omega) (by omega) λh10 w=>?_;simp only[bs,Int.toNat_natCast]at w;refine M.dN ?_;rw[Mx r m hlt _ (by unfold GQ;rw[if_neg h3,if_pos ⟨h0,hp⟩])]at w;exact hJ _ _ ⟨m+1,by omega,rfl,w⟩ (by omega)
    ·refine gI (by omega) ?_;rw[Jb r m hlt (by unfold GQ;rw[if_neg h3,if_neg (by omega)])]at w;refine M.vis _ v1 ?_;exact hJ _ _ ⟨m+1,by omega,rfl,w⟩ (by omega)
   ·refine cf (by rw[beq_eq_false_iff_ne];omega) ?_;refine cf rfl ?_;rw[Jb r m hlt (by unfold GQ;rw[if_neg h3,if_neg (by omega)])]at w;refine M.vis _ v1 ?_;exact hJ _ _ ⟨m+1,by omega,rfl,w⟩ (by omega)
 ·refine gI (by omega) ?_;obtain rfl:m=16:=by omega
  have e:((List.range 16).map λi=>if i<16 then GQ (aF r i) i else aF r i)=(List.range 16).map λi=>GQ (aF r i) i:=List.map_congr_left λi hi=>if_pos (List.mem_range.1 hi)
  rw[e]at w;exact w.OW 0 rfl (k _ w.keep)
theorem SN{a b:Int}(ha:0≤a∧a<256)(hb:0≤b∧b<256):0≤ye .u8 a b∧ye .u8 a b<256∧(ye .u8 a b=0↔a=0∧b=0):=by
 have e:∀x:Int,0≤x∧x<256->(BitVec.ofInt 8 x).toNat=x.toNat:=λx h=>by rw[BitVec.toNat_ofInt];omega
 have h1:(BitVec.ofInt 8 a ||| BitVec.ofInt 8 b).toNat=a.toNat ||| b.toNat:=by rw[BitVec.toNat_or,e a ha,e b hb]
 have h2:ye .u8 a b=((a.toNat ||| b.toNat:Nat):Int):=by
  show wrap .u8 ((BitVec.ofInt 8 a ||| BitVec.ofInt 8 b).toNat:Int)=_;have:a.toNat ||| b.toNat<2^8:=Nat.or_lt_two_pow (by omega) (by omega);rw[h1,IntKind.wrap_u8];omega
 have h3:a.toNat ||| b.toNat<2^8:=Nat.or_lt_two_pow (by omega) (by omega);rw[h2];refine⟨by omega,by omega,?_⟩;constructor
 ·intro h;have:a.toNat ||| b.toNat=0:=by omega
  rw[Nat.or_eq_zero_iff]at this;omega
 ·rintro⟨rfl,rfl⟩;rfl
theorem SM{a b:Int}(ha:0≤a∧a<256)(hb:0≤b∧b<256):bx a b=0↔a=b:=by
 rw[HO ha hb];constructor
 ·intro h;have:a.toNat ^^^ b.toNat=0:=by omega
  have:=congrArg (· ^^^ b.toNat) this;simp only[Nat.xor_assoc,Nat.xor_self,Nat.xor_zero,Nat.zero_xor]at this;omega
 ·rintro rfl;rw[Nat.xor_self];rfl
theorem HN{Q:Bool->H->Prop}(hs:a.size≤1000000)(k:Q (decide (a=b)) h):iQ a b h Q:=by
 unfold iQ;refine cc (λe=>?_) λe=>?_
 ·rw[bne_iff_ne]at e;have:¬a=b:=λe2=>e (by rw[e2])
  rwa [decide_eq_false this]at k
 ·rw[bne_eq_false_iff_eq]at e;refine M.jn ?_;refine M.aP (I:=λ(p:Int×Int) h'=>h'=h∧∃m:Nat,m≤a.size∧p.2=(m:Int)∧0≤p.1∧p.1<256∧(p.1=0↔∀i,i<m->aF a i=aF b i)) (μ:=λp=>(a.size-p.2).toNat) ⟨rfl,0,by omega,rfl,by decide,by decide,by simp⟩ ?_;rintro⟨d,_⟩ h2 J ⟨rfl,m,hm,rfl,d0,d1,hd⟩ hJ;simp only at d0 d1 hd ⊢;by_cases hlt:m<a.size
  ·refine eN (by omega) ⟨by omega,by omega,⟨by omega,by omega,M.dN (M.dN (M.vis ((m+1:Nat):Int) (by rw[IntKind.wrap_i64];omega) ?_))⟩⟩;rw[Int.toNat_natCast];have ha:=dZ a m;have hb:=dZ b m;have hx:mZ .u8 (aF a m) (aF b m)=bx (aF a m) (aF b m):=rfl;rw[hx];obtain⟨o1,o2,o3⟩:=SN ⟨d0,d1⟩ (II (aF a m) (aF b m));refine hJ _ _ ⟨rfl,m+1,by omega,rfl,o1,o2,?_⟩ (by simp only;omega);simp only;rw[o3,hd,SM ha hb];constructor
   ·rintro⟨h1,h2⟩ i hi;by_cases hi2:i=m
    ·subst hi2;exact h2
    ·exact h1 i (by omega)
   ·exact λh=>⟨λi hi=>h i (by omega),h m (by omega)⟩
  ·refine gI (by omega) ?_;obtain rfl:m=a.size:=by omega
   have:(d == 0)=decide (a=b):=by
    rw[Bool.eq_iff_iff,beq_iff_eq,decide_eq_true_iff,hd];constructor
    ·exact λh=>zZ (by omega) h
    ·rintro rfl i hi;rfl
   rw[this];exact k
end
def Ao(s:ByteArray)(j:Nat):Nat:=BV (s.extract (16*j) s.size) (min 16 (s.size-16*j))+256^(min 16 (s.size-16*j))
def N1(r:Nat)(s:ByteArray):Nat->Nat
 | 0=>0
 | j+1=>(N1 r s j+Ao s j)*r%L5.P
def Ns(key s:ByteArray):ByteArray:=RB (N1 (BV (BD (key.extract 0 16)) 16) s ((s.size+15)/16)+BV (key.extract 16 32) 16)
theorem JP(key s:ByteArray):(Ns key s).size=16:=qu _ _
theorem Cm{s t:ByteArray}:∀n,(∀i,i<n->aF s i=aF t i)->BV s n=BV t n
 | 0,_=>rfl
 | n+1,h=>by rw[BV,BV,Cm n λi hi=>h i (by omega),h n (by omega)]
theorem Fo(t:ByteArray)(n:Nat):∀k,(∀i,n<i->i<n+k->aF t i=0)->0<k->BV t (n+k)=BV t n+(aF t n).toNat * 256^n
 | 0,_,h=>by omega
 | 1,_,_=>rfl
 | k+2,h,_=>by
  have e:=h (n+(k+1)) (by omega) (by omega);show BV t (n+(k+1))+(aF t (n+(k+1))).toNat * _ = _;rw[Fo t n (k+1) (λi h1 h2=>h i h1 (by omega)) (by omega),e];simp
def laidB(s:ByteArray)(n i:Nat):Int:=if i<n then aF s i else if i=n then 1 else 0
theorem EG(s:ByteArray)(n i:Nat):0≤laidB s n i∧laidB s n i<256:=by
 unfold laidB;have:=dZ s i;split
 ·exact this
 ·split<;>decide
theorem GN(s:ByteArray)(n:Nat)(hn:n≤16):BV (yp 16 (laidB s n)) 16+(laidB s n 16).toNat * 340282366920938463463374607431768211456=BV s n+256^n:=by
 have hb:∀i,i<16->aF (yp 16 (laidB s n)) i=laidB s n i:=λi hi=>sI _ _ _ hi (EG s n i);have h1:BV (yp 16 (laidB s n)) n=BV s n:=Cm n λi hi=>by rw[hb i (by omega),laidB,if_pos hi]
 by_cases h:n=16
 ·subst h;have:laidB s 16 16=1:=rfl;rw[h1,this];rfl
 ·have e16:laidB s n 16=0:=by rw[laidB,if_neg (by omega),if_neg (by omega)]
  have en:aF (yp 16 (laidB s n)) n=1:=by rw[hb n (by omega),laidB,if_neg (by omega),if_pos rfl]
  have ht:=Fo (yp 16 (laidB s n)) n (16-n) (λi h2 h3=>by rw[hb i (by omega),laidB,if_neg (by omega),if_neg (by omega)]) (by omega);rw[show n+(16-n)=16 by omega,h1,en]at ht;rw[ht,e16];simp
theorem DG(n:Nat)(hn:n≤17)(f:Nat->Int):splice (Array.replicate 17 (Value.int .u8 0)) 0 (oT ((List.range n).map f))=(oT ((List.range 17).map λi=>if i<n then f i else 0)).toArray:=by
 apply Array.ext_getElem?;intro i;rw[nB _ _ _ (by simp[sB];omega)];simp only[oT,List.map_map,List.length_map,List.length_range,Nat.zero_le,true_and,Nat.zero_add,Nat.sub_zero,List.getElem?_toArray,List.getElem?_map];by_cases h1:i<n
 ·rw[if_pos h1,List.getElem?_range h1,List.getElem?_range (by omega)];simp[h1]
 ·rw[if_neg h1,Array.getElem?_replicate];by_cases h2:i<17
  ·rw[if_pos h2,List.getElem?_range h2];simp[h1]
  ·rw[if_neg h2,List.getElem?_eq_none (by rw[List.length_range];omega)];rfl
theorem Jk(zs:List Int)(i:Nat)(x:Int):(oT zs).toArray.setIfInBounds i (.int .u8 x)=(oT (zs.set i x)).toArray:=by
 rw[List.setIfInBounds_toArray,oT,oT,List.map_set]
theorem Lp(t:ByteArray)(n:Nat)(hn:n≤16):((List.range 17).map λi=>if i<n then aF t i else 0).set n 1=(List.range 17).map (laidB t n):=by
 rw[jY];apply List.map_congr_left;intro i hi;unfold laidB;by_cases h1:i=n
 ·subst h1;rw[if_pos rfl,if_neg (by omega),if_pos rfl]
 ·rw[if_neg h1];by_cases h2:i<n
  ·rw[if_pos h2,if_pos h2]
  ·rw[if_neg h2,if_neg h2,if_neg h1]
theorem CX(t:ByteArray)(n:Nat):ofBytes ((((List.range 17).map (laidB t n)).drop 0).take 16)=yp 16 (laidB t n):=by rfl
theorem OK(t:ByteArray)(n:Nat):(oT ((List.range 17).map (laidB t n)))[16]? = some (.int .u8 (laidB t n 16)):=by rfl
theorem PX(t:ByteArray)(n:Nat):wrap .u64 (laidB t n 16)=kH (laidB t n 16).toNat:=by
 have:=EG t n 16;rw[IntKind.wrap_u64,kH];omega
theorem IP(t:ByteArray)(n:Nat)(h:n≤16):(laidB t n 16).toNat≤1:=by
 unfold laidB;rw[if_neg (by omega)];split<;>decide
theorem PM{x r:L5}(hx:x.Lt 268435456)(hr:r.Lt 67108864):(x.mul r).Lt 4611686018427387904:=by
 obtain⟨x1,x2,x3,x4,x5⟩:=hx;obtain⟨r1,r2,r3,r4,r5⟩:=hr;have m:∀a b:Nat,a<268435456->b<67108864->a*b≤18014398509481984:=λa b ha hb=>Nat.mul_le_mul (Nat.le_of_lt ha) (Nat.le_of_lt hb);refine⟨?_,?_,?_,?_,?_⟩ <;>simp only[L5.mul]
 ·have:=m _ _ x1 r1;have:=m _ _ x2 r5;have:=m _ _ x3 r4;have:=m _ _ x4 r3;have:=m _ _ x5 r2;omega
 ·have:=m _ _ x1 r2;have:=m _ _ x2 r1;have:=m _ _ x3 r5;have:=m _ _ x4 r4;have:=m _ _ x5 r3;omega
 ·have:=m _ _ x1 r3;have:=m _ _ x2 r2;have:=m _ _ x3 r1;have:=m _ _ x4 r5;have:=m _ _ x5 r4;omega
 ·have:=m _ _ x1 r4;have:=m _ _ x2 r3;have:=m _ _ x3 r2;have:=m _ _ x4 r1;have:=m _ _ x5 r5;omega
 ·have:=m _ _ x1 r5;have:=m _ _ x2 r4;have:=m _ _ x3 r3;have:=m _ _ x4 r2;have:=m _ _ x5 r1;omega
def L5.add(x y:L5):L5:=⟨x.a+y.a,x.b+y.b,x.c+y.c,x.d+y.d,x.e+y.e⟩
theorem OJ(x y:L5):(x.add y).val=x.val+y.val:=by simp only[L5.add,L5.val];omega
section
variable {h:H}{key s:ByteArray}
theorem sC{Q:ByteArray->Int->H->Prop}(hk:key.size=32)(hs:s.size≤65536)(k:∀h',bq h h'->Q (Ns key s) 0 h'):jo key s h Q:=by
 unfold jo;refine cf (by rw[hk];rfl) (gI (by omega) ⟨by omega,by omega,by omega,?_⟩);unfold Ns at k;have hk1:(key.extract (Int.toNat 0) (Int.toNat 16)).size=16:=by rw[ByteArray.size_extract];simp;omega
 refine GS hk1 λh1 k1=>?_;have hcs:(BD (key.extract (Int.toNat 0) (Int.toNat 16))).size=16:=qu _ _;refine DC (ab:=0) hcs (by omega) λh2 r hr hrv k2=>?_;have w:=(Wd.start h).keeps (k1.trans k2);refine M.aK w λb4 h3 w=>?_;refine⟨(rfl),?_⟩;refine M.bz w 0 rfl (by simp[ag]) (by simp) λh5 w=>?_;simp only[bs]at w;refine M.aK w λb7 h6 w=>?_;have w:Wd h _ [.blk b4 r.o,.blk b7 (L5.o ⟨0,0,0,0,0⟩)]:=w;have hR:BV (BD (key.extract 0 16)) 16=r.val:=by
  have:r.val=BV (BD (key.extract (Int.toNat 0) (Int.toNat 16))) 16+0*340282366920938463463374607431768211456:=hrv;rw[this,Nat.zero_mul,Nat.add_zero];rfl
 rw[hR]at k;clear hrv hR k1 k2 hk1 hcs;refine M.jn ?_;refine M.aP (I:=λ(t:ByteArray) h'=>∃j m x,m=min (16*j) s.size∧t=s.extract m s.size∧j≤(s.size+15)/16∧L5.Lt x 134217728∧x.val%L5.P=N1 r.val s j∧Wd h h' [.blk b4 r.o,.blk b7 x.o]) (μ:=λt=>t.size) ⟨0,0,⟨0,0,0,0,0⟩,by omega,ByteArray.extract_zero_size.symm,by omega,⟨by decide,by decide,by decide,by decide,by decide⟩,rfl,w⟩ ?_;clear w;rintro _ h2 J ⟨j,m,x,hm,rfl,hj,hx,hxv,w⟩ hJ;have hts:(s.extract m s.size).size=s.size-m:=by rw[ByteArray.size_extract];omega
 by_cases hlt:m<s.size
 ·refine eN (by omega) ?_;obtain rfl:m=16*j:=by omega
  generalize ht:s.extract (16*j) s.size=t at *;obtain⟨n,hn⟩:∃n,min 16 (s.size-16*j)=n:=⟨_,rfl⟩;have hch:Ao s j=BV t n+256^n:=by rw[Ao,ht,hn]
  have emn:mn (t.size:Int) 16=(n:Int):=by rw[hts,←hn,Nat.min_comm];exact HF _ 16
  have ebs:bytesOf ((t.extract (Int.toNat 0) n).extract 0 (min (t.extract (Int.toNat 0) n).size 17))=oT ((List.range n).map (aF t)):=by
   have hsz:(t.extract (Int.toNat 0) n).size=n:=by rw[ByteArray.size_extract,hts];show min n _-0=n;omega
   rw[hsz,Nat.min_eq_left (by omega)];have e1:(t.extract (Int.toNat 0) n).extract 0 n=t.extract 0 n:=by
    show(t.extract 0 n).extract 0 n=_;rw[ByteArray.extract_extract];congr 1;omega
   have e2:(t.extract 0 n).size=n:=hsz;rw[e1,zm _ n e2,←DN,List.map_congr_left λi hi=>kJ t 0 n i (by have:=List.mem_range.1 hi;omega) (by omega)];simp
  rw[emn];refine M.aK w λb5 h4 w=>?_;refine M.sx 0 17 rfl rfl (by decide) (by decide) (by decide) ?_;simp only[Nat.reduceAdd,Nat.reduceMul,Nat.reduceSub];refine⟨(by omega),(by omega),(by omega),?_⟩;simp only[Int.toNat_natCast,ebs];refine M.vM w 2 rfl (pV _) (by simp[sB];omega) λh3 w=>?_;simp only[bs]at w;rw[DG n (by omega)]at w;refine⟨by omega,by omega,?_⟩;simp only[bs,Int.toNat_natCast];rw[Nat.mul_one];refine M.bg w 2 rfl rfl (by simp[sB];omega) λh4 w=>?_;rw[Jk,Lp t n (by omega)]at w;simp only[bs]at w;refine⟨(by omega),(by omega),(by omega),?_⟩;refine M.aO (λd h'=>∃y,L5.Lt y 67108864∧y.val=Ao s j∧d=((kH y.a,kH y.b,kH y.c,kH y.d,kH y.e),0)∧Wd h h' [.blk b4 r.o,.blk b7 x.o]) (λJ2 hJ2=>?_) ?_
  ·have g16:=OK t n;have gq:=PX t n;refine M.sx 0 16 rfl rfl (by decide) (by decide) (by decide) ?_;simp only[Nat.reduceAdd,Nat.reduceMul,Nat.reduceSub];refine⟨(by omega),(by omega),?_⟩;simp only[bs,Nat.reduceMul,reduceToNat,g16,gq,lb (w.blk 2 rfl)];refine⟨?_,?_⟩;rotate_left;refine M.dN ?_;rotate_left
   ·refine M.A3 (w.blk 2 rfl) (by simp) ?_;rw[CX];refine⟨λ_ _=>rfl,M.dN ?_⟩;refine DC (qu _ _) (IP t n (by omega)) λh5 y hy hyv k5=>?_;exact hJ2 _ _ ⟨y,hy,by rw[hyv,GN t n (by omega),hch],rfl,(w.keeps k5).drop (i:=2) rfl⟩
   ·refine M.A3 (w.blk 2 rfl) (by simp) ?_;rw[CX];refine⟨λ_ _=>rfl,?_⟩;refine DC (qu _ _) (IP t n (by omega)) λh5 y hy hyv k5=>?_;exact hJ2 _ _ ⟨y,hy,by rw[hyv,GN t n (by omega),hch],rfl,(w.keeps k5).drop (i:=2) rfl⟩
  clear w;rintro _ h5 ⟨y,hy,hyv,rfl,w⟩;unfold L5.o at w;refine M.times 6 ?_;refine M.bM ?_;simp only[];refine eN (by omega) ?_;refine⟨(by omega),(by omega),?_⟩;simp only[];simp only[bs,reduceToNat,lb (w.blk 1 rfl)];refine⟨(by omega),(by omega),?_⟩;simp only[];simp only[bs,reduceToNat,jA];refine M.dN ?_;refine⟨(by omega),(by omega),?_⟩;simp only[];simp only[bs,reduceToNat];refine M.bg w 1 rfl rfl (by simp) λh8 w=>?_;simp only[bs]at w;refine M.vis (1) (by decide) ?_;refine M.bM ?_;refine eN (by omega) ?_;refine⟨(by omega),(by omega),?_⟩;simp only[];simp only[bs,reduceToNat,lb (w.blk 1 rfl)];refine⟨(by omega),(by omega),?_⟩;simp only[];simp only[bs,reduceToNat,jA];refine M.dN ?_;refine⟨(by omega),(by omega),?_⟩;simp only[];simp only[Nat.reduceMul,reduceToNat];refine M.bg w 1 rfl rfl (by simp) λh10 w=>?_;simp only[bs]at w;refine M.vis (2) (by decide) ?_;refine M.bM ?_;refine eN (by omega) ?_;refine⟨(by omega),(by omega),?_⟩;simp only[];simp only[bs,reduceToNat,lb (w.blk 1 rfl)];refine⟨(by omega),(by omega),?_⟩;simp only[];simp only[bs,reduceToNat,jA];refine M.dN ?_;refine⟨(by omega),(by omega),?_⟩;simp only[];simp only[Nat.reduceMul,reduceToNat];refine M.bg w 1 rfl rfl (by simp) λh12 w=>?_;simp only[bs]at w;refine M.vis (3) (by decide) ?_;refine M.bM ?_;refine eN (by omega) ?_;refine⟨(by omega),(by omega),?_⟩;simp only[];simp only[bs,reduceToNat,lb (w.blk 1 rfl)];refine⟨(by omega),(by omega),?_⟩;simp only[];simp only[bs,reduceToNat,jA];refine M.dN ?_
  refine⟨(by omega),(by omega),?_⟩;simp only[];simp only[Nat.reduceMul,reduceToNat];refine M.bg w 1 rfl rfl (by simp) λh14 w=>?_;simp only[bs]at w;refine M.vis (4) (by decide) ?_;refine M.bM ?_;refine eN (by omega) ?_;refine⟨(by omega),(by omega),?_⟩;simp only[];simp only[bs,reduceToNat,lb (w.blk 1 rfl)];refine⟨(by omega),(by omega),?_⟩;simp only[];simp only[bs,reduceToNat,jA];refine M.dN ?_;refine⟨(by omega),(by omega),?_⟩;simp only[];simp only[Nat.reduceMul,reduceToNat];refine M.bg w 1 rfl rfl (by simp) λh16 w=>?_;simp only[bs]at w;refine M.vis (5) (by decide) ?_;refine M.bM ?_;refine gI (by omega) ?_;simp only[bs,lb (w.blk 0 rfl)];have w:Wd h _ [.blk b4 r.o,.blk b7 (x.add y).o]:=w;have hxy:(x.add y).Lt 268435456:=⟨by have:=hx.a;have:=hy.a;simp only[L5.add];omega,by have:=hx.b;have:=hy.b;simp only[L5.add];omega,by have:=hx.c;have:=hy.c;simp only[L5.add];omega,by have:=hx.d;have:=hy.d;simp only[L5.add];omega,by have:=hx.e;have:=hy.e;simp only[L5.add];omega⟩;have hm:=PM hxy hr;obtain⟨hx1,k0,k1,wx,wr,back⟩:=w.on (i:=1) rfl;refine HK wx λh9 w1=>?_;have w:=back _ _ w1;refine hJ _ _ ⟨j+1,16*j+n,_,by omega,?_,by omega,(L5.Bz hm).1,?_,w⟩ ?_
  ·subst ht;show(s.extract (16*j) s.size).extract n ((s.extract (16*j) s.size).size:Int).toNat=_;have e:min (16*j+(s.size-16*j)) s.size=s.size:=by omega
   rw[Int.toNat_natCast,hts,ByteArray.extract_extract,e]
  ·obtain⟨q,hq⟩:=L5.Oi (x.add y) r;have hc:=L5.x8 hm;rw[N1,←hxv];have e1:((x.add y).mul r).carry.val%L5.P=(x.add y).val*r.val%L5.P:=by rw[←hq,←hc,Nat.add_assoc,←Nat.add_mul,Nat.add_mul_mod_self_right]
   rw[e1,OJ,hyv,Nat.mul_mod (x.val%L5.P+Ao s j),Nat.mod_add_mod,←Nat.mul_mod]
  ·show((t.extract n (t.size:Int).toNat)).size<t.size;rw[Int.toNat_natCast,ByteArray.size_extract];omega
 ·refine gI (by omega) ?_;obtain rfl:m=s.size:=by omega
  have hje:j=(s.size+15)/16:=by omega
  obtain⟨hx1,k0,k1,wx,wr,back⟩:=w.on (i:=1) rfl;refine Hl wx (hx.mono (by decide)) λh3 y hy hyv w1=>?_;have w:=back _ _ w1;unfold L5.o at w;have h16:(key.extract (Int.toNat 16) (key.size:Int).toNat).size=16:=by rw[ByteArray.size_extract,hk];rfl
  simp only[bs,lb (w.blk 1 rfl)];refine⟨(by omega),(by omega),(by omega),?_⟩;refine Ld h16 hy λh4 k4=>?_;have:=k _ (w.keep.trans k4);rw[←hje,←hxv,←hyv]at this;rw[hk];exact this
end
def HG(s:ByteArray):ByteArray:=s++kL ((16-s.size%16)%16)
def KG(a b:ByteArray):ByteArray:=lf false [BitVec.ofNat 32 a.size,BitVec.ofNat 32 (a.size/4294967296),BitVec.ofNat 32 b.size,BitVec.ofNat 32 (b.size/4294967296)]
def yd(key nonce wi se:ByteArray):ByteArray:=Ns ((nR key nonce 0).extract 0 32) (((HG wi)++(HG se))++KG wi se)
def qK(key nonce wi pl:ByteArray):ByteArray:=nu key nonce 1 pl++yd key nonce wi (nu key nonce 1 pl)
theorem Di(s:ByteArray):(HG s).size=s.size+(16-s.size%16)%16:=by rw[HG,ByteArray.size_append,nK]
theorem pU(a b:ByteArray):(KG a b).size=16:=by rw[KG,kV];rfl
theorem x7(key nonce wi se:ByteArray):(yd key nonce wi se).size=16:=JP _ _
theorem vT(key nonce wi pl:ByteArray):(qK key nonce wi pl).size=pl.size+16:=by rw[qK,ByteArray.size_append,lR,x7]
section
variable {h:H}{key nonce wi se pl s:ByteArray}
theorem tP{Q:ByteArray->H->Prop}(hs:s.size≤65536)(k:∀h',bq h h'->Q (HG s) h'):jG s h Q:=by
 unfold jG;have w:=Wd.start h;have v1:Int.tmod (s.size:Int) 16=((s.size%16:Nat):Int):=by rw[Int.tmod_eq_emod_of_nonneg (by omega)];omega
 have v2:wrap .i64 (16-((s.size%16:Nat):Int))=((16-s.size%16:Nat):Int):=by rw[IntKind.wrap_i64];omega
 have v3:Int.tmod ((16-s.size%16:Nat):Int) 16=(((16-s.size%16)%16:Nat):Int):=by rw[Int.tmod_eq_emod_of_nonneg (by omega)];omega
 refine⟨(by omega),?_⟩;simp only[v1];refine M.dN ?_;simp only[v2];refine M.dN ?_;refine⟨(by omega),?_⟩;simp only[v3];refine M.dN ?_;refine uV (by omega) (by omega) λh1 k_=>?_;have w:=w.keeps k_;clear k_;refine⟨(by simp[v1,v2,v3,Int.toNat_natCast,nK];omega),?_⟩;simp only[Int.toNat_natCast];exact k _ w.keep
theorem O9(s:ByteArray)(hs:s.size≤65536):wrap .u32 (wrap .u64 (s.size:Int))=ui (BitVec.ofNat 32 s.size)∧wrap .u32 (shr .u64 (wrap .u64 (s.size:Int)) 32)=ui (BitVec.ofNat 32 (s.size/4294967296)):=by
 have e:wrap .u64 (s.size:Int)=kH s.size:=by rw[IntKind.wrap_u64,kH];omega
 rw[e,oU,uJ,oU,Nat.mod_eq_of_lt (show s.size<18446744073709551616 by omega)];exact⟨rfl,rfl⟩
theorem D4{a:Option Addr}{c:Nat}{Q:ByteArray->H->Prop}(f:Ro eS h a 2 [wi,se])(hw:wi.size≤65536)(hs:se.size≤65536)(k:∀h',bq h h'->Q (KG wi se) h'):fh a 2 c h Q:=by
 unfold fh;obtain⟨a1,a2⟩:=O9 wi hw;obtain⟨b1,b2⟩:=O9 se hs;have g0:sa [wi,se] (Int.toNat 0)=wi:=rfl;have g1:sa [wi,se] (Int.toNat 1)=se:=rfl;have w:=(Wd.start h).jt 230 1;refine M.jn (M.times 3 ?_);refine M.bM ?_;simp only[];refine eN (by omega) ?_;refine Ro.vu f (by omega) (by omega) ?_;simp only[g0];refine M.dN ?_;simp only[a1];refine M.dN ?_;refine⟨(by omega),?_⟩;refine M.dN ?_;simp only[a2];refine M.dN ?_;refine Wd.push w 0 rfl rfl rfl (by simp[ag]) (by omega) (by omega) λa8 c9 h6 w=>?_;refine M.vis (1) (by decide) ?_;refine M.bM ?_;simp only[];refine eN (by omega) ?_;refine Ro.vu (f.keep w.keep) (by omega) (by omega) ?_;simp only[g1];refine M.dN ?_;simp only[b1];refine M.dN ?_;refine⟨(by omega),?_⟩;refine M.dN ?_;simp only[b2];refine M.dN ?_;refine Wd.push w 0 rfl rfl rfl (by simp[ag]) (by omega) (by omega) λa15 c16 h13 w=>?_;refine M.vis (2) (by decide) ?_;refine M.bM ?_;simp only[];refine gI (by omega) ?_;have w:Wd h _ [.sl 230 1 _ 4 _ (kQ [BitVec.ofNat 32 wi.size,BitVec.ofNat 32 (wi.size/4294967296),BitVec.ofNat 32 se.size,BitVec.ofNat 32 (se.size/4294967296)])]:=w;refine o6 (tB w 0 rfl (by simp)) λh2 k2=>?_;exact k _ (w.keep.trans k2)
theorem FJ{Q:ByteArray->H->Prop}(hk:key.size=32)(hn:nonce.size=12)(hw:wi.size≤16384)(hs:se.size≤16384)(k:∀h',bq h h'->Q (yd key nonce wi se) h'):iu key nonce wi se h Q:=by
 unfold iu;have e0:(0:Int)=ui 0:=rfl;have p1:=Di wi;have p2:=Di se;have hbs:((nR key nonce 0).extract (Int.toNat 0) (Int.toNat 32)).size=32:=by rw[ByteArray.size_extract,tG];rfl
 have hb0:=tG key nonce 0;have et:yd key nonce wi se=Ns ((nR key nonce 0).extract (Int.toNat 0) (Int.toNat 32)) (HG wi++HG se++KG wi se):=by simp only[yd,reduceToNat]
 have e00:ui 0=0:=rfl;generalize hB:nR key nonce 0=B at *;refine Ir (c:=0) hk hn λh1 k1=>?_;rw[hB];have w:=(Wd.start h).keeps k1;refine M.aO (λd h'=>d=yd key nonce wi se∧bq h h') (λJ hJ=>?_) (by rintro _ h2 ⟨rfl,k2⟩;exact k _ k2);have lsp:∀{h2:H} {b:Nat} {f:Nat×Nat} {Q:ByteArray->H->Prop},h2 b=some (.cells #[.string wi,.string se] 9 f)->(∀h',bq h2 h'->Q (KG wi se) h')->fh (some ⟨b,0,none⟩) 2 2 h2 Q:=λhb q=>D4 (Ro.Ho hb rfl rfl) (by omega) (by omega) q;refine⟨(by omega),(by omega),(by omega),?_⟩;simp only[];refine⟨?_,?_⟩;refine tP (by omega) λh2 k_=>?_;have w:=w.keeps k_;clear k_;refine⟨?_,?_⟩;refine tP (by omega) λh3 k_=>?_;have w:=w.keeps k_;clear k_;refine⟨(by simp;omega),?_⟩;refine M.aK w λb5 h4 w=>?_;refine lsp (w.blk 0 rfl) λh6 k_=>?_;have w:=w.keeps k_;clear k_;refine⟨(by simp[p1,p2,pU];omega),?_⟩;simp only[];refine sC (by assumption) (by simp[p1,p2,pU];omega) λh8 k_=>?_;have w:=w.keeps k_;clear k_;rotate_left;refine M.aK w λb10 h9 w=>?_;refine tP (by omega) λh11 k_=>?_;have w:=w.keeps k_;clear k_;refine⟨(by simp;omega),?_⟩;simp only[];refine lsp (w.blk 0 rfl) λh13 k_=>?_;have w:=w.keeps k_;clear k_;refine⟨(by simp[p1,p2,pU];omega),?_⟩;simp only[];refine sC (by assumption) (by simp[p1,p2,pU];omega) λh15 k_=>?_;have w:=w.keeps k_;clear k_;rotate_left;refine M.aK w λb17 h16 w=>?_;refine tP (by omega) λh18 k_=>?_;have w:=w.keeps k_;clear k_;refine tP (by omega) λh19 k_=>?_;have w:=w.keeps k_;clear k_;refine⟨(by simp;omega),?_⟩;simp only[];refine lsp (w.blk 0 rfl) λh21 k_=>?_
 have w:=w.keeps k_;clear k_;refine⟨(by simp[p1,p2,pU];omega),?_⟩;simp only[];refine sC (by assumption) (by simp[p1,p2,pU];omega) λh23 k_=>?_;have w:=w.keeps k_;clear k_;rotate_left
 all_goals exact hJ _ _ ⟨et.symm,w.keep⟩
theorem zb{Q:Bool->H->Prop}(hk:key.size=32)(hn:nonce.size=12)(k:Q true h):gA key nonce h Q:=by
 unfold gA;refine M.jn ?_;refine ct (by rw[hk];rfl) ?_;rw[hn];exact k
theorem KA{Q:ByteArray->Int->H->Prop}(hk:key.size=32)(hn:nonce.size=12)(hw:wi.size≤16384)(hp:pl.size≤16384)(k:∀h',bq h h'->Q (qK key nonce wi pl) 0 h'):iL key nonce wi pl h Q:=by
 unfold iL;have w:=Wd.start h;have e1:(1:Int)=ui 1:=rfl;have p1:=lR key nonce 1 pl;have p2:=x7 key nonce wi (nu key nonce 1 pl);refine zb (by assumption) (by assumption) ?_;refine cf (rfl) ?_;refine M.jn (gI (by omega) (gI (by omega) ?_));refine Bh (c:=1) hk hn (by omega) λh2 k2=>?_;have w:=w.keeps k2;refine FJ (by assumption) (by assumption) (by assumption) (by omega) λh1 k_=>?_;have w:=w.keeps k_;clear k_;refine⟨(by simp only[Rh,p1,p2];omega),?_⟩;simp only[];exact k _ w.keep
def ux(key nonce wi c:ByteArray):ByteArray×Int:=
 if c.size<16 then(empty,3)
 else if yd key nonce wi (c.extract 0 (c.size-16))=c.extract (c.size-16) c.size then(nu key nonce 1 (c.extract 0 (c.size-16)),0)else(empty,23)
theorem E8{key nonce wi c:ByteArray}(h:c.size<16):ux key nonce wi c=(empty,3):=by unfold ux;exact if_pos h
theorem Fc{key nonce wi c:ByteArray}(h:¬c.size<16)(e:yd key nonce wi (c.extract 0 (c.size-16))=c.extract (c.size-16) c.size):ux key nonce wi c=(nu key nonce 1 (c.extract 0 (c.size-16)),0):=by unfold ux;exact(if_neg h).trans (if_pos e)
theorem Lb{key nonce wi c:ByteArray}(h:¬c.size<16)(e:¬yd key nonce wi (c.extract 0 (c.size-16))=c.extract (c.size-16) c.size):ux key nonce wi c=(empty,23):=by unfold ux;exact(if_neg h).trans (if_neg e)
theorem JS{Q:ByteArray->Int->H->Prop}(hk:key.size=32)(hn:nonce.size=12)(hw:wi.size≤16384)(hs:s.size≤16384)(k:∀h',bq h h'->Q (ux key nonce wi s).1 (ux key nonce wi s).2 h'):iG key nonce wi s h Q:=by
 unfold iG;have w:=Wd.start h;have v1:wrap .i64 ((s.size:Int)-16)=(s.size:Int)-16:=by rw[IntKind.wrap_i64];omega
 refine M.vis _ v1 ?_;refine zb hk hn ?_;refine cf rfl ?_;by_cases h16:s.size<16
 ·rw[E8 h16]at k;refine eN (by omega) ?_;exact k _ w.keep
 have en:(s.size:Int)-16=((s.size-16:Nat):Int):=by omega
 rw[en];refine gI (by omega) ?_;refine M.jn ?_;refine gI (by omega) ?_;refine cf (decide_eq_false (by omega)) ?_;have p1:(s.extract (Int.toNat 0) (s.size-16)).size=s.size-16:=by rw[ByteArray.size_extract];show min (s.size-16) s.size-0=_;omega
 have p2:(s.extract (s.size-16) s.size).size=16:=by rw[ByteArray.size_extract];omega
 have o1:=@Fc key nonce wi s h16;have o2:=@Lb key nonce wi s h16;have e0:s.extract 0 (s.size-16)=s.extract (Int.toNat 0) (s.size-16):=by simp only[reduceToNat]
 rw[e0]at o1 o2;generalize hA:ux key nonce wi s=A at *;generalize htg:s.extract (s.size-16) s.size=tg at *;refine⟨(by omega),(by omega),(by omega),?_⟩;simp only[Int.toNat_natCast,htg];refine⟨(by omega),(by omega),(by omega),?_⟩;simp only[Int.toNat_natCast];refine FJ (by omega) (by omega) (by assumption) (by omega) λh2 k_=>?_;have w:=w.keeps k_;clear k_;refine HN (by omega) ?_
 try rw[htg]
 generalize hT:yd key nonce wi (s.extract (Int.toNat 0) (s.size-16))=T at *;by_cases e:T=tg
 ·rw[o1 e]at k;refine cf (by rw[e];simp) ?_;refine⟨by omega,by omega,by omega,?_⟩;rw[Int.toNat_natCast];refine Bh (c:=1) hk hn (by omega) λh2 k2=>?_;exact k _ (w.keep.trans k2)
 ·rw[o2 e]at k;refine ct (by simp;exact λx=>e x.symm) ?_;exact k _ w.keep
theorem HM(key nonce wi pl:ByteArray):ux key nonce wi (qK key nonce wi pl)=(pl,0):=by
 have hs:=vT key nonce wi pl;have hc:=lR key nonce 1 pl;have e1:(qK key nonce wi pl).extract 0 ((qK key nonce wi pl).size-16)=nu key nonce 1 pl:=by
  rw[hs,qK,ByteArray.extract_append_eq_left (by omega)]
 have e2:(qK key nonce wi pl).extract ((qK key nonce wi pl).size-16) (qK key nonce wi pl).size=yd key nonce wi (nu key nonce 1 pl):=by
  rw[hs,qK,ByteArray.extract_append_eq_right (by omega) (by rw[x7];omega)]
 rw[Fc (by omega) (by rw[e1,e2]),e1,D1]
end
structure cP where
 L:List ByteArray
 N:List ByteArray
 W:List (Int×ByteArray)
 dead:Bool
structure cP.Ok (M:cP):Prop where
 len:M.L.length=M.N.length
 pos:0<M.N.length
 small:M.N.length≤512
 at_:∀w∈M.W,0≤w.1∧w.1<M.N.length
namespace cP
def usable(M:cP)(at_:Int):Int:=if M.dead=true then 20 else if at_<0∨at_≥M.N.length then 2 else 0
def write(M:cP)(at_:Int)(s:ByteArray):Int×cP:=
 if M.usable at_ ≠ 0 then(M.usable at_,M)else if(s.size:Int)>2048 then(5,M)else(0,{ M with N:=M.N.set at_.toNat s,W:=M.W++[(at_,s)] })
def read(M:cP)(at_:Int):ByteArray×Int:=if M.usable at_ ≠ 0 then(empty,M.usable at_)else(M.N.getD at_.toNat empty,0)
def flush(M:cP):Int×cP:=if M.dead=true then(20,M)else(0,{ M with L:=M.N,W:=[] })
def new(n:Int):cP:=⟨List.replicate (mx 1 (mn n 512)).toNat empty,List.replicate (mx 1 (mn n 512)).toNat empty,[],false⟩
theorem pL(n:Int):0<(mx 1 (mn n 512)).toNat∧(mx 1 (mn n 512)).toNat≤512:=by
 unfold mx mn;split<;>split<;>omega
theorem wE(n:Int):(new n).Ok:=⟨rfl,by simpa [new] using(pL n).1,by simpa [new] using(pL n).2,by simp[new]⟩
theorem lM{M:cP}{a:Int}:M.usable a=0↔M.dead=false∧0≤a∧a<M.N.length:=by
 unfold usable;cases M.dead<;>simp
theorem xx{M:cP}(o:M.Ok)(a:Int)(s:ByteArray):(M.write a s).2.Ok:=by
 unfold write;split
 ·exact o
 ·rename_i h;have h':=lM.1 (Decidable.not_not.1 h);split
  ·exact o
  ·refine⟨by simpa using o.len,by simpa using o.pos,by simpa using o.small,λw hw=>?_⟩;simp only[List.mem_append,List.mem_singleton]at hw;simp only[List.length_set];rcases hw with hw|rfl
   ·exact o.at_ w hw
   ·exact⟨h'.2.1,h'.2.2⟩
theorem xk{M:cP}(o:M.Ok):M.flush.2.Ok:=by
 unfold flush;split
 ·exact o
 ·exact⟨rfl,o.pos,o.small,by simp⟩
end cP
def wr(W:List (Int×ByteArray)):List Value:=W.flatMap λw=>[.int .i64 w.1,.string w.2]
theorem CC(W:List (Int×ByteArray)):(wr W).length=W.length*2:=by
 unfold wr;induction W with
 | nil=>rfl
 | cons w W ih=>rw[List.flatMap_cons,List.length_append,ih];simp;omega
theorem Dy(W V:List (Int×ByteArray)):wr (W++V)=wr W++wr V:=by simp[wr]
theorem ND(w:Int×ByteArray)(W:List (Int×ByteArray)):wr (w::W) = .int .i64 w.1 :: .string w.2::wr W:=rfl
theorem Ik:∀(W:List (Int×ByteArray)) (i:Nat) (w:Int×ByteArray),W[i]? = some w->(wr W)[i*2]? = some (.int .i64 w.1)∧(wr W)[i*2+1]? = some (.string w.2)
 | [],i,w,h=>by simp at h
 | v::W,0,w,h=>by
  simp only[List.getElem?_cons_zero,Option.some.injEq]at h;subst h;exact⟨rfl,rfl⟩
 | v::W,i+1,w,h=>by
  have:=Ik W i w (by simpa using h);rw[ND,show(i+1)*2=i*2+1+1 by omega];exact this
def strs(l:List ByteArray):Array Value:=(l.map Value.string).toArray
def oa(d:Nat)(M:cP):Chunk:=Wd.obj (α:=Nat×Nat×Option Addr×Nat×Nat) (λv=>M.Ok∧v.2.2.2.1=M.W.length)
 λv=>[.blk d (.cells #[.slice (some ⟨v.1,0,none⟩) M.N.length M.N.length,.slice (some ⟨v.2.1,0,none⟩) M.N.length M.N.length,.slice v.2.2.1 v.2.2.2.1 v.2.2.2.2,.bool M.dead] 205 (0,0)),
  .blk v.1 (.cells (strs M.L) 9 (0,0)),.blk v.2.1 (.cells (strs M.N) 9 (0,0)),.sl 283 2 v.2.2.1 v.2.2.2.1 v.2.2.2.2 (wr M.W)]
section
variable {h0 h:H}{d:Nat}{D:cP}{at_:Int}{s:ByteArray}
theorem tS{Q:Int->H->Prop}(w:Wd h0 h [oa d D])(k:Q (D.usable at_) h):bD (some ⟨d,0,none⟩) at_ h Q:=by
 obtain⟨v,⟨ok,hl⟩,w⟩:=w.tw 0 rfl;have hd:=w.blk 0 rfl;unfold bD;unfold cP.usable at k;simp only[aS,dK,Nat.zero_add,Nat.add_zero,Nat.mul_one,Nat.one_mul,Nat.zero_mul,Nat.reduceAdd,List.setIfInBounds_toArray,List.set_cons_zero,List.set_cons_succ,List.getElem?_toArray,List.getElem?_cons_zero,List.getElem?_cons_succ,cH,int_eq,dV,fq,fQ,fP,iy,M.val,cond_true,cond_false,Bool.not_true,Bool.not_false,M.join,Option.isNone_some,dA hd];cases hdead:D.dead
 ·simp only[hdead,Bool.false_eq_true,if_false]at k;simp only[cond_false];by_cases h1:at_<0
  ·simpa [h1] using k
  ·by_cases h2:at_≥D.N.length
   ·simpa [h1,h2] using k
   ·simpa [h1,h2] using k
 ·simpa [hdead] using k
theorem rK(l:List ByteArray):(strs l).size=l.length:=by simp[strs]
theorem EJ(l:List ByteArray)(i:Nat):(strs l)[i]? = (l[i]?).map Value.string:=by simp[strs]
theorem E5(l:List ByteArray)(i:Nat)(s:ByteArray):(strs l).setIfInBounds i (.string s)=strs (l.set i s):=by simp[strs]
theorem G3{Q:Int->H->Prop}(w:Wd h0 h [oa d D])(hW:D.W.length<1000000000)(k:∀h',Wd h0 h' [oa d (D.write at_ s).2]->Q (D.write at_ s).1 h'):dR (some ⟨d,0,none⟩) at_ s h Q:=by
 unfold dR;refine tS w ?_;unfold cP.write at k;by_cases hu:D.usable at_ = 0
 ·have hu':=cP.lM.1 hu;simp only[hu,ne_eq,not_true,if_false]at k;simp only[hu,bne_self_eq_false,cond_false];by_cases hs:(s.size:Int)>2048
  ·simp only[hs,if_true]at k;simpa [hs] using k h w
  ·simp only[hs,if_false]at k;simp only[hs,decide_false,cond_false];obtain⟨⟨bl,bn,a,l,c⟩,⟨ok,hl⟩,w⟩:=w.tw 0 rfl;simp only at hl;subst hl;have hd:=w.blk 0 rfl;simp only[aS,dK,Nat.zero_add,Nat.add_zero,Nat.mul_one,Nat.one_mul,Nat.zero_mul,Nat.reduceAdd,List.setIfInBounds_toArray,List.set_cons_zero,List.set_cons_succ,List.getElem?_toArray,List.getElem?_cons_zero,List.getElem?_cons_succ,cH,int_eq,dV,fq,fQ,fP,iy,M.val,cond_true,cond_false,Bool.not_true,Bool.not_false,dA hd];refine M.mq hu'.2.1 (by simpa using hu'.2.2) ?_;simp only[aS,dK,Nat.zero_add,Nat.add_zero,Nat.mul_one,Nat.one_mul,Nat.zero_mul,Nat.reduceAdd,List.setIfInBounds_toArray,List.set_cons_zero,List.set_cons_succ,List.getElem?_toArray,List.getElem?_cons_zero,List.getElem?_cons_succ,cH,int_eq,dV,fq,fQ,fP,iy,M.val,cond_true,cond_false,Bool.not_true,Bool.not_false,dA hd];refine M.bg w 2 rfl rfl (by rw[rK];omega) λh1 w=>?_;rw[E5]at w;have hd:=w.blk 0 rfl;simp only[aS,dK,Nat.zero_add,Nat.add_zero,Nat.mul_one,Nat.one_mul,Nat.zero_mul,Nat.reduceAdd,List.setIfInBounds_toArray,List.set_cons_zero,List.set_cons_succ,List.getElem?_toArray,List.getElem?_cons_zero,List.getElem?_cons_succ,cH,int_eq,dV,fq,fQ,fP,iy,M.val,cond_true,cond_false,Bool.not_true,Bool.not_false,dA hd];refine M.EF w λb h2 hb w=>?_;refine nD hb rfl ?_;refine M.ru w 3 rfl rfl rfl (by simp[ag]) (by omega) (by omega) λa' c' h3 w=>?_;refine M.bg w 0 rfl rfl (by simp) λh4 w=>?_;refine k h4 (w.close 0 (bl,bn,a',D.W.length+1,c') ?_ ⟨?_,by simp⟩)
   ·simp[Dy,wr,strs]
   ·have:=cP.xx ok at_ s;simpa only [cP.write,hu,ne_eq,not_true,if_false,hs] using this
 ·simp only[hu,ne_eq,not_false_iff,if_true]at k;have:(D.usable at_ != 0)=true:=by simpa using hu
  simp only[this,cond_true];exact k h w
theorem JC{Q:ByteArray->Int->H->Prop}(w:Wd h0 h [oa d D])(k:Q (D.read at_).1 (D.read at_).2 h):ey (some ⟨d,0,none⟩) at_ h Q:=by
 unfold ey;refine tS w ?_;unfold cP.read at k;by_cases hu:D.usable at_ = 0
 ·have hu':=cP.lM.1 hu;simp only[hu,ne_eq,not_true,if_false]at k;simp only[hu,bne_self_eq_false,cond_false];obtain⟨⟨bl,bn,a,l,c⟩,⟨ok,hl⟩,w⟩:=w.tw 0 rfl;have hd:=w.blk 0 rfl;have hn:=w.blk 2 rfl;simp only[aS,dK,Nat.zero_add,Nat.add_zero,Nat.mul_one,Nat.one_mul,Nat.zero_mul,Nat.reduceAdd,List.setIfInBounds_toArray,List.set_cons_zero,List.set_cons_succ,List.getElem?_toArray,List.getElem?_cons_zero,List.getElem?_cons_succ,cH,int_eq,dV,fq,fQ,fP,iy,M.val,cond_true,cond_false,Bool.not_true,Bool.not_false,dA hd];refine M.mq hu'.2.1 (by simpa using hu'.2.2) ?_;have:at_.toNat<D.N.length:=by omega
  simp only[aS,dK,Nat.zero_add,Nat.add_zero,Nat.mul_one,Nat.one_mul,Nat.zero_mul,Nat.reduceAdd,List.setIfInBounds_toArray,List.set_cons_zero,List.set_cons_succ,List.getElem?_toArray,List.getElem?_cons_zero,List.getElem?_cons_succ,cH,int_eq,dV,fq,fQ,fP,iy,M.val,cond_true,cond_false,Bool.not_true,Bool.not_false,dA hn,EJ,List.getElem?_eq_getElem this,Option.map_some];simpa [List.getD_eq_getElem?_getD,this] using k
 ·simp only[hu,ne_eq,not_false_iff,if_true]at k;have:(D.usable at_ != 0)=true:=by simpa using hu
  simp only[this,cond_true];exact k
theorem tO(l:List ByteArray):(strs l).toList=l.map Value.string:=by simp[strs]
theorem ES{l l':List ByteArray}(e:l'.length=l.length):splice (strs l) 0 (l'.map Value.string)=strs l':=by
 rw[wG (by simp[rK,e])];rfl
theorem Hy{Q:Int->H->Prop}(w:Wd h0 h [oa d D])(k:∀h',Wd h0 h' [oa d D.flush.2]->Q D.flush.1 h'):dU (some ⟨d,0,none⟩) h Q:=by
 unfold dU;refine tS w ?_;unfold cP.flush at k;cases hdead:D.dead
 ·simp only[hdead,Bool.false_eq_true,if_false]at k;obtain⟨⟨bl,bn,a,l,c⟩,⟨ok,hl⟩,w⟩:=w.tw 0 rfl;have hu:D.usable 0=0:=cP.lM.2 ⟨hdead,by omega,by have:=ok.pos;omega⟩;have hd:=w.blk 0 rfl;have hn:=w.blk 2 rfl;simp only[aS,dK,Nat.zero_add,Nat.add_zero,Nat.mul_one,Nat.one_mul,Nat.zero_mul,Nat.reduceAdd,List.setIfInBounds_toArray,List.set_cons_zero,List.set_cons_succ,List.getElem?_toArray,List.getElem?_cons_zero,List.getElem?_cons_succ,cH,int_eq,dV,fq,fQ,fP,iy,M.val,cond_true,cond_false,Bool.not_true,Bool.not_false,hu,bne_self_eq_false,dA hd,Nat.min_self];refine nD hn (rK _) ?_;refine M.vM w 1 rfl (by simp[tO,ag]) (by simp[tO,rK,ok.len]) λh1 w=>?_;rw[tO,ES ok.len.symm]at w;have hd:=w.blk 0 rfl;refine M.bg w 0 rfl rfl (by simp) λh2 w=>?_;have w:=(w.drop (i:=3) rfl).jt 283 2;refine k h2 (w.close 0 (bl,bn,none,0,0) (by simp[hdead,wr]) ⟨?_,rfl⟩);have:=cP.xk ok;simpa only [cP.flush,hdead,Bool.false_eq_true,if_false] using this
 ·have hu:D.usable 0=20:=by simp[cP.usable,hdead]
  simp only[hdead,if_true]at k;simp only[hu];exact k h w
theorem KF{Q:Int->H->Prop}(w:Wd h0 h [oa d D])(k:Q D.N.length h):fS (some ⟨d,0,none⟩) h Q:=by
 obtain⟨⟨bl,bn,a,l,c⟩,⟨ok,hl⟩,w⟩:=w.tw 0 rfl;have hd:=w.blk 0 rfl;unfold fS;simp only[aS,dK,Nat.zero_add,Nat.add_zero,Nat.mul_one,Nat.one_mul,Nat.zero_mul,Nat.reduceAdd,List.setIfInBounds_toArray,List.set_cons_zero,List.set_cons_succ,List.getElem?_toArray,List.getElem?_cons_zero,List.getElem?_cons_succ,cH,int_eq,dV,fq,fQ,fP,iy,M.val,cond_true,cond_false,Bool.not_true,Bool.not_false,Option.isNone_some,dA hd];exact k
end
section
variable {h0 h:H}{d:Nat}{D:cP}{at_:Int}{s:ByteArray}
theorem Bo(n:Nat):(gx [.string empty] n).toArray=strs (List.replicate n empty):=by
 unfold gx strs;rw[List.map_replicate];congr 1;induction n with
 | zero=>rfl
 | succ n ih=>rw[List.replicate_succ,List.flatten_cons,ih];rfl
theorem MR{n:Int}{Q:Option Addr->H->Prop}(k:∀d h',Wd h h' [oa d (cP.new n)]->Q (some ⟨d,0,none⟩) h'):jO n h Q:=by
 have hn:=cP.pL n
 have fin:∀b1 b2 b h',Wd h h' [.blk b1 (.cells (gx [.string empty] (mx 1 (mn n 512)).toNat).toArray 9),.blk b2 (.cells (gx [.string empty] (mx 1 (mn n 512)).toNat).toArray 9),
   .blk b (.cells #[.slice (some ⟨b1,0,none⟩) (mx 1 (mn n 512)).toNat (mx 1 (mn n 512)).toNat,.slice (some ⟨b2,0,none⟩) (mx 1 (mn n 512)).toNat (mx 1 (mn n 512)).toNat,.slice none 0 0,.bool false] 205)]->Q (some ⟨b,0,none⟩) h':=by
  intro b1 b2 b h' w;have w:=((w.mv (i:=0) rfl).mv (i:=0) rfl).jt 283 2;refine k b h' (w.close 0 (b1,b2,none,0,0) ?_ ⟨cP.wE n,rfl⟩);simp[cP.new,Bo,wr]
 unfold jO;refine M.jn ⟨?_,?_⟩
 ·refine M.zM (Wd.start h) (by omega) (by omega) (by omega) (by omega) λb1 h1 w=>?_;refine M.zM w (by omega) (by omega) (by omega) (by omega) λb2 h2 w=>?_;exact M.aK w λb h3 w=>fin b1 b2 b h3 w
 ·refine M.zM (Wd.start h) (by omega) (by omega) (by omega) (by omega) λb1 h1 w=>?_;refine M.zM w (by omega) (by omega) (by omega) (by omega) λb2 h2 w=>?_
  exact M.aK w λb h3 w=>fin b2 b1 b h3 (by
   have:=w.mv (i:=0) rfl
   exact this.mv (i:=1) rfl)
end
def mo(W:List (Int×ByteArray))(L:List ByteArray):List ByteArray:=W.foldl (λL w=>L.set w.1.toNat w.2) L
theorem oH:∀(W:List (Int×ByteArray)) (L:List ByteArray),(mo W L).length=L.length
 | [],_=>rfl
 | w::W,L=>by rw[show mo (w::W) L=mo W (L.set w.1.toNat w.2)from rfl,oH];simp
theorem qW(W V:List (Int×ByteArray))(L:List ByteArray):mo (W++V) L=mo V (mo W L):=List.foldl_append
theorem vJ:∀(W:List (Int×ByteArray)) (L:List ByteArray) (i:Nat),(∀w∈W,w.1.toNat≠i)->(mo W L)[i]? = L[i]?
 | [],_,_,_=>rfl
 | w::W,L,i,h=>by
  rw[show mo (w::W) L=mo W (L.set w.1.toNat w.2)from rfl,vJ W _ i λv hv=>h v (by simp[hv]),List.getElem?_set_ne (h w (by simp))]
namespace cP
def Sync(D:cP):Prop:=D.dead=false->D.N=mo D.W D.L
variable {D:cP}
theorem L7(n:Int):(new n).Sync:=λ_=>rfl
theorem Hf(o:D.Sync)(a:Int)(s:ByteArray):(D.write a s).2.Sync:=by
 unfold write;split
 ·exact o
 ·split
  ·exact o
  ·intro hd;rw[qW,←o hd];rfl
theorem HZ(o:D.Sync):D.flush.2.Sync:=by
 unfold flush;split
 ·exact o
 ·exact λ_=>rfl
end cP
def xg(d:Nat)(D:cP):Chunk:=Wd.obj (α:=Nat×Option Addr×Nat×Nat) (λv=>(D.Ok∧D.Sync)∧v.2.2.1=D.W.length)
 λv=>[.blk d (.cells #[.slice (some ⟨v.1,0,none⟩) D.L.length D.L.length,.slice v.2.1 v.2.2.1 v.2.2.2,.bool D.dead] 168 (0,0)),
  .blk v.1 (.cells (strs D.L) 9 (0,0)),.sl 286 2 v.2.1 v.2.2.1 v.2.2.2 (wr D.W)]
section
variable {h0 h:H}{d:Nat}{D:cP}{at_:Int}{s:ByteArray}
theorem RO{n:Int}{Q:Option Addr->H->Prop}(k:∀d h',Wd h h' [xg d (cP.new n)]->Q (some ⟨d,0,none⟩) h'):jk n h Q:=by
 have hn:=cP.pL n;have fin:∀m h1,h1=h->m=mx 1 (mn n 512)->M.mk h1 9 [(.string (empty))] 16 m m λa8 l9 c10 h11=>M.new h11 (.cells (#[(.slice a8 l9 c10),(.slice none 0 0),(.bool false)]:Array Value) 168) λb12 h13=>Q (some (⟨b12,0,none⟩:Addr)) h13:=by
  rintro m h1 rfl rfl;refine M.zM (Wd.start _) (by omega) (by omega) (by omega) (by omega) λb1 h1 w=>?_;refine M.aK w λb h3 w=>?_;have w:=(w.mv (i:=0) rfl).jt 286 2;refine k b h3 (w.close 0 (b1,none,0,0) ?_ ⟨⟨cP.wE n,cP.L7 n⟩,rfl⟩);simp[cP.new,Bo,wr]
 unfold jk;refine M.jn ?_;unfold M.join;by_cases h1:n<1
 ·simp only[h1,decide_true,cond_true];exact fin _ _ rfl (by unfold mx mn;split<;>split<;>omega)
 ·simp only[h1,decide_false,cond_false];by_cases h2:n>512
  ·simp only[h2,decide_true,cond_true];exact fin _ _ rfl (by unfold mx mn;split<;>split<;>omega)
  ·simp only[h2,decide_false,cond_false];exact fin _ _ rfl (by unfold mx mn;split<;>split<;>omega)
theorem RJ{Q:Int->H->Prop}(w:Wd h0 h [xg d D])(hW:D.W.length<1000000000)(k:∀h',Wd h0 h' [xg d (D.write at_ s).2]->Q (D.write at_ s).1 h'):jl (some ⟨d,0,none⟩) at_ s h Q:=by
 have w0:=w;obtain⟨⟨bl,a,l,c⟩,⟨⟨ok,sy⟩,hl⟩,w⟩:=w.tw 0 rfl;simp only at hl;subst hl;have hd:=w.blk 0 rfl;unfold jl;simp only[aS,dK,Nat.zero_add,Nat.add_zero,Nat.mul_one,Nat.one_mul,Nat.zero_mul,Nat.reduceAdd,List.setIfInBounds_toArray,List.set_cons_zero,List.set_cons_succ,List.getElem?_toArray,List.getElem?_cons_zero,List.getElem?_cons_succ,cH,int_eq,dV,fq,fQ,fP,iy,M.val,cond_true,cond_false,Bool.not_true,Bool.not_false,dA hd];cases hdead:D.dead
 ·simp only[cond_false];refine M.aO (λb h'=>b=decide (at_<0∨at_≥D.N.length)∧h'=h) (λJ hJ=>?_) ?_
  ·by_cases h1:at_<0
   ·simp only[h1,decide_true,cond_true];exact hJ _ _ ⟨by simp[h1],rfl⟩
   ·simp only[aS,dK,Nat.zero_add,Nat.add_zero,Nat.mul_one,Nat.one_mul,Nat.zero_mul,Nat.reduceAdd,List.setIfInBounds_toArray,List.set_cons_zero,List.set_cons_succ,List.getElem?_toArray,List.getElem?_cons_zero,List.getElem?_cons_succ,cH,int_eq,dV,fq,fQ,fP,iy,M.val,cond_true,cond_false,Bool.not_true,Bool.not_false,h1,decide_false,dA hd];exact hJ _ _ ⟨by simp[h1,ok.len],rfl⟩
  ·rintro b h' ⟨rfl,rfl⟩;unfold cP.write at k;by_cases hr:at_<0∨at_≥D.N.length
   ·have hu:D.usable at_ = 2:=by simp[cP.usable,hdead,hr]
    simp only[hu,ne_eq,show ¬((2:Int)=0) by omega,not_false_iff,if_true]at k;simp only[hr,decide_true,cond_true];exact k _ w0
   ·have hu:D.usable at_ = 0:=cP.lM.2 ⟨hdead,by omega,by omega⟩;simp only[hr,decide_false,cond_false];by_cases hs:(s.size:Int)>2048
    ·simp only[hu,hs,ne_eq,not_true,if_false,if_true]at k;simp only[hs,decide_true,cond_true];exact k _ w0
    ·simp only[hu,hs,ne_eq,not_true,if_false]at k;simp only[aS,dK,Nat.zero_add,Nat.add_zero,Nat.mul_one,Nat.one_mul,Nat.zero_mul,Nat.reduceAdd,List.setIfInBounds_toArray,List.set_cons_zero,List.set_cons_succ,List.getElem?_toArray,List.getElem?_cons_zero,List.getElem?_cons_succ,cH,int_eq,dV,fq,fQ,fP,iy,M.val,cond_true,cond_false,Bool.not_true,Bool.not_false,hs,decide_false,dA hd];refine M.EF w λb h2 hb w=>?_;refine nD hb rfl ?_;refine M.ru w 2 rfl rfl rfl (by simp[ag]) (by omega) (by omega) λa' c' h3 w=>?_;refine M.bg w 0 rfl rfl (by simp) λh4 w=>?_;refine k h4 (w.close 0 (bl,a',D.W.length+1,c') ?_ ⟨?_,by simp⟩)
     ·simp[Dy,wr,hdead]
     ·have h1:=cP.xx ok at_ s;have h2:=cP.Hf sy at_ s;simp only[cP.write,hu,ne_eq,not_true,if_false,hs]at h1 h2;exact⟨h1,h2⟩
 ·have hu:D.usable at_ = 20:=by simp[cP.usable,hdead]
  simp only[cP.write,hu,ne_eq,show ¬((20:Int)=0) by omega,not_false_iff,if_true]at k;simp only[cond_true];exact k _ w0
theorem Rk{Q:ByteArray->Int->H->Prop}(w:Wd h0 h [xg d D])(hW:D.W.length<1000000000)(k:Q (D.read at_).1 (D.read at_).2 h):iO (some ⟨d,0,none⟩) at_ h Q:=by
 have w0:=w;obtain⟨⟨bl,a,l,c⟩,⟨⟨ok,sy⟩,hl⟩,w⟩:=w.tw 0 rfl;simp only at hl;subst hl;have hd:=w.blk 0 rfl;have hbl:=w.blk 1 rfl;obtain⟨_,_,hsn,hsr⟩:=w.mI 2 rfl;unfold iO;unfold cP.read at k;simp only[aS,dK,Nat.zero_add,Nat.add_zero,Nat.mul_one,Nat.one_mul,Nat.zero_mul,Nat.reduceAdd,List.setIfInBounds_toArray,List.set_cons_zero,List.set_cons_succ,List.getElem?_toArray,List.getElem?_cons_zero,List.getElem?_cons_succ,cH,int_eq,dV,fq,fQ,fP,iy,M.val,cond_true,cond_false,Bool.not_true,Bool.not_false,dA hd];cases hdead:D.dead
 ·simp only[cond_false];refine M.aO (λb h'=>b=decide (at_<0∨at_≥D.N.length)∧h'=h) (λJ hJ=>?_) ?_
  ·by_cases h1:at_<0
   ·simp only[h1,decide_true,cond_true,cond_false];exact hJ _ _ ⟨by simp[h1],rfl⟩
   ·simp only[aS,dK,Nat.zero_add,Nat.add_zero,Nat.mul_one,Nat.one_mul,Nat.zero_mul,Nat.reduceAdd,List.setIfInBounds_toArray,List.set_cons_zero,List.set_cons_succ,List.getElem?_toArray,List.getElem?_cons_zero,List.getElem?_cons_succ,cH,int_eq,dV,fq,fQ,fP,iy,M.val,cond_true,cond_false,Bool.not_true,Bool.not_false,h1,decide_false,dA hd];exact hJ _ _ ⟨by simp[h1,ok.len],rfl⟩
  ·rintro b h' ⟨rfl,rfl⟩;by_cases hr:at_<0∨at_≥D.N.length
   ·have hu:D.usable at_ = 2:=by simp[cP.usable,hdead,hr]
    simp only[hu,ne_eq,show ¬((2:Int)=0) by omega,not_false_iff,if_true]at k;simp only[hr,decide_true,cond_true];exact k
   ·have hu:D.usable at_ = 0:=cP.lM.2 ⟨hdead,by omega,by omega⟩;have hat:at_.toNat<D.L.length:=by rw[ok.len];omega
    simp only[hu,ne_eq,not_true,if_false,sy hdead]at k;have hw:wrap .i64 (((D.W.length:Nat):Int)-1)=(D.W.length:Int)-1:=by rw[IntKind.wrap_i64];omega
    simp only[aS,dK,Nat.zero_add,Nat.add_zero,Nat.mul_one,Nat.one_mul,Nat.zero_mul,Nat.reduceAdd,List.setIfInBounds_toArray,List.set_cons_zero,List.set_cons_succ,List.getElem?_toArray,List.getElem?_cons_zero,List.getElem?_cons_succ,cH,int_eq,dV,fq,fQ,fP,iy,M.val,cond_true,cond_false,Bool.not_true,Bool.not_false,hr,decide_false,dA hd,hw];refine M.jn ?_;refine M.aP (I:=λ(i:Int) h2=>h2=h' ∧ -1≤i∧i<D.W.length∧∀(j:Nat) (w:Int×ByteArray),i<(j:Int)->D.W[j]? = some w->w.1≠at_) (μ:=λi=>(i+1).toNat) ⟨rfl,by omega,by omega,λj w hj hw=>?_⟩ ?_
    ·have:=(List.getElem?_eq_some_iff.1 hw).1;omega
    ·rintro i h2 J ⟨rfl,hi0,hi1,hno⟩ hJ;simp only[aS,dK,Nat.zero_add,Nat.add_zero,Nat.mul_one,Nat.one_mul,Nat.zero_mul,Nat.reduceAdd,List.setIfInBounds_toArray,List.set_cons_zero,List.set_cons_succ,List.getElem?_toArray,List.getElem?_cons_zero,List.getElem?_cons_succ,cH,int_eq,dV,fq,fQ,fP,iy,M.val,cond_true,cond_false,Bool.not_true,Bool.not_false,dA hd];by_cases hlt:i≥0
     ·have hlt':i.toNat<D.W.length:=by omega
      cases a with
      | none=>have:D.W.length=0:=(hsn rfl).2;omega
      | some ab=>
       have hrow:=hsr ab rfl;have hg:=Ik D.W i.toNat D.W[i.toNat] (List.getElem?_eq_getElem hlt');have hlen:=CC D.W;have c0:h2.cell (ab.add (i.toNat * 2))=some (.int .i64 D.W[i.toNat].1):=by rw[hrow _ (by omega)];exact hg.1
       have c1:h2.cell (ab.add (i.toNat * 2+1))=some (.string D.W[i.toNat].2):=by rw[hrow _ (by omega)];exact hg.2
       simp only[hlt,decide_true,cond_true];refine M.mq hlt hi1 ?_;simp only[aS,dK,Nat.zero_add,Nat.add_zero,Nat.mul_one,Nat.one_mul,Nat.zero_mul,Nat.reduceAdd,List.setIfInBounds_toArray,List.set_cons_zero,List.set_cons_succ,List.getElem?_toArray,List.getElem?_cons_zero,List.getElem?_cons_succ,cH,int_eq,dV,fq,fQ,fP,iy,M.val,cond_true,cond_false,Bool.not_true,Bool.not_false,KT,c0,c1];have hdr:D.W=D.W.take i.toNat++(D.W[i.toNat]::D.W.drop (i.toNat+1)):=by rw[←List.drop_eq_getElem_cons hlt',List.take_append_drop]
       by_cases he:D.W[i.toNat].1=at_
       ·simp only[he,beq_self_eq_true,cond_true];refine M.mq hlt hi1 ?_;simp only[aS,dK,Nat.zero_add,Nat.add_zero,Nat.mul_one,Nat.one_mul,Nat.zero_mul,Nat.reduceAdd,List.setIfInBounds_toArray,List.set_cons_zero,List.set_cons_succ,List.getElem?_toArray,List.getElem?_cons_zero,List.getElem?_cons_succ,cH,int_eq,dV,fq,fQ,fP,iy,M.val,cond_true,cond_false,Bool.not_true,Bool.not_false,KT,c0,c1];have e1:(mo D.W D.L)[at_.toNat]? = some D.W[i.toNat].2:=by
         conv=>lhs;rw[hdr]
         rw[qW,show ∀X Y,mo (D.W[i.toNat]::X) Y=mo X (Y.set D.W[i.toNat].1.toNat D.W[i.toNat].2)from λ_ _=>rfl,vJ]
         ·rw[he,List.getElem?_set_self (by rw[oH];exact hat)]
         ·intro v hv;obtain⟨j,hj,rfl⟩:=List.getElem_of_mem hv;have hjl:i.toNat+1+j<D.W.length:=by simp at hj;omega
          rw[List.getElem_drop];have h1:=hno (i.toNat+1+j) _ (by omega) (List.getElem?_eq_getElem hjl);have h2:=(ok.at_ _ (List.getElem_mem hjl)).1;omega
        rw[List.getD_eq_getElem?_getD,e1]at k;exact k
       ·have he':(D.W[i.toNat].1 == at_)=false:=by simpa using he
        have hw2:wrap .i64 (i-1)=i-1:=by rw[IntKind.wrap_i64];omega
        simp only[he',cond_false,hw2];refine hJ _ _ ⟨rfl,by omega,by omega,λj w hj hw=>?_⟩ (by omega);by_cases hji:j=i.toNat
        ·subst hji;rw[List.getElem?_eq_getElem hlt']at hw;simp only[Option.some.injEq]at hw;rw[←hw];exact he
        ·exact hno j w (by omega) hw
     ·simp only[hlt,decide_false,cond_false];refine M.mq (by omega) (by rw[ok.len];omega) ?_;have e1:(mo D.W D.L)[at_.toNat]? = D.L[at_.toNat]?:=vJ _ _ _ λv hv=>by
       obtain⟨j,hj,rfl⟩:=List.getElem_of_mem hv;have h1:=hno j _ (by omega) (List.getElem?_eq_getElem hj);have h2:=(ok.at_ _ (List.getElem_mem hj)).1;omega
      simp only[aS,dK,Nat.zero_add,Nat.add_zero,Nat.mul_one,Nat.one_mul,Nat.zero_mul,Nat.reduceAdd,List.setIfInBounds_toArray,List.set_cons_zero,List.set_cons_succ,List.getElem?_toArray,List.getElem?_cons_zero,List.getElem?_cons_succ,cH,int_eq,dV,fq,fQ,fP,iy,M.val,cond_true,cond_false,Bool.not_true,Bool.not_false,dA hbl,EJ,List.getElem?_eq_getElem hat,Option.map_some];rw[List.getD_eq_getElem?_getD,e1,List.getElem?_eq_getElem hat]at k;exact k
 ·have hu:D.usable at_ = 20:=by simp[cP.usable,hdead]
  simp only[hu,ne_eq,show ¬((20:Int)=0) by omega,not_false_iff,if_true]at k;simp only[cond_true];exact k
theorem Qh{Q:Int->H->Prop}(w:Wd h0 h [xg d D])(hW:D.W.length<1000000000)(k:∀h',Wd h0 h' [xg d D.flush.2]->Q D.flush.1 h'):gY (some ⟨d,0,none⟩) h Q:=by
 have w0:=w;obtain⟨⟨bl,a,l,c⟩,⟨⟨ok,sy⟩,hl⟩,w⟩:=w.tw 0 rfl;simp only at hl;subst hl;have hd:=w.blk 0 rfl;unfold gY;have h1:=cP.xk ok;have h2:=cP.HZ sy;unfold cP.flush at k h1 h2;simp only[aS,dK,Nat.zero_add,Nat.add_zero,Nat.mul_one,Nat.one_mul,Nat.zero_mul,Nat.reduceAdd,List.setIfInBounds_toArray,List.set_cons_zero,List.set_cons_succ,List.getElem?_toArray,List.getElem?_cons_zero,List.getElem?_cons_succ,cH,int_eq,dV,fq,fQ,fP,iy,M.val,cond_true,cond_false,Bool.not_true,Bool.not_false,dA hd];cases hdead:D.dead
 ·simp only[hdead,Bool.false_eq_true,if_false]at k h1 h2;simp only[cond_false];refine M.jn ?_
  refine M.aP (I:=λ(i:Int) h'=>0≤i∧i≤D.W.length∧Wd h0 h' [.blk d (.cells #[.slice (some ⟨bl,0,none⟩) D.L.length D.L.length,.slice a D.W.length c,.bool false] 168 (0,0)),
    .blk bl (.cells (strs (mo (D.W.take i.toNat) D.L)) 9 (0,0)),.sl 286 2 a D.W.length c (wr D.W)]) (μ:=λi=>(D.W.length-i).toNat) ⟨by omega,by omega,by simpa [hdead,mo] using w⟩ ?_
  rintro i h1' J ⟨hi0,hi1,w⟩ hJ;have hd:=w.blk 0 rfl;obtain⟨_,_,hsn,hsr⟩:=w.mI 2 rfl;simp only[aS,dK,Nat.zero_add,Nat.add_zero,Nat.mul_one,Nat.one_mul,Nat.zero_mul,Nat.reduceAdd,List.setIfInBounds_toArray,List.set_cons_zero,List.set_cons_succ,List.getElem?_toArray,List.getElem?_cons_zero,List.getElem?_cons_succ,cH,int_eq,dV,fq,fQ,fP,iy,M.val,cond_true,cond_false,Bool.not_true,Bool.not_false,dA hd];by_cases hlt:i<D.W.length
  ·have hlt':i.toNat<D.W.length:=by omega
   cases a with
   | none=>have:D.W.length=0:=(hsn rfl).2;omega
   | some ab=>
    have hrow:=hsr ab rfl;have hg:=Ik D.W i.toNat D.W[i.toNat] (List.getElem?_eq_getElem hlt');have hlen:=CC D.W;have hin:=ok.at_ D.W[i.toNat] (List.getElem_mem _);have c0:h1'.cell (ab.add (i.toNat * 2))=some (.int .i64 D.W[i.toNat].1):=by rw[hrow _ (by omega)];exact hg.1
    have c1:h1'.cell (ab.add (i.toNat * 2+1))=some (.string D.W[i.toNat].2):=by rw[hrow _ (by omega)];exact hg.2
    have hw1:wrap .i64 (i+1)=i+1:=by rw[IntKind.wrap_i64];omega
    simp only[hlt,decide_true,cond_true];refine M.mq hi0 hlt ?_;simp only[aS,dK,Nat.zero_add,Nat.add_zero,Nat.mul_one,Nat.one_mul,Nat.zero_mul,Nat.reduceAdd,List.setIfInBounds_toArray,List.set_cons_zero,List.set_cons_succ,List.getElem?_toArray,List.getElem?_cons_zero,List.getElem?_cons_succ,cH,int_eq,dV,fq,fQ,fP,iy,M.val,cond_true,cond_false,Bool.not_true,Bool.not_false,KT,c0,c1,dA hd];refine M.mq hi0 hlt ?_;simp only[aS,dK,Nat.zero_add,Nat.add_zero,Nat.mul_one,Nat.one_mul,Nat.zero_mul,Nat.reduceAdd,List.setIfInBounds_toArray,List.set_cons_zero,List.set_cons_succ,List.getElem?_toArray,List.getElem?_cons_zero,List.getElem?_cons_succ,cH,int_eq,dV,fq,fQ,fP,iy,M.val,cond_true,cond_false,Bool.not_true,Bool.not_false,KT,c0,c1];refine M.mq hin.1 (by rw[ok.len];exact hin.2) ?_;simp only[aS,dK,Nat.zero_add,Nat.add_zero,Nat.mul_one,Nat.one_mul,Nat.zero_mul,Nat.reduceAdd,List.setIfInBounds_toArray,List.set_cons_zero,List.set_cons_succ,List.getElem?_toArray,List.getElem?_cons_zero,List.getElem?_cons_succ,cH,int_eq,dV,fq,fQ,fP,iy,M.val,cond_true,cond_false,Bool.not_true,Bool.not_false];refine M.bg w 1 rfl rfl (by rw[rK,oH,ok.len];omega) λh2' w=>?_;rw[E5]at w;rw[hw1];refine hJ _ _ ⟨by omega,by omega,?_⟩ (by omega);have:mo (D.W.take (i+1).toNat) D.L=(mo (D.W.take i.toNat) D.L).set D.W[i.toNat].1.toNat D.W[i.toNat].2:=by
     rw[show(i+1).toNat=i.toNat+1 by omega,List.take_succ_eq_append_getElem hlt',qW];rfl
    rw[this];exact w
  ·simp only[hlt,decide_false,cond_false];have:i.toNat=D.W.length:=by omega
   rw[this,List.take_length]at w;refine M.bg w 0 rfl rfl (by simp) λh2' w=>?_;have w:=(w.drop (i:=2) rfl).jt 286 2;refine k h2' (w.close 0 (bl,none,0,0) ?_ ⟨⟨h1,h2⟩,rfl⟩);simp[sy hdead,oH,wr,hdead]
 ·simp only[hdead,if_true]at k;simp only[cond_true];exact k _ w0
end
theorem Jn{n k:Int}(h0:0≤n)(hk:0<k):0≤Int.tmod n k∧Int.tmod n k<k:=by
 rw[Int.tmod_eq_emod_of_nonneg h0];exact⟨Int.emod_nonneg _ (by omega),Int.emod_lt_of_pos _ hk⟩
section
variable {h0 h:H}{d:Nat}{D:cP}{at_:Int}{s:ByteArray}
theorem Qw{x y:ByteArray}:mX x y=true↔x=y:=by
 unfold mX;rw[beq_iff_eq,ByteArray.toList_eq,ByteArray.toList_eq];obtain⟨⟨x⟩⟩:=x;obtain⟨⟨y⟩⟩:=y;simp
end
namespace cP
theorem JL(D:cP)(a:Int)(s:ByteArray):(D.write a s).2.W.length≤D.W.length+1∧(D.write a s).2.N.length=D.N.length∧(D.write a s).2.dead=D.dead:=by
 unfold write;split
 ·exact⟨by simp,rfl,rfl⟩
 ·split
  ·exact⟨by simp,rfl,rfl⟩
  ·simp
theorem Ku(D:cP):D.flush.2.W.length≤D.W.length∧D.flush.2.N.length=D.N.length∧D.flush.2.dead=D.dead:=by
 unfold flush;split<;>simp
end cP
section
variable {h0 h:H}{d:Nat}{D:cP}{at_:Int}{s:ByteArray}
theorem z8(n:Int): -7≤Int.tmod n 8∧Int.tmod n 8≤7:=by
 rcases Int.le_total 0 n with h|h
 ·have:=Jn h (show(0:Int)<8 by omega);omega
 ·have:=Jn (show 0 ≤ -n by omega) (show(0:Int)<8 by omega);rw[Int.neg_tmod]at this;omega
end
section
variable {h0 h:H}{d:Nat}{D:cP}{at_:Int}{s:ByteArray}
structure Texts (h:H) (a:Option Addr) (l:Nat) (xs:List ByteArray):Prop where
 len:xs.length=l
 nil:a=none->l=0
 row:∀b,a=some b->Sh.rowAt h b (xs.map Value.string)
 size:∀s∈xs,s.size≤maxLen
theorem row_take{h:H}{a:Addr}{vs:List Value}(r:Sh.rowAt h a vs)(n:Nat):Sh.rowAt h a (vs.take n):=λi hi=>by
 rw[r i (by simp at hi;omega),List.getElem?_take,if_pos (by simp at hi;omega)]
end
structure ak where
 ds:List cP
 steps:Int
 oN:Bool
 left:Int
def ak.bad(B:ak)(i:Int):Prop:=i<0∨i≥B.ds.length
instance (B:ak) (i:Int):Decidable (B.bad i):=by unfold ak.bad;infer_instance
structure ak.Ok (B:ak):Prop where
 pos:0<B.ds.length
 small:B.ds.length≤12
 left:0≤B.left
 Qx:0≤B.steps
namespace ak
variable (B:ak)
def there(i:Int):Int:=if B.bad i then 11 else 0
def hU(i:Int):cP:=B.ds.getD i.toNat ⟨[],[],[],true⟩
def set(i:Int)(D:cP):ak:={ B with ds:=B.ds.set i.toNat D }
def jS:Prop:=B.oN=true∧B.left=0
instance:Decidable B.jS:=by unfold jS;infer_instance
def iU:Int×ak:=if B.jS then(21,B)else(0,{ B with left:=if B.oN=true then B.left-1 else B.left,steps:=B.steps+1 })
def write(i at_:Int)(s:ByteArray):Int×ak:=
 if B.bad i then(11,B)else if B.jS then(21,B)else(((B.hU i).write at_ s).1,B.iU.2.set i ((B.hU i).write at_ s).2)
def flush(i:Int):Int×ak:=
 if B.bad i then(11,B)else if B.jS then(21,B)else((B.hU i).flush.1,B.iU.2.set i (B.hU i).flush.2)
def read(i at_:Int):ByteArray×Int:=if B.bad i then(empty,11)else if B.jS then(empty,21)else(B.hU i).read at_
def new(n cells:Int):ak:=⟨List.replicate (mx 1 (mn n 12)).toNat (cP.new cells),0,false,0⟩
theorem j3:B.iU.2.ds=B.ds:=by unfold iU;split<;>rfl
variable {B}
theorem jX{i:Int}:¬B.bad i↔0≤i∧i<B.ds.length:=by unfold bad;omega
theorem zY{i:Int}(hi:¬B.bad i):∃h:i.toNat<B.ds.length,B.ds[i.toNat]=B.hU i:=by
 have:=jX.1 hi;have h:i.toNat<B.ds.length:=by omega
 exact⟨h,by simp[hU,List.getD_eq_getElem?_getD,h]⟩
theorem pL(n:Int):0<(mx 1 (mn n 12)).toNat∧(mx 1 (mn n 12)).toNat≤12:=by
 unfold mx mn;split<;>split<;>omega
theorem wE(n c:Int):(new n c).Ok:=⟨by simpa [new] using(pL n).1,by simpa [new] using(pL n).2,by simp[new],by simp[new]⟩
theorem tW(o:B.Ok):B.iU.2.Ok:=by
 unfold iU;split
 ·exact o
 ·rename_i h;refine⟨o.pos,o.small,?_,by have:=o.Qx;simp only;omega⟩;simp only;by_cases hf:B.oN=true
  ·have:=o.left;have:B.left≠0:=λe=>h ⟨hf,e⟩;rw[if_pos hf];omega
  ·rw[if_neg hf];exact o.left
theorem BM(o:B.Ok)(i:Int)(D:cP):(B.set i D).Ok:=⟨by simpa [set] using o.pos,by simpa [set] using o.small,o.left,o.Qx⟩
theorem xx(o:B.Ok)(i a:Int)(s:ByteArray):(B.write i a s).2.Ok:=by
 unfold write;split
 ·exact o
 ·split
  ·exact o
  ·exact BM (tW o) _ _
theorem xk(o:B.Ok)(i:Int):(B.flush i).2.Ok:=by
 unfold flush;split
 ·exact o
 ·split
  ·exact o
  ·exact BM (tW o) _ _
end ak
def zP(l:List Nat):List Value:=l.map λd=>Value.pointer (some ⟨d,0,none⟩)
theorem AX(l:List Nat):(zP l).length=l.length:=by simp[zP]
theorem AU{l:List Nat}{i:Nat}(h:i<l.length):(zP l)[i]? = some (.pointer (some ⟨l[i],0,none⟩)):=by simp[zP,h]
theorem BQ{f:Nat->cP->Chunk}{h0 h:H}{L:List Chunk}{k:Nat}{ps:List Nat}{Ds:List cP}(w:Wd h0 h L)(hk:L[k]? = some (.sep (List.zipWith f ps Ds))){j:Nat}(hp:j<ps.length)(hD:j<Ds.length):
  ∃h1,bq h0 h1∧bq h1 h∧Wd h1 h [f ps[j] Ds[j]]∧Wd h0 h1 (L.eraseIdx k)∧∀h' D',Wd h1 h' [f ps[j] D']->Wd h0 h' (L.set k (.sep (List.zipWith f ps (Ds.set j D')))):=by
 obtain⟨h1,k0,k1,w1,wr,back⟩:=w.on hk;have w1':Wd h1 h (List.zipWith f ps Ds):=w1.le (Chunk.xS _);have hj:(List.zipWith f ps Ds)[j]? = some (f ps[j] Ds[j]):=by rw[List.getElem?_zipWith];simp[hp,hD]
 obtain⟨h2,k2,k3,w2,wr2,back2⟩:=w1'.on hj;refine⟨h2,k0.trans k2,k3,w2,wr.keeps k2,λh' D' w'=>back _ _ ?_⟩;have:=back2 _ _ w';have e:(List.zipWith f ps Ds).set j (f ps[j] D')=List.zipWith f ps (Ds.set j D'):=by
  apply List.ext_getElem?;intro x;rw[List.getElem?_set,List.getElem?_zipWith,List.getElem?_zipWith,List.getElem?_set];by_cases hx:j=x
  ·subst hx;simp[hp,hD];omega
  ·simp[hx]
 rw[e]at this;exact this.le (Chunk.pJ _)
def dO(b:Nat)(B:ak):Chunk:=Wd.obj (α:=Option Addr×Nat×List Nat) (λv=>B.Ok∧v.2.2.length=B.ds.length)
 λv=>[.blk b (.cells #[.slice v.1 B.ds.length v.2.1,.int .i64 B.steps,.bool B.oN,.int .i64 B.left] 153 (0,0)),.sl 90 1 v.1 B.ds.length v.2.1 (zP v.2.2),.sep (List.zipWith oa v.2.2 B.ds)]
section
variable {h0 h:H}{b:Nat}{B:ak}{i at_:Int}{s:ByteArray}
theorem xA(w:Wd h0 h [dO b B]):B.Ok:=by
 obtain⟨_,⟨ok,_⟩,_⟩:=w.tw 0 rfl;exact ok
theorem EH{Q:Int->H->Prop}(w:Wd h0 h [dO b B])(k:Q B.ds.length h):cM (some ⟨b,0,none⟩) h Q:=by
 obtain⟨v,⟨ok,hl⟩,w⟩:=w.tw 0 rfl;have hb:=w.blk 0 rfl;unfold cM;simp only[aS,dK,Nat.zero_add,Nat.add_zero,Nat.mul_one,Nat.one_mul,Nat.zero_mul,Nat.reduceAdd,List.setIfInBounds_toArray,List.set_cons_zero,List.set_cons_succ,List.getElem?_toArray,List.getElem?_cons_zero,List.getElem?_cons_succ,cH,int_eq,dV,fq,fQ,fP,iy,M.val,cond_true,cond_false,Bool.not_true,Bool.not_false,Option.isNone_some,dA hb];exact k
theorem Nj{Q:Option Addr->H->Prop}(w:Wd h0 h [dO b B])(kn:B.bad i->Q none h)
  (k:¬B.bad i->∀p h1,bq h0 h1->bq h1 h->Wd h1 h [oa p (B.hU i)]->(∀h' D',Wd h1 h' [oa p D']->Wd h0 h' [dO b (B.set i D')])->Q (some ⟨p,0,none⟩) h):cw (some ⟨b,0,none⟩) i h Q:=by
 obtain⟨⟨a,c,ps⟩,⟨ok,hl⟩,w⟩:=w.tw 0 rfl;have hb:=w.blk 0 rfl;obtain⟨_,_,hsn,hsr⟩:=w.mI 1 rfl;simp only at hl hsn hsr;unfold cw;refine M.aO (λd h'=>d=decide (B.bad i)∧h=h') (λJ hJ=>?_) ?_
 ·simp only[aS,dK,Nat.zero_add,Nat.add_zero,Nat.mul_one,Nat.one_mul,Nat.zero_mul,Nat.reduceAdd,List.setIfInBounds_toArray,List.set_cons_zero,List.set_cons_succ,List.getElem?_toArray,List.getElem?_cons_zero,List.getElem?_cons_succ,cH,int_eq,dV,fq,fQ,fP,iy,M.val,cond_true,cond_false,Bool.not_true,Bool.not_false,Option.isNone_some,dA hb];by_cases h1:i<0
  ·simp only[h1,decide_true,cond_true];exact hJ _ _ ⟨(decide_eq_true (.inl h1)).symm,rfl⟩
  ·simp only[h1,decide_false,cond_false];exact hJ _ _ ⟨by simp[ak.bad,h1],rfl⟩
 ·rintro _ _ ⟨rfl,rfl⟩;by_cases hbad:B.bad i
  ·simp only[hbad,decide_true,cond_true];exact kn hbad
  ·obtain⟨hj,hd⟩:=ak.zY hbad;have hi:=ak.jX.1 hbad;simp only[aS,dK,Nat.zero_add,Nat.add_zero,Nat.mul_one,Nat.one_mul,Nat.zero_mul,Nat.reduceAdd,List.setIfInBounds_toArray,List.set_cons_zero,List.set_cons_succ,List.getElem?_toArray,List.getElem?_cons_zero,List.getElem?_cons_succ,cH,int_eq,dV,fq,fQ,fP,iy,M.val,cond_true,cond_false,Bool.not_true,Bool.not_false,hbad,decide_false,dA hb];cases a with
   | none=>have:=(hsn rfl).2;omega
   | some ab=>
    refine M.mq hi.1 hi.2 ?_;have hc:h.cell (ab.add i.toNat)=some (.pointer (some ⟨ps[i.toNat],0,none⟩)):=by
     rw[hsr ab rfl i.toNat (by rw[AX];omega),AU (by omega)]
    simp only[aS,dK,Nat.zero_add,Nat.add_zero,Nat.mul_one,Nat.one_mul,Nat.zero_mul,Nat.reduceAdd,List.setIfInBounds_toArray,List.set_cons_zero,List.set_cons_succ,List.getElem?_toArray,List.getElem?_cons_zero,List.getElem?_cons_succ,cH,int_eq,dV,fq,fQ,fP,iy,M.val,cond_true,cond_false,Bool.not_true,Bool.not_false,hc];obtain⟨h1,k0,k1,w1,wr,back⟩:=BQ (f:=oa) (k:=2) w rfl (j:=i.toNat) (by show i.toNat<ps.length;omega) hj;rw[hd]at w1;refine k hbad ps[i.toNat] h1 k0 k1 w1 λh' D' w'=>?_;have w2:=back h' D' w';refine w2.close 0 (some ab,c,ps) ?_ ⟨ak.BM ok i D',by simpa [ak.set] using hl⟩;simp[ak.set]
theorem He{Q:Int->H->Prop}(w:Wd h0 h [dO b B])(k:Q (B.there i) h):bV (some ⟨b,0,none⟩) i h Q:=by
 unfold bV;simp only[Option.isNone_some,cond_false];unfold ak.there at k;refine Nj w (λhb=>?_) λhb p h1 _ _ _ _=>?_
 ·simpa [hb] using k
 ·simpa [hb] using k
theorem Hh{Q:Int->H->Prop}(w:Wd h0 h [dO b B])(hs:B.steps<1000000000)(hlx:B.left≤9223372036854775807)(k:∀h',Wd h0 h' [dO b B.iU.2]->Q B.iU.1 h'):cg (some ⟨b,0,none⟩) h Q:=by
 have w0:=w;obtain⟨⟨a,c,ps⟩,⟨ok,hl⟩,w⟩:=w.tw 0 rfl;have hb:=w.blk 0 rfl;have ok2:=ak.tW ok;have hst:=ok.Qx;have hlf:=ok.left;have hw1:wrap .i64 (B.steps+1)=B.steps+1:=by rw[IntKind.wrap_i64];omega
 unfold cg;unfold ak.iU at k ok2;by_cases hp:B.jS
 ·simp only[hp,if_true]at k;simp only[aS,dK,Nat.zero_add,Nat.add_zero,Nat.mul_one,Nat.one_mul,Nat.zero_mul,Nat.reduceAdd,List.setIfInBounds_toArray,List.set_cons_zero,List.set_cons_succ,List.getElem?_toArray,List.getElem?_cons_zero,List.getElem?_cons_succ,cH,int_eq,dV,fq,fQ,fP,iy,M.val,cond_true,cond_false,Bool.not_true,Bool.not_false,M.join,Option.isNone_some,dA hb,hp.1,hp.2,beq_self_eq_true];exact k _ w0
 ·simp only[hp,if_false]at k ok2;refine M.jn ?_;simp only[Option.isNone_some,cond_false];refine M.aO (λd h'=>d=false∧h=h') (λJ hJ=>?_) ?_
  ·simp only[aS,dK,Nat.zero_add,Nat.add_zero,Nat.mul_one,Nat.one_mul,Nat.zero_mul,Nat.reduceAdd,List.setIfInBounds_toArray,List.set_cons_zero,List.set_cons_succ,List.getElem?_toArray,List.getElem?_cons_zero,List.getElem?_cons_succ,cH,int_eq,dV,fq,fQ,fP,iy,M.val,cond_true,cond_false,Bool.not_true,Bool.not_false,Option.isNone_some,dA hb];cases hf:B.oN
   ·exact hJ _ _ ⟨rfl,rfl⟩
   ·have:(B.left == 0)=false:=by
     have:B.left≠0:=λe=>hp ⟨hf,e⟩;simpa using this
    simp only[cond_true,this];exact hJ _ _ ⟨rfl,rfl⟩
  ·rintro _ _ ⟨rfl,rfl⟩;simp only[aS,dK,Nat.zero_add,Nat.add_zero,Nat.mul_one,Nat.one_mul,Nat.zero_mul,Nat.reduceAdd,List.setIfInBounds_toArray,List.set_cons_zero,List.set_cons_succ,List.getElem?_toArray,List.getElem?_cons_zero,List.getElem?_cons_succ,cH,int_eq,dV,fq,fQ,fP,iy,M.val,cond_true,cond_false,Bool.not_true,Bool.not_false,dA hb];cases hf:B.oN
   ·simp only[hf,Bool.false_eq_true,if_false]at k ok2;simp only[aS,dK,Nat.zero_add,Nat.add_zero,Nat.mul_one,Nat.one_mul,Nat.zero_mul,Nat.reduceAdd,List.setIfInBounds_toArray,List.set_cons_zero,List.set_cons_succ,List.getElem?_toArray,List.getElem?_cons_zero,List.getElem?_cons_succ,cH,int_eq,dV,fq,fQ,fP,iy,M.val,cond_true,cond_false,Bool.not_true,Bool.not_false,dA hb,hw1];refine M.bg w 0 rfl rfl (by simp) λh1 w=>?_;exact k _ (w.close 0 (a,c,ps) (by simp[hf]) ⟨ok2,hl⟩)
   ·simp only[hf,if_true]at k ok2;have hw2:wrap .i64 (B.left-1)=B.left-1:=by rw[IntKind.wrap_i64];omega
    simp only[aS,dK,Nat.zero_add,Nat.add_zero,Nat.mul_one,Nat.one_mul,Nat.zero_mul,Nat.reduceAdd,List.setIfInBounds_toArray,List.set_cons_zero,List.set_cons_succ,List.getElem?_toArray,List.getElem?_cons_zero,List.getElem?_cons_succ,cH,int_eq,dV,fq,fQ,fP,iy,M.val,cond_true,cond_false,Bool.not_true,Bool.not_false,dA hb,hw2];refine M.bg w 0 rfl rfl (by simp) λh1 w=>?_;have hb:=w.blk 0 rfl;simp only[aS,dK,Nat.zero_add,Nat.add_zero,Nat.mul_one,Nat.one_mul,Nat.zero_mul,Nat.reduceAdd,List.setIfInBounds_toArray,List.set_cons_zero,List.set_cons_succ,List.getElem?_toArray,List.getElem?_cons_zero,List.getElem?_cons_succ,cH,int_eq,dV,fq,fQ,fP,iy,M.val,cond_true,cond_false,Bool.not_true,Bool.not_false,dA hb,hw1];refine M.bg w 0 rfl rfl (by simp) λh2 w=>?_;exact k _ (w.close 0 (a,c,ps) (by simp[hf]) ⟨ok2,hl⟩)
theorem R9{Q:Option Addr->Prop}(w:Wd h0 h [dO b B])(hb:¬B.bad i)
  (k:∀p h1,bq h0 h1->bq h1 h->Wd h1 h [oa p (B.hU i)]->(∀h' D',Wd h1 h' [oa p D']->Wd h0 h' [dO b (B.set i D')])->Q (some ⟨p,0,none⟩)):
  M.nn (some ⟨b,0,none⟩) λa6=>M.load h (Addr.add a6 0) λv7=>M.slc v7 λa8 l9 c10=>M.idx a8 l9 i λa11 j12=>M.load h (Addr.add a11 (j12*1)) λv13=>M.ptr v13 λp14=>Q p14:=by
 obtain⟨⟨a,c,ps⟩,⟨ok,hl⟩,w⟩:=w.tw 0 rfl;have hbb:=w.blk 0 rfl;obtain⟨_,_,hsn,hsr⟩:=w.mI 1 rfl;simp only at hl hsn hsr;obtain⟨hj,hd⟩:=ak.zY hb;have hi:=ak.jX.1 hb;simp only[aS,dK,Nat.zero_add,Nat.add_zero,Nat.mul_one,Nat.one_mul,Nat.zero_mul,Nat.reduceAdd,List.setIfInBounds_toArray,List.set_cons_zero,List.set_cons_succ,List.getElem?_toArray,List.getElem?_cons_zero,List.getElem?_cons_succ,cH,int_eq,dV,fq,fQ,fP,iy,M.val,cond_true,cond_false,Bool.not_true,Bool.not_false,dA hbb];cases a with
 | none=>have:=(hsn rfl).2;omega
 | some ab=>
  refine M.mq hi.1 hi.2 ?_;have hc:h.cell (ab.add i.toNat)=some (.pointer (some ⟨ps[i.toNat],0,none⟩)):=by
   rw[hsr ab rfl i.toNat (by rw[AX];omega),AU (by omega)]
  simp only[aS,dK,Nat.zero_add,Nat.add_zero,Nat.mul_one,Nat.one_mul,Nat.zero_mul,Nat.reduceAdd,List.setIfInBounds_toArray,List.set_cons_zero,List.set_cons_succ,List.getElem?_toArray,List.getElem?_cons_zero,List.getElem?_cons_succ,cH,int_eq,dV,fq,fQ,fP,iy,M.val,cond_true,cond_false,Bool.not_true,Bool.not_false,hc];obtain⟨h1,k0,k1,w1,wr,back⟩:=BQ (f:=oa) (k:=2) w rfl (j:=i.toNat) (by show i.toNat<ps.length;omega) hj;rw[hd]at w1;refine k ps[i.toNat] h1 k0 k1 w1 λh' D' w'=>?_;refine(back h' D' w').close 0 (some ab,c,ps) ?_ ⟨ak.BM ok i D',by simpa [ak.set] using hl⟩;simp[ak.set]
theorem sk:B.iU.2.hU i=B.hU i:=by simp[ak.hU,ak.j3]
theorem uW:B.iU.2.bad i↔B.bad i:=by simp[ak.bad,ak.j3]
theorem GY{Q:Int->H->Prop}(w:Wd h0 h [dO b B])(hs:B.steps<1000000000)(hlx:B.left≤9223372036854775807)(hW:(B.hU i).W.length<1000000000)(k:∀h',Wd h0 h' [dO b (B.write i at_ s).2]->Q (B.write i at_ s).1 h'):bR (some ⟨b,0,none⟩) i at_ s h Q:=by
 unfold bR;refine He w ?_;unfold ak.there;unfold ak.write at k;by_cases hb:B.bad i
 ·simp only[hb,if_true]at k ⊢;exact k _ w
 ·simp only[hb,if_false]at k ⊢;simp only[bne_self_eq_false,cond_false];refine Hh w hs hlx λh1 w=>?_;by_cases hp:B.jS
  ·have e:B.iU=(21,B):=by simp[ak.iU,hp]
   rw[e]at w ⊢;simp only[hp,if_true]at k;exact k _ w
  ·have e:B.iU.1=0:=by simp[ak.iU,hp]
   simp only[hp,if_false]at k;simp only[e,bne_self_eq_false,cond_false];refine R9 w (λx=>hb (uW.1 x)) λp h2 k0 k1 w2 back=>?_;rw[sk]at w2;exact G3 w2 hW λh' w3=>k h' (back _ _ w3)
theorem HT{Q:Int->H->Prop}(w:Wd h0 h [dO b B])(hs:B.steps<1000000000)(hlx:B.left≤9223372036854775807)(k:∀h',Wd h0 h' [dO b (B.flush i).2]->Q (B.flush i).1 h'):bT (some ⟨b,0,none⟩) i h Q:=by
 unfold bT;refine He w ?_;unfold ak.there;unfold ak.flush at k;by_cases hb:B.bad i
 ·simp only[hb,if_true]at k ⊢;exact k _ w
 ·simp only[hb,if_false]at k ⊢;simp only[bne_self_eq_false,cond_false];refine Hh w hs hlx λh1 w=>?_;by_cases hp:B.jS
  ·have e:B.iU=(21,B):=by simp[ak.iU,hp]
   rw[e]at w ⊢;simp only[hp,if_true]at k;exact k _ w
  ·have e:B.iU.1=0:=by simp[ak.iU,hp]
   simp only[hp,if_false]at k;simp only[e,bne_self_eq_false,cond_false];refine R9 w (λx=>hb (uW.1 x)) λp h2 k0 k1 w2 back=>?_;rw[sk]at w2;exact Hy w2 λh' w3=>k h' (back _ _ w3)
theorem IT{Q:ByteArray->Int->H->Prop}(w:Wd h0 h [dO b B])(k:Q (B.read i at_).1 (B.read i at_).2 h):aY (some ⟨b,0,none⟩) i at_ h Q:=by
 unfold aY;refine He w ?_;unfold ak.there;unfold ak.read at k;by_cases hb:B.bad i
 ·simp only[hb,if_true]at k ⊢;exact k
 ·simp only[hb,if_false]at k ⊢;simp only[bne_self_eq_false,cond_false];refine M.aO (λd h'=>d=decide B.jS∧h=h') (λJ hJ=>?_) ?_
  ·obtain⟨v,⟨ok,hl⟩,w⟩:=w.tw 0 rfl;have hbb:=w.blk 0 rfl;simp only[aS,dK,Nat.zero_add,Nat.add_zero,Nat.mul_one,Nat.one_mul,Nat.zero_mul,Nat.reduceAdd,List.setIfInBounds_toArray,List.set_cons_zero,List.set_cons_succ,List.getElem?_toArray,List.getElem?_cons_zero,List.getElem?_cons_succ,cH,int_eq,dV,fq,fQ,fP,iy,M.val,cond_true,cond_false,Bool.not_true,Bool.not_false,dA hbb];cases hf:B.oN
   ·exact hJ _ _ ⟨by simp[ak.jS,hf],rfl⟩
   ·refine hJ _ _ ⟨?_,rfl⟩;by_cases h0:B.left=0<;>simp[ak.jS,hf,h0]
  ·rintro _ _ ⟨rfl,rfl⟩;by_cases hp:B.jS
   ·simp only[hp,if_true]at k;simp only[hp,decide_true,cond_true];exact k
   ·simp only[hp,if_false]at k;simp only[hp,decide_false,cond_false];refine R9 w hb λp h2 k0 k1 w2 back=>?_;exact JC w2 k
theorem bNew{n cells:Int}{Q:Option Addr->H->Prop}(k:∀b h',Wd h h' [dO b (ak.new n cells)]->Q (some ⟨b,0,none⟩) h'):ir n cells h Q:=by
 unfold ir;have hn:=ak.pL n;refine M.aK (Wd.start h) λb h1 w=>?_;have w:=w.jt 90 1;have w:Wd h h1 [.blk b (.cells #[.slice none 0 0,.int .i64 0,.bool false,.int .i64 0] 153 (0,0)),.sl 90 1 none 0 0 (zP []),.sep (List.zipWith oa [] [])]:=
  w.fold 2 (c:=.sep (List.zipWith oa [] [])) (Chunk.Le.refl _)
 refine M.aP (I:=λ(i:Int) h'=>0≤i∧i≤mx 1 (mn n 12)∧∃a c ps,ps.length=i.toNat∧Wd h h' [.blk b (.cells #[.slice a i.toNat c,.int .i64 0,.bool false,.int .i64 0] 153 (0,0)),.sl 90 1 a i.toNat c (zP ps),
   .sep (List.zipWith oa ps (List.replicate i.toNat (cP.new cells)))]) (μ:=λi=>(mx 1 (mn n 12)-i).toNat) ⟨by omega,by omega,none,0,[],rfl,w⟩ ?_
 rintro i h2 J ⟨hi0,hi1,a,c,ps,hps,w⟩ hJ;by_cases hlt:i<mx 1 (mn n 12)
 ·have hw1:wrap .i64 (i+1)=i+1:=by rw[IntKind.wrap_i64];omega
  have hb:=w.blk 0 rfl;simp only[aS,dK,Nat.zero_add,Nat.add_zero,Nat.mul_one,Nat.one_mul,Nat.zero_mul,Nat.reduceAdd,List.setIfInBounds_toArray,List.set_cons_zero,List.set_cons_succ,List.getElem?_toArray,List.getElem?_cons_zero,List.getElem?_cons_succ,cH,int_eq,dV,fq,fQ,fP,iy,M.val,cond_true,cond_false,Bool.not_true,Bool.not_false,hlt,decide_true,dA hb,hw1];refine MR λd h3 w3=>?_;have w:=w.join w3;refine M.tA hb (w.blk 0 rfl) ?_;refine M.EF w λt h4 ht w=>?_;refine M.tA hb (w.blk 0 rfl) ?_;refine nD ht rfl ?_;refine M.ru w 1 rfl rfl rfl (by simp[ag]) (by omega) (by omega) λa' c' h5 w=>?_;refine M.bg w 0 rfl rfl (by simp) λh6 w=>?_;have hni:(i+1).toNat=i.toNat+1:=by omega
  have w:=w.fold 2 (c:=.sep (List.zipWith oa (ps++[d]) (List.replicate (i.toNat+1) (cP.new cells)))) (by
   rw[List.replicate_succ',List.zipWith_append (by simp[hps])]
   exact(Chunk.kE (Chunk.Le.refl _) (Chunk.Le.refl _)).trans (Chunk.nV _ _))
  refine hJ _ _ ⟨by omega,by omega,a',c',ps++[d],by simp[hps,hni],?_⟩ (by omega);rw[hni];simpa [zP] using w
 ·simp only[hlt,decide_false,cond_false];have hi:i=mx 1 (mn n 12):=by omega
  subst hi;refine k b _ (w.close 0 (a,c,ps) ?_ ⟨ak.wE n cells,by simpa [ak.new] using hps⟩);simp[ak.new]
end
end Go.Proofs.YtmfcgihgdhfalaaGreatDoor

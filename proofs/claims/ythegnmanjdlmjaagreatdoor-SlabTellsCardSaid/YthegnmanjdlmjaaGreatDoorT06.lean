/- The shallow forms of the functions of this seat, printed by a program of mine, each checked by the kernel against the given code. -/
import Derived.Test.YthegnmanjdlmjaaGreatDoorT05
set_option linter.unusedSimpArgs false
set_option linter.unusedVariables false
namespace Go.Proofs.YthegnmanjdlmjaaGreatDoor
open Go.Sh
def ref08_Seal.L (F : ByteArray → ByteArray → ByteArray → ByteArray → H → (ByteArray → Int → H → Prop) → Prop) : List Value → (Value → H → Prop) → H → Prop
  | [.string x_key, .string x_nonce, .string x_with, .string x_plain] => fun Q h => F x_key x_nonce x_with x_plain h fun s18 n19 h20 => Q (.tuple #[(.string s18), (.int .i64 n19)]) h20
  | _ => fun _ _ => False
def ref17_Blank.g (ref17_Good' : Option Addr → Int → Int → ByteArray → H → (Bool → H → Prop) → Prop) (ref05_Kind' : Int → ByteArray → H → (ByteArray → H → Prop) → Prop) (ref12_Build' : Option Addr → Nat → Nat → H → (Option Addr → Nat → Nat → ByteArray → Int → H → Prop) → Prop) (x_s_0 : Option Addr) (x_s_1 : Int) (x_s_2 : Int) (x_s_3 : ByteArray) (h : H) (Q : Option Addr → Nat → Nat → ByteArray → Int → H → Prop) : Prop :=
M.new h (.cells (#[(.pointer x_s_0), (.int .i64 x_s_1), (.int .i64 x_s_2), (.string x_s_3)] : Array Value) 40) fun b6 h7 =>
M.load h7 ((⟨b6, 0, none⟩ : Addr).add 0) fun v8 =>
M.ptr v8 fun p9 =>
M.load h7 ((⟨b6, 0, none⟩ : Addr).add 1) fun v10 =>
M.int .i64 v10 fun n11 =>
M.load h7 ((⟨b6, 0, none⟩ : Addr).add 2) fun v12 =>
M.int .i64 v12 fun n13 =>
M.load h7 ((⟨b6, 0, none⟩ : Addr).add 3) fun v14 =>
M.str v14 fun s15 =>
ref17_Good' p9 n11 n13 s15 h7 fun b16 h17 =>
(bif (!b16) then
Q none 0 0 (ByteArray.empty) (4 : Int) h17
else
ref05_Kind' (0 : Int) (ByteArray.empty) h17 fun s18 h19 =>
M.join (α := (Option Addr × Nat × Nat)) (fun d34 h35 =>
ref12_Build' d34.1 d34.2.1 d34.2.2 h35 fun a36 l37 c38 s39 n40 h41 =>
M.join (α := (Option Addr × Nat × Nat)) (fun d61 h62 =>
M.join (α := (Option Addr × Nat × Nat)) (fun d78 h79 =>
Q d78.1 d78.2.1 d78.2.2 s39 (0 : Int) h79) fun J63 =>
M.loop (α := (Option Addr × Nat × Nat) × Int) (fun J64 d65 h66 =>
M.load h66 (Addr.add (⟨b6, 0, none⟩ : Addr) 2) fun v67 =>
M.int .i64 v67 fun n68 =>
(bif (decide (d65.2 < n68)) then
M.val (IntKind.wrap .i64 ((120 : Int) + d65.2)) fun z69 =>
M.new h66 (.cells (#[(.int .i64 z69), (.string (ByteArray.empty))] : Array Value) 173) fun b70 h71 =>
M.cellsOf h71 (some (⟨b70, 0, none⟩ : Addr)) (1 * 2) fun cs76 =>
M.app h71 173 2 24 [(.int .i64 (0 : Int)), (.string (ByteArray.empty))] d65.1.1 d65.1.2.1 d65.1.2.2 1 cs76 fun a72 l73 c74 h75 =>
M.val (IntKind.wrap .i64 (d65.2 + (1 : Int))) fun z77 =>
J64 ((a72, l73, c74), z77) h75
else
J63 (d65.1.1, d65.1.2.1, d65.1.2.2) h66)) ((d61.1, d61.2.1, d61.2.2), (0 : Int)) h62) fun J42 =>
M.loop (α := (Option Addr × Nat × Nat) × Int) (fun J43 d44 h45 =>
M.load h45 (Addr.add (⟨b6, 0, none⟩ : Addr) 2) fun v46 =>
M.int .i64 v46 fun n47 =>
(bif (decide (d44.2 < n47)) then
M.val (IntKind.wrap .i64 ((100 : Int) + d44.2)) fun z48 =>
M.idx a36 l37 d44.2 fun a49 j50 =>
M.load h45 (Addr.add a49 (j50 * 1)) fun v51 =>
M.str v51 fun s52 =>
M.new h45 (.cells (#[(.int .i64 z48), (.string s52)] : Array Value) 173) fun b53 h54 =>
M.cellsOf h54 (some (⟨b53, 0, none⟩ : Addr)) (1 * 2) fun cs59 =>
M.app h54 173 2 24 [(.int .i64 (0 : Int)), (.string (ByteArray.empty))] d44.1.1 d44.1.2.1 d44.1.2.2 1 cs59 fun a55 l56 c57 h58 =>
M.val (IntKind.wrap .i64 (d44.2 + (1 : Int))) fun z60 =>
J43 ((a55, l56, c57), z60) h58
else
J42 (d44.1.1, d44.1.2.1, d44.1.2.2) h45)) ((none, 0, 0), (1 : Int)) h41) fun J20 =>
M.loop (α := (Option Addr × Nat × Nat) × Int) (fun J21 d22 h23 =>
M.load h23 (Addr.add (⟨b6, 0, none⟩ : Addr) 2) fun v24 =>
M.int .i64 v24 fun n25 =>
(bif (decide (d22.2 < n25)) then
M.new h23 (.cells (#[(.string s18)] : Array Value) 9) fun b26 h27 =>
M.cellsOf h27 (some (⟨b26, 0, none⟩ : Addr)) (1 * 1) fun cs32 =>
M.app h27 9 1 16 [(.string (ByteArray.empty))] d22.1.1 d22.1.2.1 d22.1.2.2 1 cs32 fun a28 l29 c30 h31 =>
M.val (IntKind.wrap .i64 (d22.2 + (1 : Int))) fun z33 =>
J21 ((a28, l29, c30), z33) h31
else
J20 (d22.1.1, d22.1.2.1, d22.1.2.2) h23)) ((none, 0, 0), (0 : Int)) h19)
def ref17_Blank (x_s_0 : Option Addr) (x_s_1 : Int) (x_s_2 : Int) (x_s_3 : ByteArray) (h : H) (Q : Option Addr → Nat → Nat → ByteArray → Int → H → Prop) : Prop := ref17_Blank.g ref17_Good ref05_Kind ref12_Build x_s_0 x_s_1 x_s_2 x_s_3 h Q
def ref17_Blank.L (F : Option Addr → Int → Int → ByteArray → H → (Option Addr → Nat → Nat → ByteArray → Int → H → Prop) → Prop) : List Value → (Value → H → Prop) → H → Prop
  | [.agg ⟨[.pointer x_s_0, .int .i64 x_s_1, .int .i64 x_s_2, .string x_s_3]⟩] => fun Q h => F x_s_0 x_s_1 x_s_2 x_s_3 h fun a86 l87 c88 s89 n90 h91 => Q (.tuple #[(.slice a86 l87 c88), (.string s89), (.int .i64 n90)]) h91
  | _ => fun _ _ => False
def ref17_Blank.W : W := fun args => ref17_Blank.L ref17_Blank args.toList
def ref17_Blank.ann : Ann := ⟨lookN [], lookN [(63, [(6, .slc)]), (511, [(12, .slc)]), (1023, [(12, .slc)])], lookN [(506, [(6, .slc), (8, .int .i64)]), (4090, [(12, .slc), (13, .int .i64)]), (8186, [(12, .slc), (14, .int .i64)])]⟩
theorem ref17_Blank.geq (ref17_Good' : Option Addr → Int → Int → ByteArray → H → (Bool → H → Prop) → Prop) (ref05_Kind' : Int → ByteArray → H → (ByteArray → H → Prop) → Prop) (ref12_Build' : Option Addr → Nat → Nat → H → (Option Addr → Nat → Nat → ByteArray → Int → H → Prop) → Prop) (x_s_0 : Option Addr) (x_s_1 : Int) (x_s_2 : Int) (x_s_3 : ByteArray) (Q : Value → H → Prop) (h : H) : evF Tryz.prog (envOf [(89, fun args => ref17_Good.L ref17_Good' args.toList), (90, fun args => ref05_Kind.L ref05_Kind' args.toList), (91, fun args => ref12_Build.L ref12_Build' args.toList)]) Tryz.f41 ref17_Blank.ann [(.agg (#[(.pointer x_s_0), (.int .i64 x_s_1), (.int .i64 x_s_2), (.string x_s_3)] : Array Value))] Q h = ref17_Blank.g ref17_Good' ref05_Kind' ref12_Build' x_s_0 x_s_1 x_s_2 x_s_3 h fun a86 l87 c88 s89 n90 h91 => Q (.tuple #[(.slice a86 l87 c88), (.string s89), (.int .i64 n90)]) h91 := by kernel_rfl
theorem ref17_Blank.good : FnGood Tryz.prog 41 ref17_Blank.W := by
  refine FnGood.of (ann := ref17_Blank.ann) (env := envOf [(89, fun args => ref17_Good.L ref17_Good args.toList), (90, fun args => ref05_Kind.L ref05_Kind args.toList), (91, fun args => ref12_Build.L ref12_Build args.toList)]) mixed (EnvGood.cons ref17_Good.good (EnvGood.cons ref05_Kind.good (EnvGood.cons ref12_Build.good EnvGood.nil))) Tryz.func41 Tryz.call41 fun args => ?_
  show ref17_Blank.L ref17_Blank args.toList = _ ∨ ∀ Q m, evF Tryz.prog (envOf [(89, fun args => ref17_Good.L ref17_Good args.toList), (90, fun args => ref05_Kind.L ref05_Kind args.toList), (91, fun args => ref12_Build.L ref12_Build args.toList)]) Tryz.f41 ref17_Blank.ann args.toList Q m = ref17_Blank.L ref17_Blank args.toList Q m
  generalize args.toList = l
  unfold ref17_Blank.L
  split
  · exact .inr fun Q m => ref17_Blank.geq ref17_Good ref05_Kind ref12_Build _ _ _ _ Q m
  · exact .inl rfl
def tree_Put.g (tree_leaves' : Int → H → (Int → H → Prop) → Prop) (tree_second' : Int → Int → Int → H → (Bool → H → Prop) → Prop) (tree_half' : ByteArray → Bool → H → (ByteArray → H → Prop) → Prop) (sha_Node' : ByteArray → H → (ByteArray → H → Prop) → Prop) (x_slot : Int) (x_pairs : Option Addr) (x_pairsL : Nat) (x_pairsC : Nat) (x_digest : ByteArray) (h : H) (Q : Option Addr → Nat → Nat → ByteArray → Int → H → Prop) : Prop :=
M.join (α := Bool) (fun d9 h10 =>
(bif d9 then
Q none 0 0 (ByteArray.empty) (2 : Int) h10
else
(bif ((ByteArray.size x_digest : Int) != (32 : Int)) then
Q none 0 0 (ByteArray.empty) (7 : Int) h10
else
M.mk h10 9 [(.string (ByteArray.empty))] 16 ((x_pairsL : Nat) : Int) ((x_pairsL : Nat) : Int) fun a11 l12 c13 h14 =>
M.join (α := ByteArray) (fun d56 h57 =>
Q a11 l12 c13 d56 (0 : Int) h57) fun J15 =>
M.val (IntKind.wrap .i64 (((x_pairsL : Nat) : Int) - (1 : Int))) fun z16 =>
M.loop (α := ByteArray × Int) (fun J17 d18 h19 =>
(bif (decide (d18.2 ≥ (0 : Int))) then
M.idx x_pairs x_pairsL d18.2 fun a20 j21 =>
M.load h19 (Addr.add a20 (j21 * 1)) fun v22 =>
M.str v22 fun s23 =>
(bif ((ByteArray.size s23 : Int) != (64 : Int)) then
Q none 0 0 (ByteArray.empty) (7 : Int) h19
else
M.join (α := Unit) (fun d47 h48 =>
M.idx a11 l12 d18.2 fun a49 j50 =>
M.load h48 (Addr.add a49 (j50 * 1)) fun v51 =>
M.str v51 fun s52 =>
sha_Node' s52 h48 fun s53 h54 =>
M.val (IntKind.wrap .i64 (d18.2 - (1 : Int))) fun z55 =>
J17 (s53, z55) h54) fun J24 =>
tree_second' x_slot ((x_pairsL : Nat) : Int) d18.2 h19 fun b25 h26 =>
(bif b25 then
M.idx x_pairs x_pairsL d18.2 fun a27 j28 =>
M.load h26 (Addr.add a27 (j28 * 1)) fun v29 =>
M.str v29 fun s30 =>
tree_half' s30 false h26 fun s31 h32 =>
M.cat s31 d18.1 fun s33 =>
M.idx a11 l12 d18.2 fun a34 j35 =>
M.put h32 (Addr.add a34 (j35 * 1)) (.string s33) fun h36 =>
J24 () h36
else
M.idx x_pairs x_pairsL d18.2 fun a37 j38 =>
M.load h26 (Addr.add a37 (j38 * 1)) fun v39 =>
M.str v39 fun s40 =>
tree_half' s40 true h26 fun s41 h42 =>
M.cat d18.1 s41 fun s43 =>
M.idx a11 l12 d18.2 fun a44 j45 =>
M.put h42 (Addr.add a44 (j45 * 1)) (.string s43) fun h46 =>
J24 () h46))
else
J15 d18.1 h19)) (x_digest, z16) h14))) fun J6 =>
(bif (decide (x_slot < (0 : Int))) then
J6 true h
else
tree_leaves' ((x_pairsL : Nat) : Int) h fun n7 h8 =>
J6 (decide (x_slot ≥ n7)) h8)
def tree_Put (x_slot : Int) (x_pairs : Option Addr) (x_pairsL : Nat) (x_pairsC : Nat) (x_digest : ByteArray) (h : H) (Q : Option Addr → Nat → Nat → ByteArray → Int → H → Prop) : Prop := tree_Put.g tree_leaves tree_second tree_half sha_Node x_slot x_pairs x_pairsL x_pairsC x_digest h Q
def tree_Put.L (F : Int → Option Addr → Nat → Nat → ByteArray → H → (Option Addr → Nat → Nat → ByteArray → Int → H → Prop) → Prop) : List Value → (Value → H → Prop) → H → Prop
  | [.int .i64 x_slot, .slice x_pairs x_pairsL x_pairsC, .string x_digest] => fun Q h => F x_slot x_pairs x_pairsL x_pairsC x_digest h fun a64 l65 c66 s67 n68 h69 => Q (.tuple #[(.slice a64 l65 c66), (.string s67), (.int .i64 n68)]) h69
  | _ => fun _ _ => False
def tree_Put.W : W := fun args => tree_Put.L tree_Put args.toList
def tree_Put.ann : Ann := ⟨lookN [(1, [(19, .bool)])], lookN [(31, [(2, .str)]), (8009, [])], lookN [(250, [(2, .str), (10, .int .i64)])]⟩
theorem tree_Put.geq (tree_leaves' : Int → H → (Int → H → Prop) → Prop) (tree_second' : Int → Int → Int → H → (Bool → H → Prop) → Prop) (tree_half' : ByteArray → Bool → H → (ByteArray → H → Prop) → Prop) (sha_Node' : ByteArray → H → (ByteArray → H → Prop) → Prop) (x_slot : Int) (x_pairs : Option Addr) (x_pairsL : Nat) (x_pairsC : Nat) (x_digest : ByteArray) (Q : Value → H → Prop) (h : H) : evF Tryz.prog (envOf [(99, fun args => tree_leaves.L tree_leaves' args.toList), (100, fun args => tree_second.L tree_second' args.toList), (101, fun args => tree_half.L tree_half' args.toList), (102, fun args => sha_Node.L sha_Node' args.toList)]) Tryz.f49 tree_Put.ann [(.int .i64 x_slot), (.slice x_pairs x_pairsL x_pairsC), (.string x_digest)] Q h = tree_Put.g tree_leaves' tree_second' tree_half' sha_Node' x_slot x_pairs x_pairsL x_pairsC x_digest h fun a64 l65 c66 s67 n68 h69 => Q (.tuple #[(.slice a64 l65 c66), (.string s67), (.int .i64 n68)]) h69 := by kernel_rfl
theorem tree_Put.good : FnGood Tryz.prog 49 tree_Put.W := by
  refine FnGood.of (ann := tree_Put.ann) (env := envOf [(99, fun args => tree_leaves.L tree_leaves args.toList), (100, fun args => tree_second.L tree_second args.toList), (101, fun args => tree_half.L tree_half args.toList), (102, fun args => sha_Node.L sha_Node args.toList)]) mixed (EnvGood.cons tree_leaves.good (EnvGood.cons tree_second.good (EnvGood.cons tree_half.good (EnvGood.cons sha_Node.good EnvGood.nil)))) Tryz.func49 Tryz.call49 fun args => ?_
  show tree_Put.L tree_Put args.toList = _ ∨ ∀ Q m, evF Tryz.prog (envOf [(99, fun args => tree_leaves.L tree_leaves args.toList), (100, fun args => tree_second.L tree_second args.toList), (101, fun args => tree_half.L tree_half args.toList), (102, fun args => sha_Node.L sha_Node args.toList)]) Tryz.f49 tree_Put.ann args.toList Q m = tree_Put.L tree_Put args.toList Q m
  generalize args.toList = l
  unfold tree_Put.L
  split
  · exact .inr fun Q m => tree_Put.geq tree_leaves tree_second tree_half sha_Node _ _ _ _ _ Q m
  · exact .inl rfl
def tree_Build.g (tree_depth' : Int → H → (Int → H → Prop) → Prop) (sha_Node' : ByteArray → H → (ByteArray → H → Prop) → Prop) (x_l : Option Addr) (x_lL : Nat) (x_lC : Nat) (h : H) (Q : Option Addr → Nat → Nat → ByteArray → Int → H → Prop) : Prop :=
tree_depth' ((x_lL : Nat) : Int) h fun n6 h7 =>
(bif (n6 == (0 : Int)) then
Q none 0 0 (ByteArray.empty) (2 : Int) h7
else
M.val (IntKind.wrap .i64 ((2 : Int) * ((x_lL : Nat) : Int))) fun z8 =>
M.mk h7 9 [(.string (ByteArray.empty))] 16 z8 z8 fun a9 l10 c11 h12 =>
M.join (α := Unit) (fun d30 h31 =>
M.mk h31 9 [(.string (ByteArray.empty))] 16 ((x_lL : Nat) : Int) ((x_lL : Nat) : Int) fun a32 l33 c34 h35 =>
M.join (α := Unit) (fun d66 h67 =>
M.idx a9 l10 (1 : Int) fun a68 j69 =>
M.load h67 (Addr.add a68 (j69 * 1)) fun v70 =>
M.str v70 fun s71 =>
Q a32 l33 c34 s71 (0 : Int) h67) fun J36 =>
M.val (IntKind.wrap .i64 (((x_lL : Nat) : Int) - (1 : Int))) fun z37 =>
M.loop (α := Int) (fun J38 d39 h40 =>
(bif (decide (d39 > (0 : Int))) then
M.val (IntKind.wrap .i64 ((2 : Int) * d39)) fun z41 =>
M.idx a9 l10 z41 fun a42 j43 =>
M.load h40 (Addr.add a42 (j43 * 1)) fun v44 =>
M.str v44 fun s45 =>
M.val (IntKind.wrap .i64 ((2 : Int) * d39)) fun z46 =>
M.val (IntKind.wrap .i64 (z46 + (1 : Int))) fun z47 =>
M.idx a9 l10 z47 fun a48 j49 =>
M.load h40 (Addr.add a48 (j49 * 1)) fun v50 =>
M.str v50 fun s51 =>
M.cat s45 s51 fun s52 =>
M.idx a32 l33 d39 fun a53 j54 =>
M.put h40 (Addr.add a53 (j54 * 1)) (.string s52) fun h55 =>
M.idx a32 l33 d39 fun a56 j57 =>
M.load h55 (Addr.add a56 (j57 * 1)) fun v58 =>
M.str v58 fun s59 =>
sha_Node' s59 h55 fun s60 h61 =>
M.idx a9 l10 d39 fun a62 j63 =>
M.put h61 (Addr.add a62 (j63 * 1)) (.string s60) fun h64 =>
M.val (IntKind.wrap .i64 (d39 - (1 : Int))) fun z65 =>
J38 z65 h64
else
J36 () h40)) z37 h35) fun J13 =>
M.loop (α := Int) (fun J14 d15 h16 =>
(bif (decide (d15 < ((x_lL : Nat) : Int))) then
M.idx x_l x_lL d15 fun a17 j18 =>
M.load h16 (Addr.add a17 (j18 * 1)) fun v19 =>
M.str v19 fun s20 =>
(bif ((ByteArray.size s20 : Int) != (32 : Int)) then
Q none 0 0 (ByteArray.empty) (7 : Int) h16
else
M.val (IntKind.wrap .i64 (((x_lL : Nat) : Int) + d15)) fun z21 =>
M.idx x_l x_lL d15 fun a22 j23 =>
M.load h16 (Addr.add a22 (j23 * 1)) fun v24 =>
M.str v24 fun s25 =>
M.idx a9 l10 z21 fun a26 j27 =>
M.put h16 (Addr.add a26 (j27 * 1)) (.string s25) fun h28 =>
M.val (IntKind.wrap .i64 (d15 + (1 : Int))) fun z29 =>
J14 z29 h28)
else
J13 () h16)) (0 : Int) h12)
def tree_Build (x_l : Option Addr) (x_lL : Nat) (x_lC : Nat) (h : H) (Q : Option Addr → Nat → Nat → ByteArray → Int → H → Prop) : Prop := tree_Build.g tree_depth sha_Node x_l x_lL x_lC h Q
def tree_Build.L (F : Option Addr → Nat → Nat → H → (Option Addr → Nat → Nat → ByteArray → Int → H → Prop) → Prop) : List Value → (Value → H → Prop) → H → Prop
  | [.slice x_l x_lL x_lC] => fun Q h => F x_l x_lL x_lC h fun a78 l79 c80 s81 n82 h83 => Q (.tuple #[(.slice a78 l79 c80), (.string s81), (.int .i64 n82)]) h83
  | _ => fun _ _ => False
def tree_Build.W : W := fun args => tree_Build.L tree_Build args.toList
def tree_Build.ann : Ann := ⟨lookN [], lookN [(31, []), (127, [])], lookN [(250, [(19, .int .i64)]), (1018, [(9, .int .i64)])]⟩
theorem tree_Build.geq (tree_depth' : Int → H → (Int → H → Prop) → Prop) (sha_Node' : ByteArray → H → (ByteArray → H → Prop) → Prop) (x_l : Option Addr) (x_lL : Nat) (x_lC : Nat) (Q : Value → H → Prop) (h : H) : evF Tryz.prog (envOf [(103, fun args => tree_depth.L tree_depth' args.toList), (102, fun args => sha_Node.L sha_Node' args.toList)]) Tryz.f60 tree_Build.ann [(.slice x_l x_lL x_lC)] Q h = tree_Build.g tree_depth' sha_Node' x_l x_lL x_lC h fun a78 l79 c80 s81 n82 h83 => Q (.tuple #[(.slice a78 l79 c80), (.string s81), (.int .i64 n82)]) h83 := by kernel_rfl
theorem tree_Build.good : FnGood Tryz.prog 60 tree_Build.W := by
  refine FnGood.of (ann := tree_Build.ann) (env := envOf [(103, fun args => tree_depth.L tree_depth args.toList), (102, fun args => sha_Node.L sha_Node args.toList)]) mixed (EnvGood.cons tree_depth.good (EnvGood.cons sha_Node.good EnvGood.nil)) Tryz.func60 Tryz.call60 fun args => ?_
  show tree_Build.L tree_Build args.toList = _ ∨ ∀ Q m, evF Tryz.prog (envOf [(103, fun args => tree_depth.L tree_depth args.toList), (102, fun args => sha_Node.L sha_Node args.toList)]) Tryz.f60 tree_Build.ann args.toList Q m = tree_Build.L tree_Build args.toList Q m
  generalize args.toList = l
  unfold tree_Build.L
  split
  · exact .inr fun Q m => tree_Build.geq tree_depth sha_Node _ _ _ Q m
  · exact .inl rfl
def ref17_Get.L (F : Option Addr → Int → Int → ByteArray → ByteArray → Int → H → (ByteArray → Int → H → Prop) → Prop) : List Value → (Value → H → Prop) → H → Prop
  | [.agg ⟨[.pointer x_s_0, .int .i64 x_s_1, .int .i64 x_s_2, .string x_s_3]⟩, .string x_top, .int .i64 x_slot] => fun Q h => F x_s_0 x_s_1 x_s_2 x_s_3 x_top x_slot h fun s72 n73 h74 => Q (.tuple #[(.string s72), (.int .i64 n73)]) h74
  | _ => fun _ _ => False
def tree_Follow.g (tree_leaves' : Int → H → (Int → H → Prop) → Prop) (sha_Node' : ByteArray → H → (ByteArray → H → Prop) → Prop) (tree_second' : Int → Int → Int → H → (Bool → H → Prop) → Prop) (tree_half' : ByteArray → Bool → H → (ByteArray → H → Prop) → Prop) (x_top : ByteArray) (x_slot : Int) (x_pairs : Option Addr) (x_pairsL : Nat) (x_pairsC : Nat) (h : H) (Q : ByteArray → Int → H → Prop) : Prop :=
M.join (α := Bool) (fun d6 h7 =>
(bif d6 then
Q (ByteArray.empty) (2 : Int) h7
else
M.join (α := ByteArray) (fun d26 h27 =>
Q d26 (0 : Int) h27) fun J8 =>
M.loop (α := ByteArray × Int) (fun J9 d10 h11 =>
(bif (decide (d10.2 < ((x_pairsL : Nat) : Int))) then
M.idx x_pairs x_pairsL d10.2 fun a12 j13 =>
M.load h11 (Addr.add a12 (j13 * 1)) fun v14 =>
M.str v14 fun s15 =>
M.join (α := Bool) (fun d19 h20 =>
(bif d19 then
Q (ByteArray.empty) (22 : Int) h20
else
tree_second' x_slot ((x_pairsL : Nat) : Int) d10.2 h20 fun b21 h22 =>
tree_half' s15 b21 h22 fun s23 h24 =>
M.val (IntKind.wrap .i64 (d10.2 + (1 : Int))) fun z25 =>
J9 (s23, z25) h24)) fun J16 =>
(bif ((ByteArray.size s15 : Int) != (64 : Int)) then
J16 true h11
else
sha_Node' s15 h11 fun s17 h18 =>
J16 (!strEq s17 d10.1) h18)
else
J8 d10.1 h11)) (x_top, (0 : Int)) h7)) fun J3 =>
(bif (decide (x_slot < (0 : Int))) then
J3 true h
else
tree_leaves' ((x_pairsL : Nat) : Int) h fun n4 h5 =>
J3 (decide (x_slot ≥ n4)) h5)
def tree_Follow (x_top : ByteArray) (x_slot : Int) (x_pairs : Option Addr) (x_pairsL : Nat) (x_pairsC : Nat) (h : H) (Q : ByteArray → Int → H → Prop) : Prop := tree_Follow.g tree_leaves sha_Node tree_second tree_half x_top x_slot x_pairs x_pairsL x_pairsC h Q
def tree_Follow.L (F : ByteArray → Int → Option Addr → Nat → Nat → H → (ByteArray → Int → H → Prop) → Prop) : List Value → (Value → H → Prop) → H → Prop
  | [.string x_top, .int .i64 x_slot, .slice x_pairs x_pairsL x_pairsC] => fun Q h => F x_top x_slot x_pairs x_pairsL x_pairsC h fun s31 n32 h33 => Q (.tuple #[(.string s31), (.int .i64 n32)]) h33
  | _ => fun _ _ => False
def tree_Follow.W : W := fun args => tree_Follow.L tree_Follow args.toList
def tree_Follow.ann : Ann := ⟨lookN [(1, [(18, .bool)]), (6, [(34, .bool)])], lookN [(7, [(0, .str)])], lookN [(58, [(0, .str), (21, .int .i64)])]⟩
theorem tree_Follow.geq (tree_leaves' : Int → H → (Int → H → Prop) → Prop) (sha_Node' : ByteArray → H → (ByteArray → H → Prop) → Prop) (tree_second' : Int → Int → Int → H → (Bool → H → Prop) → Prop) (tree_half' : ByteArray → Bool → H → (ByteArray → H → Prop) → Prop) (x_top : ByteArray) (x_slot : Int) (x_pairs : Option Addr) (x_pairsL : Nat) (x_pairsC : Nat) (Q : Value → H → Prop) (h : H) : evF Tryz.prog (envOf [(99, fun args => tree_leaves.L tree_leaves' args.toList), (102, fun args => sha_Node.L sha_Node' args.toList), (100, fun args => tree_second.L tree_second' args.toList), (101, fun args => tree_half.L tree_half' args.toList)]) Tryz.f98 tree_Follow.ann [(.string x_top), (.int .i64 x_slot), (.slice x_pairs x_pairsL x_pairsC)] Q h = tree_Follow.g tree_leaves' sha_Node' tree_second' tree_half' x_top x_slot x_pairs x_pairsL x_pairsC h fun s31 n32 h33 => Q (.tuple #[(.string s31), (.int .i64 n32)]) h33 := by kernel_rfl
theorem tree_Follow.good : FnGood Tryz.prog 98 tree_Follow.W := by
  refine FnGood.of (ann := tree_Follow.ann) (env := envOf [(99, fun args => tree_leaves.L tree_leaves args.toList), (102, fun args => sha_Node.L sha_Node args.toList), (100, fun args => tree_second.L tree_second args.toList), (101, fun args => tree_half.L tree_half args.toList)]) mixed (EnvGood.cons tree_leaves.good (EnvGood.cons sha_Node.good (EnvGood.cons tree_second.good (EnvGood.cons tree_half.good EnvGood.nil)))) Tryz.func98 Tryz.call98 fun args => ?_
  show tree_Follow.L tree_Follow args.toList = _ ∨ ∀ Q m, evF Tryz.prog (envOf [(99, fun args => tree_leaves.L tree_leaves args.toList), (102, fun args => sha_Node.L sha_Node args.toList), (100, fun args => tree_second.L tree_second args.toList), (101, fun args => tree_half.L tree_half args.toList)]) Tryz.f98 tree_Follow.ann args.toList Q m = tree_Follow.L tree_Follow args.toList Q m
  generalize args.toList = l
  unfold tree_Follow.L
  split
  · exact .inr fun Q m => tree_Follow.geq tree_leaves sha_Node tree_second tree_half _ _ _ _ _ Q m
  · exact .inl rfl
def ref17_Prepare.L (F : Option Addr → Int → Int → ByteArray → ByteArray → Option Addr → Nat → Nat → H → (Option Addr → Nat → Nat → ByteArray → Int → H → Prop) → Prop) : List Value → (Value → H → Prop) → H → Prop
  | [.agg ⟨[.pointer x_s_0, .int .i64 x_s_1, .int .i64 x_s_2, .string x_s_3]⟩, .string x_top, .slice x_l x_lL x_lC] => fun Q h => F x_s_0 x_s_1 x_s_2 x_s_3 x_top x_l x_lL x_lC h fun a191 l192 c193 s194 n195 h196 => Q (.tuple #[(.slice a191 l192 c193), (.string s194), (.int .i64 n195)]) h196
  | _ => fun _ _ => False
def slab_Slab_Blank.g (slab_Slab_good' : Option Addr → Int → Int → ByteArray → H → (Bool → H → Prop) → Prop) (sha_Leaf' : ByteArray → H → (ByteArray → H → Prop) → Prop) (slices_Repeatstring_string' : Option Addr → Nat → Nat → Int → H → (Option Addr → Nat → Nat → H → Prop) → Prop) (tree_Build' : Option Addr → Nat → Nat → H → (Option Addr → Nat → Nat → ByteArray → Int → H → Prop) → Prop) (x_s_0 : Option Addr) (x_s_1 : Int) (x_s_2 : Int) (x_s_3 : ByteArray) (h : H) (Q : Option Addr → Nat → Nat → ByteArray → Int → H → Prop) : Prop :=
M.new h (.cells (#[(.pointer x_s_0), (.int .i64 x_s_1), (.int .i64 x_s_2), (.string x_s_3)] : Array Value) 37) fun b6 h7 =>
M.load h7 ((⟨b6, 0, none⟩ : Addr).add 0) fun v8 =>
M.ptr v8 fun p9 =>
M.load h7 ((⟨b6, 0, none⟩ : Addr).add 1) fun v10 =>
M.int .i64 v10 fun n11 =>
M.load h7 ((⟨b6, 0, none⟩ : Addr).add 2) fun v12 =>
M.int .i64 v12 fun n13 =>
M.load h7 ((⟨b6, 0, none⟩ : Addr).add 3) fun v14 =>
M.str v14 fun s15 =>
slab_Slab_good' p9 n11 n13 s15 h7 fun b16 h17 =>
(bif (!b16) then
Q none 0 0 (ByteArray.empty) (4 : Int) h17
else
M.load h17 (Addr.add (⟨b6, 0, none⟩ : Addr) 2) fun v18 =>
M.int .i64 v18 fun n19 =>
sha_Leaf' (ByteArray.empty) h17 fun s20 h21 =>
M.still h17 (Addr.add (⟨b6, 0, none⟩ : Addr) 2) 1 h21 (
M.new h21 (.cells (#[(.string s20)] : Array Value) 9) fun b22 h23 =>
M.still h17 (Addr.add (⟨b6, 0, none⟩ : Addr) 2) 1 h23 (
slices_Repeatstring_string' (some (⟨b22, 0, none⟩ : Addr)) 1 1 n19 h23 fun a24 l25 c26 h27 =>
tree_Build' a24 l25 c26 h27 fun a28 l29 c30 s31 n32 h33 =>
M.join (α := (Option Addr × Nat × Nat)) (fun d53 h54 =>
M.join (α := (Option Addr × Nat × Nat)) (fun d70 h71 =>
Q d70.1 d70.2.1 d70.2.2 s31 (0 : Int) h71) fun J55 =>
M.load h54 (Addr.add (⟨b6, 0, none⟩ : Addr) 2) fun v56 =>
M.int .i64 v56 fun n57 =>
M.loop (α := (Option Addr × Nat × Nat) × Int) (fun J58 d59 h60 =>
(bif (decide (d59.2 < n57)) then
M.val (IntKind.wrap .i64 ((120 : Int) + d59.2)) fun z61 =>
M.new h60 (.cells (#[(.int .i64 z61), (.string (ByteArray.empty))] : Array Value) 116) fun b62 h63 =>
M.cellsOf h63 (some (⟨b62, 0, none⟩ : Addr)) (1 * 2) fun cs68 =>
M.app h63 116 2 24 [(.int .i64 (0 : Int)), (.string (ByteArray.empty))] d59.1.1 d59.1.2.1 d59.1.2.2 1 cs68 fun a64 l65 c66 h67 =>
M.val (IntKind.wrap .i64 (d59.2 + (1 : Int))) fun z69 =>
J58 ((a64, l65, c66), z69) h67
else
J55 (d59.1.1, d59.1.2.1, d59.1.2.2) h60)) ((d53.1, d53.2.1, d53.2.2), (0 : Int)) h54) fun J34 =>
M.loop (α := (Option Addr × Nat × Nat) × Int) (fun J35 d36 h37 =>
M.load h37 (Addr.add (⟨b6, 0, none⟩ : Addr) 2) fun v38 =>
M.int .i64 v38 fun n39 =>
(bif (decide (d36.2 < n39)) then
M.val (IntKind.wrap .i64 ((100 : Int) + d36.2)) fun z40 =>
M.idx a28 l29 d36.2 fun a41 j42 =>
M.load h37 (Addr.add a41 (j42 * 1)) fun v43 =>
M.str v43 fun s44 =>
M.new h37 (.cells (#[(.int .i64 z40), (.string s44)] : Array Value) 116) fun b45 h46 =>
M.cellsOf h46 (some (⟨b45, 0, none⟩ : Addr)) (1 * 2) fun cs51 =>
M.app h46 116 2 24 [(.int .i64 (0 : Int)), (.string (ByteArray.empty))] d36.1.1 d36.1.2.1 d36.1.2.2 1 cs51 fun a47 l48 c49 h50 =>
M.val (IntKind.wrap .i64 (d36.2 + (1 : Int))) fun z52 =>
J35 ((a47, l48, c49), z52) h50
else
J34 (d36.1.1, d36.1.2.1, d36.1.2.2) h37)) ((none, 0, 0), (1 : Int)) h33)))
def slab_Slab_Blank (x_s_0 : Option Addr) (x_s_1 : Int) (x_s_2 : Int) (x_s_3 : ByteArray) (h : H) (Q : Option Addr → Nat → Nat → ByteArray → Int → H → Prop) : Prop := slab_Slab_Blank.g slab_Slab_good sha_Leaf slices_Repeatstring_string tree_Build x_s_0 x_s_1 x_s_2 x_s_3 h Q
def slab_Slab_Blank.L (F : Option Addr → Int → Int → ByteArray → H → (Option Addr → Nat → Nat → ByteArray → Int → H → Prop) → Prop) : List Value → (Value → H → Prop) → H → Prop
  | [.agg ⟨[.pointer x_s_0, .int .i64 x_s_1, .int .i64 x_s_2, .string x_s_3]⟩] => fun Q h => F x_s_0 x_s_1 x_s_2 x_s_3 h fun a78 l79 c80 s81 n82 h83 => Q (.tuple #[(.slice a78 l79 c80), (.string s81), (.int .i64 n82)]) h83
  | _ => fun _ _ => False
def slab_Slab_Blank.W : W := fun args => slab_Slab_Blank.L slab_Slab_Blank args.toList
def slab_Slab_Blank.ann : Ann := ⟨lookN [], lookN [(31, [(8, .slc)]), (63, [(8, .slc)])], lookN [(250, [(8, .slc), (9, .int .i64)]), (506, [(8, .slc), (42, .int .i64)])]⟩
theorem slab_Slab_Blank.geq (slab_Slab_good' : Option Addr → Int → Int → ByteArray → H → (Bool → H → Prop) → Prop) (sha_Leaf' : ByteArray → H → (ByteArray → H → Prop) → Prop) (slices_Repeatstring_string' : Option Addr → Nat → Nat → Int → H → (Option Addr → Nat → Nat → H → Prop) → Prop) (tree_Build' : Option Addr → Nat → Nat → H → (Option Addr → Nat → Nat → ByteArray → Int → H → Prop) → Prop) (x_s_0 : Option Addr) (x_s_1 : Int) (x_s_2 : Int) (x_s_3 : ByteArray) (Q : Value → H → Prop) (h : H) : evF Tryz.prog (envOf [(53, fun args => slab_Slab_good.L slab_Slab_good' args.toList), (50, fun args => sha_Leaf.L sha_Leaf' args.toList), (61, fun args => slices_Repeatstring_string.L slices_Repeatstring_string' args.toList), (60, fun args => tree_Build.L tree_Build' args.toList)]) Tryz.f20 slab_Slab_Blank.ann [(.agg (#[(.pointer x_s_0), (.int .i64 x_s_1), (.int .i64 x_s_2), (.string x_s_3)] : Array Value))] Q h = slab_Slab_Blank.g slab_Slab_good' sha_Leaf' slices_Repeatstring_string' tree_Build' x_s_0 x_s_1 x_s_2 x_s_3 h fun a78 l79 c80 s81 n82 h83 => Q (.tuple #[(.slice a78 l79 c80), (.string s81), (.int .i64 n82)]) h83 := by kernel_rfl
theorem slab_Slab_Blank.good : FnGood Tryz.prog 20 slab_Slab_Blank.W := by
  refine FnGood.of (ann := slab_Slab_Blank.ann) (env := envOf [(53, fun args => slab_Slab_good.L slab_Slab_good args.toList), (50, fun args => sha_Leaf.L sha_Leaf args.toList), (61, fun args => slices_Repeatstring_string.L slices_Repeatstring_string args.toList), (60, fun args => tree_Build.L tree_Build args.toList)]) mixed (EnvGood.cons slab_Slab_good.good (EnvGood.cons sha_Leaf.good (EnvGood.cons slices_Repeatstring_string.good (EnvGood.cons tree_Build.good EnvGood.nil)))) Tryz.func20 Tryz.call20 fun args => ?_
  show slab_Slab_Blank.L slab_Slab_Blank args.toList = _ ∨ ∀ Q m, evF Tryz.prog (envOf [(53, fun args => slab_Slab_good.L slab_Slab_good args.toList), (50, fun args => sha_Leaf.L sha_Leaf args.toList), (61, fun args => slices_Repeatstring_string.L slices_Repeatstring_string args.toList), (60, fun args => tree_Build.L tree_Build args.toList)]) Tryz.f20 slab_Slab_Blank.ann args.toList Q m = slab_Slab_Blank.L slab_Slab_Blank args.toList Q m
  generalize args.toList = l
  unfold slab_Slab_Blank.L
  split
  · exact .inr fun Q m => slab_Slab_Blank.geq slab_Slab_good sha_Leaf slices_Repeatstring_string tree_Build _ _ _ _ Q m
  · exact .inl rfl
def slab_Slab_over.g (tree_Path' : Int → Int → H → (Option Addr → Nat → Nat → Int → H → Prop) → Prop) (bank_Bank_Read' : Option Addr → Int → Int → H → (ByteArray → Int → H → Prop) → Prop) (tree_Follow' : ByteArray → Int → Option Addr → Nat → Nat → H → (ByteArray → Int → H → Prop) → Prop) (x_s_0 : Option Addr) (x_s_1 : Int) (x_s_2 : Int) (x_s_3 : ByteArray) (x_top : ByteArray) (x_slot : Int) (x_changed : Option Nat) (h : H) (Q : Option Addr → Nat → Nat → ByteArray → Int → H → Prop) : Prop :=
M.new h (.cells (#[(.pointer x_s_0), (.int .i64 x_s_1), (.int .i64 x_s_2), (.string x_s_3)] : Array Value) 37) fun b6 h7 =>
M.load h7 (Addr.add (⟨b6, 0, none⟩ : Addr) 2) fun v8 =>
M.int .i64 v8 fun n9 =>
tree_Path' n9 x_slot h7 fun a10 l11 c12 n13 h14 =>
M.join (α := (Option Addr × Nat × Nat)) (fun d46 h47 =>
tree_Follow' x_top x_slot d46.1 d46.2.1 d46.2.2 h47 fun s48 n49 h50 =>
Q d46.1 d46.2.1 d46.2.2 s48 n49 h50) fun J15 =>
M.loop (α := (Option Addr × Nat × Nat) × Int) (fun J16 d17 h18 =>
(bif (decide (d17.2 < ((l11 : Nat) : Int))) then
M.idx a10 l11 d17.2 fun a19 j20 =>
M.load h18 (Addr.add a19 (j20 * 1)) fun v21 =>
M.int .i64 v21 fun n22 =>
M.lk2 Tryz.prog 108 (.map x_changed) (.int .i64 n22) h18 fun v23 b25 h24 =>
M.str v23 fun s26 =>
M.join (α := ByteArray) (fun d36 h37 =>
M.new h37 (.cells (#[(.string d36)] : Array Value) 9) fun b38 h39 =>
M.cellsOf h39 (some (⟨b38, 0, none⟩ : Addr)) (1 * 1) fun cs44 =>
M.app h39 9 1 16 [(.string (ByteArray.empty))] d17.1.1 d17.1.2.1 d17.1.2.2 1 cs44 fun a40 l41 c42 h43 =>
M.val (IntKind.wrap .i64 (d17.2 + (1 : Int))) fun z45 =>
J16 ((a40, l41, c42), z45) h43) fun J27 =>
(bif (!b25) then
M.load h24 (Addr.add (⟨b6, 0, none⟩ : Addr) 0) fun v28 =>
M.ptr v28 fun p29 =>
M.load h24 (Addr.add (⟨b6, 0, none⟩ : Addr) 1) fun v30 =>
M.int .i64 v30 fun n31 =>
M.val (IntKind.wrap .i64 ((100 : Int) + n22)) fun z32 =>
bank_Bank_Read' p29 n31 z32 h24 fun s33 n34 h35 =>
(bif (n34 != (0 : Int)) then
Q none 0 0 (ByteArray.empty) n34 h35
else
J27 s33 h35)
else
J27 s26 h24)
else
J15 (d17.1.1, d17.1.2.1, d17.1.2.2) h18)) ((none, 0, 0), (0 : Int)) h14
def slab_Slab_over (x_s_0 : Option Addr) (x_s_1 : Int) (x_s_2 : Int) (x_s_3 : ByteArray) (x_top : ByteArray) (x_slot : Int) (x_changed : Option Nat) (h : H) (Q : Option Addr → Nat → Nat → ByteArray → Int → H → Prop) : Prop := slab_Slab_over.g tree_Path bank_Bank_Read tree_Follow x_s_0 x_s_1 x_s_2 x_s_3 x_top x_slot x_changed h Q
def slab_Slab_over.L (F : Option Addr → Int → Int → ByteArray → ByteArray → Int → Option Nat → H → (Option Addr → Nat → Nat → ByteArray → Int → H → Prop) → Prop) : List Value → (Value → H → Prop) → H → Prop
  | [.agg ⟨[.pointer x_s_0, .int .i64 x_s_1, .int .i64 x_s_2, .string x_s_3]⟩, .string x_top, .int .i64 x_slot, .map x_changed] => fun Q h => F x_s_0 x_s_1 x_s_2 x_s_3 x_top x_slot x_changed h fun a57 l58 c59 s60 n61 h62 => Q (.tuple #[(.slice a57 l58 c59), (.string s60), (.int .i64 n61)]) h62
  | _ => fun _ _ => False
def slab_Slab_over.W : W := fun args => slab_Slab_over.L slab_Slab_over args.toList
def slab_Slab_over.ann : Ann := ⟨lookN [], lookN [(15, [(13, .slc)]), (15667, [(16, .str)])], lookN [(122, [(13, .slc), (30, .int .i64)])]⟩
theorem slab_Slab_over.geq (tree_Path' : Int → Int → H → (Option Addr → Nat → Nat → Int → H → Prop) → Prop) (bank_Bank_Read' : Option Addr → Int → Int → H → (ByteArray → Int → H → Prop) → Prop) (tree_Follow' : ByteArray → Int → Option Addr → Nat → Nat → H → (ByteArray → Int → H → Prop) → Prop) (x_s_0 : Option Addr) (x_s_1 : Int) (x_s_2 : Int) (x_s_3 : ByteArray) (x_top : ByteArray) (x_slot : Int) (x_changed : Option Nat) (Q : Value → H → Prop) (h : H) : evF Tryz.prog (envOf [(51, fun args => tree_Path.L tree_Path' args.toList), (56, fun args => bank_Bank_Read.L bank_Bank_Read' args.toList), (98, fun args => tree_Follow.L tree_Follow' args.toList)]) Tryz.f48 slab_Slab_over.ann [(.agg (#[(.pointer x_s_0), (.int .i64 x_s_1), (.int .i64 x_s_2), (.string x_s_3)] : Array Value)), (.string x_top), (.int .i64 x_slot), (.map x_changed)] Q h = slab_Slab_over.g tree_Path' bank_Bank_Read' tree_Follow' x_s_0 x_s_1 x_s_2 x_s_3 x_top x_slot x_changed h fun a57 l58 c59 s60 n61 h62 => Q (.tuple #[(.slice a57 l58 c59), (.string s60), (.int .i64 n61)]) h62 := by kernel_rfl
theorem slab_Slab_over.good : FnGood Tryz.prog 48 slab_Slab_over.W := by
  refine FnGood.of (ann := slab_Slab_over.ann) (env := envOf [(51, fun args => tree_Path.L tree_Path args.toList), (56, fun args => bank_Bank_Read.L bank_Bank_Read args.toList), (98, fun args => tree_Follow.L tree_Follow args.toList)]) mixed (EnvGood.cons tree_Path.good (EnvGood.cons bank_Bank_Read.good (EnvGood.cons tree_Follow.good EnvGood.nil))) Tryz.func48 Tryz.call48 fun args => ?_
  show slab_Slab_over.L slab_Slab_over args.toList = _ ∨ ∀ Q m, evF Tryz.prog (envOf [(51, fun args => tree_Path.L tree_Path args.toList), (56, fun args => bank_Bank_Read.L bank_Bank_Read args.toList), (98, fun args => tree_Follow.L tree_Follow args.toList)]) Tryz.f48 slab_Slab_over.ann args.toList Q m = slab_Slab_over.L slab_Slab_over args.toList Q m
  generalize args.toList = l
  unfold slab_Slab_over.L
  split
  · exact .inr fun Q m => slab_Slab_over.geq tree_Path bank_Bank_Read tree_Follow _ _ _ _ _ _ _ Q m
  · exact .inl rfl
def law17_begin.g (bank_New' : Int → Int → H → (Option Addr → H → Prop) → Prop) (ref10_New' : Int → Int → H → (Option Addr → H → Prop) → Prop) (slab_Slab_Blank' : Option Addr → Int → Int → ByteArray → H → (Option Addr → Nat → Nat → ByteArray → Int → H → Prop) → Prop) (ref17_Blank' : Option Addr → Int → Int → ByteArray → H → (Option Addr → Nat → Nat → ByteArray → Int → H → Prop) → Prop) (law17_sameWrites' : Option Addr → Nat → Nat → Option Addr → Nat → Nat → H → (Bool → H → Prop) → Prop) (slab_Slab_Apply' : Option Addr → Int → Int → ByteArray → Option Addr → Nat → Nat → H → (Int → H → Prop) → Prop) (ref17_Apply' : Option Addr → Int → Int → ByteArray → Option Addr → Nat → Nat → H → (Int → H → Prop) → Prop) (x_slots : Int) (x_disk : Int) (x_key : Array Value) (h : H) (Q : Option Addr → Bool → H → Prop) : Prop :=
M.new h (.cells x_key 22) fun b3 h4 =>
bank_New' (2 : Int) (140 : Int) h4 fun p5 h6 =>
ref10_New' (2 : Int) (140 : Int) h6 fun p7 h8 =>
M.join (α := Addr) (fun d24 h25 =>
M.nn (some d24) fun a26 =>
M.load h25 ((Addr.add a26 0).add 0) fun v27 =>
M.ptr v27 fun p28 =>
M.load h25 ((Addr.add a26 0).add 1) fun v29 =>
M.int .i64 v29 fun n30 =>
M.load h25 ((Addr.add a26 0).add 2) fun v31 =>
M.int .i64 v31 fun n32 =>
M.load h25 ((Addr.add a26 0).add 3) fun v33 =>
M.str v33 fun s34 =>
slab_Slab_Blank' p28 n30 n32 s34 h25 fun a35 l36 c37 s38 n39 h40 =>
M.nn (some d24) fun a41 =>
M.load h40 ((Addr.add a41 4).add 0) fun v42 =>
M.ptr v42 fun p43 =>
M.load h40 ((Addr.add a41 4).add 1) fun v44 =>
M.int .i64 v44 fun n45 =>
M.load h40 ((Addr.add a41 4).add 2) fun v46 =>
M.int .i64 v46 fun n47 =>
M.load h40 ((Addr.add a41 4).add 3) fun v48 =>
M.str v48 fun s49 =>
ref17_Blank' p43 n45 n47 s49 h40 fun a50 l51 c52 s53 n54 h55 =>
M.join (α := Bool) (fun d81 h82 =>
(bif d81 then
Q (some d24) false h82
else
M.nn (some d24) fun a83 =>
M.put h82 (Addr.add a83 8) (.string s38) fun h84 =>
Q (some d24) true h84)) fun J56 =>
law17_sameWrites' a35 l36 c37 a50 l51 c52 h55 fun b57 h58 =>
(bif (!b57) then
J56 true h58
else
(bif (!strEq s38 s53) then
J56 true h58
else
(bif (n39 != n54) then
J56 true h58
else
M.nn (some d24) fun a59 =>
M.load h58 ((Addr.add a59 0).add 0) fun v60 =>
M.ptr v60 fun p61 =>
M.load h58 ((Addr.add a59 0).add 1) fun v62 =>
M.int .i64 v62 fun n63 =>
M.load h58 ((Addr.add a59 0).add 2) fun v64 =>
M.int .i64 v64 fun n65 =>
M.load h58 ((Addr.add a59 0).add 3) fun v66 =>
M.str v66 fun s67 =>
M.nn (some d24) fun a68 =>
M.load h58 ((Addr.add a68 4).add 0) fun v69 =>
M.ptr v69 fun p70 =>
M.load h58 ((Addr.add a68 4).add 1) fun v71 =>
M.int .i64 v71 fun n72 =>
M.load h58 ((Addr.add a68 4).add 2) fun v73 =>
M.int .i64 v73 fun n74 =>
M.load h58 ((Addr.add a68 4).add 3) fun v75 =>
M.str v75 fun s76 =>
slab_Slab_Apply' p61 n63 n65 s67 a35 l36 c37 h58 fun n77 h78 =>
M.still h58 (Addr.add a68 4) 4 h78 (
ref17_Apply' p70 n72 n74 s76 a50 l51 c52 h78 fun n79 h80 =>
J56 (n77 != n79) h80))))) fun J9 =>
M.sub (some (⟨b3, 0, none⟩ : Addr)) 32 1 0 ((32 : Nat) : Int) fun a10 l11 c12 =>
M.sub (some (⟨b3, 0, none⟩ : Addr)) 32 1 0 ((32 : Nat) : Int) fun a13 l14 c15 =>
(M.b2s h8 a10 l11 fun s16 =>
M.b2s h8 a13 l14 fun s17 =>
M.new h8 (.cells (#[(.pointer p5), (.int .i64 x_disk), (.int .i64 x_slots), (.string s16), (.pointer p7), (.int .i64 x_disk), (.int .i64 x_slots), (.string s17), (.string (ByteArray.empty))] : Array Value) 42) fun b18 h19 =>
J9 (⟨b18, 0, none⟩ : Addr) h19) ∧
(M.b2s h8 a13 l14 fun s20 =>
M.b2s h8 a10 l11 fun s21 =>
M.new h8 (.cells (#[(.pointer p5), (.int .i64 x_disk), (.int .i64 x_slots), (.string s21), (.pointer p7), (.int .i64 x_disk), (.int .i64 x_slots), (.string s20), (.string (ByteArray.empty))] : Array Value) 42) fun b22 h23 =>
J9 (⟨b22, 0, none⟩ : Addr) h23)
def law17_begin (x_slots : Int) (x_disk : Int) (x_key : Array Value) (h : H) (Q : Option Addr → Bool → H → Prop) : Prop := law17_begin.g bank_New ref10_New slab_Slab_Blank ref17_Blank law17_sameWrites slab_Slab_Apply ref17_Apply x_slots x_disk x_key h Q
def law17_begin.L (F : Int → Int → Array Value → H → (Option Addr → Bool → H → Prop) → Prop) : List Value → (Value → H → Prop) → H → Prop
  | [.int .i64 x_slots, .int .i64 x_disk, .agg x_key] => fun Q h => F x_slots x_disk x_key h fun p88 b89 h90 => Q (.tuple #[(.pointer p88), (.bool b89)]) h90
  | _ => fun _ _ => False
def law17_begin.W : W := fun args => law17_begin.L law17_begin args.toList
def law17_begin.ann : Ann := ⟨lookN [(2, [(10, .adr)]), (5, [(79, .bool)])], lookN [], lookN []⟩
theorem law17_begin.geq (bank_New' : Int → Int → H → (Option Addr → H → Prop) → Prop) (ref10_New' : Int → Int → H → (Option Addr → H → Prop) → Prop) (slab_Slab_Blank' : Option Addr → Int → Int → ByteArray → H → (Option Addr → Nat → Nat → ByteArray → Int → H → Prop) → Prop) (ref17_Blank' : Option Addr → Int → Int → ByteArray → H → (Option Addr → Nat → Nat → ByteArray → Int → H → Prop) → Prop) (law17_sameWrites' : Option Addr → Nat → Nat → Option Addr → Nat → Nat → H → (Bool → H → Prop) → Prop) (slab_Slab_Apply' : Option Addr → Int → Int → ByteArray → Option Addr → Nat → Nat → H → (Int → H → Prop) → Prop) (ref17_Apply' : Option Addr → Int → Int → ByteArray → Option Addr → Nat → Nat → H → (Int → H → Prop) → Prop) (x_slots : Int) (x_disk : Int) (x_key : Array Value) (Q : Value → H → Prop) (h : H) : evF Tryz.prog (envOf [(19, fun args => bank_New.L bank_New' args.toList), (40, fun args => ref10_New.L ref10_New' args.toList), (20, fun args => slab_Slab_Blank.L slab_Slab_Blank' args.toList), (41, fun args => ref17_Blank.L ref17_Blank' args.toList), (42, fun args => law17_sameWrites.L law17_sameWrites' args.toList), (16, fun args => slab_Slab_Apply.L slab_Slab_Apply' args.toList), (43, fun args => ref17_Apply.L ref17_Apply' args.toList)]) Tryz.f12 law17_begin.ann [(.int .i64 x_slots), (.int .i64 x_disk), (.agg x_key)] Q h = law17_begin.g bank_New' ref10_New' slab_Slab_Blank' ref17_Blank' law17_sameWrites' slab_Slab_Apply' ref17_Apply' x_slots x_disk x_key h fun p88 b89 h90 => Q (.tuple #[(.pointer p88), (.bool b89)]) h90 := by kernel_rfl
theorem law17_begin.good : FnGood Tryz.prog 12 law17_begin.W := by
  refine FnGood.of (ann := law17_begin.ann) (env := envOf [(19, fun args => bank_New.L bank_New args.toList), (40, fun args => ref10_New.L ref10_New args.toList), (20, fun args => slab_Slab_Blank.L slab_Slab_Blank args.toList), (41, fun args => ref17_Blank.L ref17_Blank args.toList), (42, fun args => law17_sameWrites.L law17_sameWrites args.toList), (16, fun args => slab_Slab_Apply.L slab_Slab_Apply args.toList), (43, fun args => ref17_Apply.L ref17_Apply args.toList)]) mixed (EnvGood.cons bank_New.good (EnvGood.cons ref10_New.good (EnvGood.cons slab_Slab_Blank.good (EnvGood.cons ref17_Blank.good (EnvGood.cons law17_sameWrites.good (EnvGood.cons slab_Slab_Apply.good (EnvGood.cons ref17_Apply.good EnvGood.nil))))))) Tryz.func12 Tryz.call12 fun args => ?_
  show law17_begin.L law17_begin args.toList = _ ∨ ∀ Q m, evF Tryz.prog (envOf [(19, fun args => bank_New.L bank_New args.toList), (40, fun args => ref10_New.L ref10_New args.toList), (20, fun args => slab_Slab_Blank.L slab_Slab_Blank args.toList), (41, fun args => ref17_Blank.L ref17_Blank args.toList), (42, fun args => law17_sameWrites.L law17_sameWrites args.toList), (16, fun args => slab_Slab_Apply.L slab_Slab_Apply args.toList), (43, fun args => ref17_Apply.L ref17_Apply args.toList)]) Tryz.f12 law17_begin.ann args.toList Q m = law17_begin.L law17_begin args.toList Q m
  generalize args.toList = l
  unfold law17_begin.L
  split
  · exact .inr fun Q m => law17_begin.geq bank_New ref10_New slab_Slab_Blank ref17_Blank law17_sameWrites slab_Slab_Apply ref17_Apply _ _ _ Q m
  · exact .inl rfl
def slab_Slab_Prepare.g (slab_Slab_checked' : Option Addr → Int → Int → ByteArray → Option Addr → Nat → Nat → H → (Int → H → Prop) → Prop) (slab_Slab_over' : Option Addr → Int → Int → ByteArray → ByteArray → Int → Option Nat → H → (Option Addr → Nat → Nat → ByteArray → Int → H → Prop) → Prop) (sha_Leaf' : ByteArray → H → (ByteArray → H → Prop) → Prop) (tree_Put' : Int → Option Addr → Nat → Nat → ByteArray → H → (Option Addr → Nat → Nat → ByteArray → Int → H → Prop) → Prop) (tree_Path' : Int → Int → H → (Option Addr → Nat → Nat → Int → H → Prop) → Prop) (slab_rising' : Option Nat → H → (Option Addr → Nat → Nat → H → Prop) → Prop) (x_s_0 : Option Addr) (x_s_1 : Int) (x_s_2 : Int) (x_s_3 : ByteArray) (x_top : ByteArray) (x_l : Option Addr) (x_lL : Nat) (x_lC : Nat) (h : H) (Q : Option Addr → Nat → Nat → ByteArray → Int → H → Prop) : Prop :=
M.new h (.cells (#[(.pointer x_s_0), (.int .i64 x_s_1), (.int .i64 x_s_2), (.string x_s_3)] : Array Value) 37) fun b6 h7 =>
M.load h7 ((⟨b6, 0, none⟩ : Addr).add 0) fun v8 =>
M.ptr v8 fun p9 =>
M.load h7 ((⟨b6, 0, none⟩ : Addr).add 1) fun v10 =>
M.int .i64 v10 fun n11 =>
M.load h7 ((⟨b6, 0, none⟩ : Addr).add 2) fun v12 =>
M.int .i64 v12 fun n13 =>
M.load h7 ((⟨b6, 0, none⟩ : Addr).add 3) fun v14 =>
M.str v14 fun s15 =>
slab_Slab_checked' p9 n11 n13 s15 x_l x_lL x_lC h7 fun n16 h17 =>
(bif (n16 != (0 : Int)) then
Q none 0 0 (ByteArray.empty) n16 h17
else
M.new h17 (.map #[] 0) fun b18 h19 =>
M.new h19 (.map #[] 0) fun b20 h21 =>
M.join (α := ByteArray) (fun d94 h95 =>
M.join (α := (Option Addr × Nat × Nat)) (fun d120 h121 =>
M.join (α := (Option Addr × Nat × Nat)) (fun d146 h147 =>
Q d146.1 d146.2.1 d146.2.2 d94 (0 : Int) h147) fun J122 =>
slab_rising' (some b20) h121 fun a123 l124 c125 h126 =>
M.loop (α := (Option Addr × Nat × Nat) × Int) (fun J127 d128 h129 =>
(bif (decide (d128.2 < ((l124 : Nat) : Int))) then
M.idx a123 l124 d128.2 fun a130 j131 =>
M.load h129 (Addr.add a130 (j131 * 1)) fun v132 =>
M.int .i64 v132 fun n133 =>
M.val (IntKind.wrap .i64 ((120 : Int) + n133)) fun z134 =>
M.lk Tryz.prog 107 (.map (some b20)) (.int .i64 n133) h129 fun v135 h136 =>
M.str v135 fun s137 =>
M.new h136 (.cells (#[(.int .i64 z134), (.string s137)] : Array Value) 116) fun b138 h139 =>
M.cellsOf h139 (some (⟨b138, 0, none⟩ : Addr)) (1 * 2) fun cs144 =>
M.app h139 116 2 24 [(.int .i64 (0 : Int)), (.string (ByteArray.empty))] d128.1.1 d128.1.2.1 d128.1.2.2 1 cs144 fun a140 l141 c142 h143 =>
M.val (IntKind.wrap .i64 (d128.2 + (1 : Int))) fun z145 =>
J127 ((a140, l141, c142), z145) h143
else
J122 (d128.1.1, d128.1.2.1, d128.1.2.2) h129)) ((d120.1, d120.2.1, d120.2.2), (0 : Int)) h126) fun J96 =>
slab_rising' (some b18) h95 fun a97 l98 c99 h100 =>
M.loop (α := (Option Addr × Nat × Nat) × Int) (fun J101 d102 h103 =>
(bif (decide (d102.2 < ((l98 : Nat) : Int))) then
M.idx a97 l98 d102.2 fun a104 j105 =>
M.load h103 (Addr.add a104 (j105 * 1)) fun v106 =>
M.int .i64 v106 fun n107 =>
M.val (IntKind.wrap .i64 ((100 : Int) + n107)) fun z108 =>
M.lk Tryz.prog 108 (.map (some b18)) (.int .i64 n107) h103 fun v109 h110 =>
M.str v109 fun s111 =>
M.new h110 (.cells (#[(.int .i64 z108), (.string s111)] : Array Value) 116) fun b112 h113 =>
M.cellsOf h113 (some (⟨b112, 0, none⟩ : Addr)) (1 * 2) fun cs118 =>
M.app h113 116 2 24 [(.int .i64 (0 : Int)), (.string (ByteArray.empty))] d102.1.1 d102.1.2.1 d102.1.2.2 1 cs118 fun a114 l115 c116 h117 =>
M.val (IntKind.wrap .i64 (d102.2 + (1 : Int))) fun z119 =>
J101 ((a114, l115, c116), z119) h117
else
J96 (d102.1.1, d102.1.2.1, d102.1.2.2) h103)) ((none, 0, 0), (0 : Int)) h100) fun J22 =>
M.loop (α := ByteArray × Int) (fun J23 d24 h25 =>
(bif (decide (d24.2 < ((x_lL : Nat) : Int))) then
M.idx x_l x_lL d24.2 fun a26 j27 =>
M.load h25 ((Addr.add a26 (j27 * 2)).add 0) fun v28 =>
M.int .i64 v28 fun n29 =>
M.load h25 ((Addr.add a26 (j27 * 2)).add 1) fun v30 =>
M.str v30 fun s31 =>
M.new h25 (.cells (#[(.int .i64 (0 : Int)), (.string (ByteArray.empty))] : Array Value) 45) fun b32 h33 =>
M.req (Array.size (#[(.int .i64 n29), (.string s31)] : Array Value) = 2) (M.puts h33 (⟨b32, 0, none⟩ : Addr) [(.int .i64 n29), (.string s31)] fun h34 =>
M.load h34 ((⟨b6, 0, none⟩ : Addr).add 0) fun v35 =>
M.ptr v35 fun p36 =>
M.load h34 ((⟨b6, 0, none⟩ : Addr).add 1) fun v37 =>
M.int .i64 v37 fun n38 =>
M.load h34 ((⟨b6, 0, none⟩ : Addr).add 2) fun v39 =>
M.int .i64 v39 fun n40 =>
M.load h34 ((⟨b6, 0, none⟩ : Addr).add 3) fun v41 =>
M.str v41 fun s42 =>
M.load h34 (Addr.add (⟨b32, 0, none⟩ : Addr) 0) fun v43 =>
M.int .i64 v43 fun n44 =>
slab_Slab_over' p36 n38 n40 s42 d24.1 n44 (some b18) h34 fun a45 l46 c47 s48 n49 h50 =>
(bif (n49 != (0 : Int)) then
Q none 0 0 (ByteArray.empty) n49 h50
else
M.load h50 (Addr.add (⟨b32, 0, none⟩ : Addr) 0) fun v51 =>
M.int .i64 v51 fun n52 =>
M.load h50 (Addr.add (⟨b32, 0, none⟩ : Addr) 1) fun v53 =>
M.str v53 fun s54 =>
sha_Leaf' s54 h50 fun s55 h56 =>
M.still h50 (Addr.add (⟨b32, 0, none⟩ : Addr) 0) 1 h56 (
tree_Put' n52 a45 l46 c47 s55 h56 fun a57 l58 c59 s60 n61 h62 =>
M.load h62 (Addr.add (⟨b6, 0, none⟩ : Addr) 2) fun v63 =>
M.int .i64 v63 fun n64 =>
M.load h62 (Addr.add (⟨b32, 0, none⟩ : Addr) 0) fun v65 =>
M.int .i64 v65 fun n66 =>
tree_Path' n64 n66 h62 fun a67 l68 c69 n70 h71 =>
M.join (α := Unit) (fun d86 h87 =>
M.load h87 (Addr.add (⟨b32, 0, none⟩ : Addr) 0) fun v88 =>
M.int .i64 v88 fun n89 =>
M.load h87 (Addr.add (⟨b32, 0, none⟩ : Addr) 1) fun v90 =>
M.str v90 fun s91 =>
M.mput Tryz.prog 107 (.map (some b20)) (.int .i64 n89) (.string s91) h87 fun h92 =>
M.val (IntKind.wrap .i64 (d24.2 + (1 : Int))) fun z93 =>
J23 (s60, z93) h92) fun J72 =>
M.loop (α := Int) (fun J73 d74 h75 =>
(bif (decide (d74 < ((l68 : Nat) : Int))) then
M.idx a67 l68 d74 fun a76 j77 =>
M.load h75 (Addr.add a76 (j77 * 1)) fun v78 =>
M.int .i64 v78 fun n79 =>
M.idx a57 l58 d74 fun a80 j81 =>
M.load h75 (Addr.add a80 (j81 * 1)) fun v82 =>
M.str v82 fun s83 =>
M.mput Tryz.prog 108 (.map (some b18)) (.int .i64 n79) (.string s83) h75 fun h84 =>
M.val (IntKind.wrap .i64 (d74 + (1 : Int))) fun z85 =>
J73 z85 h84
else
J72 () h75)) (0 : Int) h71)))
else
J22 d24.1 h25)) (x_top, (0 : Int)) h21)
def slab_Slab_Prepare (x_s_0 : Option Addr) (x_s_1 : Int) (x_s_2 : Int) (x_s_3 : ByteArray) (x_top : ByteArray) (x_l : Option Addr) (x_lL : Nat) (x_lC : Nat) (h : H) (Q : Option Addr → Nat → Nat → ByteArray → Int → H → Prop) : Prop := slab_Slab_Prepare.g slab_Slab_checked slab_Slab_over sha_Leaf tree_Put tree_Path slab_rising x_s_0 x_s_1 x_s_2 x_s_3 x_top x_l x_lL x_lC h Q
def slab_Slab_Prepare.L (F : Option Addr → Int → Int → ByteArray → ByteArray → Option Addr → Nat → Nat → H → (Option Addr → Nat → Nat → ByteArray → Int → H → Prop) → Prop) : List Value → (Value → H → Prop) → H → Prop
  | [.agg ⟨[.pointer x_s_0, .int .i64 x_s_1, .int .i64 x_s_2, .string x_s_3]⟩, .string x_top, .slice x_l x_lL x_lC] => fun Q h => F x_s_0 x_s_1 x_s_2 x_s_3 x_top x_l x_lL x_lC h fun a154 l155 c156 s157 n158 h159 => Q (.tuple #[(.slice a154 l155 c156), (.string s157), (.int .i64 n158)]) h159
  | _ => fun _ _ => False
def slab_Slab_Prepare.W : W := fun args => slab_Slab_Prepare.L slab_Slab_Prepare args.toList
def slab_Slab_Prepare.ann : Ann := ⟨lookN [], lookN [(15, [(1, .str)]), (63, [(21, .slc)]), (127, [(21, .slc)]), (125343, [])], lookN [(122, [(1, .str), (36, .int .i64)]), (506, [(21, .slc), (95, .int .i64)]), (1018, [(21, .slc), (112, .int .i64)]), (1002746, [(74, .int .i64)])]⟩
theorem slab_Slab_Prepare.geq (slab_Slab_checked' : Option Addr → Int → Int → ByteArray → Option Addr → Nat → Nat → H → (Int → H → Prop) → Prop) (slab_Slab_over' : Option Addr → Int → Int → ByteArray → ByteArray → Int → Option Nat → H → (Option Addr → Nat → Nat → ByteArray → Int → H → Prop) → Prop) (sha_Leaf' : ByteArray → H → (ByteArray → H → Prop) → Prop) (tree_Put' : Int → Option Addr → Nat → Nat → ByteArray → H → (Option Addr → Nat → Nat → ByteArray → Int → H → Prop) → Prop) (tree_Path' : Int → Int → H → (Option Addr → Nat → Nat → Int → H → Prop) → Prop) (slab_rising' : Option Nat → H → (Option Addr → Nat → Nat → H → Prop) → Prop) (x_s_0 : Option Addr) (x_s_1 : Int) (x_s_2 : Int) (x_s_3 : ByteArray) (x_top : ByteArray) (x_l : Option Addr) (x_lL : Nat) (x_lC : Nat) (Q : Value → H → Prop) (h : H) : evF Tryz.prog (envOf [(47, fun args => slab_Slab_checked.L slab_Slab_checked' args.toList), (48, fun args => slab_Slab_over.L slab_Slab_over' args.toList), (50, fun args => sha_Leaf.L sha_Leaf' args.toList), (49, fun args => tree_Put.L tree_Put' args.toList), (51, fun args => tree_Path.L tree_Path' args.toList), (52, fun args => slab_rising.L slab_rising' args.toList)]) Tryz.f15 slab_Slab_Prepare.ann [(.agg (#[(.pointer x_s_0), (.int .i64 x_s_1), (.int .i64 x_s_2), (.string x_s_3)] : Array Value)), (.string x_top), (.slice x_l x_lL x_lC)] Q h = slab_Slab_Prepare.g slab_Slab_checked' slab_Slab_over' sha_Leaf' tree_Put' tree_Path' slab_rising' x_s_0 x_s_1 x_s_2 x_s_3 x_top x_l x_lL x_lC h fun a154 l155 c156 s157 n158 h159 => Q (.tuple #[(.slice a154 l155 c156), (.string s157), (.int .i64 n158)]) h159 := by kernel_rfl
theorem slab_Slab_Prepare.good : FnGood Tryz.prog 15 slab_Slab_Prepare.W := by
  refine FnGood.of (ann := slab_Slab_Prepare.ann) (env := envOf [(47, fun args => slab_Slab_checked.L slab_Slab_checked args.toList), (48, fun args => slab_Slab_over.L slab_Slab_over args.toList), (50, fun args => sha_Leaf.L sha_Leaf args.toList), (49, fun args => tree_Put.L tree_Put args.toList), (51, fun args => tree_Path.L tree_Path args.toList), (52, fun args => slab_rising.L slab_rising args.toList)]) mixed (EnvGood.cons slab_Slab_checked.good (EnvGood.cons slab_Slab_over.good (EnvGood.cons sha_Leaf.good (EnvGood.cons tree_Put.good (EnvGood.cons tree_Path.good (EnvGood.cons slab_rising.good EnvGood.nil)))))) Tryz.func15 Tryz.call15 fun args => ?_
  show slab_Slab_Prepare.L slab_Slab_Prepare args.toList = _ ∨ ∀ Q m, evF Tryz.prog (envOf [(47, fun args => slab_Slab_checked.L slab_Slab_checked args.toList), (48, fun args => slab_Slab_over.L slab_Slab_over args.toList), (50, fun args => sha_Leaf.L sha_Leaf args.toList), (49, fun args => tree_Put.L tree_Put args.toList), (51, fun args => tree_Path.L tree_Path args.toList), (52, fun args => slab_rising.L slab_rising args.toList)]) Tryz.f15 slab_Slab_Prepare.ann args.toList Q m = slab_Slab_Prepare.L slab_Slab_Prepare args.toList Q m
  generalize args.toList = l
  unfold slab_Slab_Prepare.L
  split
  · exact .inr fun Q m => slab_Slab_Prepare.geq slab_Slab_checked slab_Slab_over sha_Leaf tree_Put tree_Path slab_rising _ _ _ _ _ _ _ _ Q m
  · exact .inl rfl
def slab_Slab_Get.g (slab_Slab_may' : Option Addr → Int → Int → ByteArray → Int → H → (Int → H → Prop) → Prop) (slab_Slab_over' : Option Addr → Int → Int → ByteArray → ByteArray → Int → Option Nat → H → (Option Addr → Nat → Nat → ByteArray → Int → H → Prop) → Prop) (bank_Bank_Read' : Option Addr → Int → Int → H → (ByteArray → Int → H → Prop) → Prop) (sha_Leaf' : ByteArray → H → (ByteArray → H → Prop) → Prop) (strings_Repeat' : ByteArray → Int → H → (ByteArray → H → Prop) → Prop) (slab_Slab_with' : Option Addr → Int → Int → ByteArray → Int → H → (ByteArray → H → Prop) → Prop) (aead_Open' : ByteArray → ByteArray → ByteArray → ByteArray → H → (ByteArray → Int → H → Prop) → Prop) (x_s_0 : Option Addr) (x_s_1 : Int) (x_s_2 : Int) (x_s_3 : ByteArray) (x_top : ByteArray) (x_slot : Int) (h : H) (Q : ByteArray → Int → H → Prop) : Prop :=
M.new h (.cells (#[(.pointer x_s_0), (.int .i64 x_s_1), (.int .i64 x_s_2), (.string x_s_3)] : Array Value) 37) fun b3 h4 =>
M.load h4 ((⟨b3, 0, none⟩ : Addr).add 0) fun v5 =>
M.ptr v5 fun p6 =>
M.load h4 ((⟨b3, 0, none⟩ : Addr).add 1) fun v7 =>
M.int .i64 v7 fun n8 =>
M.load h4 ((⟨b3, 0, none⟩ : Addr).add 2) fun v9 =>
M.int .i64 v9 fun n10 =>
M.load h4 ((⟨b3, 0, none⟩ : Addr).add 3) fun v11 =>
M.str v11 fun s12 =>
slab_Slab_may' p6 n8 n10 s12 x_slot h4 fun n13 h14 =>
(bif (n13 != (0 : Int)) then
Q (ByteArray.empty) n13 h14
else
M.load h14 ((⟨b3, 0, none⟩ : Addr).add 0) fun v15 =>
M.ptr v15 fun p16 =>
M.load h14 ((⟨b3, 0, none⟩ : Addr).add 1) fun v17 =>
M.int .i64 v17 fun n18 =>
M.load h14 ((⟨b3, 0, none⟩ : Addr).add 2) fun v19 =>
M.int .i64 v19 fun n20 =>
M.load h14 ((⟨b3, 0, none⟩ : Addr).add 3) fun v21 =>
M.str v21 fun s22 =>
slab_Slab_over' p16 n18 n20 s22 x_top x_slot none h14 fun a23 l24 c25 s26 n27 h28 =>
(bif (n27 != (0 : Int)) then
Q (ByteArray.empty) n27 h28
else
M.load h28 (Addr.add (⟨b3, 0, none⟩ : Addr) 0) fun v29 =>
M.ptr v29 fun p30 =>
M.load h28 (Addr.add (⟨b3, 0, none⟩ : Addr) 1) fun v31 =>
M.int .i64 v31 fun n32 =>
M.val (IntKind.wrap .i64 ((120 : Int) + x_slot)) fun z33 =>
bank_Bank_Read' p30 n32 z33 h28 fun s34 n35 h36 =>
(bif (n35 != (0 : Int)) then
Q (ByteArray.empty) n35 h36
else
sha_Leaf' s34 h36 fun s37 h38 =>
(bif (!strEq s37 s26) then
Q (ByteArray.empty) (22 : Int) h38
else
(bif (strEq s34 (ByteArray.empty)) then
strings_Repeat' (⟨#[0]⟩ : ByteArray) (32 : Int) h38 fun s39 h40 =>
Q s39 (0 : Int) h40
else
(bif (decide ((ByteArray.size s34 : Int) < (12 : Int))) then
Q (ByteArray.empty) (3 : Int) h38
else
M.load h38 (Addr.add (⟨b3, 0, none⟩ : Addr) 3) fun v41 =>
M.str v41 fun s42 =>
M.ssub s34 0 (12 : Int) fun s43 =>
M.load h38 ((⟨b3, 0, none⟩ : Addr).add 0) fun v44 =>
M.ptr v44 fun p45 =>
M.load h38 ((⟨b3, 0, none⟩ : Addr).add 1) fun v46 =>
M.int .i64 v46 fun n47 =>
M.load h38 ((⟨b3, 0, none⟩ : Addr).add 2) fun v48 =>
M.int .i64 v48 fun n49 =>
M.load h38 ((⟨b3, 0, none⟩ : Addr).add 3) fun v50 =>
M.str v50 fun s51 =>
M.ssub s34 (12 : Int) (ByteArray.size s34 : Int) fun s52 =>
slab_Slab_with' p45 n47 n49 s51 x_slot h38 fun s53 h54 =>
M.still h38 (Addr.add (⟨b3, 0, none⟩ : Addr) 3) 1 h54 (
aead_Open' s42 s43 s53 s52 h54 fun s55 n56 h57 =>
Q s55 n56 h57)))))))
def slab_Slab_Get (x_s_0 : Option Addr) (x_s_1 : Int) (x_s_2 : Int) (x_s_3 : ByteArray) (x_top : ByteArray) (x_slot : Int) (h : H) (Q : ByteArray → Int → H → Prop) : Prop := slab_Slab_Get.g slab_Slab_may slab_Slab_over bank_Bank_Read sha_Leaf strings_Repeat slab_Slab_with aead_Open x_s_0 x_s_1 x_s_2 x_s_3 x_top x_slot h Q
def slab_Slab_Get.L (F : Option Addr → Int → Int → ByteArray → ByteArray → Int → H → (ByteArray → Int → H → Prop) → Prop) : List Value → (Value → H → Prop) → H → Prop
  | [.agg ⟨[.pointer x_s_0, .int .i64 x_s_1, .int .i64 x_s_2, .string x_s_3]⟩, .string x_top, .int .i64 x_slot] => fun Q h => F x_s_0 x_s_1 x_s_2 x_s_3 x_top x_slot h fun s61 n62 h63 => Q (.tuple #[(.string s61), (.int .i64 n62)]) h63
  | _ => fun _ _ => False
def slab_Slab_Get.W : W := fun args => slab_Slab_Get.L slab_Slab_Get args.toList
def slab_Slab_Get.ann : Ann := ⟨lookN [], lookN [], lookN []⟩
theorem slab_Slab_Get.geq (slab_Slab_may' : Option Addr → Int → Int → ByteArray → Int → H → (Int → H → Prop) → Prop) (slab_Slab_over' : Option Addr → Int → Int → ByteArray → ByteArray → Int → Option Nat → H → (Option Addr → Nat → Nat → ByteArray → Int → H → Prop) → Prop) (bank_Bank_Read' : Option Addr → Int → Int → H → (ByteArray → Int → H → Prop) → Prop) (sha_Leaf' : ByteArray → H → (ByteArray → H → Prop) → Prop) (strings_Repeat' : ByteArray → Int → H → (ByteArray → H → Prop) → Prop) (slab_Slab_with' : Option Addr → Int → Int → ByteArray → Int → H → (ByteArray → H → Prop) → Prop) (aead_Open' : ByteArray → ByteArray → ByteArray → ByteArray → H → (ByteArray → Int → H → Prop) → Prop) (x_s_0 : Option Addr) (x_s_1 : Int) (x_s_2 : Int) (x_s_3 : ByteArray) (x_top : ByteArray) (x_slot : Int) (Q : Value → H → Prop) (h : H) : evF Tryz.prog (envOf [(44, fun args => slab_Slab_may.L slab_Slab_may' args.toList), (48, fun args => slab_Slab_over.L slab_Slab_over' args.toList), (56, fun args => bank_Bank_Read.L bank_Bank_Read' args.toList), (50, fun args => sha_Leaf.L sha_Leaf' args.toList), (57, fun args => strings_Repeat.L strings_Repeat' args.toList), (46, fun args => slab_Slab_with.L slab_Slab_with' args.toList), (58, fun args => aead_Open.L aead_Open' args.toList)]) Tryz.f17 slab_Slab_Get.ann [(.agg (#[(.pointer x_s_0), (.int .i64 x_s_1), (.int .i64 x_s_2), (.string x_s_3)] : Array Value)), (.string x_top), (.int .i64 x_slot)] Q h = slab_Slab_Get.g slab_Slab_may' slab_Slab_over' bank_Bank_Read' sha_Leaf' strings_Repeat' slab_Slab_with' aead_Open' x_s_0 x_s_1 x_s_2 x_s_3 x_top x_slot h fun s61 n62 h63 => Q (.tuple #[(.string s61), (.int .i64 n62)]) h63 := by kernel_rfl
theorem slab_Slab_Get.good : FnGood Tryz.prog 17 slab_Slab_Get.W := by
  refine FnGood.of (ann := slab_Slab_Get.ann) (env := envOf [(44, fun args => slab_Slab_may.L slab_Slab_may args.toList), (48, fun args => slab_Slab_over.L slab_Slab_over args.toList), (56, fun args => bank_Bank_Read.L bank_Bank_Read args.toList), (50, fun args => sha_Leaf.L sha_Leaf args.toList), (57, fun args => strings_Repeat.L strings_Repeat args.toList), (46, fun args => slab_Slab_with.L slab_Slab_with args.toList), (58, fun args => aead_Open.L aead_Open args.toList)]) mixed (EnvGood.cons slab_Slab_may.good (EnvGood.cons slab_Slab_over.good (EnvGood.cons bank_Bank_Read.good (EnvGood.cons sha_Leaf.good (EnvGood.cons strings_Repeat.good (EnvGood.cons slab_Slab_with.good (EnvGood.cons aead_Open.good EnvGood.nil))))))) Tryz.func17 Tryz.call17 fun args => ?_
  show slab_Slab_Get.L slab_Slab_Get args.toList = _ ∨ ∀ Q m, evF Tryz.prog (envOf [(44, fun args => slab_Slab_may.L slab_Slab_may args.toList), (48, fun args => slab_Slab_over.L slab_Slab_over args.toList), (56, fun args => bank_Bank_Read.L bank_Bank_Read args.toList), (50, fun args => sha_Leaf.L sha_Leaf args.toList), (57, fun args => strings_Repeat.L strings_Repeat args.toList), (46, fun args => slab_Slab_with.L slab_Slab_with args.toList), (58, fun args => aead_Open.L aead_Open args.toList)]) Tryz.f17 slab_Slab_Get.ann args.toList Q m = slab_Slab_Get.L slab_Slab_Get args.toList Q m
  generalize args.toList = l
  unfold slab_Slab_Get.L
  split
  · exact .inr fun Q m => slab_Slab_Get.geq slab_Slab_may slab_Slab_over bank_Bank_Read sha_Leaf strings_Repeat slab_Slab_with aead_Open _ _ _ _ _ _ Q m
  · exact .inl rfl
def slab_Slab_Bad.g (slab_Slab_good' : Option Addr → Int → Int → ByteArray → H → (Bool → H → Prop) → Prop) (slab_Slab_Get' : Option Addr → Int → Int → ByteArray → ByteArray → Int → H → (ByteArray → Int → H → Prop) → Prop) (x_s_0 : Option Addr) (x_s_1 : Int) (x_s_2 : Int) (x_s_3 : ByteArray) (x_top : ByteArray) (h : H) (Q : Option Addr → Nat → Nat → H → Prop) : Prop :=
M.new h (.cells (#[(.pointer x_s_0), (.int .i64 x_s_1), (.int .i64 x_s_2), (.string x_s_3)] : Array Value) 37) fun b4 h5 =>
M.load h5 ((⟨b4, 0, none⟩ : Addr).add 0) fun v6 =>
M.ptr v6 fun p7 =>
M.load h5 ((⟨b4, 0, none⟩ : Addr).add 1) fun v8 =>
M.int .i64 v8 fun n9 =>
M.load h5 ((⟨b4, 0, none⟩ : Addr).add 2) fun v10 =>
M.int .i64 v10 fun n11 =>
M.load h5 ((⟨b4, 0, none⟩ : Addr).add 3) fun v12 =>
M.str v12 fun s13 =>
slab_Slab_good' p7 n9 n11 s13 h5 fun b14 h15 =>
(bif (!b14) then
Q none 0 0 h15
else
M.load h15 (Addr.add (⟨b4, 0, none⟩ : Addr) 2) fun v16 =>
M.int .i64 v16 fun n17 =>
M.loop (α := (Option Addr × Nat × Nat) × Int) (fun J18 d19 h20 =>
(bif (decide (d19.2 < n17)) then
M.load h20 ((⟨b4, 0, none⟩ : Addr).add 0) fun v21 =>
M.ptr v21 fun p22 =>
M.load h20 ((⟨b4, 0, none⟩ : Addr).add 1) fun v23 =>
M.int .i64 v23 fun n24 =>
M.load h20 ((⟨b4, 0, none⟩ : Addr).add 2) fun v25 =>
M.int .i64 v25 fun n26 =>
M.load h20 ((⟨b4, 0, none⟩ : Addr).add 3) fun v27 =>
M.str v27 fun s28 =>
slab_Slab_Get' p22 n24 n26 s28 x_top d19.2 h20 fun s29 n30 h31 =>
(bif (n30 != (0 : Int)) then
M.new h31 (.cells (#[(.int .i64 d19.2)] : Array Value) 3) fun b32 h33 =>
M.cellsOf h33 (some (⟨b32, 0, none⟩ : Addr)) (1 * 1) fun cs38 =>
M.app h33 3 1 8 [(.int .i64 (0 : Int))] d19.1.1 d19.1.2.1 d19.1.2.2 1 cs38 fun a34 l35 c36 h37 =>
M.val (IntKind.wrap .i64 (d19.2 + (1 : Int))) fun z39 =>
J18 ((a34, l35, c36), z39) h37
else
M.val (IntKind.wrap .i64 (d19.2 + (1 : Int))) fun z40 =>
J18 ((d19.1.1, d19.1.2.1, d19.1.2.2), z40) h31)
else
Q d19.1.1 d19.1.2.1 d19.1.2.2 h20)) ((none, 0, 0), (0 : Int)) h15)
def slab_Slab_Bad (x_s_0 : Option Addr) (x_s_1 : Int) (x_s_2 : Int) (x_s_3 : ByteArray) (x_top : ByteArray) (h : H) (Q : Option Addr → Nat → Nat → H → Prop) : Prop := slab_Slab_Bad.g slab_Slab_good slab_Slab_Get x_s_0 x_s_1 x_s_2 x_s_3 x_top h Q
def law17_wakes.g (law17_begin' : Int → Int → Array Value → H → (Option Addr → Bool → H → Prop) → Prop) (slab_Slab_Seal' : Option Addr → Int → Int → ByteArray → Int → ByteArray → ByteArray → H → (ByteArray → Int → H → Prop) → Prop) (slab_Slab_Prepare' : Option Addr → Int → Int → ByteArray → ByteArray → Option Addr → Nat → Nat → H → (Option Addr → Nat → Nat → ByteArray → Int → H → Prop) → Prop) (slab_Slab_Apply' : Option Addr → Int → Int → ByteArray → Option Addr → Nat → Nat → H → (Int → H → Prop) → Prop) (slab_Slab_Get' : Option Addr → Int → Int → ByteArray → ByteArray → Int → H → (ByteArray → Int → H → Prop) → Prop)  (h : H) (Q : Bool → H → Prop) : Prop :=
law17_begin' (4 : Int) (0 : Int) (Array.replicate 32 ((.int .u8 (0 : Int)) : Value)) h fun p2 b3 h4 =>
M.nn p2 fun a5 =>
M.load h4 ((Addr.add a5 0).add 0) fun v6 =>
M.ptr v6 fun p7 =>
M.load h4 ((Addr.add a5 0).add 1) fun v8 =>
M.int .i64 v8 fun n9 =>
M.load h4 ((Addr.add a5 0).add 2) fun v10 =>
M.int .i64 v10 fun n11 =>
M.load h4 ((Addr.add a5 0).add 3) fun v12 =>
M.str v12 fun s13 =>
slab_Slab_Seal' p7 n9 n11 s13 (2 : Int) (⟨#[49, 50, 51, 52, 53, 54, 55, 56, 57, 48, 49, 50]⟩ : ByteArray) (⟨#[48, 49, 50, 51, 52, 53, 54, 55, 56, 57, 97, 98, 99, 100, 101, 102, 48, 49, 50, 51, 52, 53, 54, 55, 56, 57, 97, 98, 99, 100, 101, 102]⟩ : ByteArray) h4 fun s14 n15 h16 =>
M.nn p2 fun a17 =>
M.load h16 ((Addr.add a17 0).add 0) fun v18 =>
M.ptr v18 fun p19 =>
M.load h16 ((Addr.add a17 0).add 1) fun v20 =>
M.int .i64 v20 fun n21 =>
M.load h16 ((Addr.add a17 0).add 2) fun v22 =>
M.int .i64 v22 fun n23 =>
M.load h16 ((Addr.add a17 0).add 3) fun v24 =>
M.str v24 fun s25 =>
M.nn p2 fun a26 =>
M.load h16 (Addr.add a26 8) fun v27 =>
M.str v27 fun s28 =>
M.new h16 (.cells (#[(.int .i64 (2 : Int)), (.string s14)] : Array Value) 45) fun b29 h30 =>
M.still h16 (Addr.add a26 8) 1 h30 (
M.still h16 (Addr.add a17 0) 4 h30 (
slab_Slab_Prepare' p19 n21 n23 s25 s28 (some (⟨b29, 0, none⟩ : Addr)) 1 1 h30 fun a31 l32 c33 s34 n35 h36 =>
M.nn p2 fun a37 =>
M.load h36 ((Addr.add a37 0).add 0) fun v38 =>
M.ptr v38 fun p39 =>
M.load h36 ((Addr.add a37 0).add 1) fun v40 =>
M.int .i64 v40 fun n41 =>
M.load h36 ((Addr.add a37 0).add 2) fun v42 =>
M.int .i64 v42 fun n43 =>
M.load h36 ((Addr.add a37 0).add 3) fun v44 =>
M.str v44 fun s45 =>
slab_Slab_Apply' p39 n41 n43 s45 a31 l32 c33 h36 fun n46 h47 =>
M.nn p2 fun a48 =>
M.load h47 ((Addr.add a48 0).add 0) fun v49 =>
M.ptr v49 fun p50 =>
M.load h47 ((Addr.add a48 0).add 1) fun v51 =>
M.int .i64 v51 fun n52 =>
M.load h47 ((Addr.add a48 0).add 2) fun v53 =>
M.int .i64 v53 fun n54 =>
M.load h47 ((Addr.add a48 0).add 3) fun v55 =>
M.str v55 fun s56 =>
slab_Slab_Get' p50 n52 n54 s56 s34 (2 : Int) h47 fun s57 n58 h59 =>
M.nn p2 fun a60 =>
M.load h59 ((Addr.add a60 0).add 0) fun v61 =>
M.ptr v61 fun p62 =>
M.load h59 ((Addr.add a60 0).add 1) fun v63 =>
M.int .i64 v63 fun n64 =>
M.load h59 ((Addr.add a60 0).add 2) fun v65 =>
M.int .i64 v65 fun n66 =>
M.load h59 ((Addr.add a60 0).add 3) fun v67 =>
M.str v67 fun s68 =>
slab_Slab_Get' p62 n64 n66 s68 s34 (1 : Int) h59 fun s69 n70 h71 =>
M.join (α := Bool) (fun d78 h79 =>
Q d78 h79) fun J72 =>
(bif b3 then
(bif (n15 == (0 : Int)) then
(bif (n35 == (0 : Int)) then
(bif (n46 == (0 : Int)) then
(bif (n58 == (0 : Int)) then
(bif (n70 == (0 : Int)) then
(bif (strEq s57 (⟨#[48, 49, 50, 51, 52, 53, 54, 55, 56, 57, 97, 98, 99, 100, 101, 102, 48, 49, 50, 51, 52, 53, 54, 55, 56, 57, 97, 98, 99, 100, 101, 102]⟩ : ByteArray)) then
M.mk h71 5 [(.int .u8 (0 : Int))] 1 (32 : Int) (32 : Int) fun a73 l74 c75 h76 =>
M.b2s h76 a73 l74 fun s77 =>
(bif (strEq s69 s77) then
(bif ((ByteArray.size s14 : Int) == (60 : Int)) then
J72 (((l32 : Nat) : Int) == (3 : Int)) h76
else
J72 false h76)
else
J72 false h76)
else
J72 false h71)
else
J72 false h71)
else
J72 false h71)
else
J72 false h71)
else
J72 false h71)
else
J72 false h71)
else
J72 false h71)))
def law17_wakes  (h : H) (Q : Bool → H → Prop) : Prop := law17_wakes.g law17_begin slab_Slab_Seal slab_Slab_Prepare slab_Slab_Apply slab_Slab_Get  h Q
def law17_wakes.L (F : H → (Bool → H → Prop) → Prop) : List Value → (Value → H → Prop) → H → Prop
  | [] => fun Q h => F  h fun b82 h83 => Q (.bool b82) h83
  | _ => fun _ _ => False
def law17_wakes.W : W := fun args => law17_wakes.L law17_wakes args.toList
def law17_wakes.ann : Ann := ⟨lookN [(8, [(0, .bool)])], lookN [], lookN []⟩
theorem law17_wakes.geq (law17_begin' : Int → Int → Array Value → H → (Option Addr → Bool → H → Prop) → Prop) (slab_Slab_Seal' : Option Addr → Int → Int → ByteArray → Int → ByteArray → ByteArray → H → (ByteArray → Int → H → Prop) → Prop) (slab_Slab_Prepare' : Option Addr → Int → Int → ByteArray → ByteArray → Option Addr → Nat → Nat → H → (Option Addr → Nat → Nat → ByteArray → Int → H → Prop) → Prop) (slab_Slab_Apply' : Option Addr → Int → Int → ByteArray → Option Addr → Nat → Nat → H → (Int → H → Prop) → Prop) (slab_Slab_Get' : Option Addr → Int → Int → ByteArray → ByteArray → Int → H → (ByteArray → Int → H → Prop) → Prop)  (Q : Value → H → Prop) (h : H) : evF Tryz.prog (envOf [(12, fun args => law17_begin.L law17_begin' args.toList), (14, fun args => slab_Slab_Seal.L slab_Slab_Seal' args.toList), (15, fun args => slab_Slab_Prepare.L slab_Slab_Prepare' args.toList), (16, fun args => slab_Slab_Apply.L slab_Slab_Apply' args.toList), (17, fun args => slab_Slab_Get.L slab_Slab_Get' args.toList)]) Tryz.f13 law17_wakes.ann [] Q h = law17_wakes.g law17_begin' slab_Slab_Seal' slab_Slab_Prepare' slab_Slab_Apply' slab_Slab_Get'  h fun b82 h83 => Q (.bool b82) h83 := by kernel_rfl
theorem law17_wakes.good : FnGood Tryz.prog 13 law17_wakes.W := by
  refine FnGood.of (ann := law17_wakes.ann) (env := envOf [(12, fun args => law17_begin.L law17_begin args.toList), (14, fun args => slab_Slab_Seal.L slab_Slab_Seal args.toList), (15, fun args => slab_Slab_Prepare.L slab_Slab_Prepare args.toList), (16, fun args => slab_Slab_Apply.L slab_Slab_Apply args.toList), (17, fun args => slab_Slab_Get.L slab_Slab_Get args.toList)]) mixed (EnvGood.cons law17_begin.good (EnvGood.cons slab_Slab_Seal.good (EnvGood.cons slab_Slab_Prepare.good (EnvGood.cons slab_Slab_Apply.good (EnvGood.cons slab_Slab_Get.good EnvGood.nil))))) Tryz.func13 Tryz.call13 fun args => ?_
  show law17_wakes.L law17_wakes args.toList = _ ∨ ∀ Q m, evF Tryz.prog (envOf [(12, fun args => law17_begin.L law17_begin args.toList), (14, fun args => slab_Slab_Seal.L slab_Slab_Seal args.toList), (15, fun args => slab_Slab_Prepare.L slab_Slab_Prepare args.toList), (16, fun args => slab_Slab_Apply.L slab_Slab_Apply args.toList), (17, fun args => slab_Slab_Get.L slab_Slab_Get args.toList)]) Tryz.f13 law17_wakes.ann args.toList Q m = law17_wakes.L law17_wakes args.toList Q m
  generalize args.toList = l
  unfold law17_wakes.L
  split
  · exact .inr fun Q m => law17_wakes.geq law17_begin slab_Slab_Seal slab_Slab_Prepare slab_Slab_Apply slab_Slab_Get  Q m
  · exact .inl rfl
end Go.Proofs.YthegnmanjdlmjaaGreatDoor

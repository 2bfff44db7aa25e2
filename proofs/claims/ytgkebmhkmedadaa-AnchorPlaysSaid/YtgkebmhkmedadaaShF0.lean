/- The shallow forms of the functions of this seat, printed by a program of mine, each checked by the kernel against the given code. -/
import Derived.Test.YtgkebmhkmedadaaShA9
import Derived.Test.YtgkebmhkmedadaaProg
namespace Go.Proofs.Ytgkebmhkmedadaa
open Go.Sh
set_option linter.unusedVariables false
theorem mixed : Try.prog.follows .mixedOrders = true := by kernel_rfl

def anchor_New  (h : H) (Q : Option Addr → H → Prop) : Prop :=
M.new h (.cells (#[(.int .u64 (0 : Int)), (.string (ByteArray.empty))] : Array Value) 47) fun b1 h2 =>
Q (some (⟨b1, 0, none⟩ : Addr)) h2
def anchor_New.L : List Value → (Value → H → Prop) → H → Prop
  | [] => fun Q h => anchor_New  h fun p3 h4 => Q (.pointer p3) h4
  | _ => fun _ _ => False
def anchor_New.W : W := fun args => anchor_New.L args.toList
def anchor_New.ann : Ann := ⟨lookN [], lookN [], lookN []⟩
def anchor_New.env : Env := envOf []
theorem anchor_New.eq  (Q : Value → H → Prop) (h : H) : evF Try.prog anchor_New.env Try.f6 anchor_New.ann [] Q h = anchor_New  h fun p3 h4 => Q (.pointer p3) h4 := by kernel_rfl
theorem anchor_New.W_eq  (Q : Value → H → Prop) (h : H) : anchor_New.W #[] Q h = anchor_New  h fun p3 h4 => Q (.pointer p3) h4 := by kernel_rfl
theorem anchor_New.good : FnGood Try.prog 6 anchor_New.W := by
  refine FnGood.of (ann := anchor_New.ann) (env := anchor_New.env) mixed EnvGood.nil Try.func6 Try.call6 fun args => ?_
  show anchor_New.L args.toList = _ ∨ ∀ Q m, evF Try.prog anchor_New.env Try.f6 anchor_New.ann args.toList Q m = anchor_New.L args.toList Q m
  generalize args.toList = l
  unfold anchor_New.L
  split
  · exact .inr fun Q m => anchor_New.eq  Q m
  · exact .inl rfl

def anchor_Anchor_Set (x_a : Option Addr) (x_count : Int) (x_digest : ByteArray) (h : H) (Q : Int → H → Prop) : Prop :=
(bif (Option.isNone x_a) then
Q (1 : Int) h
else
(bif ((ByteArray.size x_digest : Int) != (32 : Int)) then
Q (7 : Int) h
else
M.nn x_a fun a4 =>
M.load h (Addr.add (Addr.add a4 0) 0) fun v5 =>
M.int .u64 v5 fun n6 =>
(bif (decide (x_count ≤ n6)) then
Q (25 : Int) h
else
M.nn x_a fun a7 =>
M.req (Array.size (#[(.int .u64 x_count), (.string x_digest)] : Array Value) = 2) (M.puts h (Addr.add a7 0) [(.int .u64 x_count), (.string x_digest)] fun h8 =>
Q (0 : Int) h8))))
def anchor_Anchor_Set.L : List Value → (Value → H → Prop) → H → Prop
  | [.pointer x_a, .int .u64 x_count, .string x_digest] => fun Q h => anchor_Anchor_Set x_a x_count x_digest h fun n9 h10 => Q (.int .i64 n9) h10
  | _ => fun _ _ => False
def anchor_Anchor_Set.W : W := fun args => anchor_Anchor_Set.L args.toList
def anchor_Anchor_Set.ann : Ann := ⟨lookN [], lookN [], lookN []⟩
def anchor_Anchor_Set.env : Env := envOf []
theorem anchor_Anchor_Set.eq (x_a : Option Addr) (x_count : Int) (x_digest : ByteArray) (Q : Value → H → Prop) (h : H) : evF Try.prog anchor_Anchor_Set.env Try.f8 anchor_Anchor_Set.ann [(.pointer x_a), (.int .u64 x_count), (.string x_digest)] Q h = anchor_Anchor_Set x_a x_count x_digest h fun n9 h10 => Q (.int .i64 n9) h10 := by kernel_rfl
theorem anchor_Anchor_Set.W_eq (x_a : Option Addr) (x_count : Int) (x_digest : ByteArray) (Q : Value → H → Prop) (h : H) : anchor_Anchor_Set.W #[(.pointer x_a), (.int .u64 x_count), (.string x_digest)] Q h = anchor_Anchor_Set x_a x_count x_digest h fun n9 h10 => Q (.int .i64 n9) h10 := by kernel_rfl
theorem anchor_Anchor_Set.good : FnGood Try.prog 8 anchor_Anchor_Set.W := by
  refine FnGood.of (ann := anchor_Anchor_Set.ann) (env := anchor_Anchor_Set.env) mixed EnvGood.nil Try.func8 Try.call8 fun args => ?_
  show anchor_Anchor_Set.L args.toList = _ ∨ ∀ Q m, evF Try.prog anchor_Anchor_Set.env Try.f8 anchor_Anchor_Set.ann args.toList Q m = anchor_Anchor_Set.L args.toList Q m
  generalize args.toList = l
  unfold anchor_Anchor_Set.L
  split
  · exact .inr fun Q m => anchor_Anchor_Set.eq _ _ _ Q m
  · exact .inl rfl

def law11_text (x_c : Array Value) (h : H) (Q : ByteArray → H → Prop) : Prop :=
M.new h (.cells x_c 32) fun b2 h3 =>
M.load h3 (Addr.add (⟨b2, 0, none⟩ : Addr) 34) fun v4 =>
M.bool v4 fun b5 =>
(bif b5 then
M.load h3 (Addr.add (⟨b2, 0, none⟩ : Addr) 33) fun v6 =>
M.str v6 fun s7 =>
Q s7 h3
else
M.sub (some (Addr.add (⟨b2, 0, none⟩ : Addr) 1)) 32 1 0 ((32 : Nat) : Int) fun a8 l9 c10 =>
M.b2s h3 a8 l9 fun s11 =>
Q s11 h3)
def law11_text.L : List Value → (Value → H → Prop) → H → Prop
  | [.agg x_c] => fun Q h => law11_text x_c h fun s12 h13 => Q (.string s12) h13
  | _ => fun _ _ => False
def law11_text.W : W := fun args => law11_text.L args.toList
def law11_text.ann : Ann := ⟨lookN [], lookN [], lookN []⟩
def law11_text.env : Env := envOf []
theorem law11_text.eq (x_c : Array Value) (Q : Value → H → Prop) (h : H) : evF Try.prog law11_text.env Try.f9 law11_text.ann [(.agg x_c)] Q h = law11_text x_c h fun s12 h13 => Q (.string s12) h13 := by kernel_rfl
theorem law11_text.W_eq (x_c : Array Value) (Q : Value → H → Prop) (h : H) : law11_text.W #[(.agg x_c)] Q h = law11_text x_c h fun s12 h13 => Q (.string s12) h13 := by kernel_rfl
theorem law11_text.good : FnGood Try.prog 9 law11_text.W := by
  refine FnGood.of (ann := law11_text.ann) (env := law11_text.env) mixed EnvGood.nil Try.func9 Try.call9 fun args => ?_
  show law11_text.L args.toList = _ ∨ ∀ Q m, evF Try.prog law11_text.env Try.f9 law11_text.ann args.toList Q m = law11_text.L args.toList Q m
  generalize args.toList = l
  unfold law11_text.L
  split
  · exact .inr fun Q m => law11_text.eq _ Q m
  · exact .inl rfl

def ref11_Set (x_a : Option Addr) (x_count : Int) (x_digest : ByteArray) (h : H) (Q : Int → H → Prop) : Prop :=
(bif ((ByteArray.size x_digest : Int) != (32 : Int)) then
Q (7 : Int) h
else
M.nn x_a fun a4 =>
M.load h (Addr.add a4 0) fun v5 =>
M.int .u64 v5 fun n6 =>
(bif (decide (x_count ≤ n6)) then
Q (25 : Int) h
else
M.nn x_a fun a7 =>
M.put h (Addr.add a7 0) (.int .u64 x_count) fun h8 =>
M.nn x_a fun a9 =>
M.put h8 (Addr.add a9 1) (.string x_digest) fun h10 =>
Q (0 : Int) h10))
def ref11_Set.L : List Value → (Value → H → Prop) → H → Prop
  | [.pointer x_a, .int .u64 x_count, .string x_digest] => fun Q h => ref11_Set x_a x_count x_digest h fun n11 h12 => Q (.int .i64 n11) h12
  | _ => fun _ _ => False
def ref11_Set.W : W := fun args => ref11_Set.L args.toList
def ref11_Set.ann : Ann := ⟨lookN [], lookN [], lookN []⟩
def ref11_Set.env : Env := envOf []
theorem ref11_Set.eq (x_a : Option Addr) (x_count : Int) (x_digest : ByteArray) (Q : Value → H → Prop) (h : H) : evF Try.prog ref11_Set.env Try.f10 ref11_Set.ann [(.pointer x_a), (.int .u64 x_count), (.string x_digest)] Q h = ref11_Set x_a x_count x_digest h fun n11 h12 => Q (.int .i64 n11) h12 := by kernel_rfl
theorem ref11_Set.W_eq (x_a : Option Addr) (x_count : Int) (x_digest : ByteArray) (Q : Value → H → Prop) (h : H) : ref11_Set.W #[(.pointer x_a), (.int .u64 x_count), (.string x_digest)] Q h = ref11_Set x_a x_count x_digest h fun n11 h12 => Q (.int .i64 n11) h12 := by kernel_rfl
theorem ref11_Set.good : FnGood Try.prog 10 ref11_Set.W := by
  refine FnGood.of (ann := ref11_Set.ann) (env := ref11_Set.env) mixed EnvGood.nil Try.func10 Try.call10 fun args => ?_
  show ref11_Set.L args.toList = _ ∨ ∀ Q m, evF Try.prog ref11_Set.env Try.f10 ref11_Set.ann args.toList Q m = ref11_Set.L args.toList Q m
  generalize args.toList = l
  unfold ref11_Set.L
  split
  · exact .inr fun Q m => ref11_Set.eq _ _ _ Q m
  · exact .inl rfl

def anchor_Anchor_Get (x_a : Option Addr) (h : H) (Q : Int → ByteArray → H → Prop) : Prop :=
(bif (Option.isNone x_a) then
Q (0 : Int) (ByteArray.empty) h
else
M.nn x_a fun a2 =>
M.load h (Addr.add (Addr.add a2 0) 0) fun v3 =>
M.int .u64 v3 fun n4 =>
M.nn x_a fun a5 =>
M.load h (Addr.add (Addr.add a5 0) 1) fun v6 =>
M.str v6 fun s7 =>
Q n4 s7 h)
def anchor_Anchor_Get.L : List Value → (Value → H → Prop) → H → Prop
  | [.pointer x_a] => fun Q h => anchor_Anchor_Get x_a h fun n8 s9 h10 => Q (.tuple #[(.int .u64 n8), (.string s9)]) h10
  | _ => fun _ _ => False
def anchor_Anchor_Get.W : W := fun args => anchor_Anchor_Get.L args.toList
def anchor_Anchor_Get.ann : Ann := ⟨lookN [], lookN [], lookN []⟩
def anchor_Anchor_Get.env : Env := envOf []
theorem anchor_Anchor_Get.eq (x_a : Option Addr) (Q : Value → H → Prop) (h : H) : evF Try.prog anchor_Anchor_Get.env Try.f11 anchor_Anchor_Get.ann [(.pointer x_a)] Q h = anchor_Anchor_Get x_a h fun n8 s9 h10 => Q (.tuple #[(.int .u64 n8), (.string s9)]) h10 := by kernel_rfl
theorem anchor_Anchor_Get.W_eq (x_a : Option Addr) (Q : Value → H → Prop) (h : H) : anchor_Anchor_Get.W #[(.pointer x_a)] Q h = anchor_Anchor_Get x_a h fun n8 s9 h10 => Q (.tuple #[(.int .u64 n8), (.string s9)]) h10 := by kernel_rfl
theorem anchor_Anchor_Get.good : FnGood Try.prog 11 anchor_Anchor_Get.W := by
  refine FnGood.of (ann := anchor_Anchor_Get.ann) (env := anchor_Anchor_Get.env) mixed EnvGood.nil Try.func11 Try.call11 fun args => ?_
  show anchor_Anchor_Get.L args.toList = _ ∨ ∀ Q m, evF Try.prog anchor_Anchor_Get.env Try.f11 anchor_Anchor_Get.ann args.toList Q m = anchor_Anchor_Get.L args.toList Q m
  generalize args.toList = l
  unfold anchor_Anchor_Get.L
  split
  · exact .inr fun Q m => anchor_Anchor_Get.eq _ Q m
  · exact .inl rfl

def law11_wakes  (h : H) (Q : Bool → H → Prop) : Prop :=
M.join (α := Option Addr × ByteArray) (fun d19 h20 =>
anchor_Anchor_Set d19.1 (1 : Int) d19.2 h20 fun n21 h22 =>
anchor_Anchor_Set d19.1 (1 : Int) d19.2 h22 fun n23 h24 =>
anchor_Anchor_Get d19.1 h24 fun n25 s26 h27 =>
M.join (α := Bool) (fun d29 h30 =>
Q d29 h30) fun J28 =>
(bif (n21 == (0 : Int)) then
(bif (n23 == (25 : Int)) then
(bif (n25 == (1 : Int)) then
J28 (strEq s26 d19.2) h27
else
J28 false h27)
else
J28 false h27)
else
J28 false h27)) fun J1 =>
(anchor_New  h fun p2 h3 =>
M.mk h3 5 [(.int .u8 (0 : Int))] 1 (32 : Int) (32 : Int) fun a4 l5 c6 h7 =>
M.b2s h7 a4 l5 fun s8 =>
J1 (p2, s8) h7) ∧
(M.mk h 5 [(.int .u8 (0 : Int))] 1 (32 : Int) (32 : Int) fun a9 l10 c11 h12 =>
(anchor_New  h12 fun p13 h14 =>
M.b2s h14 a9 l10 fun s15 =>
J1 (p13, s15) h14) ∧
(M.b2s h12 a9 l10 fun s16 =>
anchor_New  h12 fun p17 h18 =>
J1 (p17, s16) h18))
def law11_wakes.L : List Value → (Value → H → Prop) → H → Prop
  | [] => fun Q h => law11_wakes  h fun b31 h32 => Q (.bool b31) h32
  | _ => fun _ _ => False
def law11_wakes.W : W := fun args => law11_wakes.L args.toList
def law11_wakes.ann : Ann := ⟨lookN [(1, [(1, .ptr), (2, .str)]), (4, [(0, .bool)])], lookN [], lookN []⟩
def law11_wakes.env : Env := envOf [(6, anchor_New.W), (8, anchor_Anchor_Set.W), (11, anchor_Anchor_Get.W)]
theorem law11_wakes.eq  (Q : Value → H → Prop) (h : H) : evF Try.prog law11_wakes.env Try.f7 law11_wakes.ann [] Q h = law11_wakes  h fun b31 h32 => Q (.bool b31) h32 := by kernel_rfl
theorem law11_wakes.W_eq  (Q : Value → H → Prop) (h : H) : law11_wakes.W #[] Q h = law11_wakes  h fun b31 h32 => Q (.bool b31) h32 := by kernel_rfl
theorem law11_wakes.good : FnGood Try.prog 7 law11_wakes.W := by
  refine FnGood.of (ann := law11_wakes.ann) (env := law11_wakes.env) mixed (EnvGood.cons anchor_New.good (EnvGood.cons anchor_Anchor_Set.good (EnvGood.cons anchor_Anchor_Get.good EnvGood.nil))) Try.func7 Try.call7 fun args => ?_
  show law11_wakes.L args.toList = _ ∨ ∀ Q m, evF Try.prog law11_wakes.env Try.f7 law11_wakes.ann args.toList Q m = law11_wakes.L args.toList Q m
  generalize args.toList = l
  unfold law11_wakes.L
  split
  · exact .inr fun Q m => law11_wakes.eq  Q m
  · exact .inl rfl

def law11_AnchorPlays (x_script : Option Addr) (x_scriptL : Nat) (x_scriptC : Nat) (h : H) (Q : Bool → H → Prop) : Prop :=
anchor_New  h fun p4 h5 =>
M.new h5 (.cells (#[(.int .u64 (0 : Int)), (.string (ByteArray.empty))] : Array Value) 28) fun b6 h7 =>
law11_wakes  h7 fun b8 h9 =>
(bif (!b8) then
Q false h9
else
M.sub x_script x_scriptC 35 0 (mn ((x_scriptL : Nat) : Int) (100 : Int)) fun a10 l11 c12 =>
M.loop (α := Int) (fun J13 d14 h15 =>
(bif (decide (d14 < ((l11 : Nat) : Int))) then
M.idx a10 l11 d14 fun a16 j17 =>
M.row h15 (Addr.add a16 (j17 * 35)) 35 fun cs18 =>
M.new h15 (.cells (List.toArray (([(.int .u64 (0 : Int))] : List Value) ++ (List.replicate 32 (.int .u8 (0 : Int)) : List Value) ++ ([(.string (ByteArray.empty)), (.bool false)] : List Value)) : Array Value) 32) fun b19 h20 =>
M.req (Array.size (List.toArray cs18) = 35) (M.puts h20 (⟨b19, 0, none⟩ : Addr) (Array.toList (List.toArray cs18)) fun h21 =>
M.load h21 (Addr.add (⟨b19, 0, none⟩ : Addr) 0) fun v22 =>
M.int .u64 v22 fun n23 =>
M.row h21 (⟨b19, 0, none⟩ : Addr) 35 fun cs24 =>
M.load h21 (Addr.add (⟨b19, 0, none⟩ : Addr) 0) fun v25 =>
M.int .u64 v25 fun n26 =>
M.row h21 (⟨b19, 0, none⟩ : Addr) 35 fun cs27 =>
law11_text (List.toArray cs24) h21 fun s28 h29 =>
M.still h21 (⟨b19, 0, none⟩ : Addr) 35 h29 (
M.still h21 (Addr.add (⟨b19, 0, none⟩ : Addr) 0) 1 h29 (
M.still h21 (Addr.add (⟨b19, 0, none⟩ : Addr) 0) 1 h29 (
anchor_Anchor_Set p4 n23 s28 h29 fun n30 h31 =>
M.still h21 (⟨b19, 0, none⟩ : Addr) 35 h31 (
M.still h21 (Addr.add (⟨b19, 0, none⟩ : Addr) 0) 1 h31 (
law11_text (List.toArray cs27) h31 fun s32 h33 =>
M.still h21 (Addr.add (⟨b19, 0, none⟩ : Addr) 0) 1 h33 (
ref11_Set (some (⟨b6, 0, none⟩ : Addr)) n26 s32 h33 fun n34 h35 =>
anchor_Anchor_Get p4 h35 fun n36 s37 h38 =>
M.join (α := Bool) (fun d46 h47 =>
(bif d46 then
Q false h47
else
M.val (IntKind.wrap .i64 (d14 + (1 : Int))) fun z48 =>
J13 z48 h47)) fun J39 =>
(bif (n30 != n34) then
J39 true h38
else
M.nn (some (⟨b6, 0, none⟩ : Addr)) fun a40 =>
M.load h38 (Addr.add a40 0) fun v41 =>
M.int .u64 v41 fun n42 =>
(bif (n36 != n42) then
J39 true h38
else
M.nn (some (⟨b6, 0, none⟩ : Addr)) fun a43 =>
M.load h38 (Addr.add a43 1) fun v44 =>
M.str v44 fun s45 =>
J39 (!strEq s37 s45) h38)))))))))
else
Q true h15)) (0 : Int) h9)
def law11_AnchorPlays.L : List Value → (Value → H → Prop) → H → Prop
  | [.slice x_script x_scriptL x_scriptC] => fun Q h => law11_AnchorPlays x_script x_scriptL x_scriptC h fun b49 h50 => Q (.bool b49) h50
  | _ => fun _ _ => False
def law11_AnchorPlays.W : W := fun args => law11_AnchorPlays.L args.toList
def law11_AnchorPlays.ann : Ann := ⟨lookN [(9, [(61, .bool)])], lookN [], lookN [(122, [(22, .int .i64)])]⟩
def law11_AnchorPlays.env : Env := envOf [(6, anchor_New.W), (7, law11_wakes.W), (9, law11_text.W), (8, anchor_Anchor_Set.W), (10, ref11_Set.W), (11, anchor_Anchor_Get.W)]
theorem law11_AnchorPlays.eq (x_script : Option Addr) (x_scriptL : Nat) (x_scriptC : Nat) (Q : Value → H → Prop) (h : H) : evF Try.prog law11_AnchorPlays.env Try.f3 law11_AnchorPlays.ann [(.slice x_script x_scriptL x_scriptC)] Q h = law11_AnchorPlays x_script x_scriptL x_scriptC h fun b49 h50 => Q (.bool b49) h50 := by kernel_rfl
theorem law11_AnchorPlays.W_eq (x_script : Option Addr) (x_scriptL : Nat) (x_scriptC : Nat) (Q : Value → H → Prop) (h : H) : law11_AnchorPlays.W #[(.slice x_script x_scriptL x_scriptC)] Q h = law11_AnchorPlays x_script x_scriptL x_scriptC h fun b49 h50 => Q (.bool b49) h50 := by kernel_rfl
theorem law11_AnchorPlays.good : FnGood Try.prog 3 law11_AnchorPlays.W := by
  refine FnGood.of (ann := law11_AnchorPlays.ann) (env := law11_AnchorPlays.env) mixed (EnvGood.cons anchor_New.good (EnvGood.cons law11_wakes.good (EnvGood.cons law11_text.good (EnvGood.cons anchor_Anchor_Set.good (EnvGood.cons ref11_Set.good (EnvGood.cons anchor_Anchor_Get.good EnvGood.nil)))))) Try.func3 Try.call3 fun args => ?_
  show law11_AnchorPlays.L args.toList = _ ∨ ∀ Q m, evF Try.prog law11_AnchorPlays.env Try.f3 law11_AnchorPlays.ann args.toList Q m = law11_AnchorPlays.L args.toList Q m
  generalize args.toList = l
  unfold law11_AnchorPlays.L
  split
  · exact .inr fun Q m => law11_AnchorPlays.eq _ _ _ Q m
  · exact .inl rfl

def law11_AnchorRises (x_script : Option Addr) (x_scriptL : Nat) (x_scriptC : Nat) (h : H) (Q : Bool → H → Prop) : Prop :=
anchor_New  h fun p4 h5 =>
M.join (α := Unit) (fun d48 h49 =>
anchor_Anchor_Get none h49 fun n50 s51 h52 =>
M.join (α := Bool) (fun d56 h57 =>
Q d56 h57) fun J53 =>
law11_wakes  h52 fun b54 h55 =>
(bif b54 then
(bif (n50 == (0 : Int)) then
J53 (strEq s51 (ByteArray.empty)) h55
else
J53 false h55)
else
J53 false h55)) fun J6 =>
M.sub x_script x_scriptC 35 0 (mn ((x_scriptL : Nat) : Int) (100 : Int)) fun a7 l8 c9 =>
M.loop (α := Int) (fun J10 d11 h12 =>
(bif (decide (d11 < ((l8 : Nat) : Int))) then
M.idx a7 l8 d11 fun a13 j14 =>
M.row h12 (Addr.add a13 (j14 * 35)) 35 fun cs15 =>
M.new h12 (.cells (List.toArray (([(.int .u64 (0 : Int))] : List Value) ++ (List.replicate 32 (.int .u8 (0 : Int)) : List Value) ++ ([(.string (ByteArray.empty)), (.bool false)] : List Value)) : Array Value) 32) fun b16 h17 =>
M.req (Array.size (List.toArray cs15) = 35) (M.puts h17 (⟨b16, 0, none⟩ : Addr) (Array.toList (List.toArray cs15)) fun h18 =>
anchor_Anchor_Get p4 h18 fun n19 s20 h21 =>
M.load h21 (Addr.add (⟨b16, 0, none⟩ : Addr) 0) fun v22 =>
M.int .u64 v22 fun n23 =>
M.row h21 (⟨b16, 0, none⟩ : Addr) 35 fun cs24 =>
law11_text (List.toArray cs24) h21 fun s25 h26 =>
M.still h21 (Addr.add (⟨b16, 0, none⟩ : Addr) 0) 1 h26 (
anchor_Anchor_Set p4 n23 s25 h26 fun n27 h28 =>
anchor_Anchor_Get p4 h28 fun n29 s30 h31 =>
M.join (α := Bool) (fun d38 h39 =>
(bif d38 then
Q false h39
else
M.load h39 (Addr.add (⟨b16, 0, none⟩ : Addr) 0) fun v40 =>
M.int .u64 v40 fun n41 =>
M.row h39 (⟨b16, 0, none⟩ : Addr) 35 fun cs42 =>
law11_text (List.toArray cs42) h39 fun s43 h44 =>
M.still h39 (Addr.add (⟨b16, 0, none⟩ : Addr) 0) 1 h44 (
anchor_Anchor_Set none n41 s43 h44 fun n45 h46 =>
(bif (n45 != (1 : Int)) then
Q false h46
else
M.val (IntKind.wrap .i64 (d11 + (1 : Int))) fun z47 =>
J10 z47 h46)))) fun J32 =>
(bif (n27 == (0 : Int)) then
M.load h31 (Addr.add (⟨b16, 0, none⟩ : Addr) 0) fun v33 =>
M.int .u64 v33 fun n34 =>
(bif (n29 != n34) then
J32 true h31
else
(bif (decide (n29 ≤ n19)) then
J32 true h31
else
M.row h31 (⟨b16, 0, none⟩ : Addr) 35 fun cs35 =>
law11_text (List.toArray cs35) h31 fun s36 h37 =>
(bif (!strEq s30 s36) then
J32 true h37
else
(bif (n27 != (0 : Int)) then
(bif (n29 != n19) then
J32 true h37
else
J32 (!strEq s30 s20) h37)
else
J32 false h37))))
else
(bif (n27 != (0 : Int)) then
(bif (n29 != n19) then
J32 true h31
else
J32 (!strEq s30 s20) h31)
else
J32 false h31))))
else
J6 () h12)) (0 : Int) h5
def law11_AnchorRises.L : List Value → (Value → H → Prop) → H → Prop
  | [.slice x_script x_scriptL x_scriptC] => fun Q h => law11_AnchorRises x_script x_scriptL x_scriptC h fun b58 h59 => Q (.bool b58) h59
  | _ => fun _ _ => False
def law11_AnchorRises.W : W := fun args => law11_AnchorRises.L args.toList
def law11_AnchorRises.ann : Ann := ⟨lookN [(9, [(73, .bool)]), (15, [(2, .bool)])], lookN [(15, [])], lookN [(122, [(21, .int .i64)])]⟩
def law11_AnchorRises.env : Env := envOf [(6, anchor_New.W), (11, anchor_Anchor_Get.W), (9, law11_text.W), (8, anchor_Anchor_Set.W), (7, law11_wakes.W)]
theorem law11_AnchorRises.eq (x_script : Option Addr) (x_scriptL : Nat) (x_scriptC : Nat) (Q : Value → H → Prop) (h : H) : evF Try.prog law11_AnchorRises.env Try.f4 law11_AnchorRises.ann [(.slice x_script x_scriptL x_scriptC)] Q h = law11_AnchorRises x_script x_scriptL x_scriptC h fun b58 h59 => Q (.bool b58) h59 := by kernel_rfl
theorem law11_AnchorRises.W_eq (x_script : Option Addr) (x_scriptL : Nat) (x_scriptC : Nat) (Q : Value → H → Prop) (h : H) : law11_AnchorRises.W #[(.slice x_script x_scriptL x_scriptC)] Q h = law11_AnchorRises x_script x_scriptL x_scriptC h fun b58 h59 => Q (.bool b58) h59 := by kernel_rfl
theorem law11_AnchorRises.good : FnGood Try.prog 4 law11_AnchorRises.W := by
  refine FnGood.of (ann := law11_AnchorRises.ann) (env := law11_AnchorRises.env) mixed (EnvGood.cons anchor_New.good (EnvGood.cons anchor_Anchor_Get.good (EnvGood.cons law11_text.good (EnvGood.cons anchor_Anchor_Set.good (EnvGood.cons law11_wakes.good EnvGood.nil))))) Try.func4 Try.call4 fun args => ?_
  show law11_AnchorRises.L args.toList = _ ∨ ∀ Q m, evF Try.prog law11_AnchorRises.env Try.f4 law11_AnchorRises.ann args.toList Q m = law11_AnchorRises.L args.toList Q m
  generalize args.toList = l
  unfold law11_AnchorRises.L
  split
  · exact .inr fun Q m => law11_AnchorRises.eq _ _ _ Q m
  · exact .inl rfl

def law11_AnchorLast (x_start : Int) (x_digests : Option Addr) (x_digestsL : Nat) (x_digestsC : Nat) (h : H) (Q : Bool → H → Prop) : Prop :=
anchor_New  h fun p5 h6 =>
M.shr0 (1 : Int) (
M.val (shr .u64 x_start (1 : Int)) fun z7 =>
M.val (IntKind.wrap .u64 (z7 + (1 : Int))) fun z8 =>
M.sub x_digests x_digestsC 32 0 (mn ((x_digestsL : Nat) : Int) (100 : Int)) fun a9 l10 c11 =>
M.join (α := Unit) (fun d42 h43 =>
anchor_Anchor_Get p5 h43 fun n44 s45 h46 =>
(bif (((l10 : Nat) : Int) == (0 : Int)) then
M.join (α := Bool) (fun d50 h51 =>
Q d50 h51) fun J47 =>
law11_wakes  h46 fun b48 h49 =>
(bif b48 then
(bif (n44 == (0 : Int)) then
J47 (strEq s45 (ByteArray.empty)) h49
else
J47 false h49)
else
J47 false h49)
else
M.join (α := Bool) (fun d65 h66 =>
Q d65 h66) fun J52 =>
law11_wakes  h46 fun b53 h54 =>
(bif b53 then
M.val (IntKind.wrap .u64 ((l10 : Nat) : Int)) fun z55 =>
M.val (IntKind.wrap .u64 (z8 + z55)) fun z56 =>
M.val (IntKind.wrap .u64 (z56 - (1 : Int))) fun z57 =>
(bif (n44 == z57) then
M.val (IntKind.wrap .i64 (((l10 : Nat) : Int) - (1 : Int))) fun z58 =>
M.idx a9 l10 z58 fun a59 j60 =>
M.sub (some (Addr.add a59 (j60 * 32))) 32 1 0 ((32 : Nat) : Int) fun a61 l62 c63 =>
M.b2s h54 a61 l62 fun s64 =>
J52 (strEq s45 s64) h54
else
J52 false h54)
else
J52 false h54))) fun J12 =>
M.loop (α := Int) (fun J13 d14 h15 =>
(bif (decide (d14 < ((l10 : Nat) : Int))) then
M.idx a9 l10 d14 fun a16 j17 =>
M.row h15 (Addr.add a16 (j17 * 32)) 32 fun cs18 =>
M.new h15 (.cells (Array.replicate 32 ((.int .u8 (0 : Int)) : Value)) 30) fun b19 h20 =>
M.req (Array.size (List.toArray cs18) = 32) (M.puts h20 (⟨b19, 0, none⟩ : Addr) (Array.toList (List.toArray cs18)) fun h21 =>
M.join (α := Bool) (fun d39 h40 =>
(bif d39 then
Q false h40
else
M.val (IntKind.wrap .i64 (d14 + (1 : Int))) fun z41 =>
J13 z41 h40)) fun J22 =>
M.val (IntKind.wrap .u64 d14) fun z23 =>
M.val (IntKind.wrap .u64 (z8 + z23)) fun z24 =>
M.sub (some (⟨b19, 0, none⟩ : Addr)) 32 1 0 ((32 : Nat) : Int) fun a25 l26 c27 =>
M.b2s h21 a25 l26 fun s28 =>
anchor_Anchor_Set p5 z24 s28 h21 fun n29 h30 =>
(bif (n29 != (0 : Int)) then
J22 true h30
else
M.val (IntKind.wrap .u64 d14) fun z31 =>
M.val (IntKind.wrap .u64 (z8 + z31)) fun z32 =>
M.sub (some (⟨b19, 0, none⟩ : Addr)) 32 1 0 ((32 : Nat) : Int) fun a33 l34 c35 =>
M.b2s h30 a33 l34 fun s36 =>
anchor_Anchor_Set p5 z32 s36 h30 fun n37 h38 =>
J22 (n37 != (25 : Int)) h38))
else
J12 () h15)) (0 : Int) h6)
def law11_AnchorLast.L : List Value → (Value → H → Prop) → H → Prop
  | [.int .u64 x_start, .slice x_digests x_digestsL x_digestsC] => fun Q h => law11_AnchorLast x_start x_digests x_digestsL x_digestsC h fun b67 h68 => Q (.bool b67) h68
  | _ => fun _ _ => False
def law11_AnchorLast.W : W := fun args => law11_AnchorLast.L args.toList
def law11_AnchorLast.ann : Ann := ⟨lookN [(7, [(45, .bool)]), (12, [(4, .bool)]), (13, [(4, .bool)])], lookN [(31, [])], lookN [(250, [(21, .int .i64)])]⟩
def law11_AnchorLast.env : Env := envOf [(6, anchor_New.W), (8, anchor_Anchor_Set.W), (11, anchor_Anchor_Get.W), (7, law11_wakes.W)]
theorem law11_AnchorLast.eq (x_start : Int) (x_digests : Option Addr) (x_digestsL : Nat) (x_digestsC : Nat) (Q : Value → H → Prop) (h : H) : evF Try.prog law11_AnchorLast.env Try.f5 law11_AnchorLast.ann [(.int .u64 x_start), (.slice x_digests x_digestsL x_digestsC)] Q h = law11_AnchorLast x_start x_digests x_digestsL x_digestsC h fun b67 h68 => Q (.bool b67) h68 := by kernel_rfl
theorem law11_AnchorLast.W_eq (x_start : Int) (x_digests : Option Addr) (x_digestsL : Nat) (x_digestsC : Nat) (Q : Value → H → Prop) (h : H) : law11_AnchorLast.W #[(.int .u64 x_start), (.slice x_digests x_digestsL x_digestsC)] Q h = law11_AnchorLast x_start x_digests x_digestsL x_digestsC h fun b67 h68 => Q (.bool b67) h68 := by kernel_rfl
theorem law11_AnchorLast.good : FnGood Try.prog 5 law11_AnchorLast.W := by
  refine FnGood.of (ann := law11_AnchorLast.ann) (env := law11_AnchorLast.env) mixed (EnvGood.cons anchor_New.good (EnvGood.cons anchor_Anchor_Set.good (EnvGood.cons anchor_Anchor_Get.good (EnvGood.cons law11_wakes.good EnvGood.nil)))) Try.func5 Try.call5 fun args => ?_
  show law11_AnchorLast.L args.toList = _ ∨ ∀ Q m, evF Try.prog law11_AnchorLast.env Try.f5 law11_AnchorLast.ann args.toList Q m = law11_AnchorLast.L args.toList Q m
  generalize args.toList = l
  unfold law11_AnchorLast.L
  split
  · exact .inr fun Q m => law11_AnchorLast.eq _ _ _ _ Q m
  · exact .inl rfl

end Go.Proofs.Ytgkebmhkmedadaa

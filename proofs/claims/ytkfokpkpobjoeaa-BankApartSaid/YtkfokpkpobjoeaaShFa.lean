/- The shallow forms of the functions of this seat, printed by a program of mine, each checked by the kernel against the given code. -/
import Derived.Test.YtkfokpkpobjoeaaShA9
import Derived.Test.YtkfokpkpobjoeaaProg
namespace Go.Proofs.Ytkfokpkpobjoeaa
open Go.Sh
set_option linter.unusedVariables false
theorem mixed : Try.prog.follows .mixedOrders = true := by kernel_rfl

def disk_New (x_cells : Int) (h : H) (Q : Option Addr → H → Prop) : Prop :=
M.join (α := Addr) (fun d23 h24 =>
Q (some d23) h24) fun J2 =>
(M.mk h 9 [(.string (ByteArray.empty))] 16 (mx (1 : Int) (mn x_cells (512 : Int))) (mx (1 : Int) (mn x_cells (512 : Int))) fun a3 l4 c5 h6 =>
M.mk h6 9 [(.string (ByteArray.empty))] 16 (mx (1 : Int) (mn x_cells (512 : Int))) (mx (1 : Int) (mn x_cells (512 : Int))) fun a7 l8 c9 h10 =>
M.new h10 (.cells (#[(.slice a3 l4 c5), (.slice a7 l8 c9), (.slice none 0 0), (.bool false)] : Array Value) 84) fun b11 h12 =>
J2 (⟨b11, 0, none⟩ : Addr) h12) ∧
(M.mk h 9 [(.string (ByteArray.empty))] 16 (mx (1 : Int) (mn x_cells (512 : Int))) (mx (1 : Int) (mn x_cells (512 : Int))) fun a13 l14 c15 h16 =>
M.mk h16 9 [(.string (ByteArray.empty))] 16 (mx (1 : Int) (mn x_cells (512 : Int))) (mx (1 : Int) (mn x_cells (512 : Int))) fun a17 l18 c19 h20 =>
M.new h20 (.cells (#[(.slice a17 l18 c19), (.slice a13 l14 c15), (.slice none 0 0), (.bool false)] : Array Value) 84) fun b21 h22 =>
J2 (⟨b21, 0, none⟩ : Addr) h22)
def disk_New.L (F : Int → H → (Option Addr → H → Prop) → Prop) : List Value → (Value → H → Prop) → H → Prop
  | [.int .i64 x_cells] => fun Q h => F x_cells h fun p25 h26 => Q (.pointer p25) h26
  | _ => fun _ _ => False
def disk_New.W : W := fun args => disk_New.L disk_New args.toList
def disk_New.ann : Ann := ⟨lookN [(2, [(2, .adr)])], lookN [], lookN []⟩
def disk_New.env : Env := envOf []
theorem disk_New.eq (x_cells : Int) (Q : Value → H → Prop) (h : H) : evF Try.prog disk_New.env Try.f13 disk_New.ann [(.int .i64 x_cells)] Q h = disk_New x_cells h fun p25 h26 => Q (.pointer p25) h26 := by kernel_rfl
theorem disk_New.W_eq (x_cells : Int) (Q : Value → H → Prop) (h : H) : disk_New.W #[(.int .i64 x_cells)] Q h = disk_New x_cells h fun p25 h26 => Q (.pointer p25) h26 := by kernel_rfl
theorem disk_New.good : FnGood Try.prog 13 disk_New.W := by
  refine FnGood.of (ann := disk_New.ann) (env := disk_New.env) mixed EnvGood.nil Try.func13 Try.call13 fun args => ?_
  show disk_New.L disk_New args.toList = _ ∨ ∀ Q m, evF Try.prog disk_New.env Try.f13 disk_New.ann args.toList Q m = disk_New.L disk_New args.toList Q m
  generalize args.toList = l
  unfold disk_New.L
  split
  · exact .inr fun Q m => disk_New.eq _ Q m
  · exact .inl rfl

def law09_bytes (x_a_0 : Int) (x_a_1 : Int) (x_a_2 : ByteArray) (x_a_3 : Int) (x_a_4 : Option Addr) (x_a_4L : Nat) (x_a_4C : Nat) (x_a_5 : Bool) (h : H) (Q : ByteArray → H → Prop) : Prop :=
M.new h (.cells (#[(.int .i64 x_a_0), (.int .i64 x_a_1), (.string x_a_2), (.int .i64 x_a_3), (.slice x_a_4 x_a_4L x_a_4C), (.bool x_a_5)] : Array Value) 34) fun b2 h3 =>
M.load h3 (Addr.add (⟨b2, 0, none⟩ : Addr) 2) fun v4 =>
M.str v4 fun s5 =>
M.load h3 (Addr.add (⟨b2, 0, none⟩ : Addr) 2) fun v6 =>
M.str v6 fun s7 =>
M.ssub s5 0 (mn (ByteArray.size s7 : Int) (100 : Int)) fun s8 =>
M.load h3 (Addr.add (⟨b2, 0, none⟩ : Addr) 3) fun v9 =>
M.int .i64 v9 fun n10 =>
M.nz (30 : Int) (
M.val (Int.tmod (mx (0 : Int) n10) (30 : Int)) fun z11 =>
M.loop (α := ByteArray × Int) (fun J12 d13 h14 =>
(bif (decide (d13.2 < z11)) then
M.cat d13.1 s8 fun s15 =>
M.val (IntKind.wrap .i64 (d13.2 + (1 : Int))) fun z16 =>
J12 (s15, z16) h14
else
Q d13.1 h14)) (s8, (0 : Int)) h3)
def law09_bytes.L (F : Int → Int → ByteArray → Int → Option Addr → Nat → Nat → Bool → H → (ByteArray → H → Prop) → Prop) : List Value → (Value → H → Prop) → H → Prop
  | [.agg ⟨[.int .i64 x_a_0, .int .i64 x_a_1, .string x_a_2, .int .i64 x_a_3, .slice x_a_4 x_a_4L x_a_4C, .bool x_a_5]⟩] => fun Q h => F x_a_0 x_a_1 x_a_2 x_a_3 x_a_4 x_a_4L x_a_4C x_a_5 h fun s17 h18 => Q (.string s17) h18
  | _ => fun _ _ => False
def law09_bytes.W : W := fun args => law09_bytes.L law09_bytes args.toList
def law09_bytes.ann : Ann := ⟨lookN [], lookN [], lookN [(122, [(4, .str), (17, .int .i64)])]⟩
def law09_bytes.env : Env := envOf []
theorem law09_bytes.eq (x_a_0 : Int) (x_a_1 : Int) (x_a_2 : ByteArray) (x_a_3 : Int) (x_a_4 : Option Addr) (x_a_4L : Nat) (x_a_4C : Nat) (x_a_5 : Bool) (Q : Value → H → Prop) (h : H) : evF Try.prog law09_bytes.env Try.f17 law09_bytes.ann [(.agg (#[(.int .i64 x_a_0), (.int .i64 x_a_1), (.string x_a_2), (.int .i64 x_a_3), (.slice x_a_4 x_a_4L x_a_4C), (.bool x_a_5)] : Array Value))] Q h = law09_bytes x_a_0 x_a_1 x_a_2 x_a_3 x_a_4 x_a_4L x_a_4C x_a_5 h fun s17 h18 => Q (.string s17) h18 := by kernel_rfl
theorem law09_bytes.W_eq (x_a_0 : Int) (x_a_1 : Int) (x_a_2 : ByteArray) (x_a_3 : Int) (x_a_4 : Option Addr) (x_a_4L : Nat) (x_a_4C : Nat) (x_a_5 : Bool) (Q : Value → H → Prop) (h : H) : law09_bytes.W #[(.agg (#[(.int .i64 x_a_0), (.int .i64 x_a_1), (.string x_a_2), (.int .i64 x_a_3), (.slice x_a_4 x_a_4L x_a_4C), (.bool x_a_5)] : Array Value))] Q h = law09_bytes x_a_0 x_a_1 x_a_2 x_a_3 x_a_4 x_a_4L x_a_4C x_a_5 h fun s17 h18 => Q (.string s17) h18 := by kernel_rfl
theorem law09_bytes.good : FnGood Try.prog 17 law09_bytes.W := by
  refine FnGood.of (ann := law09_bytes.ann) (env := law09_bytes.env) mixed EnvGood.nil Try.func17 Try.call17 fun args => ?_
  show law09_bytes.L law09_bytes args.toList = _ ∨ ∀ Q m, evF Try.prog law09_bytes.env Try.f17 law09_bytes.ann args.toList Q m = law09_bytes.L law09_bytes args.toList Q m
  generalize args.toList = l
  unfold law09_bytes.L
  split
  · exact .inr fun Q m => law09_bytes.eq _ _ _ _ _ _ _ _ Q m
  · exact .inl rfl

def disk_Disk_Waiting (x_d : Option Addr) (h : H) (Q : Int → H → Prop) : Prop :=
(bif (Option.isNone x_d) then
Q (0 : Int) h
else
M.nn x_d fun a2 =>
M.load h (Addr.add a2 2) fun v3 =>
M.slc v3 fun a4 l5 c6 =>
Q ((l5 : Nat) : Int) h)
def disk_Disk_Waiting.L (F : Option Addr → H → (Int → H → Prop) → Prop) : List Value → (Value → H → Prop) → H → Prop
  | [.pointer x_d] => fun Q h => F x_d h fun n7 h8 => Q (.int .i64 n7) h8
  | _ => fun _ _ => False
def disk_Disk_Waiting.W : W := fun args => disk_Disk_Waiting.L disk_Disk_Waiting args.toList
def disk_Disk_Waiting.ann : Ann := ⟨lookN [], lookN [], lookN []⟩
def disk_Disk_Waiting.env : Env := envOf []
theorem disk_Disk_Waiting.eq (x_d : Option Addr) (Q : Value → H → Prop) (h : H) : evF Try.prog disk_Disk_Waiting.env Try.f20 disk_Disk_Waiting.ann [(.pointer x_d)] Q h = disk_Disk_Waiting x_d h fun n7 h8 => Q (.int .i64 n7) h8 := by kernel_rfl
theorem disk_Disk_Waiting.W_eq (x_d : Option Addr) (Q : Value → H → Prop) (h : H) : disk_Disk_Waiting.W #[(.pointer x_d)] Q h = disk_Disk_Waiting x_d h fun n7 h8 => Q (.int .i64 n7) h8 := by kernel_rfl
theorem disk_Disk_Waiting.good : FnGood Try.prog 20 disk_Disk_Waiting.W := by
  refine FnGood.of (ann := disk_Disk_Waiting.ann) (env := disk_Disk_Waiting.env) mixed EnvGood.nil Try.func20 Try.call20 fun args => ?_
  show disk_Disk_Waiting.L disk_Disk_Waiting args.toList = _ ∨ ∀ Q m, evF Try.prog disk_Disk_Waiting.env Try.f20 disk_Disk_Waiting.ann args.toList Q m = disk_Disk_Waiting.L disk_Disk_Waiting args.toList Q m
  generalize args.toList = l
  unfold disk_Disk_Waiting.L
  split
  · exact .inr fun Q m => disk_Disk_Waiting.eq _ Q m
  · exact .inl rfl

def law09_equal (x_a : Option Addr) (x_aL : Nat) (x_aC : Nat) (x_b : Option Addr) (x_bL : Nat) (x_bC : Nat) (h : H) (Q : Bool → H → Prop) : Prop :=
(bif (((x_aL : Nat) : Int) != ((x_bL : Nat) : Int)) then
Q false h
else
M.loop (α := Int) (fun J2 d3 h4 =>
(bif (decide (d3 < ((x_aL : Nat) : Int))) then
M.idx x_a x_aL d3 fun a5 j6 =>
M.load h4 (Addr.add a5 (j6 * 1)) fun v7 =>
M.str v7 fun s8 =>
M.idx x_b x_bL d3 fun a9 j10 =>
M.load h4 (Addr.add a9 (j10 * 1)) fun v11 =>
M.str v11 fun s12 =>
(bif (!strEq s8 s12) then
Q false h4
else
M.val (IntKind.wrap .i64 (d3 + (1 : Int))) fun z13 =>
J2 z13 h4)
else
Q true h4)) (0 : Int) h)
def law09_equal.L (F : Option Addr → Nat → Nat → Option Addr → Nat → Nat → H → (Bool → H → Prop) → Prop) : List Value → (Value → H → Prop) → H → Prop
  | [.slice x_a x_aL x_aC, .slice x_b x_bL x_bC] => fun Q h => F x_a x_aL x_aC x_b x_bL x_bC h fun b14 h15 => Q (.bool b14) h15
  | _ => fun _ _ => False
def law09_equal.W : W := fun args => law09_equal.L law09_equal args.toList
def law09_equal.ann : Ann := ⟨lookN [], lookN [], lookN [(58, [(13, .int .i64)])]⟩
def law09_equal.env : Env := envOf []
theorem law09_equal.eq (x_a : Option Addr) (x_aL : Nat) (x_aC : Nat) (x_b : Option Addr) (x_bL : Nat) (x_bC : Nat) (Q : Value → H → Prop) (h : H) : evF Try.prog law09_equal.env Try.f22 law09_equal.ann [(.slice x_a x_aL x_aC), (.slice x_b x_bL x_bC)] Q h = law09_equal x_a x_aL x_aC x_b x_bL x_bC h fun b14 h15 => Q (.bool b14) h15 := by kernel_rfl
theorem law09_equal.W_eq (x_a : Option Addr) (x_aL : Nat) (x_aC : Nat) (x_b : Option Addr) (x_bL : Nat) (x_bC : Nat) (Q : Value → H → Prop) (h : H) : law09_equal.W #[(.slice x_a x_aL x_aC), (.slice x_b x_bL x_bC)] Q h = law09_equal x_a x_aL x_aC x_b x_bL x_bC h fun b14 h15 => Q (.bool b14) h15 := by kernel_rfl
theorem law09_equal.good : FnGood Try.prog 22 law09_equal.W := by
  refine FnGood.of (ann := law09_equal.ann) (env := law09_equal.env) mixed EnvGood.nil Try.func22 Try.call22 fun args => ?_
  show law09_equal.L law09_equal args.toList = _ ∨ ∀ Q m, evF Try.prog law09_equal.env Try.f22 law09_equal.ann args.toList Q m = law09_equal.L law09_equal args.toList Q m
  generalize args.toList = l
  unfold law09_equal.L
  split
  · exact .inr fun Q m => law09_equal.eq _ _ _ _ _ _ Q m
  · exact .inl rfl

def ref09_New (x_cells : Int) (h : H) (Q : Option Addr → H → Prop) : Prop :=
M.join (α := Int) (fun d3 h4 =>
M.join (α := Int) (fun d6 h7 =>
M.mk h7 9 [(.string (ByteArray.empty))] 16 d6 d6 fun a8 l9 c10 h11 =>
M.new h11 (.cells (#[(.slice a8 l9 c10), (.slice none 0 0), (.bool false)] : Array Value) 49) fun b12 h13 =>
Q (some (⟨b12, 0, none⟩ : Addr)) h13) fun J5 =>
(bif (decide (d3 > (512 : Int))) then
J5 (512 : Int) h4
else
J5 d3 h4)) fun J2 =>
(bif (decide (x_cells < (1 : Int))) then
J2 (1 : Int) h
else
J2 x_cells h)
def ref09_New.L (F : Int → H → (Option Addr → H → Prop) → Prop) : List Value → (Value → H → Prop) → H → Prop
  | [.int .i64 x_cells] => fun Q h => F x_cells h fun p14 h15 => Q (.pointer p14) h15
  | _ => fun _ _ => False
def ref09_New.W : W := fun args => ref09_New.L ref09_New args.toList
def ref09_New.ann : Ann := ⟨lookN [], lookN [(3, [(0, .int .i64)]), (7, [(0, .int .i64)])], lookN []⟩
def ref09_New.env : Env := envOf []
theorem ref09_New.eq (x_cells : Int) (Q : Value → H → Prop) (h : H) : evF Try.prog ref09_New.env Try.f23 ref09_New.ann [(.int .i64 x_cells)] Q h = ref09_New x_cells h fun p14 h15 => Q (.pointer p14) h15 := by kernel_rfl
theorem ref09_New.W_eq (x_cells : Int) (Q : Value → H → Prop) (h : H) : ref09_New.W #[(.int .i64 x_cells)] Q h = ref09_New x_cells h fun p14 h15 => Q (.pointer p14) h15 := by kernel_rfl
theorem ref09_New.good : FnGood Try.prog 23 ref09_New.W := by
  refine FnGood.of (ann := ref09_New.ann) (env := ref09_New.env) mixed EnvGood.nil Try.func23 Try.call23 fun args => ?_
  show ref09_New.L ref09_New args.toList = _ ∨ ∀ Q m, evF Try.prog ref09_New.env Try.f23 ref09_New.ann args.toList Q m = ref09_New.L ref09_New args.toList Q m
  generalize args.toList = l
  unfold ref09_New.L
  split
  · exact .inr fun Q m => ref09_New.eq _ Q m
  · exact .inl rfl

def disk_Disk_Size (x_d : Option Addr) (h : H) (Q : Int → H → Prop) : Prop :=
(bif (Option.isNone x_d) then
Q (0 : Int) h
else
M.nn x_d fun a2 =>
M.load h (Addr.add a2 1) fun v3 =>
M.slc v3 fun a4 l5 c6 =>
Q ((l5 : Nat) : Int) h)
def disk_Disk_Size.L (F : Option Addr → H → (Int → H → Prop) → Prop) : List Value → (Value → H → Prop) → H → Prop
  | [.pointer x_d] => fun Q h => F x_d h fun n7 h8 => Q (.int .i64 n7) h8
  | _ => fun _ _ => False
def disk_Disk_Size.W : W := fun args => disk_Disk_Size.L disk_Disk_Size args.toList
def disk_Disk_Size.ann : Ann := ⟨lookN [], lookN [], lookN []⟩
def disk_Disk_Size.env : Env := envOf []
theorem disk_Disk_Size.eq (x_d : Option Addr) (Q : Value → H → Prop) (h : H) : evF Try.prog disk_Disk_Size.env Try.f24 disk_Disk_Size.ann [(.pointer x_d)] Q h = disk_Disk_Size x_d h fun n7 h8 => Q (.int .i64 n7) h8 := by kernel_rfl
theorem disk_Disk_Size.W_eq (x_d : Option Addr) (Q : Value → H → Prop) (h : H) : disk_Disk_Size.W #[(.pointer x_d)] Q h = disk_Disk_Size x_d h fun n7 h8 => Q (.int .i64 n7) h8 := by kernel_rfl
theorem disk_Disk_Size.good : FnGood Try.prog 24 disk_Disk_Size.W := by
  refine FnGood.of (ann := disk_Disk_Size.ann) (env := disk_Disk_Size.env) mixed EnvGood.nil Try.func24 Try.call24 fun args => ?_
  show disk_Disk_Size.L disk_Disk_Size args.toList = _ ∨ ∀ Q m, evF Try.prog disk_Disk_Size.env Try.f24 disk_Disk_Size.ann args.toList Q m = disk_Disk_Size.L disk_Disk_Size args.toList Q m
  generalize args.toList = l
  unfold disk_Disk_Size.L
  split
  · exact .inr fun Q m => disk_Disk_Size.eq _ Q m
  · exact .inl rfl

def disk_Disk_Dead (x_d : Option Addr) (h : H) (Q : Bool → H → Prop) : Prop :=
M.join (α := Bool) (fun d6 h7 =>
Q d6 h7) fun J2 =>
(bif (!(Option.isNone x_d)) then
M.nn x_d fun a3 =>
M.load h (Addr.add a3 3) fun v4 =>
M.bool v4 fun b5 =>
J2 b5 h
else
J2 false h)
def disk_Disk_Dead.L (F : Option Addr → H → (Bool → H → Prop) → Prop) : List Value → (Value → H → Prop) → H → Prop
  | [.pointer x_d] => fun Q h => F x_d h fun b8 h9 => Q (.bool b8) h9
  | _ => fun _ _ => False
def disk_Disk_Dead.W : W := fun args => disk_Disk_Dead.L disk_Disk_Dead args.toList
def disk_Disk_Dead.ann : Ann := ⟨lookN [(1, [(2, .bool)])], lookN [], lookN []⟩
def disk_Disk_Dead.env : Env := envOf []
theorem disk_Disk_Dead.eq (x_d : Option Addr) (Q : Value → H → Prop) (h : H) : evF Try.prog disk_Disk_Dead.env Try.f26 disk_Disk_Dead.ann [(.pointer x_d)] Q h = disk_Disk_Dead x_d h fun b8 h9 => Q (.bool b8) h9 := by kernel_rfl
theorem disk_Disk_Dead.W_eq (x_d : Option Addr) (Q : Value → H → Prop) (h : H) : disk_Disk_Dead.W #[(.pointer x_d)] Q h = disk_Disk_Dead x_d h fun b8 h9 => Q (.bool b8) h9 := by kernel_rfl
theorem disk_Disk_Dead.good : FnGood Try.prog 26 disk_Disk_Dead.W := by
  refine FnGood.of (ann := disk_Disk_Dead.ann) (env := disk_Disk_Dead.env) mixed EnvGood.nil Try.func26 Try.call26 fun args => ?_
  show disk_Disk_Dead.L disk_Disk_Dead args.toList = _ ∨ ∀ Q m, evF Try.prog disk_Disk_Dead.env Try.f26 disk_Disk_Dead.ann args.toList Q m = disk_Disk_Dead.L disk_Disk_Dead args.toList Q m
  generalize args.toList = l
  unfold disk_Disk_Dead.L
  split
  · exact .inr fun Q m => disk_Disk_Dead.eq _ Q m
  · exact .inl rfl

def disk_Disk_Fail (x_d : Option Addr) (h : H) (Q : H → Prop) : Prop :=
(bif (!(Option.isNone x_d)) then
M.nn x_d fun a1 =>
M.put h (Addr.add a1 3) (.bool true) fun h2 =>
M.nn x_d fun a3 =>
M.put h2 (Addr.add a3 2) (.slice none 0 0) fun h4 =>
Q  h4
else
Q  h)
def disk_Disk_Fail.L (F : Option Addr → H → (H → Prop) → Prop) : List Value → (Value → H → Prop) → H → Prop
  | [.pointer x_d] => fun Q h => F x_d h fun h5 => Q (.tuple #[]) h5
  | _ => fun _ _ => False
def disk_Disk_Fail.W : W := fun args => disk_Disk_Fail.L disk_Disk_Fail args.toList
def disk_Disk_Fail.ann : Ann := ⟨lookN [], lookN [], lookN []⟩
def disk_Disk_Fail.env : Env := envOf []
theorem disk_Disk_Fail.eq (x_d : Option Addr) (Q : Value → H → Prop) (h : H) : evF Try.prog disk_Disk_Fail.env Try.f29 disk_Disk_Fail.ann [(.pointer x_d)] Q h = disk_Disk_Fail x_d h fun h5 => Q (.tuple #[]) h5 := by kernel_rfl
theorem disk_Disk_Fail.W_eq (x_d : Option Addr) (Q : Value → H → Prop) (h : H) : disk_Disk_Fail.W #[(.pointer x_d)] Q h = disk_Disk_Fail x_d h fun h5 => Q (.tuple #[]) h5 := by kernel_rfl
theorem disk_Disk_Fail.good : FnGood Try.prog 29 disk_Disk_Fail.W := by
  refine FnGood.of (ann := disk_Disk_Fail.ann) (env := disk_Disk_Fail.env) mixed EnvGood.nil Try.func29 Try.call29 fun args => ?_
  show disk_Disk_Fail.L disk_Disk_Fail args.toList = _ ∨ ∀ Q m, evF Try.prog disk_Disk_Fail.env Try.f29 disk_Disk_Fail.ann args.toList Q m = disk_Disk_Fail.L disk_Disk_Fail args.toList Q m
  generalize args.toList = l
  unfold disk_Disk_Fail.L
  split
  · exact .inr fun Q m => disk_Disk_Fail.eq _ Q m
  · exact .inl rfl

def bank_New.g (disk_New' : Int → H → (Option Addr → H → Prop) → Prop) (x_disks : Int) (x_cells : Int) (h : H) (Q : Option Addr → H → Prop) : Prop :=
M.new h (.cells (#[(.slice none 0 0), (.int .i64 (0 : Int)), (.bool false), (.int .i64 (0 : Int))] : Array Value) 99) fun b2 h3 =>
M.loop (α := Int) (fun J4 d5 h6 =>
(bif (decide (d5 < (mx (1 : Int) (mn x_disks (12 : Int))))) then
M.nn (some (⟨b2, 0, none⟩ : Addr)) fun a7 =>
M.load h6 (Addr.add a7 0) fun v8 =>
M.slc v8 fun a9 l10 c11 =>
disk_New' x_cells h6 fun p12 h13 =>
M.still h6 (Addr.add a7 0) 1 h13 (
M.new h13 (.cells (#[(.pointer p12)] : Array Value) 25) fun b14 h15 =>
M.still h6 (Addr.add a7 0) 1 h15 (
M.cellsOf h15 (some (⟨b14, 0, none⟩ : Addr)) (1 * 1) fun cs20 =>
M.app h15 25 1 8 [(.pointer none)] a9 l10 c11 1 cs20 fun a16 l17 c18 h19 =>
M.nn (some (⟨b2, 0, none⟩ : Addr)) fun a21 =>
M.put h19 (Addr.add a21 0) (.slice a16 l17 c18) fun h22 =>
M.val (IntKind.wrap .i64 (d5 + (1 : Int))) fun z23 =>
J4 z23 h22))
else
Q (some (⟨b2, 0, none⟩ : Addr)) h6)) (0 : Int) h3
def bank_New (x_disks : Int) (x_cells : Int) (h : H) (Q : Option Addr → H → Prop) : Prop := bank_New.g disk_New x_disks x_cells h Q
def bank_New.L (F : Int → Int → H → (Option Addr → H → Prop) → Prop) : List Value → (Value → H → Prop) → H → Prop
  | [.int .i64 x_disks, .int .i64 x_cells] => fun Q h => F x_disks x_cells h fun p24 h25 => Q (.pointer p24) h25
  | _ => fun _ _ => False
def bank_New.W : W := fun args => bank_New.L bank_New args.toList
def bank_New.ann : Ann := ⟨lookN [], lookN [], lookN [(58, [(11, .int .i64)])]⟩
def bank_New.env : Env := envOf [(13, fun args => disk_New.L disk_New args.toList)]
theorem bank_New.geq (disk_New' : Int → H → (Option Addr → H → Prop) → Prop) (x_disks : Int) (x_cells : Int) (Q : Value → H → Prop) (h : H) : evF Try.prog (envOf [(13, fun args => disk_New.L disk_New' args.toList)]) Try.f31 bank_New.ann [(.int .i64 x_disks), (.int .i64 x_cells)] Q h = bank_New.g disk_New' x_disks x_cells h fun p24 h25 => Q (.pointer p24) h25 := by kernel_rfl
theorem bank_New.eq (x_disks : Int) (x_cells : Int) (Q : Value → H → Prop) (h : H) : evF Try.prog bank_New.env Try.f31 bank_New.ann [(.int .i64 x_disks), (.int .i64 x_cells)] Q h = bank_New x_disks x_cells h fun p24 h25 => Q (.pointer p24) h25 := bank_New.geq disk_New x_disks x_cells Q h
theorem bank_New.W_eq (x_disks : Int) (x_cells : Int) (Q : Value → H → Prop) (h : H) : bank_New.W #[(.int .i64 x_disks), (.int .i64 x_cells)] Q h = bank_New x_disks x_cells h fun p24 h25 => Q (.pointer p24) h25 := by kernel_rfl
theorem bank_New.good : FnGood Try.prog 31 bank_New.W := by
  refine FnGood.of (ann := bank_New.ann) (env := bank_New.env) mixed (EnvGood.cons disk_New.good EnvGood.nil) Try.func31 Try.call31 fun args => ?_
  show bank_New.L bank_New args.toList = _ ∨ ∀ Q m, evF Try.prog bank_New.env Try.f31 bank_New.ann args.toList Q m = bank_New.L bank_New args.toList Q m
  generalize args.toList = l
  unfold bank_New.L
  split
  · exact .inr fun Q m => bank_New.eq _ _ Q m
  · exact .inl rfl

def bank_Bank_Cut (x_b : Option Addr) (x_steps : Int) (h : H) (Q : H → Prop) : Prop :=
(bif (!(Option.isNone x_b)) then
M.nn x_b fun a1 =>
M.put h (Addr.add a1 2) (.bool true) fun h2 =>
M.nn x_b fun a3 =>
M.put h2 (Addr.add a3 3) (.int .i64 (mx (0 : Int) x_steps)) fun h4 =>
Q  h4
else
Q  h)
def bank_Bank_Cut.L (F : Option Addr → Int → H → (H → Prop) → Prop) : List Value → (Value → H → Prop) → H → Prop
  | [.pointer x_b, .int .i64 x_steps] => fun Q h => F x_b x_steps h fun h5 => Q (.tuple #[]) h5
  | _ => fun _ _ => False
def bank_Bank_Cut.W : W := fun args => bank_Bank_Cut.L bank_Bank_Cut args.toList
def bank_Bank_Cut.ann : Ann := ⟨lookN [], lookN [], lookN []⟩
def bank_Bank_Cut.env : Env := envOf []
theorem bank_Bank_Cut.eq (x_b : Option Addr) (x_steps : Int) (Q : Value → H → Prop) (h : H) : evF Try.prog bank_Bank_Cut.env Try.f32 bank_Bank_Cut.ann [(.pointer x_b), (.int .i64 x_steps)] Q h = bank_Bank_Cut x_b x_steps h fun h5 => Q (.tuple #[]) h5 := by kernel_rfl
theorem bank_Bank_Cut.W_eq (x_b : Option Addr) (x_steps : Int) (Q : Value → H → Prop) (h : H) : bank_Bank_Cut.W #[(.pointer x_b), (.int .i64 x_steps)] Q h = bank_Bank_Cut x_b x_steps h fun h5 => Q (.tuple #[]) h5 := by kernel_rfl
theorem bank_Bank_Cut.good : FnGood Try.prog 32 bank_Bank_Cut.W := by
  refine FnGood.of (ann := bank_Bank_Cut.ann) (env := bank_Bank_Cut.env) mixed EnvGood.nil Try.func32 Try.call32 fun args => ?_
  show bank_Bank_Cut.L bank_Bank_Cut args.toList = _ ∨ ∀ Q m, evF Try.prog bank_Bank_Cut.env Try.f32 bank_Bank_Cut.ann args.toList Q m = bank_Bank_Cut.L bank_Bank_Cut args.toList Q m
  generalize args.toList = l
  unfold bank_Bank_Cut.L
  split
  · exact .inr fun Q m => bank_Bank_Cut.eq _ _ Q m
  · exact .inl rfl

def bank_Bank_Spend (x_b : Option Addr) (h : H) (Q : Int → H → Prop) : Prop :=
M.join (α := Unit) (fun d21 h22 =>
M.nn x_b fun a23 =>
M.load h22 (Addr.add a23 1) fun v24 =>
M.int .i64 v24 fun n25 =>
M.val (IntKind.wrap .i64 (n25 + (1 : Int))) fun z26 =>
M.nn x_b fun a27 =>
M.put h22 (Addr.add a27 1) (.int .i64 z26) fun h28 =>
Q (0 : Int) h28) fun J2 =>
(bif (Option.isNone x_b) then
Q (1 : Int) h
else
M.join (α := Bool) (fun d10 h11 =>
(bif d10 then
Q (21 : Int) h11
else
M.nn x_b fun a12 =>
M.load h11 (Addr.add a12 2) fun v13 =>
M.bool v13 fun b14 =>
(bif b14 then
M.nn x_b fun a15 =>
M.load h11 (Addr.add a15 3) fun v16 =>
M.int .i64 v16 fun n17 =>
M.val (IntKind.wrap .i64 (n17 - (1 : Int))) fun z18 =>
M.nn x_b fun a19 =>
M.put h11 (Addr.add a19 3) (.int .i64 z18) fun h20 =>
J2 () h20
else
J2 () h11))) fun J3 =>
M.nn x_b fun a4 =>
M.load h (Addr.add a4 2) fun v5 =>
M.bool v5 fun b6 =>
(bif b6 then
M.nn x_b fun a7 =>
M.load h (Addr.add a7 3) fun v8 =>
M.int .i64 v8 fun n9 =>
J3 (n9 == (0 : Int)) h
else
J3 false h))
def bank_Bank_Spend.L (F : Option Addr → H → (Int → H → Prop) → Prop) : List Value → (Value → H → Prop) → H → Prop
  | [.pointer x_b] => fun Q h => F x_b h fun n29 h30 => Q (.int .i64 n29) h30
  | _ => fun _ _ => False
def bank_Bank_Spend.W : W := fun args => bank_Bank_Spend.L bank_Bank_Spend args.toList
def bank_Bank_Spend.ann : Ann := ⟨lookN [(3, [(6, .bool)])], lookN [(3, [])], lookN []⟩
def bank_Bank_Spend.env : Env := envOf []
theorem bank_Bank_Spend.eq (x_b : Option Addr) (Q : Value → H → Prop) (h : H) : evF Try.prog bank_Bank_Spend.env Try.f33 bank_Bank_Spend.ann [(.pointer x_b)] Q h = bank_Bank_Spend x_b h fun n29 h30 => Q (.int .i64 n29) h30 := by kernel_rfl
theorem bank_Bank_Spend.W_eq (x_b : Option Addr) (Q : Value → H → Prop) (h : H) : bank_Bank_Spend.W #[(.pointer x_b)] Q h = bank_Bank_Spend x_b h fun n29 h30 => Q (.int .i64 n29) h30 := by kernel_rfl
theorem bank_Bank_Spend.good : FnGood Try.prog 33 bank_Bank_Spend.W := by
  refine FnGood.of (ann := bank_Bank_Spend.ann) (env := bank_Bank_Spend.env) mixed EnvGood.nil Try.func33 Try.call33 fun args => ?_
  show bank_Bank_Spend.L bank_Bank_Spend args.toList = _ ∨ ∀ Q m, evF Try.prog bank_Bank_Spend.env Try.f33 bank_Bank_Spend.ann args.toList Q m = bank_Bank_Spend.L bank_Bank_Spend args.toList Q m
  generalize args.toList = l
  unfold bank_Bank_Spend.L
  split
  · exact .inr fun Q m => bank_Bank_Spend.eq _ Q m
  · exact .inl rfl

def bank_Bank_Steps (x_b : Option Addr) (h : H) (Q : Int → H → Prop) : Prop :=
(bif (Option.isNone x_b) then
Q (0 : Int) h
else
M.nn x_b fun a2 =>
M.load h (Addr.add a2 1) fun v3 =>
M.int .i64 v3 fun n4 =>
Q n4 h)
def bank_Bank_Steps.L (F : Option Addr → H → (Int → H → Prop) → Prop) : List Value → (Value → H → Prop) → H → Prop
  | [.pointer x_b] => fun Q h => F x_b h fun n5 h6 => Q (.int .i64 n5) h6
  | _ => fun _ _ => False
def bank_Bank_Steps.W : W := fun args => bank_Bank_Steps.L bank_Bank_Steps args.toList
def bank_Bank_Steps.ann : Ann := ⟨lookN [], lookN [], lookN []⟩
def bank_Bank_Steps.env : Env := envOf []
theorem bank_Bank_Steps.eq (x_b : Option Addr) (Q : Value → H → Prop) (h : H) : evF Try.prog bank_Bank_Steps.env Try.f37 bank_Bank_Steps.ann [(.pointer x_b)] Q h = bank_Bank_Steps x_b h fun n5 h6 => Q (.int .i64 n5) h6 := by kernel_rfl
theorem bank_Bank_Steps.W_eq (x_b : Option Addr) (Q : Value → H → Prop) (h : H) : bank_Bank_Steps.W #[(.pointer x_b)] Q h = bank_Bank_Steps x_b h fun n5 h6 => Q (.int .i64 n5) h6 := by kernel_rfl
theorem bank_Bank_Steps.good : FnGood Try.prog 37 bank_Bank_Steps.W := by
  refine FnGood.of (ann := bank_Bank_Steps.ann) (env := bank_Bank_Steps.env) mixed EnvGood.nil Try.func37 Try.call37 fun args => ?_
  show bank_Bank_Steps.L bank_Bank_Steps args.toList = _ ∨ ∀ Q m, evF Try.prog bank_Bank_Steps.env Try.f37 bank_Bank_Steps.ann args.toList Q m = bank_Bank_Steps.L bank_Bank_Steps args.toList Q m
  generalize args.toList = l
  unfold bank_Bank_Steps.L
  split
  · exact .inr fun Q m => bank_Bank_Steps.eq _ Q m
  · exact .inl rfl

def bank_Bank_Size (x_b : Option Addr) (h : H) (Q : Int → H → Prop) : Prop :=
(bif (Option.isNone x_b) then
Q (0 : Int) h
else
M.nn x_b fun a2 =>
M.load h (Addr.add a2 0) fun v3 =>
M.slc v3 fun a4 l5 c6 =>
Q ((l5 : Nat) : Int) h)
def bank_Bank_Size.L (F : Option Addr → H → (Int → H → Prop) → Prop) : List Value → (Value → H → Prop) → H → Prop
  | [.pointer x_b] => fun Q h => F x_b h fun n7 h8 => Q (.int .i64 n7) h8
  | _ => fun _ _ => False
def bank_Bank_Size.W : W := fun args => bank_Bank_Size.L bank_Bank_Size args.toList
def bank_Bank_Size.ann : Ann := ⟨lookN [], lookN [], lookN []⟩
def bank_Bank_Size.env : Env := envOf []
theorem bank_Bank_Size.eq (x_b : Option Addr) (Q : Value → H → Prop) (h : H) : evF Try.prog bank_Bank_Size.env Try.f40 bank_Bank_Size.ann [(.pointer x_b)] Q h = bank_Bank_Size x_b h fun n7 h8 => Q (.int .i64 n7) h8 := by kernel_rfl
theorem bank_Bank_Size.W_eq (x_b : Option Addr) (Q : Value → H → Prop) (h : H) : bank_Bank_Size.W #[(.pointer x_b)] Q h = bank_Bank_Size x_b h fun n7 h8 => Q (.int .i64 n7) h8 := by kernel_rfl
theorem bank_Bank_Size.good : FnGood Try.prog 40 bank_Bank_Size.W := by
  refine FnGood.of (ann := bank_Bank_Size.ann) (env := bank_Bank_Size.env) mixed EnvGood.nil Try.func40 Try.call40 fun args => ?_
  show bank_Bank_Size.L bank_Bank_Size args.toList = _ ∨ ∀ Q m, evF Try.prog bank_Bank_Size.env Try.f40 bank_Bank_Size.ann args.toList Q m = bank_Bank_Size.L bank_Bank_Size args.toList Q m
  generalize args.toList = l
  unfold bank_Bank_Size.L
  split
  · exact .inr fun Q m => bank_Bank_Size.eq _ Q m
  · exact .inl rfl

def bank_Bank_Disk (x_b : Option Addr) (x_i : Int) (h : H) (Q : Option Addr → H → Prop) : Prop :=
M.join (α := Bool) (fun d8 h9 =>
(bif d8 then
Q none h9
else
M.nn x_b fun a10 =>
M.load h9 (Addr.add a10 0) fun v11 =>
M.slc v11 fun a12 l13 c14 =>
M.idx a12 l13 x_i fun a15 j16 =>
M.load h9 (Addr.add a15 (j16 * 1)) fun v17 =>
M.ptr v17 fun p18 =>
Q p18 h9)) fun J2 =>
(bif (Option.isNone x_b) then
J2 true h
else
(bif (decide (x_i < (0 : Int))) then
J2 true h
else
M.nn x_b fun a3 =>
M.load h (Addr.add a3 0) fun v4 =>
M.slc v4 fun a5 l6 c7 =>
J2 (decide (x_i ≥ ((l6 : Nat) : Int))) h))
def bank_Bank_Disk.L (F : Option Addr → Int → H → (Option Addr → H → Prop) → Prop) : List Value → (Value → H → Prop) → H → Prop
  | [.pointer x_b, .int .i64 x_i] => fun Q h => F x_b x_i h fun p19 h20 => Q (.pointer p19) h20
  | _ => fun _ _ => False
def bank_Bank_Disk.W : W := fun args => bank_Bank_Disk.L bank_Bank_Disk args.toList
def bank_Bank_Disk.ann : Ann := ⟨lookN [(1, [(19, .bool)])], lookN [], lookN []⟩
def bank_Bank_Disk.env : Env := envOf []
theorem bank_Bank_Disk.eq (x_b : Option Addr) (x_i : Int) (Q : Value → H → Prop) (h : H) : evF Try.prog bank_Bank_Disk.env Try.f41 bank_Bank_Disk.ann [(.pointer x_b), (.int .i64 x_i)] Q h = bank_Bank_Disk x_b x_i h fun p19 h20 => Q (.pointer p19) h20 := by kernel_rfl
theorem bank_Bank_Disk.W_eq (x_b : Option Addr) (x_i : Int) (Q : Value → H → Prop) (h : H) : bank_Bank_Disk.W #[(.pointer x_b), (.int .i64 x_i)] Q h = bank_Bank_Disk x_b x_i h fun p19 h20 => Q (.pointer p19) h20 := by kernel_rfl
theorem bank_Bank_Disk.good : FnGood Try.prog 41 bank_Bank_Disk.W := by
  refine FnGood.of (ann := bank_Bank_Disk.ann) (env := bank_Bank_Disk.env) mixed EnvGood.nil Try.func41 Try.call41 fun args => ?_
  show bank_Bank_Disk.L bank_Bank_Disk args.toList = _ ∨ ∀ Q m, evF Try.prog bank_Bank_Disk.env Try.f41 bank_Bank_Disk.ann args.toList Q m = bank_Bank_Disk.L bank_Bank_Disk args.toList Q m
  generalize args.toList = l
  unfold bank_Bank_Disk.L
  split
  · exact .inr fun Q m => bank_Bank_Disk.eq _ _ Q m
  · exact .inl rfl

def ref10_New.g (ref09_New' : Int → H → (Option Addr → H → Prop) → Prop) (x_disks : Int) (x_cells : Int) (h : H) (Q : Option Addr → H → Prop) : Prop :=
M.join (α := Int) (fun d3 h4 =>
M.join (α := Int) (fun d6 h7 =>
M.new h7 (.cells (#[(.slice none 0 0), (.int .i64 (0 : Int)), (.int .i64 (-1 : Int))] : Array Value) 77) fun b8 h9 =>
M.loop (α := Int) (fun J10 d11 h12 =>
(bif (decide (d11 < d6)) then
ref09_New' x_cells h12 fun p13 h14 =>
M.nn (some (⟨b8, 0, none⟩ : Addr)) fun a15 =>
M.load h14 (Addr.add a15 0) fun v16 =>
M.slc v16 fun a17 l18 c19 =>
M.new h14 (.cells (#[(.pointer p13)] : Array Value) 45) fun b20 h21 =>
M.cellsOf h21 (some (⟨b20, 0, none⟩ : Addr)) (1 * 1) fun cs26 =>
M.app h21 45 1 8 [(.pointer none)] a17 l18 c19 1 cs26 fun a22 l23 c24 h25 =>
M.nn (some (⟨b8, 0, none⟩ : Addr)) fun a27 =>
M.put h25 (Addr.add a27 0) (.slice a22 l23 c24) fun h28 =>
M.val (IntKind.wrap .i64 (d11 + (1 : Int))) fun z29 =>
J10 z29 h28
else
Q (some (⟨b8, 0, none⟩ : Addr)) h12)) (0 : Int) h9) fun J5 =>
(bif (decide (d3 > (12 : Int))) then
J5 (12 : Int) h4
else
J5 d3 h4)) fun J2 =>
(bif (decide (x_disks < (1 : Int))) then
J2 (1 : Int) h
else
J2 x_disks h)
def ref10_New (x_disks : Int) (x_cells : Int) (h : H) (Q : Option Addr → H → Prop) : Prop := ref10_New.g ref09_New x_disks x_cells h Q
def ref10_New.L (F : Int → Int → H → (Option Addr → H → Prop) → Prop) : List Value → (Value → H → Prop) → H → Prop
  | [.int .i64 x_disks, .int .i64 x_cells] => fun Q h => F x_disks x_cells h fun p30 h31 => Q (.pointer p30) h31
  | _ => fun _ _ => False
def ref10_New.W : W := fun args => ref10_New.L ref10_New args.toList
def ref10_New.ann : Ann := ⟨lookN [], lookN [(3, [(0, .int .i64)]), (7, [(0, .int .i64)])], lookN [(250, [(6, .int .i64)])]⟩
def ref10_New.env : Env := envOf [(23, fun args => ref09_New.L ref09_New args.toList)]
theorem ref10_New.geq (ref09_New' : Int → H → (Option Addr → H → Prop) → Prop) (x_disks : Int) (x_cells : Int) (Q : Value → H → Prop) (h : H) : evF Try.prog (envOf [(23, fun args => ref09_New.L ref09_New' args.toList)]) Try.f42 ref10_New.ann [(.int .i64 x_disks), (.int .i64 x_cells)] Q h = ref10_New.g ref09_New' x_disks x_cells h fun p30 h31 => Q (.pointer p30) h31 := by kernel_rfl
theorem ref10_New.eq (x_disks : Int) (x_cells : Int) (Q : Value → H → Prop) (h : H) : evF Try.prog ref10_New.env Try.f42 ref10_New.ann [(.int .i64 x_disks), (.int .i64 x_cells)] Q h = ref10_New x_disks x_cells h fun p30 h31 => Q (.pointer p30) h31 := ref10_New.geq ref09_New x_disks x_cells Q h
theorem ref10_New.W_eq (x_disks : Int) (x_cells : Int) (Q : Value → H → Prop) (h : H) : ref10_New.W #[(.int .i64 x_disks), (.int .i64 x_cells)] Q h = ref10_New x_disks x_cells h fun p30 h31 => Q (.pointer p30) h31 := by kernel_rfl
theorem ref10_New.good : FnGood Try.prog 42 ref10_New.W := by
  refine FnGood.of (ann := ref10_New.ann) (env := ref10_New.env) mixed (EnvGood.cons ref09_New.good EnvGood.nil) Try.func42 Try.call42 fun args => ?_
  show ref10_New.L ref10_New args.toList = _ ∨ ∀ Q m, evF Try.prog ref10_New.env Try.f42 ref10_New.ann args.toList Q m = ref10_New.L ref10_New args.toList Q m
  generalize args.toList = l
  unfold ref10_New.L
  split
  · exact .inr fun Q m => ref10_New.eq _ _ Q m
  · exact .inl rfl

def law10_lists (x_a_0 : Int) (x_a_1 : Int) (x_a_2 : Int) (x_a_3 : ByteArray) (x_a_4 : Option Addr) (x_a_4L : Nat) (x_a_4C : Nat) (x_a_5 : Bool) (h : H) (Q : Option Addr → Nat → Nat → H → Prop) : Prop :=
M.new h (.cells (#[(.int .i64 x_a_0), (.int .i64 x_a_1), (.int .i64 x_a_2), (.string x_a_3), (.slice x_a_4 x_a_4L x_a_4C), (.bool x_a_5)] : Array Value) 65) fun b4 h5 =>
M.load h5 (Addr.add (⟨b4, 0, none⟩ : Addr) 4) fun v6 =>
M.slc v6 fun a7 l8 c9 =>
M.load h5 (Addr.add (⟨b4, 0, none⟩ : Addr) 4) fun v10 =>
M.slc v10 fun a11 l12 c13 =>
M.sub a7 c9 1 0 (mn ((l12 : Nat) : Int) (20 : Int)) fun a14 l15 c16 =>
M.loop (α := (Option Addr × Nat × Nat) × Int) (fun J17 d18 h19 =>
(bif (decide (d18.2 < ((l15 : Nat) : Int))) then
M.idx a14 l15 d18.2 fun a20 j21 =>
M.load h19 (Addr.add a20 (j21 * 1)) fun v22 =>
M.slc v22 fun a23 l24 c25 =>
M.sub a23 c25 1 0 (mn ((l24 : Nat) : Int) (60 : Int)) fun a26 l27 c28 =>
M.new h19 (.cells (#[(.slice a26 l27 c28)] : Array Value) 24) fun b29 h30 =>
M.cellsOf h30 (some (⟨b29, 0, none⟩ : Addr)) (1 * 1) fun cs35 =>
M.app h30 24 1 24 [(.slice none 0 0)] d18.1.1 d18.1.2.1 d18.1.2.2 1 cs35 fun a31 l32 c33 h34 =>
M.val (IntKind.wrap .i64 (d18.2 + (1 : Int))) fun z36 =>
J17 ((a31, l32, c33), z36) h34
else
Q d18.1.1 d18.1.2.1 d18.1.2.2 h19)) ((none, 0, 0), (0 : Int)) h5
def law10_lists.L (F : Int → Int → Int → ByteArray → Option Addr → Nat → Nat → Bool → H → (Option Addr → Nat → Nat → H → Prop) → Prop) : List Value → (Value → H → Prop) → H → Prop
  | [.agg ⟨[.int .i64 x_a_0, .int .i64 x_a_1, .int .i64 x_a_2, .string x_a_3, .slice x_a_4 x_a_4L x_a_4C, .bool x_a_5]⟩] => fun Q h => F x_a_0 x_a_1 x_a_2 x_a_3 x_a_4 x_a_4L x_a_4C x_a_5 h fun a37 l38 c39 h40 => Q (.slice a37 l38 c39) h40
  | _ => fun _ _ => False
def law10_lists.W : W := fun args => law10_lists.L law10_lists args.toList
def law10_lists.ann : Ann := ⟨lookN [], lookN [], lookN [(58, [(3, .slc), (14, .int .i64)])]⟩
def law10_lists.env : Env := envOf []
theorem law10_lists.eq (x_a_0 : Int) (x_a_1 : Int) (x_a_2 : Int) (x_a_3 : ByteArray) (x_a_4 : Option Addr) (x_a_4L : Nat) (x_a_4C : Nat) (x_a_5 : Bool) (Q : Value → H → Prop) (h : H) : evF Try.prog law10_lists.env Try.f44 law10_lists.ann [(.agg (#[(.int .i64 x_a_0), (.int .i64 x_a_1), (.int .i64 x_a_2), (.string x_a_3), (.slice x_a_4 x_a_4L x_a_4C), (.bool x_a_5)] : Array Value))] Q h = law10_lists x_a_0 x_a_1 x_a_2 x_a_3 x_a_4 x_a_4L x_a_4C x_a_5 h fun a37 l38 c39 h40 => Q (.slice a37 l38 c39) h40 := by kernel_rfl
theorem law10_lists.W_eq (x_a_0 : Int) (x_a_1 : Int) (x_a_2 : Int) (x_a_3 : ByteArray) (x_a_4 : Option Addr) (x_a_4L : Nat) (x_a_4C : Nat) (x_a_5 : Bool) (Q : Value → H → Prop) (h : H) : law10_lists.W #[(.agg (#[(.int .i64 x_a_0), (.int .i64 x_a_1), (.int .i64 x_a_2), (.string x_a_3), (.slice x_a_4 x_a_4L x_a_4C), (.bool x_a_5)] : Array Value))] Q h = law10_lists x_a_0 x_a_1 x_a_2 x_a_3 x_a_4 x_a_4L x_a_4C x_a_5 h fun a37 l38 c39 h40 => Q (.slice a37 l38 c39) h40 := by kernel_rfl
theorem law10_lists.good : FnGood Try.prog 44 law10_lists.W := by
  refine FnGood.of (ann := law10_lists.ann) (env := law10_lists.env) mixed EnvGood.nil Try.func44 Try.call44 fun args => ?_
  show law10_lists.L law10_lists args.toList = _ ∨ ∀ Q m, evF Try.prog law10_lists.env Try.f44 law10_lists.ann args.toList Q m = law10_lists.L law10_lists args.toList Q m
  generalize args.toList = l
  unfold law10_lists.L
  split
  · exact .inr fun Q m => law10_lists.eq _ _ _ _ _ _ _ _ Q m
  · exact .inl rfl

def disk_Disk_usable (x_d : Option Addr) (x_at : Int) (h : H) (Q : Int → H → Prop) : Prop :=
(bif (Option.isNone x_d) then
Q (1 : Int) h
else
M.nn x_d fun a2 =>
M.load h (Addr.add a2 3) fun v3 =>
M.bool v3 fun b4 =>
(bif b4 then
Q (20 : Int) h
else
M.join (α := Bool) (fun d11 h12 =>
(bif d11 then
Q (2 : Int) h12
else
Q (0 : Int) h12)) fun J5 =>
(bif (decide (x_at < (0 : Int))) then
J5 true h
else
M.nn x_d fun a6 =>
M.load h (Addr.add a6 1) fun v7 =>
M.slc v7 fun a8 l9 c10 =>
J5 (decide (x_at ≥ ((l9 : Nat) : Int))) h)))
def disk_Disk_usable.L (F : Option Addr → Int → H → (Int → H → Prop) → Prop) : List Value → (Value → H → Prop) → H → Prop
  | [.pointer x_d, .int .i64 x_at] => fun Q h => F x_d x_at h fun n13 h14 => Q (.int .i64 n13) h14
  | _ => fun _ _ => False
def disk_Disk_usable.W : W := fun args => disk_Disk_usable.L disk_Disk_usable args.toList
def disk_Disk_usable.ann : Ann := ⟨lookN [(5, [(13, .bool)])], lookN [], lookN []⟩
def disk_Disk_usable.env : Env := envOf []
theorem disk_Disk_usable.eq (x_d : Option Addr) (x_at : Int) (Q : Value → H → Prop) (h : H) : evF Try.prog disk_Disk_usable.env Try.f45 disk_Disk_usable.ann [(.pointer x_d), (.int .i64 x_at)] Q h = disk_Disk_usable x_d x_at h fun n13 h14 => Q (.int .i64 n13) h14 := by kernel_rfl
theorem disk_Disk_usable.W_eq (x_d : Option Addr) (x_at : Int) (Q : Value → H → Prop) (h : H) : disk_Disk_usable.W #[(.pointer x_d), (.int .i64 x_at)] Q h = disk_Disk_usable x_d x_at h fun n13 h14 => Q (.int .i64 n13) h14 := by kernel_rfl
theorem disk_Disk_usable.good : FnGood Try.prog 45 disk_Disk_usable.W := by
  refine FnGood.of (ann := disk_Disk_usable.ann) (env := disk_Disk_usable.env) mixed EnvGood.nil Try.func45 Try.call45 fun args => ?_
  show disk_Disk_usable.L disk_Disk_usable args.toList = _ ∨ ∀ Q m, evF Try.prog disk_Disk_usable.env Try.f45 disk_Disk_usable.ann args.toList Q m = disk_Disk_usable.L disk_Disk_usable args.toList Q m
  generalize args.toList = l
  unfold disk_Disk_usable.L
  split
  · exact .inr fun Q m => disk_Disk_usable.eq _ _ Q m
  · exact .inl rfl

def slices_Clonestring_string (x_s : Option Addr) (x_sL : Nat) (x_sC : Nat) (h : H) (Q : Option Addr → Nat → Nat → H → Prop) : Prop :=
(bif (Option.isNone x_s) then
Q none 0 0 h
else
M.new h (.cells (#[] : Array Value) 9) fun b4 h5 =>
M.cellsOf h5 x_s (x_sL * 1) fun cs10 =>
M.app h5 9 1 16 [(.string (ByteArray.empty))] (some (⟨b4, 0, none⟩ : Addr)) 0 0 x_sL cs10 fun a6 l7 c8 h9 =>
Q a6 l7 c8 h9)
def slices_Clonestring_string.L (F : Option Addr → Nat → Nat → H → (Option Addr → Nat → Nat → H → Prop) → Prop) : List Value → (Value → H → Prop) → H → Prop
  | [.slice x_s x_sL x_sC] => fun Q h => F x_s x_sL x_sC h fun a11 l12 c13 h14 => Q (.slice a11 l12 c13) h14
  | _ => fun _ _ => False
def slices_Clonestring_string.W : W := fun args => slices_Clonestring_string.L slices_Clonestring_string args.toList
def slices_Clonestring_string.ann : Ann := ⟨lookN [], lookN [], lookN []⟩
def slices_Clonestring_string.env : Env := envOf []
theorem slices_Clonestring_string.eq (x_s : Option Addr) (x_sL : Nat) (x_sC : Nat) (Q : Value → H → Prop) (h : H) : evF Try.prog slices_Clonestring_string.env Try.f46 slices_Clonestring_string.ann [(.slice x_s x_sL x_sC)] Q h = slices_Clonestring_string x_s x_sL x_sC h fun a11 l12 c13 h14 => Q (.slice a11 l12 c13) h14 := by kernel_rfl
theorem slices_Clonestring_string.W_eq (x_s : Option Addr) (x_sL : Nat) (x_sC : Nat) (Q : Value → H → Prop) (h : H) : slices_Clonestring_string.W #[(.slice x_s x_sL x_sC)] Q h = slices_Clonestring_string x_s x_sL x_sC h fun a11 l12 c13 h14 => Q (.slice a11 l12 c13) h14 := by kernel_rfl
theorem slices_Clonestring_string.good : FnGood Try.prog 46 slices_Clonestring_string.W := by
  refine FnGood.of (ann := slices_Clonestring_string.ann) (env := slices_Clonestring_string.env) mixed EnvGood.nil Try.func46 Try.call46 fun args => ?_
  show slices_Clonestring_string.L slices_Clonestring_string args.toList = _ ∨ ∀ Q m, evF Try.prog slices_Clonestring_string.env Try.f46 slices_Clonestring_string.ann args.toList Q m = slices_Clonestring_string.L slices_Clonestring_string args.toList Q m
  generalize args.toList = l
  unfold slices_Clonestring_string.L
  split
  · exact .inr fun Q m => slices_Clonestring_string.eq _ _ _ Q m
  · exact .inl rfl

def ref09_Read (x_d : Option Addr) (x_at : Int) (h : H) (Q : ByteArray → Int → H → Prop) : Prop :=
M.nn x_d fun a3 =>
M.load h (Addr.add a3 2) fun v4 =>
M.bool v4 fun b5 =>
(bif b5 then
Q (ByteArray.empty) (20 : Int) h
else
M.join (α := Bool) (fun d12 h13 =>
(bif d12 then
Q (ByteArray.empty) (2 : Int) h13
else
M.join (α := Unit) (fun d43 h44 =>
M.nn x_d fun a45 =>
M.load h44 (Addr.add a45 0) fun v46 =>
M.slc v46 fun a47 l48 c49 =>
M.idx a47 l48 x_at fun a50 j51 =>
M.load h44 (Addr.add a50 (j51 * 1)) fun v52 =>
M.str v52 fun s53 =>
Q s53 (0 : Int) h44) fun J14 =>
M.nn x_d fun a15 =>
M.load h13 (Addr.add a15 1) fun v16 =>
M.slc v16 fun a17 l18 c19 =>
M.val (IntKind.wrap .i64 (((l18 : Nat) : Int) - (1 : Int))) fun z20 =>
M.loop (α := Int) (fun J21 d22 h23 =>
(bif (decide (d22 ≥ (0 : Int))) then
M.nn x_d fun a24 =>
M.load h23 (Addr.add a24 1) fun v25 =>
M.slc v25 fun a26 l27 c28 =>
M.idx a26 l27 d22 fun a29 j30 =>
M.load h23 (Addr.add (Addr.add a29 (j30 * 2)) 0) fun v31 =>
M.int .i64 v31 fun n32 =>
(bif (n32 == x_at) then
M.nn x_d fun a33 =>
M.load h23 (Addr.add a33 1) fun v34 =>
M.slc v34 fun a35 l36 c37 =>
M.idx a35 l36 d22 fun a38 j39 =>
M.load h23 (Addr.add (Addr.add a38 (j39 * 2)) 1) fun v40 =>
M.str v40 fun s41 =>
Q s41 (0 : Int) h23
else
M.val (IntKind.wrap .i64 (d22 - (1 : Int))) fun z42 =>
J21 z42 h23)
else
J14 () h23)) z20 h13)) fun J6 =>
(bif (decide (x_at < (0 : Int))) then
J6 true h
else
M.nn x_d fun a7 =>
M.load h (Addr.add a7 0) fun v8 =>
M.slc v8 fun a9 l10 c11 =>
J6 (decide (x_at ≥ ((l10 : Nat) : Int))) h))
def ref09_Read.L (F : Option Addr → Int → H → (ByteArray → Int → H → Prop) → Prop) : List Value → (Value → H → Prop) → H → Prop
  | [.pointer x_d, .int .i64 x_at] => fun Q h => F x_d x_at h fun s54 n55 h56 => Q (.tuple #[(.string s54), (.int .i64 n55)]) h56
  | _ => fun _ _ => False
def ref09_Read.W : W := fun args => ref09_Read.L ref09_Read args.toList
def ref09_Read.ann : Ann := ⟨lookN [(3, [(21, .bool)])], lookN [(15, [])], lookN [(122, [(6, .int .i64)])]⟩
def ref09_Read.env : Env := envOf []
theorem ref09_Read.eq (x_d : Option Addr) (x_at : Int) (Q : Value → H → Prop) (h : H) : evF Try.prog ref09_Read.env Try.f47 ref09_Read.ann [(.pointer x_d), (.int .i64 x_at)] Q h = ref09_Read x_d x_at h fun s54 n55 h56 => Q (.tuple #[(.string s54), (.int .i64 n55)]) h56 := by kernel_rfl
theorem ref09_Read.W_eq (x_d : Option Addr) (x_at : Int) (Q : Value → H → Prop) (h : H) : ref09_Read.W #[(.pointer x_d), (.int .i64 x_at)] Q h = ref09_Read x_d x_at h fun s54 n55 h56 => Q (.tuple #[(.string s54), (.int .i64 n55)]) h56 := by kernel_rfl
theorem ref09_Read.good : FnGood Try.prog 47 ref09_Read.W := by
  refine FnGood.of (ann := ref09_Read.ann) (env := ref09_Read.env) mixed EnvGood.nil Try.func47 Try.call47 fun args => ?_
  show ref09_Read.L ref09_Read args.toList = _ ∨ ∀ Q m, evF Try.prog ref09_Read.env Try.f47 ref09_Read.ann args.toList Q m = ref09_Read.L ref09_Read args.toList Q m
  generalize args.toList = l
  unfold ref09_Read.L
  split
  · exact .inr fun Q m => ref09_Read.eq _ _ Q m
  · exact .inl rfl

def ref09_Flush (x_d : Option Addr) (h : H) (Q : Int → H → Prop) : Prop :=
M.nn x_d fun a2 =>
M.load h (Addr.add a2 2) fun v3 =>
M.bool v3 fun b4 =>
(bif b4 then
Q (20 : Int) h
else
M.join (α := Unit) (fun d41 h42 =>
M.nn x_d fun a43 =>
M.put h42 (Addr.add a43 1) (.slice none 0 0) fun h44 =>
Q (0 : Int) h44) fun J5 =>
M.loop (α := Int) (fun J6 d7 h8 =>
M.nn x_d fun a9 =>
M.load h8 (Addr.add a9 1) fun v10 =>
M.slc v10 fun a11 l12 c13 =>
(bif (decide (d7 < ((l12 : Nat) : Int))) then
M.nn x_d fun a14 =>
M.load h8 (Addr.add a14 0) fun v15 =>
M.slc v15 fun a16 l17 c18 =>
M.nn x_d fun a19 =>
M.load h8 (Addr.add a19 1) fun v20 =>
M.slc v20 fun a21 l22 c23 =>
M.idx a21 l22 d7 fun a24 j25 =>
M.load h8 (Addr.add (Addr.add a24 (j25 * 2)) 0) fun v26 =>
M.int .i64 v26 fun n27 =>
M.nn x_d fun a28 =>
M.load h8 (Addr.add a28 1) fun v29 =>
M.slc v29 fun a30 l31 c32 =>
M.idx a30 l31 d7 fun a33 j34 =>
M.load h8 (Addr.add (Addr.add a33 (j34 * 2)) 1) fun v35 =>
M.str v35 fun s36 =>
M.idx a16 l17 n27 fun a37 j38 =>
M.put h8 (Addr.add a37 (j38 * 1)) (.string s36) fun h39 =>
M.val (IntKind.wrap .i64 (d7 + (1 : Int))) fun z40 =>
J6 z40 h39
else
J5 () h8)) (0 : Int) h)
def ref09_Flush.L (F : Option Addr → H → (Int → H → Prop) → Prop) : List Value → (Value → H → Prop) → H → Prop
  | [.pointer x_d] => fun Q h => F x_d h fun n45 h46 => Q (.int .i64 n45) h46
  | _ => fun _ _ => False
def ref09_Flush.W : W := fun args => ref09_Flush.L ref09_Flush args.toList
def ref09_Flush.ann : Ann := ⟨lookN [], lookN [(7, [])], lookN [(58, [(3, .int .i64)])]⟩
def ref09_Flush.env : Env := envOf []
theorem ref09_Flush.eq (x_d : Option Addr) (Q : Value → H → Prop) (h : H) : evF Try.prog ref09_Flush.env Try.f48 ref09_Flush.ann [(.pointer x_d)] Q h = ref09_Flush x_d h fun n45 h46 => Q (.int .i64 n45) h46 := by kernel_rfl
theorem ref09_Flush.W_eq (x_d : Option Addr) (Q : Value → H → Prop) (h : H) : ref09_Flush.W #[(.pointer x_d)] Q h = ref09_Flush x_d h fun n45 h46 => Q (.int .i64 n45) h46 := by kernel_rfl
theorem ref09_Flush.good : FnGood Try.prog 48 ref09_Flush.W := by
  refine FnGood.of (ann := ref09_Flush.ann) (env := ref09_Flush.env) mixed EnvGood.nil Try.func48 Try.call48 fun args => ?_
  show ref09_Flush.L ref09_Flush args.toList = _ ∨ ∀ Q m, evF Try.prog ref09_Flush.env Try.f48 ref09_Flush.ann args.toList Q m = ref09_Flush.L ref09_Flush args.toList Q m
  generalize args.toList = l
  unfold ref09_Flush.L
  split
  · exact .inr fun Q m => ref09_Flush.eq _ Q m
  · exact .inl rfl

def ref09_Crash (x_d : Option Addr) (x_kept : Option Addr) (x_keptL : Nat) (x_keptC : Nat) (h : H) (Q : H → Prop) : Prop :=
M.nn x_d fun a1 =>
M.load h (Addr.add a1 2) fun v2 =>
M.bool v2 fun b3 =>
(bif b3 then
Q  h
else
M.join (α := Unit) (fun d50 h51 =>
M.nn x_d fun a52 =>
M.put h51 (Addr.add a52 1) (.slice none 0 0) fun h53 =>
Q  h53) fun J4 =>
M.loop (α := Int) (fun J5 d6 h7 =>
M.join (α := Bool) (fun d14 h15 =>
(bif d14 then
M.join (α := Unit) (fun d47 h48 =>
M.val (IntKind.wrap .i64 (d6 + (1 : Int))) fun z49 =>
J5 z49 h48) fun J16 =>
M.idx x_kept x_keptL d6 fun a17 j18 =>
M.load h15 (Addr.add a17 (j18 * 1)) fun v19 =>
M.bool v19 fun b20 =>
(bif b20 then
M.nn x_d fun a21 =>
M.load h15 (Addr.add a21 0) fun v22 =>
M.slc v22 fun a23 l24 c25 =>
M.nn x_d fun a26 =>
M.load h15 (Addr.add a26 1) fun v27 =>
M.slc v27 fun a28 l29 c30 =>
M.idx a28 l29 d6 fun a31 j32 =>
M.load h15 (Addr.add (Addr.add a31 (j32 * 2)) 0) fun v33 =>
M.int .i64 v33 fun n34 =>
M.nn x_d fun a35 =>
M.load h15 (Addr.add a35 1) fun v36 =>
M.slc v36 fun a37 l38 c39 =>
M.idx a37 l38 d6 fun a40 j41 =>
M.load h15 (Addr.add (Addr.add a40 (j41 * 2)) 1) fun v42 =>
M.str v42 fun s43 =>
M.idx a23 l24 n34 fun a44 j45 =>
M.put h15 (Addr.add a44 (j45 * 1)) (.string s43) fun h46 =>
J16 () h46
else
J16 () h15)
else
J4 () h15)) fun J8 =>
M.nn x_d fun a9 =>
M.load h7 (Addr.add a9 1) fun v10 =>
M.slc v10 fun a11 l12 c13 =>
(bif (decide (d6 < ((l12 : Nat) : Int))) then
J8 (decide (d6 < ((x_keptL : Nat) : Int))) h7
else
J8 false h7)) (0 : Int) h)
def ref09_Crash.L (F : Option Addr → Option Addr → Nat → Nat → H → (H → Prop) → Prop) : List Value → (Value → H → Prop) → H → Prop
  | [.pointer x_d, .slice x_kept x_keptL x_keptC] => fun Q h => F x_d x_kept x_keptL x_keptC h fun h54 => Q (.tuple #[]) h54
  | _ => fun _ _ => False
def ref09_Crash.W : W := fun args => ref09_Crash.L ref09_Crash args.toList
def ref09_Crash.ann : Ann := ⟨lookN [(2, [(21, .bool)])], lookN [(3, []), (105, [])], lookN [(26, [(4, .int .i64)])]⟩
def ref09_Crash.env : Env := envOf []
theorem ref09_Crash.eq (x_d : Option Addr) (x_kept : Option Addr) (x_keptL : Nat) (x_keptC : Nat) (Q : Value → H → Prop) (h : H) : evF Try.prog ref09_Crash.env Try.f49 ref09_Crash.ann [(.pointer x_d), (.slice x_kept x_keptL x_keptC)] Q h = ref09_Crash x_d x_kept x_keptL x_keptC h fun h54 => Q (.tuple #[]) h54 := by kernel_rfl
theorem ref09_Crash.W_eq (x_d : Option Addr) (x_kept : Option Addr) (x_keptL : Nat) (x_keptC : Nat) (Q : Value → H → Prop) (h : H) : ref09_Crash.W #[(.pointer x_d), (.slice x_kept x_keptL x_keptC)] Q h = ref09_Crash x_d x_kept x_keptL x_keptC h fun h54 => Q (.tuple #[]) h54 := by kernel_rfl
theorem ref09_Crash.good : FnGood Try.prog 49 ref09_Crash.W := by
  refine FnGood.of (ann := ref09_Crash.ann) (env := ref09_Crash.env) mixed EnvGood.nil Try.func49 Try.call49 fun args => ?_
  show ref09_Crash.L ref09_Crash args.toList = _ ∨ ∀ Q m, evF Try.prog ref09_Crash.env Try.f49 ref09_Crash.ann args.toList Q m = ref09_Crash.L ref09_Crash args.toList Q m
  generalize args.toList = l
  unfold ref09_Crash.L
  split
  · exact .inr fun Q m => ref09_Crash.eq _ _ _ _ Q m
  · exact .inl rfl

def ref09_Tamper (x_d : Option Addr) (x_at : Int) (x_s : ByteArray) (h : H) (Q : Bool → H → Prop) : Prop :=
M.join (α := Bool) (fun d11 h12 =>
(bif d11 then
Q false h12
else
M.join (α := (Option Addr × Nat × Nat)) (fun d53 h54 =>
M.nn x_d fun a55 =>
M.put h54 (Addr.add a55 1) (.slice d53.1 d53.2.1 d53.2.2) fun h56 =>
M.nn x_d fun a57 =>
M.load h56 (Addr.add a57 0) fun v58 =>
M.slc v58 fun a59 l60 c61 =>
M.idx a59 l60 x_at fun a62 j63 =>
M.put h56 (Addr.add a62 (j63 * 1)) (.string x_s) fun h64 =>
Q true h64) fun J13 =>
M.loop (α := (Option Addr × Nat × Nat) × Int) (fun J14 d15 h16 =>
M.nn x_d fun a17 =>
M.load h16 (Addr.add a17 1) fun v18 =>
M.slc v18 fun a19 l20 c21 =>
(bif (decide (d15.2 < ((l20 : Nat) : Int))) then
M.join (α := (Option Addr × Nat × Nat)) (fun d50 h51 =>
M.val (IntKind.wrap .i64 (d15.2 + (1 : Int))) fun z52 =>
J14 ((d50.1, d50.2.1, d50.2.2), z52) h51) fun J22 =>
M.nn x_d fun a23 =>
M.load h16 (Addr.add a23 1) fun v24 =>
M.slc v24 fun a25 l26 c27 =>
M.idx a25 l26 d15.2 fun a28 j29 =>
M.load h16 (Addr.add (Addr.add a28 (j29 * 2)) 0) fun v30 =>
M.int .i64 v30 fun n31 =>
(bif (n31 != x_at) then
M.nn x_d fun a32 =>
M.load h16 (Addr.add a32 1) fun v33 =>
M.slc v33 fun a34 l35 c36 =>
M.idx a34 l35 d15.2 fun a37 j38 =>
M.load h16 ((Addr.add a37 (j38 * 2)).add 0) fun v39 =>
M.int .i64 v39 fun n40 =>
M.load h16 ((Addr.add a37 (j38 * 2)).add 1) fun v41 =>
M.str v41 fun s42 =>
M.new h16 (.cells (#[(.int .i64 n40), (.string s42)] : Array Value) 107) fun b43 h44 =>
M.cellsOf h44 (some (⟨b43, 0, none⟩ : Addr)) (1 * 2) fun cs49 =>
M.app h44 107 2 24 [(.int .i64 (0 : Int)), (.string (ByteArray.empty))] d15.1.1 d15.1.2.1 d15.1.2.2 1 cs49 fun a45 l46 c47 h48 =>
J22 (a45, l46, c47) h48
else
J22 (d15.1.1, d15.1.2.1, d15.1.2.2) h16)
else
J13 (d15.1.1, d15.1.2.1, d15.1.2.2) h16)) ((none, 0, 0), (0 : Int)) h12)) fun J2 =>
M.nn x_d fun a3 =>
M.load h (Addr.add a3 2) fun v4 =>
M.bool v4 fun b5 =>
(bif b5 then
J2 true h
else
(bif (decide (x_at < (0 : Int))) then
J2 true h
else
M.nn x_d fun a6 =>
M.load h (Addr.add a6 0) fun v7 =>
M.slc v7 fun a8 l9 c10 =>
(bif (decide (x_at ≥ ((l9 : Nat) : Int))) then
J2 true h
else
J2 (decide ((ByteArray.size x_s : Int) > (2048 : Int))) h)))
def ref09_Tamper.L (F : Option Addr → Int → ByteArray → H → (Bool → H → Prop) → Prop) : List Value → (Value → H → Prop) → H → Prop
  | [.pointer x_d, .int .i64 x_at, .string x_s] => fun Q h => F x_d x_at x_s h fun b65 h66 => Q (.bool b65) h66
  | _ => fun _ _ => False
def ref09_Tamper.W : W := fun args => ref09_Tamper.L ref09_Tamper args.toList
def ref09_Tamper.ann : Ann := ⟨lookN [(1, [(30, .bool)])], lookN [(15, [(7, .slc)]), (489, [(7, .slc)])], lookN [(122, [(7, .slc), (8, .int .i64)])]⟩
def ref09_Tamper.env : Env := envOf []
theorem ref09_Tamper.eq (x_d : Option Addr) (x_at : Int) (x_s : ByteArray) (Q : Value → H → Prop) (h : H) : evF Try.prog ref09_Tamper.env Try.f50 ref09_Tamper.ann [(.pointer x_d), (.int .i64 x_at), (.string x_s)] Q h = ref09_Tamper x_d x_at x_s h fun b65 h66 => Q (.bool b65) h66 := by kernel_rfl
theorem ref09_Tamper.W_eq (x_d : Option Addr) (x_at : Int) (x_s : ByteArray) (Q : Value → H → Prop) (h : H) : ref09_Tamper.W #[(.pointer x_d), (.int .i64 x_at), (.string x_s)] Q h = ref09_Tamper x_d x_at x_s h fun b65 h66 => Q (.bool b65) h66 := by kernel_rfl
theorem ref09_Tamper.good : FnGood Try.prog 50 ref09_Tamper.W := by
  refine FnGood.of (ann := ref09_Tamper.ann) (env := ref09_Tamper.env) mixed EnvGood.nil Try.func50 Try.call50 fun args => ?_
  show ref09_Tamper.L ref09_Tamper args.toList = _ ∨ ∀ Q m, evF Try.prog ref09_Tamper.env Try.f50 ref09_Tamper.ann args.toList Q m = ref09_Tamper.L ref09_Tamper args.toList Q m
  generalize args.toList = l
  unfold ref09_Tamper.L
  split
  · exact .inr fun Q m => ref09_Tamper.eq _ _ _ Q m
  · exact .inl rfl

def ref09_Restore (x_d : Option Addr) (x_image : Option Addr) (x_imageL : Nat) (x_imageC : Nat) (h : H) (Q : H → Prop) : Prop :=
M.nn x_d fun a1 =>
M.load h (Addr.add a1 2) fun v2 =>
M.bool v2 fun b3 =>
(bif b3 then
Q  h
else
M.join (α := Unit) (fun d44 h45 =>
M.nn x_d fun a46 =>
M.put h45 (Addr.add a46 1) (.slice none 0 0) fun h47 =>
Q  h47) fun J4 =>
M.loop (α := Int) (fun J5 d6 h7 =>
M.nn x_d fun a8 =>
M.load h7 (Addr.add a8 0) fun v9 =>
M.slc v9 fun a10 l11 c12 =>
(bif (decide (d6 < ((l11 : Nat) : Int))) then
M.join (α := Unit) (fun d41 h42 =>
M.val (IntKind.wrap .i64 (d6 + (1 : Int))) fun z43 =>
J5 z43 h42) fun J13 =>
M.nn x_d fun a14 =>
M.load h7 (Addr.add a14 0) fun v15 =>
M.slc v15 fun a16 l17 c18 =>
M.idx a16 l17 d6 fun a19 j20 =>
M.put h7 (Addr.add a19 (j20 * 1)) (.string (ByteArray.empty)) fun h21 =>
M.join (α := Bool) (fun d27 h28 =>
(bif d27 then
M.nn x_d fun a29 =>
M.load h28 (Addr.add a29 0) fun v30 =>
M.slc v30 fun a31 l32 c33 =>
M.idx x_image x_imageL d6 fun a34 j35 =>
M.load h28 (Addr.add a34 (j35 * 1)) fun v36 =>
M.str v36 fun s37 =>
M.idx a31 l32 d6 fun a38 j39 =>
M.put h28 (Addr.add a38 (j39 * 1)) (.string s37) fun h40 =>
J13 () h40
else
J13 () h28)) fun J22 =>
(bif (decide (d6 < ((x_imageL : Nat) : Int))) then
M.idx x_image x_imageL d6 fun a23 j24 =>
M.load h21 (Addr.add a23 (j24 * 1)) fun v25 =>
M.str v25 fun s26 =>
J22 (decide ((ByteArray.size s26 : Int) ≤ (2048 : Int))) h21
else
J22 false h21)
else
J4 () h7)) (0 : Int) h)
def ref09_Restore.L (F : Option Addr → Option Addr → Nat → Nat → H → (H → Prop) → Prop) : List Value → (Value → H → Prop) → H → Prop
  | [.pointer x_d, .slice x_image x_imageL x_imageC] => fun Q h => F x_d x_image x_imageL x_imageC h fun h48 => Q (.tuple #[]) h48
  | _ => fun _ _ => False
def ref09_Restore.W : W := fun args => ref09_Restore.L ref09_Restore args.toList
def ref09_Restore.ann : Ann := ⟨lookN [(5, [(35, .bool)])], lookN [(3, []), (105, [])], lookN [(26, [(4, .int .i64)])]⟩
def ref09_Restore.env : Env := envOf []
theorem ref09_Restore.eq (x_d : Option Addr) (x_image : Option Addr) (x_imageL : Nat) (x_imageC : Nat) (Q : Value → H → Prop) (h : H) : evF Try.prog ref09_Restore.env Try.f51 ref09_Restore.ann [(.pointer x_d), (.slice x_image x_imageL x_imageC)] Q h = ref09_Restore x_d x_image x_imageL x_imageC h fun h48 => Q (.tuple #[]) h48 := by kernel_rfl
theorem ref09_Restore.W_eq (x_d : Option Addr) (x_image : Option Addr) (x_imageL : Nat) (x_imageC : Nat) (Q : Value → H → Prop) (h : H) : ref09_Restore.W #[(.pointer x_d), (.slice x_image x_imageL x_imageC)] Q h = ref09_Restore x_d x_image x_imageL x_imageC h fun h48 => Q (.tuple #[]) h48 := by kernel_rfl
theorem ref09_Restore.good : FnGood Try.prog 51 ref09_Restore.W := by
  refine FnGood.of (ann := ref09_Restore.ann) (env := ref09_Restore.env) mixed EnvGood.nil Try.func51 Try.call51 fun args => ?_
  show ref09_Restore.L ref09_Restore args.toList = _ ∨ ∀ Q m, evF Try.prog ref09_Restore.env Try.f51 ref09_Restore.ann args.toList Q m = ref09_Restore.L ref09_Restore args.toList Q m
  generalize args.toList = l
  unfold ref09_Restore.L
  split
  · exact .inr fun Q m => ref09_Restore.eq _ _ _ _ Q m
  · exact .inl rfl

def ref09_Fail (x_d : Option Addr) (h : H) (Q : H → Prop) : Prop :=
M.nn x_d fun a1 =>
M.put h (Addr.add a1 2) (.bool true) fun h2 =>
M.nn x_d fun a3 =>
M.put h2 (Addr.add a3 1) (.slice none 0 0) fun h4 =>
Q  h4
def ref09_Fail.L (F : Option Addr → H → (H → Prop) → Prop) : List Value → (Value → H → Prop) → H → Prop
  | [.pointer x_d] => fun Q h => F x_d h fun h5 => Q (.tuple #[]) h5
  | _ => fun _ _ => False
def ref09_Fail.W : W := fun args => ref09_Fail.L ref09_Fail args.toList
def ref09_Fail.ann : Ann := ⟨lookN [], lookN [], lookN []⟩
def ref09_Fail.env : Env := envOf []
theorem ref09_Fail.eq (x_d : Option Addr) (Q : Value → H → Prop) (h : H) : evF Try.prog ref09_Fail.env Try.f52 ref09_Fail.ann [(.pointer x_d)] Q h = ref09_Fail x_d h fun h5 => Q (.tuple #[]) h5 := by kernel_rfl
theorem ref09_Fail.W_eq (x_d : Option Addr) (Q : Value → H → Prop) (h : H) : ref09_Fail.W #[(.pointer x_d)] Q h = ref09_Fail x_d h fun h5 => Q (.tuple #[]) h5 := by kernel_rfl
theorem ref09_Fail.good : FnGood Try.prog 52 ref09_Fail.W := by
  refine FnGood.of (ann := ref09_Fail.ann) (env := ref09_Fail.env) mixed EnvGood.nil Try.func52 Try.call52 fun args => ?_
  show ref09_Fail.L ref09_Fail args.toList = _ ∨ ∀ Q m, evF Try.prog ref09_Fail.env Try.f52 ref09_Fail.ann args.toList Q m = ref09_Fail.L ref09_Fail args.toList Q m
  generalize args.toList = l
  unfold ref09_Fail.L
  split
  · exact .inr fun Q m => ref09_Fail.eq _ Q m
  · exact .inl rfl

def ref09_Put (x_d : Option Addr) (x_at : Int) (x_s : ByteArray) (h : H) (Q : Int → H → Prop) : Prop :=
M.nn x_d fun a2 =>
M.load h (Addr.add a2 2) fun v3 =>
M.bool v3 fun b4 =>
(bif b4 then
Q (20 : Int) h
else
M.join (α := Bool) (fun d11 h12 =>
(bif d11 then
Q (2 : Int) h12
else
(bif (decide ((ByteArray.size x_s : Int) > (2048 : Int))) then
Q (5 : Int) h12
else
M.nn x_d fun a13 =>
M.load h12 (Addr.add a13 1) fun v14 =>
M.slc v14 fun a15 l16 c17 =>
M.new h12 (.cells (#[(.int .i64 x_at), (.string x_s)] : Array Value) 107) fun b18 h19 =>
M.cellsOf h19 (some (⟨b18, 0, none⟩ : Addr)) (1 * 2) fun cs24 =>
M.app h19 107 2 24 [(.int .i64 (0 : Int)), (.string (ByteArray.empty))] a15 l16 c17 1 cs24 fun a20 l21 c22 h23 =>
M.nn x_d fun a25 =>
M.put h23 (Addr.add a25 1) (.slice a20 l21 c22) fun h26 =>
Q (0 : Int) h26))) fun J5 =>
(bif (decide (x_at < (0 : Int))) then
J5 true h
else
M.nn x_d fun a6 =>
M.load h (Addr.add a6 0) fun v7 =>
M.slc v7 fun a8 l9 c10 =>
J5 (decide (x_at ≥ ((l9 : Nat) : Int))) h))
def ref09_Put.L (F : Option Addr → Int → ByteArray → H → (Int → H → Prop) → Prop) : List Value → (Value → H → Prop) → H → Prop
  | [.pointer x_d, .int .i64 x_at, .string x_s] => fun Q h => F x_d x_at x_s h fun n27 h28 => Q (.int .i64 n27) h28
  | _ => fun _ _ => False
def ref09_Put.W : W := fun args => ref09_Put.L ref09_Put args.toList
def ref09_Put.ann : Ann := ⟨lookN [(3, [(21, .bool)])], lookN [], lookN []⟩
def ref09_Put.env : Env := envOf []
theorem ref09_Put.eq (x_d : Option Addr) (x_at : Int) (x_s : ByteArray) (Q : Value → H → Prop) (h : H) : evF Try.prog ref09_Put.env Try.f53 ref09_Put.ann [(.pointer x_d), (.int .i64 x_at), (.string x_s)] Q h = ref09_Put x_d x_at x_s h fun n27 h28 => Q (.int .i64 n27) h28 := by kernel_rfl
theorem ref09_Put.W_eq (x_d : Option Addr) (x_at : Int) (x_s : ByteArray) (Q : Value → H → Prop) (h : H) : ref09_Put.W #[(.pointer x_d), (.int .i64 x_at), (.string x_s)] Q h = ref09_Put x_d x_at x_s h fun n27 h28 => Q (.int .i64 n27) h28 := by kernel_rfl
theorem ref09_Put.good : FnGood Try.prog 53 ref09_Put.W := by
  refine FnGood.of (ann := ref09_Put.ann) (env := ref09_Put.env) mixed EnvGood.nil Try.func53 Try.call53 fun args => ?_
  show ref09_Put.L ref09_Put args.toList = _ ∨ ∀ Q m, evF Try.prog ref09_Put.env Try.f53 ref09_Put.ann args.toList Q m = ref09_Put.L ref09_Put args.toList Q m
  generalize args.toList = l
  unfold ref09_Put.L
  split
  · exact .inr fun Q m => ref09_Put.eq _ _ _ Q m
  · exact .inl rfl

def disk_Disk_Tamper_1 (x_w_0 : Int) (x_w_1 : ByteArray) (a1 : Addr) (h : H) (Q : Bool → H → Prop) : Prop :=
M.new h (.cells (#[(.int .i64 x_w_0), (.string x_w_1)] : Array Value) 86) fun b3 h4 =>
M.load h4 (Addr.add (⟨b3, 0, none⟩ : Addr) 0) fun v5 =>
M.int .i64 v5 fun n6 =>
M.load h4 a1 fun v7 =>
M.int .i64 v7 fun n8 =>
Q (n6 == n8) h4
def disk_Disk_Tamper_1.L (F : Int → ByteArray → Addr → H → (Bool → H → Prop) → Prop) : List Value → (Value → H → Prop) → H → Prop
  | [.agg ⟨[.int .i64 x_w_0, .string x_w_1]⟩, .pointer (some a1)] => fun Q h => F x_w_0 x_w_1 a1 h fun b9 h10 => Q (.bool b9) h10
  | _ => fun _ _ => False
def disk_Disk_Tamper_1.W : W := fun args => disk_Disk_Tamper_1.L disk_Disk_Tamper_1 args.toList
def disk_Disk_Tamper_1.ann : Ann := ⟨lookN [], lookN [], lookN []⟩
def disk_Disk_Tamper_1.env : Env := envOf []
theorem disk_Disk_Tamper_1.eq (x_w_0 : Int) (x_w_1 : ByteArray) (a1 : Addr) (Q : Value → H → Prop) (h : H) : evF Try.prog disk_Disk_Tamper_1.env Try.f55 disk_Disk_Tamper_1.ann [(.agg (#[(.int .i64 x_w_0), (.string x_w_1)] : Array Value)), (.pointer (some a1))] Q h = disk_Disk_Tamper_1 x_w_0 x_w_1 a1 h fun b9 h10 => Q (.bool b9) h10 := by kernel_rfl
theorem disk_Disk_Tamper_1.W_eq (x_w_0 : Int) (x_w_1 : ByteArray) (a1 : Addr) (Q : Value → H → Prop) (h : H) : disk_Disk_Tamper_1.W #[(.agg (#[(.int .i64 x_w_0), (.string x_w_1)] : Array Value)), (.pointer (some a1))] Q h = disk_Disk_Tamper_1 x_w_0 x_w_1 a1 h fun b9 h10 => Q (.bool b9) h10 := by kernel_rfl
theorem disk_Disk_Tamper_1.good : FnGood Try.prog 55 disk_Disk_Tamper_1.W := by
  refine FnGood.of (ann := disk_Disk_Tamper_1.ann) (env := disk_Disk_Tamper_1.env) mixed EnvGood.nil Try.func55 Try.call55 fun args => ?_
  show disk_Disk_Tamper_1.L disk_Disk_Tamper_1 args.toList = _ ∨ ∀ Q m, evF Try.prog disk_Disk_Tamper_1.env Try.f55 disk_Disk_Tamper_1.ann args.toList Q m = disk_Disk_Tamper_1.L disk_Disk_Tamper_1 args.toList Q m
  generalize args.toList = l
  unfold disk_Disk_Tamper_1.L
  split
  · exact .inr fun Q m => disk_Disk_Tamper_1.eq _ _ _ Q m
  · exact .inl rfl

def bank_Bank_there.g (bank_Bank_Disk' : Option Addr → Int → H → (Option Addr → H → Prop) → Prop) (x_b : Option Addr) (x_i : Int) (h : H) (Q : Int → H → Prop) : Prop :=
(bif (Option.isNone x_b) then
Q (1 : Int) h
else
bank_Bank_Disk' x_b x_i h fun p2 h3 =>
(bif (Option.isNone p2) then
Q (11 : Int) h3
else
Q (0 : Int) h3))
def bank_Bank_there (x_b : Option Addr) (x_i : Int) (h : H) (Q : Int → H → Prop) : Prop := bank_Bank_there.g bank_Bank_Disk x_b x_i h Q
def bank_Bank_there.L (F : Option Addr → Int → H → (Int → H → Prop) → Prop) : List Value → (Value → H → Prop) → H → Prop
  | [.pointer x_b, .int .i64 x_i] => fun Q h => F x_b x_i h fun n4 h5 => Q (.int .i64 n4) h5
  | _ => fun _ _ => False
def bank_Bank_there.W : W := fun args => bank_Bank_there.L bank_Bank_there args.toList
def bank_Bank_there.ann : Ann := ⟨lookN [], lookN [], lookN []⟩
def bank_Bank_there.env : Env := envOf [(41, fun args => bank_Bank_Disk.L bank_Bank_Disk args.toList)]
theorem bank_Bank_there.geq (bank_Bank_Disk' : Option Addr → Int → H → (Option Addr → H → Prop) → Prop) (x_b : Option Addr) (x_i : Int) (Q : Value → H → Prop) (h : H) : evF Try.prog (envOf [(41, fun args => bank_Bank_Disk.L bank_Bank_Disk' args.toList)]) Try.f56 bank_Bank_there.ann [(.pointer x_b), (.int .i64 x_i)] Q h = bank_Bank_there.g bank_Bank_Disk' x_b x_i h fun n4 h5 => Q (.int .i64 n4) h5 := by kernel_rfl
theorem bank_Bank_there.eq (x_b : Option Addr) (x_i : Int) (Q : Value → H → Prop) (h : H) : evF Try.prog bank_Bank_there.env Try.f56 bank_Bank_there.ann [(.pointer x_b), (.int .i64 x_i)] Q h = bank_Bank_there x_b x_i h fun n4 h5 => Q (.int .i64 n4) h5 := bank_Bank_there.geq bank_Bank_Disk x_b x_i Q h
theorem bank_Bank_there.W_eq (x_b : Option Addr) (x_i : Int) (Q : Value → H → Prop) (h : H) : bank_Bank_there.W #[(.pointer x_b), (.int .i64 x_i)] Q h = bank_Bank_there x_b x_i h fun n4 h5 => Q (.int .i64 n4) h5 := by kernel_rfl
theorem bank_Bank_there.good : FnGood Try.prog 56 bank_Bank_there.W := by
  refine FnGood.of (ann := bank_Bank_there.ann) (env := bank_Bank_there.env) mixed (EnvGood.cons bank_Bank_Disk.good EnvGood.nil) Try.func56 Try.call56 fun args => ?_
  show bank_Bank_there.L bank_Bank_there args.toList = _ ∨ ∀ Q m, evF Try.prog bank_Bank_there.env Try.f56 bank_Bank_there.ann args.toList Q m = bank_Bank_there.L bank_Bank_there args.toList Q m
  generalize args.toList = l
  unfold bank_Bank_there.L
  split
  · exact .inr fun Q m => bank_Bank_there.eq _ _ Q m
  · exact .inl rfl

def ref10_Read.g (ref09_Read' : Option Addr → Int → H → (ByteArray → Int → H → Prop) → Prop) (x_b : Option Addr) (x_i : Int) (x_at : Int) (h : H) (Q : ByteArray → Int → H → Prop) : Prop :=
M.join (α := Bool) (fun d9 h10 =>
(bif d9 then
Q (ByteArray.empty) (11 : Int) h10
else
M.nn x_b fun a11 =>
M.load h10 (Addr.add a11 2) fun v12 =>
M.int .i64 v12 fun n13 =>
(bif (n13 == (0 : Int)) then
Q (ByteArray.empty) (21 : Int) h10
else
M.nn x_b fun a14 =>
M.load h10 (Addr.add a14 0) fun v15 =>
M.slc v15 fun a16 l17 c18 =>
M.idx a16 l17 x_i fun a19 j20 =>
M.load h10 (Addr.add a19 (j20 * 1)) fun v21 =>
M.ptr v21 fun p22 =>
ref09_Read' p22 x_at h10 fun s23 n24 h25 =>
Q s23 n24 h25))) fun J3 =>
(bif (decide (x_i < (0 : Int))) then
J3 true h
else
M.nn x_b fun a4 =>
M.load h (Addr.add a4 0) fun v5 =>
M.slc v5 fun a6 l7 c8 =>
J3 (decide (x_i ≥ ((l7 : Nat) : Int))) h)
def ref10_Read (x_b : Option Addr) (x_i : Int) (x_at : Int) (h : H) (Q : ByteArray → Int → H → Prop) : Prop := ref10_Read.g ref09_Read x_b x_i x_at h Q
def ref10_Read.L (F : Option Addr → Int → Int → H → (ByteArray → Int → H → Prop) → Prop) : List Value → (Value → H → Prop) → H → Prop
  | [.pointer x_b, .int .i64 x_i, .int .i64 x_at] => fun Q h => F x_b x_i x_at h fun s26 n27 h28 => Q (.tuple #[(.string s26), (.int .i64 n27)]) h28
  | _ => fun _ _ => False
def ref10_Read.W : W := fun args => ref10_Read.L ref10_Read args.toList
def ref10_Read.ann : Ann := ⟨lookN [(1, [(18, .bool)])], lookN [], lookN []⟩
def ref10_Read.env : Env := envOf [(47, fun args => ref09_Read.L ref09_Read args.toList)]
theorem ref10_Read.geq (ref09_Read' : Option Addr → Int → H → (ByteArray → Int → H → Prop) → Prop) (x_b : Option Addr) (x_i : Int) (x_at : Int) (Q : Value → H → Prop) (h : H) : evF Try.prog (envOf [(47, fun args => ref09_Read.L ref09_Read' args.toList)]) Try.f57 ref10_Read.ann [(.pointer x_b), (.int .i64 x_i), (.int .i64 x_at)] Q h = ref10_Read.g ref09_Read' x_b x_i x_at h fun s26 n27 h28 => Q (.tuple #[(.string s26), (.int .i64 n27)]) h28 := by kernel_rfl
theorem ref10_Read.eq (x_b : Option Addr) (x_i : Int) (x_at : Int) (Q : Value → H → Prop) (h : H) : evF Try.prog ref10_Read.env Try.f57 ref10_Read.ann [(.pointer x_b), (.int .i64 x_i), (.int .i64 x_at)] Q h = ref10_Read x_b x_i x_at h fun s26 n27 h28 => Q (.tuple #[(.string s26), (.int .i64 n27)]) h28 := ref10_Read.geq ref09_Read x_b x_i x_at Q h
theorem ref10_Read.W_eq (x_b : Option Addr) (x_i : Int) (x_at : Int) (Q : Value → H → Prop) (h : H) : ref10_Read.W #[(.pointer x_b), (.int .i64 x_i), (.int .i64 x_at)] Q h = ref10_Read x_b x_i x_at h fun s26 n27 h28 => Q (.tuple #[(.string s26), (.int .i64 n27)]) h28 := by kernel_rfl
theorem ref10_Read.good : FnGood Try.prog 57 ref10_Read.W := by
  refine FnGood.of (ann := ref10_Read.ann) (env := ref10_Read.env) mixed (EnvGood.cons ref09_Read.good EnvGood.nil) Try.func57 Try.call57 fun args => ?_
  show ref10_Read.L ref10_Read args.toList = _ ∨ ∀ Q m, evF Try.prog ref10_Read.env Try.f57 ref10_Read.ann args.toList Q m = ref10_Read.L ref10_Read args.toList Q m
  generalize args.toList = l
  unfold ref10_Read.L
  split
  · exact .inr fun Q m => ref10_Read.eq _ _ _ Q m
  · exact .inl rfl

def ref10_Spend (x_b : Option Addr) (h : H) (Q : Int → H → Prop) : Prop :=
M.nn x_b fun a2 =>
M.load h (Addr.add a2 2) fun v3 =>
M.int .i64 v3 fun n4 =>
(bif (n4 == (0 : Int)) then
Q (21 : Int) h
else
M.join (α := Unit) (fun d15 h16 =>
M.nn x_b fun a17 =>
M.load h16 (Addr.add a17 1) fun v18 =>
M.int .i64 v18 fun n19 =>
M.val (IntKind.wrap .i64 (n19 + (1 : Int))) fun z20 =>
M.nn x_b fun a21 =>
M.put h16 (Addr.add a21 1) (.int .i64 z20) fun h22 =>
Q (0 : Int) h22) fun J5 =>
M.nn x_b fun a6 =>
M.load h (Addr.add a6 2) fun v7 =>
M.int .i64 v7 fun n8 =>
(bif (decide (n8 > (0 : Int))) then
M.nn x_b fun a9 =>
M.load h (Addr.add a9 2) fun v10 =>
M.int .i64 v10 fun n11 =>
M.val (IntKind.wrap .i64 (n11 - (1 : Int))) fun z12 =>
M.nn x_b fun a13 =>
M.put h (Addr.add a13 2) (.int .i64 z12) fun h14 =>
J5 () h14
else
J5 () h))
def ref10_Spend.L (F : Option Addr → H → (Int → H → Prop) → Prop) : List Value → (Value → H → Prop) → H → Prop
  | [.pointer x_b] => fun Q h => F x_b h fun n23 h24 => Q (.int .i64 n23) h24
  | _ => fun _ _ => False
def ref10_Spend.W : W := fun args => ref10_Spend.L ref10_Spend args.toList
def ref10_Spend.ann : Ann := ⟨lookN [], lookN [(7, [])], lookN []⟩
def ref10_Spend.env : Env := envOf []
theorem ref10_Spend.eq (x_b : Option Addr) (Q : Value → H → Prop) (h : H) : evF Try.prog ref10_Spend.env Try.f59 ref10_Spend.ann [(.pointer x_b)] Q h = ref10_Spend x_b h fun n23 h24 => Q (.int .i64 n23) h24 := by kernel_rfl
theorem ref10_Spend.W_eq (x_b : Option Addr) (Q : Value → H → Prop) (h : H) : ref10_Spend.W #[(.pointer x_b)] Q h = ref10_Spend x_b h fun n23 h24 => Q (.int .i64 n23) h24 := by kernel_rfl
theorem ref10_Spend.good : FnGood Try.prog 59 ref10_Spend.W := by
  refine FnGood.of (ann := ref10_Spend.ann) (env := ref10_Spend.env) mixed EnvGood.nil Try.func59 Try.call59 fun args => ?_
  show ref10_Spend.L ref10_Spend args.toList = _ ∨ ∀ Q m, evF Try.prog ref10_Spend.env Try.f59 ref10_Spend.ann args.toList Q m = ref10_Spend.L ref10_Spend args.toList Q m
  generalize args.toList = l
  unfold ref10_Spend.L
  split
  · exact .inr fun Q m => ref10_Spend.eq _ Q m
  · exact .inl rfl

def ref10_Cut (x_b : Option Addr) (x_steps : Int) (h : H) (Q : H → Prop) : Prop :=
M.join (α := Int) (fun d2 h3 =>
M.nn x_b fun a4 =>
M.put h3 (Addr.add a4 2) (.int .i64 d2) fun h5 =>
Q  h5) fun J1 =>
(bif (decide (x_steps < (0 : Int))) then
J1 (0 : Int) h
else
J1 x_steps h)
def ref10_Cut.L (F : Option Addr → Int → H → (H → Prop) → Prop) : List Value → (Value → H → Prop) → H → Prop
  | [.pointer x_b, .int .i64 x_steps] => fun Q h => F x_b x_steps h fun h6 => Q (.tuple #[]) h6
  | _ => fun _ _ => False
def ref10_Cut.W : W := fun args => ref10_Cut.L ref10_Cut args.toList
def ref10_Cut.ann : Ann := ⟨lookN [], lookN [(1, [(1, .int .i64)])], lookN []⟩
def ref10_Cut.env : Env := envOf []
theorem ref10_Cut.eq (x_b : Option Addr) (x_steps : Int) (Q : Value → H → Prop) (h : H) : evF Try.prog ref10_Cut.env Try.f60 ref10_Cut.ann [(.pointer x_b), (.int .i64 x_steps)] Q h = ref10_Cut x_b x_steps h fun h6 => Q (.tuple #[]) h6 := by kernel_rfl
theorem ref10_Cut.W_eq (x_b : Option Addr) (x_steps : Int) (Q : Value → H → Prop) (h : H) : ref10_Cut.W #[(.pointer x_b), (.int .i64 x_steps)] Q h = ref10_Cut x_b x_steps h fun h6 => Q (.tuple #[]) h6 := by kernel_rfl
theorem ref10_Cut.good : FnGood Try.prog 60 ref10_Cut.W := by
  refine FnGood.of (ann := ref10_Cut.ann) (env := ref10_Cut.env) mixed EnvGood.nil Try.func60 Try.call60 fun args => ?_
  show ref10_Cut.L ref10_Cut args.toList = _ ∨ ∀ Q m, evF Try.prog ref10_Cut.env Try.f60 ref10_Cut.ann args.toList Q m = ref10_Cut.L ref10_Cut args.toList Q m
  generalize args.toList = l
  unfold ref10_Cut.L
  split
  · exact .inr fun Q m => ref10_Cut.eq _ _ Q m
  · exact .inl rfl

def ref10_Crash.g (ref09_Crash' : Option Addr → Option Addr → Nat → Nat → H → (H → Prop) → Prop) (x_b : Option Addr) (x_kept : Option Addr) (x_keptL : Nat) (x_keptC : Nat) (h : H) (Q : H → Prop) : Prop :=
M.join (α := Unit) (fun d30 h31 =>
M.nn x_b fun a32 =>
M.put h31 (Addr.add a32 2) (.int .i64 (-1 : Int)) fun h33 =>
Q  h33) fun J1 =>
M.loop (α := Int) (fun J2 d3 h4 =>
M.nn x_b fun a5 =>
M.load h4 (Addr.add a5 0) fun v6 =>
M.slc v6 fun a7 l8 c9 =>
(bif (decide (d3 < ((l8 : Nat) : Int))) then
M.join (α := (Option Addr × Nat × Nat)) (fun d17 h18 =>
M.nn x_b fun a19 =>
M.load h18 (Addr.add a19 0) fun v20 =>
M.slc v20 fun a21 l22 c23 =>
M.idx a21 l22 d3 fun a24 j25 =>
M.load h18 (Addr.add a24 (j25 * 1)) fun v26 =>
M.ptr v26 fun p27 =>
ref09_Crash' p27 d17.1 d17.2.1 d17.2.2 h18 fun h28 =>
M.val (IntKind.wrap .i64 (d3 + (1 : Int))) fun z29 =>
J2 z29 h28) fun J10 =>
(bif (decide (d3 < ((x_keptL : Nat) : Int))) then
M.idx x_kept x_keptL d3 fun a11 j12 =>
M.load h4 (Addr.add a11 (j12 * 1)) fun v13 =>
M.slc v13 fun a14 l15 c16 =>
J10 (a14, l15, c16) h4
else
J10 (none, 0, 0) h4)
else
J1 () h4)) (0 : Int) h
def ref10_Crash (x_b : Option Addr) (x_kept : Option Addr) (x_keptL : Nat) (x_keptC : Nat) (h : H) (Q : H → Prop) : Prop := ref10_Crash.g ref09_Crash x_b x_kept x_keptL x_keptC h Q
def ref10_Crash.L (F : Option Addr → Option Addr → Nat → Nat → H → (H → Prop) → Prop) : List Value → (Value → H → Prop) → H → Prop
  | [.pointer x_b, .slice x_kept x_keptL x_keptC] => fun Q h => F x_b x_kept x_keptL x_keptC h fun h34 => Q (.tuple #[]) h34
  | _ => fun _ _ => False
def ref10_Crash.W : W := fun args => ref10_Crash.L ref10_Crash args.toList
def ref10_Crash.ann : Ann := ⟨lookN [], lookN [(1, []), (329, [(5, .slc)])], lookN [(10, [(4, .int .i64)])]⟩
def ref10_Crash.env : Env := envOf [(49, fun args => ref09_Crash.L ref09_Crash args.toList)]
theorem ref10_Crash.geq (ref09_Crash' : Option Addr → Option Addr → Nat → Nat → H → (H → Prop) → Prop) (x_b : Option Addr) (x_kept : Option Addr) (x_keptL : Nat) (x_keptC : Nat) (Q : Value → H → Prop) (h : H) : evF Try.prog (envOf [(49, fun args => ref09_Crash.L ref09_Crash' args.toList)]) Try.f61 ref10_Crash.ann [(.pointer x_b), (.slice x_kept x_keptL x_keptC)] Q h = ref10_Crash.g ref09_Crash' x_b x_kept x_keptL x_keptC h fun h34 => Q (.tuple #[]) h34 := by kernel_rfl
theorem ref10_Crash.eq (x_b : Option Addr) (x_kept : Option Addr) (x_keptL : Nat) (x_keptC : Nat) (Q : Value → H → Prop) (h : H) : evF Try.prog ref10_Crash.env Try.f61 ref10_Crash.ann [(.pointer x_b), (.slice x_kept x_keptL x_keptC)] Q h = ref10_Crash x_b x_kept x_keptL x_keptC h fun h34 => Q (.tuple #[]) h34 := ref10_Crash.geq ref09_Crash x_b x_kept x_keptL x_keptC Q h
theorem ref10_Crash.W_eq (x_b : Option Addr) (x_kept : Option Addr) (x_keptL : Nat) (x_keptC : Nat) (Q : Value → H → Prop) (h : H) : ref10_Crash.W #[(.pointer x_b), (.slice x_kept x_keptL x_keptC)] Q h = ref10_Crash x_b x_kept x_keptL x_keptC h fun h34 => Q (.tuple #[]) h34 := by kernel_rfl
theorem ref10_Crash.good : FnGood Try.prog 61 ref10_Crash.W := by
  refine FnGood.of (ann := ref10_Crash.ann) (env := ref10_Crash.env) mixed (EnvGood.cons ref09_Crash.good EnvGood.nil) Try.func61 Try.call61 fun args => ?_
  show ref10_Crash.L ref10_Crash args.toList = _ ∨ ∀ Q m, evF Try.prog ref10_Crash.env Try.f61 ref10_Crash.ann args.toList Q m = ref10_Crash.L ref10_Crash args.toList Q m
  generalize args.toList = l
  unfold ref10_Crash.L
  split
  · exact .inr fun Q m => ref10_Crash.eq _ _ _ _ Q m
  · exact .inl rfl

def ref10_Write.g (ref10_Spend' : Option Addr → H → (Int → H → Prop) → Prop) (ref09_Put' : Option Addr → Int → ByteArray → H → (Int → H → Prop) → Prop) (x_b : Option Addr) (x_i : Int) (x_at : Int) (x_s : ByteArray) (h : H) (Q : Int → H → Prop) : Prop :=
M.join (α := Bool) (fun d8 h9 =>
(bif d8 then
Q (11 : Int) h9
else
ref10_Spend' x_b h9 fun n10 h11 =>
(bif (n10 != (0 : Int)) then
Q n10 h11
else
M.nn x_b fun a12 =>
M.load h11 (Addr.add a12 0) fun v13 =>
M.slc v13 fun a14 l15 c16 =>
M.idx a14 l15 x_i fun a17 j18 =>
M.load h11 (Addr.add a17 (j18 * 1)) fun v19 =>
M.ptr v19 fun p20 =>
ref09_Put' p20 x_at x_s h11 fun n21 h22 =>
Q n21 h22))) fun J2 =>
(bif (decide (x_i < (0 : Int))) then
J2 true h
else
M.nn x_b fun a3 =>
M.load h (Addr.add a3 0) fun v4 =>
M.slc v4 fun a5 l6 c7 =>
J2 (decide (x_i ≥ ((l6 : Nat) : Int))) h)
def ref10_Write (x_b : Option Addr) (x_i : Int) (x_at : Int) (x_s : ByteArray) (h : H) (Q : Int → H → Prop) : Prop := ref10_Write.g ref10_Spend ref09_Put x_b x_i x_at x_s h Q
def ref10_Write.L (F : Option Addr → Int → Int → ByteArray → H → (Int → H → Prop) → Prop) : List Value → (Value → H → Prop) → H → Prop
  | [.pointer x_b, .int .i64 x_i, .int .i64 x_at, .string x_s] => fun Q h => F x_b x_i x_at x_s h fun n23 h24 => Q (.int .i64 n23) h24
  | _ => fun _ _ => False
def ref10_Write.W : W := fun args => ref10_Write.L ref10_Write args.toList
def ref10_Write.ann : Ann := ⟨lookN [(1, [(20, .bool)])], lookN [], lookN []⟩
def ref10_Write.env : Env := envOf [(59, fun args => ref10_Spend.L ref10_Spend args.toList), (53, fun args => ref09_Put.L ref09_Put args.toList)]
theorem ref10_Write.geq (ref10_Spend' : Option Addr → H → (Int → H → Prop) → Prop) (ref09_Put' : Option Addr → Int → ByteArray → H → (Int → H → Prop) → Prop) (x_b : Option Addr) (x_i : Int) (x_at : Int) (x_s : ByteArray) (Q : Value → H → Prop) (h : H) : evF Try.prog (envOf [(59, fun args => ref10_Spend.L ref10_Spend' args.toList), (53, fun args => ref09_Put.L ref09_Put' args.toList)]) Try.f62 ref10_Write.ann [(.pointer x_b), (.int .i64 x_i), (.int .i64 x_at), (.string x_s)] Q h = ref10_Write.g ref10_Spend' ref09_Put' x_b x_i x_at x_s h fun n23 h24 => Q (.int .i64 n23) h24 := by kernel_rfl
theorem ref10_Write.eq (x_b : Option Addr) (x_i : Int) (x_at : Int) (x_s : ByteArray) (Q : Value → H → Prop) (h : H) : evF Try.prog ref10_Write.env Try.f62 ref10_Write.ann [(.pointer x_b), (.int .i64 x_i), (.int .i64 x_at), (.string x_s)] Q h = ref10_Write x_b x_i x_at x_s h fun n23 h24 => Q (.int .i64 n23) h24 := ref10_Write.geq ref10_Spend ref09_Put x_b x_i x_at x_s Q h
theorem ref10_Write.W_eq (x_b : Option Addr) (x_i : Int) (x_at : Int) (x_s : ByteArray) (Q : Value → H → Prop) (h : H) : ref10_Write.W #[(.pointer x_b), (.int .i64 x_i), (.int .i64 x_at), (.string x_s)] Q h = ref10_Write x_b x_i x_at x_s h fun n23 h24 => Q (.int .i64 n23) h24 := by kernel_rfl
theorem ref10_Write.good : FnGood Try.prog 62 ref10_Write.W := by
  refine FnGood.of (ann := ref10_Write.ann) (env := ref10_Write.env) mixed (EnvGood.cons ref10_Spend.good (EnvGood.cons ref09_Put.good EnvGood.nil)) Try.func62 Try.call62 fun args => ?_
  show ref10_Write.L ref10_Write args.toList = _ ∨ ∀ Q m, evF Try.prog ref10_Write.env Try.f62 ref10_Write.ann args.toList Q m = ref10_Write.L ref10_Write args.toList Q m
  generalize args.toList = l
  unfold ref10_Write.L
  split
  · exact .inr fun Q m => ref10_Write.eq _ _ _ _ Q m
  · exact .inl rfl

def disk_Disk_Write.g (disk_Disk_usable' : Option Addr → Int → H → (Int → H → Prop) → Prop) (x_d : Option Addr) (x_at : Int) (x_s : ByteArray) (h : H) (Q : Int → H → Prop) : Prop :=
disk_Disk_usable' x_d x_at h fun n2 h3 =>
(bif (n2 != (0 : Int)) then
Q n2 h3
else
(bif (decide ((ByteArray.size x_s : Int) > (2048 : Int))) then
Q (5 : Int) h3
else
M.nn x_d fun a4 =>
M.load h3 (Addr.add a4 1) fun v5 =>
M.slc v5 fun a6 l7 c8 =>
M.idx a6 l7 x_at fun a9 j10 =>
M.put h3 (Addr.add a9 (j10 * 1)) (.string x_s) fun h11 =>
M.nn x_d fun a12 =>
M.load h11 (Addr.add a12 2) fun v13 =>
M.slc v13 fun a14 l15 c16 =>
M.new h11 (.cells (#[(.int .i64 x_at), (.string x_s)] : Array Value) 86) fun b17 h18 =>
M.cellsOf h18 (some (⟨b17, 0, none⟩ : Addr)) (1 * 2) fun cs23 =>
M.app h18 86 2 24 [(.int .i64 (0 : Int)), (.string (ByteArray.empty))] a14 l15 c16 1 cs23 fun a19 l20 c21 h22 =>
M.nn x_d fun a24 =>
M.put h22 (Addr.add a24 2) (.slice a19 l20 c21) fun h25 =>
Q (0 : Int) h25))
def disk_Disk_Write (x_d : Option Addr) (x_at : Int) (x_s : ByteArray) (h : H) (Q : Int → H → Prop) : Prop := disk_Disk_Write.g disk_Disk_usable x_d x_at x_s h Q
def disk_Disk_Write.L (F : Option Addr → Int → ByteArray → H → (Int → H → Prop) → Prop) : List Value → (Value → H → Prop) → H → Prop
  | [.pointer x_d, .int .i64 x_at, .string x_s] => fun Q h => F x_d x_at x_s h fun n26 h27 => Q (.int .i64 n26) h27
  | _ => fun _ _ => False
def disk_Disk_Write.W : W := fun args => disk_Disk_Write.L disk_Disk_Write args.toList
def disk_Disk_Write.ann : Ann := ⟨lookN [], lookN [], lookN []⟩
def disk_Disk_Write.env : Env := envOf [(45, fun args => disk_Disk_usable.L disk_Disk_usable args.toList)]
theorem disk_Disk_Write.geq (disk_Disk_usable' : Option Addr → Int → H → (Int → H → Prop) → Prop) (x_d : Option Addr) (x_at : Int) (x_s : ByteArray) (Q : Value → H → Prop) (h : H) : evF Try.prog (envOf [(45, fun args => disk_Disk_usable.L disk_Disk_usable' args.toList)]) Try.f15 disk_Disk_Write.ann [(.pointer x_d), (.int .i64 x_at), (.string x_s)] Q h = disk_Disk_Write.g disk_Disk_usable' x_d x_at x_s h fun n26 h27 => Q (.int .i64 n26) h27 := by kernel_rfl
theorem disk_Disk_Write.eq (x_d : Option Addr) (x_at : Int) (x_s : ByteArray) (Q : Value → H → Prop) (h : H) : evF Try.prog disk_Disk_Write.env Try.f15 disk_Disk_Write.ann [(.pointer x_d), (.int .i64 x_at), (.string x_s)] Q h = disk_Disk_Write x_d x_at x_s h fun n26 h27 => Q (.int .i64 n26) h27 := disk_Disk_Write.geq disk_Disk_usable x_d x_at x_s Q h
theorem disk_Disk_Write.W_eq (x_d : Option Addr) (x_at : Int) (x_s : ByteArray) (Q : Value → H → Prop) (h : H) : disk_Disk_Write.W #[(.pointer x_d), (.int .i64 x_at), (.string x_s)] Q h = disk_Disk_Write x_d x_at x_s h fun n26 h27 => Q (.int .i64 n26) h27 := by kernel_rfl
theorem disk_Disk_Write.good : FnGood Try.prog 15 disk_Disk_Write.W := by
  refine FnGood.of (ann := disk_Disk_Write.ann) (env := disk_Disk_Write.env) mixed (EnvGood.cons disk_Disk_usable.good EnvGood.nil) Try.func15 Try.call15 fun args => ?_
  show disk_Disk_Write.L disk_Disk_Write args.toList = _ ∨ ∀ Q m, evF Try.prog disk_Disk_Write.env Try.f15 disk_Disk_Write.ann args.toList Q m = disk_Disk_Write.L disk_Disk_Write args.toList Q m
  generalize args.toList = l
  unfold disk_Disk_Write.L
  split
  · exact .inr fun Q m => disk_Disk_Write.eq _ _ _ Q m
  · exact .inl rfl

def disk_Disk_Flush.g (disk_Disk_usable' : Option Addr → Int → H → (Int → H → Prop) → Prop) (x_d : Option Addr) (h : H) (Q : Int → H → Prop) : Prop :=
disk_Disk_usable' x_d (0 : Int) h fun n2 h3 =>
(bif (n2 != (0 : Int)) then
Q n2 h3
else
M.nn x_d fun a4 =>
M.load h3 (Addr.add a4 0) fun v5 =>
M.slc v5 fun a6 l7 c8 =>
M.nn x_d fun a9 =>
M.load h3 (Addr.add a9 1) fun v10 =>
M.slc v10 fun a11 l12 c13 =>
M.cellsOf h3 a11 ((min l12 l7) * 1) fun cs15 =>
M.copy h3 a6 cs15 fun h14 =>
M.nn x_d fun a16 =>
M.put h14 (Addr.add a16 2) (.slice none 0 0) fun h17 =>
Q (0 : Int) h17)
def disk_Disk_Flush (x_d : Option Addr) (h : H) (Q : Int → H → Prop) : Prop := disk_Disk_Flush.g disk_Disk_usable x_d h Q
def disk_Disk_Flush.L (F : Option Addr → H → (Int → H → Prop) → Prop) : List Value → (Value → H → Prop) → H → Prop
  | [.pointer x_d] => fun Q h => F x_d h fun n18 h19 => Q (.int .i64 n18) h19
  | _ => fun _ _ => False
def disk_Disk_Flush.W : W := fun args => disk_Disk_Flush.L disk_Disk_Flush args.toList
def disk_Disk_Flush.ann : Ann := ⟨lookN [], lookN [], lookN []⟩
def disk_Disk_Flush.env : Env := envOf [(45, fun args => disk_Disk_usable.L disk_Disk_usable args.toList)]
theorem disk_Disk_Flush.geq (disk_Disk_usable' : Option Addr → Int → H → (Int → H → Prop) → Prop) (x_d : Option Addr) (Q : Value → H → Prop) (h : H) : evF Try.prog (envOf [(45, fun args => disk_Disk_usable.L disk_Disk_usable' args.toList)]) Try.f16 disk_Disk_Flush.ann [(.pointer x_d)] Q h = disk_Disk_Flush.g disk_Disk_usable' x_d h fun n18 h19 => Q (.int .i64 n18) h19 := by kernel_rfl
theorem disk_Disk_Flush.eq (x_d : Option Addr) (Q : Value → H → Prop) (h : H) : evF Try.prog disk_Disk_Flush.env Try.f16 disk_Disk_Flush.ann [(.pointer x_d)] Q h = disk_Disk_Flush x_d h fun n18 h19 => Q (.int .i64 n18) h19 := disk_Disk_Flush.geq disk_Disk_usable x_d Q h
theorem disk_Disk_Flush.W_eq (x_d : Option Addr) (Q : Value → H → Prop) (h : H) : disk_Disk_Flush.W #[(.pointer x_d)] Q h = disk_Disk_Flush x_d h fun n18 h19 => Q (.int .i64 n18) h19 := by kernel_rfl
theorem disk_Disk_Flush.good : FnGood Try.prog 16 disk_Disk_Flush.W := by
  refine FnGood.of (ann := disk_Disk_Flush.ann) (env := disk_Disk_Flush.env) mixed (EnvGood.cons disk_Disk_usable.good EnvGood.nil) Try.func16 Try.call16 fun args => ?_
  show disk_Disk_Flush.L disk_Disk_Flush args.toList = _ ∨ ∀ Q m, evF Try.prog disk_Disk_Flush.env Try.f16 disk_Disk_Flush.ann args.toList Q m = disk_Disk_Flush.L disk_Disk_Flush args.toList Q m
  generalize args.toList = l
  unfold disk_Disk_Flush.L
  split
  · exact .inr fun Q m => disk_Disk_Flush.eq _ Q m
  · exact .inl rfl

def disk_Disk_Crash.g (disk_Disk_usable' : Option Addr → Int → H → (Int → H → Prop) → Prop) (x_d : Option Addr) (x_kept : Option Addr) (x_keptL : Nat) (x_keptC : Nat) (h : H) (Q : H → Prop) : Prop :=
disk_Disk_usable' x_d (0 : Int) h fun n1 h2 =>
(bif (n1 != (0 : Int)) then
Q  h2
else
M.join (α := Unit) (fun d42 h43 =>
M.nn x_d fun a44 =>
M.load h43 (Addr.add a44 1) fun v45 =>
M.slc v45 fun a46 l47 c48 =>
M.nn x_d fun a49 =>
M.load h43 (Addr.add a49 0) fun v50 =>
M.slc v50 fun a51 l52 c53 =>
M.cellsOf h43 a51 ((min l52 l47) * 1) fun cs55 =>
M.copy h43 a46 cs55 fun h54 =>
M.nn x_d fun a56 =>
M.put h54 (Addr.add a56 2) (.slice none 0 0) fun h57 =>
Q  h57) fun J3 =>
M.nn x_d fun a4 =>
M.load h2 (Addr.add a4 2) fun v5 =>
M.slc v5 fun a6 l7 c8 =>
M.loop (α := Int) (fun J9 d10 h11 =>
(bif (decide (d10 < ((l7 : Nat) : Int))) then
M.idx a6 l7 d10 fun a12 j13 =>
M.load h11 ((Addr.add a12 (j13 * 2)).add 0) fun v14 =>
M.int .i64 v14 fun n15 =>
M.load h11 ((Addr.add a12 (j13 * 2)).add 1) fun v16 =>
M.str v16 fun s17 =>
M.new h11 (.cells (#[(.int .i64 (0 : Int)), (.string (ByteArray.empty))] : Array Value) 86) fun b18 h19 =>
M.req (Array.size (#[(.int .i64 n15), (.string s17)] : Array Value) = 2) (M.puts h19 (⟨b18, 0, none⟩ : Addr) [(.int .i64 n15), (.string s17)] fun h20 =>
M.join (α := Bool) (fun d26 h27 =>
(bif d26 then
M.nn x_d fun a28 =>
M.load h27 (Addr.add a28 0) fun v29 =>
M.slc v29 fun a30 l31 c32 =>
M.load h27 (Addr.add (⟨b18, 0, none⟩ : Addr) 0) fun v33 =>
M.int .i64 v33 fun n34 =>
M.load h27 (Addr.add (⟨b18, 0, none⟩ : Addr) 1) fun v35 =>
M.str v35 fun s36 =>
M.idx a30 l31 n34 fun a37 j38 =>
M.put h27 (Addr.add a37 (j38 * 1)) (.string s36) fun h39 =>
M.val (IntKind.wrap .i64 (d10 + (1 : Int))) fun z40 =>
J9 z40 h39
else
M.val (IntKind.wrap .i64 (d10 + (1 : Int))) fun z41 =>
J9 z41 h27)) fun J21 =>
(bif (decide (d10 < ((x_keptL : Nat) : Int))) then
M.idx x_kept x_keptL d10 fun a22 j23 =>
M.load h20 (Addr.add a22 (j23 * 1)) fun v24 =>
M.bool v24 fun b25 =>
J21 b25 h20
else
J21 false h20))
else
J3 () h11)) (0 : Int) h2)
def disk_Disk_Crash (x_d : Option Addr) (x_kept : Option Addr) (x_keptL : Nat) (x_keptC : Nat) (h : H) (Q : H → Prop) : Prop := disk_Disk_Crash.g disk_Disk_usable x_d x_kept x_keptL x_keptC h Q
def disk_Disk_Crash.L (F : Option Addr → Option Addr → Nat → Nat → H → (H → Prop) → Prop) : List Value → (Value → H → Prop) → H → Prop
  | [.pointer x_d, .slice x_kept x_keptL x_keptC] => fun Q h => F x_d x_kept x_keptL x_keptC h fun h58 => Q (.tuple #[]) h58
  | _ => fun _ _ => False
def disk_Disk_Crash.W : W := fun args => disk_Disk_Crash.L disk_Disk_Crash args.toList
def disk_Disk_Crash.ann : Ann := ⟨lookN [(4, [(28, .bool)])], lookN [(3, [])], lookN [(26, [(14, .int .i64)])]⟩
def disk_Disk_Crash.env : Env := envOf [(45, fun args => disk_Disk_usable.L disk_Disk_usable args.toList)]
theorem disk_Disk_Crash.geq (disk_Disk_usable' : Option Addr → Int → H → (Int → H → Prop) → Prop) (x_d : Option Addr) (x_kept : Option Addr) (x_keptL : Nat) (x_keptC : Nat) (Q : Value → H → Prop) (h : H) : evF Try.prog (envOf [(45, fun args => disk_Disk_usable.L disk_Disk_usable' args.toList)]) Try.f18 disk_Disk_Crash.ann [(.pointer x_d), (.slice x_kept x_keptL x_keptC)] Q h = disk_Disk_Crash.g disk_Disk_usable' x_d x_kept x_keptL x_keptC h fun h58 => Q (.tuple #[]) h58 := by kernel_rfl
theorem disk_Disk_Crash.eq (x_d : Option Addr) (x_kept : Option Addr) (x_keptL : Nat) (x_keptC : Nat) (Q : Value → H → Prop) (h : H) : evF Try.prog disk_Disk_Crash.env Try.f18 disk_Disk_Crash.ann [(.pointer x_d), (.slice x_kept x_keptL x_keptC)] Q h = disk_Disk_Crash x_d x_kept x_keptL x_keptC h fun h58 => Q (.tuple #[]) h58 := disk_Disk_Crash.geq disk_Disk_usable x_d x_kept x_keptL x_keptC Q h
theorem disk_Disk_Crash.W_eq (x_d : Option Addr) (x_kept : Option Addr) (x_keptL : Nat) (x_keptC : Nat) (Q : Value → H → Prop) (h : H) : disk_Disk_Crash.W #[(.pointer x_d), (.slice x_kept x_keptL x_keptC)] Q h = disk_Disk_Crash x_d x_kept x_keptL x_keptC h fun h58 => Q (.tuple #[]) h58 := by kernel_rfl
theorem disk_Disk_Crash.good : FnGood Try.prog 18 disk_Disk_Crash.W := by
  refine FnGood.of (ann := disk_Disk_Crash.ann) (env := disk_Disk_Crash.env) mixed (EnvGood.cons disk_Disk_usable.good EnvGood.nil) Try.func18 Try.call18 fun args => ?_
  show disk_Disk_Crash.L disk_Disk_Crash args.toList = _ ∨ ∀ Q m, evF Try.prog disk_Disk_Crash.env Try.f18 disk_Disk_Crash.ann args.toList Q m = disk_Disk_Crash.L disk_Disk_Crash args.toList Q m
  generalize args.toList = l
  unfold disk_Disk_Crash.L
  split
  · exact .inr fun Q m => disk_Disk_Crash.eq _ _ _ _ Q m
  · exact .inl rfl

def disk_Disk_Read.g (disk_Disk_usable' : Option Addr → Int → H → (Int → H → Prop) → Prop) (x_d : Option Addr) (x_at : Int) (h : H) (Q : ByteArray → Int → H → Prop) : Prop :=
disk_Disk_usable' x_d x_at h fun n3 h4 =>
(bif (n3 != (0 : Int)) then
Q (ByteArray.empty) n3 h4
else
M.nn x_d fun a5 =>
M.load h4 (Addr.add a5 1) fun v6 =>
M.slc v6 fun a7 l8 c9 =>
M.idx a7 l8 x_at fun a10 j11 =>
M.load h4 (Addr.add a10 (j11 * 1)) fun v12 =>
M.str v12 fun s13 =>
Q s13 (0 : Int) h4)
def disk_Disk_Read (x_d : Option Addr) (x_at : Int) (h : H) (Q : ByteArray → Int → H → Prop) : Prop := disk_Disk_Read.g disk_Disk_usable x_d x_at h Q
def disk_Disk_Read.L (F : Option Addr → Int → H → (ByteArray → Int → H → Prop) → Prop) : List Value → (Value → H → Prop) → H → Prop
  | [.pointer x_d, .int .i64 x_at] => fun Q h => F x_d x_at h fun s14 n15 h16 => Q (.tuple #[(.string s14), (.int .i64 n15)]) h16
  | _ => fun _ _ => False
def disk_Disk_Read.W : W := fun args => disk_Disk_Read.L disk_Disk_Read args.toList
def disk_Disk_Read.ann : Ann := ⟨lookN [], lookN [], lookN []⟩
def disk_Disk_Read.env : Env := envOf [(45, fun args => disk_Disk_usable.L disk_Disk_usable args.toList)]
theorem disk_Disk_Read.geq (disk_Disk_usable' : Option Addr → Int → H → (Int → H → Prop) → Prop) (x_d : Option Addr) (x_at : Int) (Q : Value → H → Prop) (h : H) : evF Try.prog (envOf [(45, fun args => disk_Disk_usable.L disk_Disk_usable' args.toList)]) Try.f19 disk_Disk_Read.ann [(.pointer x_d), (.int .i64 x_at)] Q h = disk_Disk_Read.g disk_Disk_usable' x_d x_at h fun s14 n15 h16 => Q (.tuple #[(.string s14), (.int .i64 n15)]) h16 := by kernel_rfl
theorem disk_Disk_Read.eq (x_d : Option Addr) (x_at : Int) (Q : Value → H → Prop) (h : H) : evF Try.prog disk_Disk_Read.env Try.f19 disk_Disk_Read.ann [(.pointer x_d), (.int .i64 x_at)] Q h = disk_Disk_Read x_d x_at h fun s14 n15 h16 => Q (.tuple #[(.string s14), (.int .i64 n15)]) h16 := disk_Disk_Read.geq disk_Disk_usable x_d x_at Q h
theorem disk_Disk_Read.W_eq (x_d : Option Addr) (x_at : Int) (Q : Value → H → Prop) (h : H) : disk_Disk_Read.W #[(.pointer x_d), (.int .i64 x_at)] Q h = disk_Disk_Read x_d x_at h fun s14 n15 h16 => Q (.tuple #[(.string s14), (.int .i64 n15)]) h16 := by kernel_rfl
theorem disk_Disk_Read.good : FnGood Try.prog 19 disk_Disk_Read.W := by
  refine FnGood.of (ann := disk_Disk_Read.ann) (env := disk_Disk_Read.env) mixed (EnvGood.cons disk_Disk_usable.good EnvGood.nil) Try.func19 Try.call19 fun args => ?_
  show disk_Disk_Read.L disk_Disk_Read args.toList = _ ∨ ∀ Q m, evF Try.prog disk_Disk_Read.env Try.f19 disk_Disk_Read.ann args.toList Q m = disk_Disk_Read.L disk_Disk_Read args.toList Q m
  generalize args.toList = l
  unfold disk_Disk_Read.L
  split
  · exact .inr fun Q m => disk_Disk_Read.eq _ _ Q m
  · exact .inl rfl

def disk_Disk_Image.g (disk_Disk_usable' : Option Addr → Int → H → (Int → H → Prop) → Prop) (slices_Clonestring_string' : Option Addr → Nat → Nat → H → (Option Addr → Nat → Nat → H → Prop) → Prop) (x_d : Option Addr) (h : H) (Q : Option Addr → Nat → Nat → H → Prop) : Prop :=
disk_Disk_usable' x_d (0 : Int) h fun n4 h5 =>
(bif (n4 != (0 : Int)) then
Q none 0 0 h5
else
M.nn x_d fun a6 =>
M.load h5 (Addr.add a6 1) fun v7 =>
M.slc v7 fun a8 l9 c10 =>
slices_Clonestring_string' a8 l9 c10 h5 fun a11 l12 c13 h14 =>
Q a11 l12 c13 h14)
def disk_Disk_Image (x_d : Option Addr) (h : H) (Q : Option Addr → Nat → Nat → H → Prop) : Prop := disk_Disk_Image.g disk_Disk_usable slices_Clonestring_string x_d h Q
def disk_Disk_Image.L (F : Option Addr → H → (Option Addr → Nat → Nat → H → Prop) → Prop) : List Value → (Value → H → Prop) → H → Prop
  | [.pointer x_d] => fun Q h => F x_d h fun a15 l16 c17 h18 => Q (.slice a15 l16 c17) h18
  | _ => fun _ _ => False
def disk_Disk_Image.W : W := fun args => disk_Disk_Image.L disk_Disk_Image args.toList
def disk_Disk_Image.ann : Ann := ⟨lookN [], lookN [], lookN []⟩
def disk_Disk_Image.env : Env := envOf [(45, fun args => disk_Disk_usable.L disk_Disk_usable args.toList), (46, fun args => slices_Clonestring_string.L slices_Clonestring_string args.toList)]
theorem disk_Disk_Image.geq (disk_Disk_usable' : Option Addr → Int → H → (Int → H → Prop) → Prop) (slices_Clonestring_string' : Option Addr → Nat → Nat → H → (Option Addr → Nat → Nat → H → Prop) → Prop) (x_d : Option Addr) (Q : Value → H → Prop) (h : H) : evF Try.prog (envOf [(45, fun args => disk_Disk_usable.L disk_Disk_usable' args.toList), (46, fun args => slices_Clonestring_string.L slices_Clonestring_string' args.toList)]) Try.f21 disk_Disk_Image.ann [(.pointer x_d)] Q h = disk_Disk_Image.g disk_Disk_usable' slices_Clonestring_string' x_d h fun a15 l16 c17 h18 => Q (.slice a15 l16 c17) h18 := by kernel_rfl
theorem disk_Disk_Image.eq (x_d : Option Addr) (Q : Value → H → Prop) (h : H) : evF Try.prog disk_Disk_Image.env Try.f21 disk_Disk_Image.ann [(.pointer x_d)] Q h = disk_Disk_Image x_d h fun a15 l16 c17 h18 => Q (.slice a15 l16 c17) h18 := disk_Disk_Image.geq disk_Disk_usable slices_Clonestring_string x_d Q h
theorem disk_Disk_Image.W_eq (x_d : Option Addr) (Q : Value → H → Prop) (h : H) : disk_Disk_Image.W #[(.pointer x_d)] Q h = disk_Disk_Image x_d h fun a15 l16 c17 h18 => Q (.slice a15 l16 c17) h18 := by kernel_rfl
theorem disk_Disk_Image.good : FnGood Try.prog 21 disk_Disk_Image.W := by
  refine FnGood.of (ann := disk_Disk_Image.ann) (env := disk_Disk_Image.env) mixed (EnvGood.cons disk_Disk_usable.good (EnvGood.cons slices_Clonestring_string.good EnvGood.nil)) Try.func21 Try.call21 fun args => ?_
  show disk_Disk_Image.L disk_Disk_Image args.toList = _ ∨ ∀ Q m, evF Try.prog disk_Disk_Image.env Try.f21 disk_Disk_Image.ann args.toList Q m = disk_Disk_Image.L disk_Disk_Image args.toList Q m
  generalize args.toList = l
  unfold disk_Disk_Image.L
  split
  · exact .inr fun Q m => disk_Disk_Image.eq _ Q m
  · exact .inl rfl

def ref09_Image.g (ref09_Read' : Option Addr → Int → H → (ByteArray → Int → H → Prop) → Prop) (x_d : Option Addr) (h : H) (Q : Option Addr → Nat → Nat → H → Prop) : Prop :=
M.nn x_d fun a4 =>
M.load h (Addr.add a4 2) fun v5 =>
M.bool v5 fun b6 =>
(bif b6 then
Q none 0 0 h
else
M.loop (α := (Option Addr × Nat × Nat) × Int) (fun J7 d8 h9 =>
M.nn x_d fun a10 =>
M.load h9 (Addr.add a10 0) fun v11 =>
M.slc v11 fun a12 l13 c14 =>
(bif (decide (d8.2 < ((l13 : Nat) : Int))) then
ref09_Read' x_d d8.2 h9 fun s15 n16 h17 =>
M.new h17 (.cells (#[(.string s15)] : Array Value) 9) fun b18 h19 =>
M.cellsOf h19 (some (⟨b18, 0, none⟩ : Addr)) (1 * 1) fun cs24 =>
M.app h19 9 1 16 [(.string (ByteArray.empty))] d8.1.1 d8.1.2.1 d8.1.2.2 1 cs24 fun a20 l21 c22 h23 =>
M.val (IntKind.wrap .i64 (d8.2 + (1 : Int))) fun z25 =>
J7 ((a20, l21, c22), z25) h23
else
Q d8.1.1 d8.1.2.1 d8.1.2.2 h9)) ((none, 0, 0), (0 : Int)) h)
def ref09_Image (x_d : Option Addr) (h : H) (Q : Option Addr → Nat → Nat → H → Prop) : Prop := ref09_Image.g ref09_Read x_d h Q
def ref09_Image.L (F : Option Addr → H → (Option Addr → Nat → Nat → H → Prop) → Prop) : List Value → (Value → H → Prop) → H → Prop
  | [.pointer x_d] => fun Q h => F x_d h fun a26 l27 c28 h29 => Q (.slice a26 l27 c28) h29
  | _ => fun _ _ => False
def ref09_Image.W : W := fun args => ref09_Image.L ref09_Image args.toList
def ref09_Image.ann : Ann := ⟨lookN [], lookN [], lookN [(122, [(3, .slc), (4, .int .i64)])]⟩
def ref09_Image.env : Env := envOf [(47, fun args => ref09_Read.L ref09_Read args.toList)]
theorem ref09_Image.geq (ref09_Read' : Option Addr → Int → H → (ByteArray → Int → H → Prop) → Prop) (x_d : Option Addr) (Q : Value → H → Prop) (h : H) : evF Try.prog (envOf [(47, fun args => ref09_Read.L ref09_Read' args.toList)]) Try.f27 ref09_Image.ann [(.pointer x_d)] Q h = ref09_Image.g ref09_Read' x_d h fun a26 l27 c28 h29 => Q (.slice a26 l27 c28) h29 := by kernel_rfl
theorem ref09_Image.eq (x_d : Option Addr) (Q : Value → H → Prop) (h : H) : evF Try.prog ref09_Image.env Try.f27 ref09_Image.ann [(.pointer x_d)] Q h = ref09_Image x_d h fun a26 l27 c28 h29 => Q (.slice a26 l27 c28) h29 := ref09_Image.geq ref09_Read x_d Q h
theorem ref09_Image.W_eq (x_d : Option Addr) (Q : Value → H → Prop) (h : H) : ref09_Image.W #[(.pointer x_d)] Q h = ref09_Image x_d h fun a26 l27 c28 h29 => Q (.slice a26 l27 c28) h29 := by kernel_rfl
theorem ref09_Image.good : FnGood Try.prog 27 ref09_Image.W := by
  refine FnGood.of (ann := ref09_Image.ann) (env := ref09_Image.env) mixed (EnvGood.cons ref09_Read.good EnvGood.nil) Try.func27 Try.call27 fun args => ?_
  show ref09_Image.L ref09_Image args.toList = _ ∨ ∀ Q m, evF Try.prog ref09_Image.env Try.f27 ref09_Image.ann args.toList Q m = ref09_Image.L ref09_Image args.toList Q m
  generalize args.toList = l
  unfold ref09_Image.L
  split
  · exact .inr fun Q m => ref09_Image.eq _ Q m
  · exact .inl rfl

def disk_Disk_Restore.g (disk_Disk_usable' : Option Addr → Int → H → (Int → H → Prop) → Prop) (x_d : Option Addr) (x_image : Option Addr) (x_imageL : Nat) (x_imageC : Nat) (h : H) (Q : H → Prop) : Prop :=
disk_Disk_usable' x_d (0 : Int) h fun n1 h2 =>
(bif (n1 != (0 : Int)) then
Q  h2
else
M.join (α := Unit) (fun d43 h44 =>
M.nn x_d fun a45 =>
M.put h44 (Addr.add a45 2) (.slice none 0 0) fun h46 =>
Q  h46) fun J3 =>
M.nn x_d fun a4 =>
M.load h2 (Addr.add a4 1) fun v5 =>
M.slc v5 fun a6 l7 c8 =>
M.loop (α := Int) (fun J9 d10 h11 =>
(bif (decide (d10 < ((l7 : Nat) : Int))) then
M.join (α := ByteArray) (fun d24 h25 =>
M.nn x_d fun a26 =>
M.load h25 (Addr.add a26 0) fun v27 =>
M.slc v27 fun a28 l29 c30 =>
M.nn x_d fun a31 =>
M.load h25 (Addr.add a31 1) fun v32 =>
M.slc v32 fun a33 l34 c35 =>
M.idx a28 l29 d10 fun a36 j37 =>
M.put h25 (Addr.add a36 (j37 * 1)) (.string d24) fun h38 =>
M.idx a33 l34 d10 fun a39 j40 =>
M.put h38 (Addr.add a39 (j40 * 1)) (.string d24) fun h41 =>
M.val (IntKind.wrap .i64 (d10 + (1 : Int))) fun z42 =>
J9 z42 h41) fun J12 =>
M.join (α := Bool) (fun d18 h19 =>
(bif d18 then
M.idx x_image x_imageL d10 fun a20 j21 =>
M.load h19 (Addr.add a20 (j21 * 1)) fun v22 =>
M.str v22 fun s23 =>
J12 s23 h19
else
J12 (ByteArray.empty) h19)) fun J13 =>
(bif (decide (d10 < ((x_imageL : Nat) : Int))) then
M.idx x_image x_imageL d10 fun a14 j15 =>
M.load h11 (Addr.add a14 (j15 * 1)) fun v16 =>
M.str v16 fun s17 =>
J13 (decide ((ByteArray.size s17 : Int) ≤ (2048 : Int))) h11
else
J13 false h11)
else
J3 () h11)) (0 : Int) h2)
def disk_Disk_Restore (x_d : Option Addr) (x_image : Option Addr) (x_imageL : Nat) (x_imageC : Nat) (h : H) (Q : H → Prop) : Prop := disk_Disk_Restore.g disk_Disk_usable x_d x_image x_imageL x_imageC h Q
def disk_Disk_Restore.L (F : Option Addr → Option Addr → Nat → Nat → H → (H → Prop) → Prop) : List Value → (Value → H → Prop) → H → Prop
  | [.pointer x_d, .slice x_image x_imageL x_imageC] => fun Q h => F x_d x_image x_imageL x_imageC h fun h47 => Q (.tuple #[]) h47
  | _ => fun _ _ => False
def disk_Disk_Restore.W : W := fun args => disk_Disk_Restore.L disk_Disk_Restore args.toList
def disk_Disk_Restore.ann : Ann := ⟨lookN [(5, [(28, .bool)])], lookN [(3, []), (3379, [(5, .str)])], lookN [(26, [(14, .int .i64)])]⟩
def disk_Disk_Restore.env : Env := envOf [(45, fun args => disk_Disk_usable.L disk_Disk_usable args.toList)]
theorem disk_Disk_Restore.geq (disk_Disk_usable' : Option Addr → Int → H → (Int → H → Prop) → Prop) (x_d : Option Addr) (x_image : Option Addr) (x_imageL : Nat) (x_imageC : Nat) (Q : Value → H → Prop) (h : H) : evF Try.prog (envOf [(45, fun args => disk_Disk_usable.L disk_Disk_usable' args.toList)]) Try.f28 disk_Disk_Restore.ann [(.pointer x_d), (.slice x_image x_imageL x_imageC)] Q h = disk_Disk_Restore.g disk_Disk_usable' x_d x_image x_imageL x_imageC h fun h47 => Q (.tuple #[]) h47 := by kernel_rfl
theorem disk_Disk_Restore.eq (x_d : Option Addr) (x_image : Option Addr) (x_imageL : Nat) (x_imageC : Nat) (Q : Value → H → Prop) (h : H) : evF Try.prog disk_Disk_Restore.env Try.f28 disk_Disk_Restore.ann [(.pointer x_d), (.slice x_image x_imageL x_imageC)] Q h = disk_Disk_Restore x_d x_image x_imageL x_imageC h fun h47 => Q (.tuple #[]) h47 := disk_Disk_Restore.geq disk_Disk_usable x_d x_image x_imageL x_imageC Q h
theorem disk_Disk_Restore.W_eq (x_d : Option Addr) (x_image : Option Addr) (x_imageL : Nat) (x_imageC : Nat) (Q : Value → H → Prop) (h : H) : disk_Disk_Restore.W #[(.pointer x_d), (.slice x_image x_imageL x_imageC)] Q h = disk_Disk_Restore x_d x_image x_imageL x_imageC h fun h47 => Q (.tuple #[]) h47 := by kernel_rfl
theorem disk_Disk_Restore.good : FnGood Try.prog 28 disk_Disk_Restore.W := by
  refine FnGood.of (ann := disk_Disk_Restore.ann) (env := disk_Disk_Restore.env) mixed (EnvGood.cons disk_Disk_usable.good EnvGood.nil) Try.func28 Try.call28 fun args => ?_
  show disk_Disk_Restore.L disk_Disk_Restore args.toList = _ ∨ ∀ Q m, evF Try.prog disk_Disk_Restore.env Try.f28 disk_Disk_Restore.ann args.toList Q m = disk_Disk_Restore.L disk_Disk_Restore args.toList Q m
  generalize args.toList = l
  unfold disk_Disk_Restore.L
  split
  · exact .inr fun Q m => disk_Disk_Restore.eq _ _ _ _ Q m
  · exact .inl rfl

def bank_Bank_Flush.g (bank_Bank_there' : Option Addr → Int → H → (Int → H → Prop) → Prop) (bank_Bank_Spend' : Option Addr → H → (Int → H → Prop) → Prop) (disk_Disk_Flush' : Option Addr → H → (Int → H → Prop) → Prop) (x_b : Option Addr) (x_i : Int) (h : H) (Q : Int → H → Prop) : Prop :=
bank_Bank_there' x_b x_i h fun n2 h3 =>
(bif (n2 != (0 : Int)) then
Q n2 h3
else
bank_Bank_Spend' x_b h3 fun n4 h5 =>
(bif (n4 != (0 : Int)) then
Q n4 h5
else
M.nn x_b fun a6 =>
M.load h5 (Addr.add a6 0) fun v7 =>
M.slc v7 fun a8 l9 c10 =>
M.idx a8 l9 x_i fun a11 j12 =>
M.load h5 (Addr.add a11 (j12 * 1)) fun v13 =>
M.ptr v13 fun p14 =>
disk_Disk_Flush' p14 h5 fun n15 h16 =>
Q n15 h16))
def bank_Bank_Flush (x_b : Option Addr) (x_i : Int) (h : H) (Q : Int → H → Prop) : Prop := bank_Bank_Flush.g bank_Bank_there bank_Bank_Spend disk_Disk_Flush x_b x_i h Q
def bank_Bank_Flush.L (F : Option Addr → Int → H → (Int → H → Prop) → Prop) : List Value → (Value → H → Prop) → H → Prop
  | [.pointer x_b, .int .i64 x_i] => fun Q h => F x_b x_i h fun n17 h18 => Q (.int .i64 n17) h18
  | _ => fun _ _ => False
def bank_Bank_Flush.W : W := fun args => bank_Bank_Flush.L bank_Bank_Flush args.toList
def bank_Bank_Flush.ann : Ann := ⟨lookN [], lookN [], lookN []⟩
def bank_Bank_Flush.env : Env := envOf [(56, fun args => bank_Bank_there.L bank_Bank_there args.toList), (33, fun args => bank_Bank_Spend.L bank_Bank_Spend args.toList), (16, fun args => disk_Disk_Flush.L disk_Disk_Flush args.toList)]
theorem bank_Bank_Flush.geq (bank_Bank_there' : Option Addr → Int → H → (Int → H → Prop) → Prop) (bank_Bank_Spend' : Option Addr → H → (Int → H → Prop) → Prop) (disk_Disk_Flush' : Option Addr → H → (Int → H → Prop) → Prop) (x_b : Option Addr) (x_i : Int) (Q : Value → H → Prop) (h : H) : evF Try.prog (envOf [(56, fun args => bank_Bank_there.L bank_Bank_there' args.toList), (33, fun args => bank_Bank_Spend.L bank_Bank_Spend' args.toList), (16, fun args => disk_Disk_Flush.L disk_Disk_Flush' args.toList)]) Try.f34 bank_Bank_Flush.ann [(.pointer x_b), (.int .i64 x_i)] Q h = bank_Bank_Flush.g bank_Bank_there' bank_Bank_Spend' disk_Disk_Flush' x_b x_i h fun n17 h18 => Q (.int .i64 n17) h18 := by kernel_rfl
theorem bank_Bank_Flush.eq (x_b : Option Addr) (x_i : Int) (Q : Value → H → Prop) (h : H) : evF Try.prog bank_Bank_Flush.env Try.f34 bank_Bank_Flush.ann [(.pointer x_b), (.int .i64 x_i)] Q h = bank_Bank_Flush x_b x_i h fun n17 h18 => Q (.int .i64 n17) h18 := bank_Bank_Flush.geq bank_Bank_there bank_Bank_Spend disk_Disk_Flush x_b x_i Q h
theorem bank_Bank_Flush.W_eq (x_b : Option Addr) (x_i : Int) (Q : Value → H → Prop) (h : H) : bank_Bank_Flush.W #[(.pointer x_b), (.int .i64 x_i)] Q h = bank_Bank_Flush x_b x_i h fun n17 h18 => Q (.int .i64 n17) h18 := by kernel_rfl
theorem bank_Bank_Flush.good : FnGood Try.prog 34 bank_Bank_Flush.W := by
  refine FnGood.of (ann := bank_Bank_Flush.ann) (env := bank_Bank_Flush.env) mixed (EnvGood.cons bank_Bank_there.good (EnvGood.cons bank_Bank_Spend.good (EnvGood.cons disk_Disk_Flush.good EnvGood.nil))) Try.func34 Try.call34 fun args => ?_
  show bank_Bank_Flush.L bank_Bank_Flush args.toList = _ ∨ ∀ Q m, evF Try.prog bank_Bank_Flush.env Try.f34 bank_Bank_Flush.ann args.toList Q m = bank_Bank_Flush.L bank_Bank_Flush args.toList Q m
  generalize args.toList = l
  unfold bank_Bank_Flush.L
  split
  · exact .inr fun Q m => bank_Bank_Flush.eq _ _ Q m
  · exact .inl rfl

def bank_Bank_Write.g (bank_Bank_there' : Option Addr → Int → H → (Int → H → Prop) → Prop) (bank_Bank_Spend' : Option Addr → H → (Int → H → Prop) → Prop) (disk_Disk_Write' : Option Addr → Int → ByteArray → H → (Int → H → Prop) → Prop) (x_b : Option Addr) (x_i : Int) (x_at : Int) (x_s : ByteArray) (h : H) (Q : Int → H → Prop) : Prop :=
bank_Bank_there' x_b x_i h fun n2 h3 =>
(bif (n2 != (0 : Int)) then
Q n2 h3
else
bank_Bank_Spend' x_b h3 fun n4 h5 =>
(bif (n4 != (0 : Int)) then
Q n4 h5
else
M.nn x_b fun a6 =>
M.load h5 (Addr.add a6 0) fun v7 =>
M.slc v7 fun a8 l9 c10 =>
M.idx a8 l9 x_i fun a11 j12 =>
M.load h5 (Addr.add a11 (j12 * 1)) fun v13 =>
M.ptr v13 fun p14 =>
disk_Disk_Write' p14 x_at x_s h5 fun n15 h16 =>
Q n15 h16))
def bank_Bank_Write (x_b : Option Addr) (x_i : Int) (x_at : Int) (x_s : ByteArray) (h : H) (Q : Int → H → Prop) : Prop := bank_Bank_Write.g bank_Bank_there bank_Bank_Spend disk_Disk_Write x_b x_i x_at x_s h Q
def bank_Bank_Write.L (F : Option Addr → Int → Int → ByteArray → H → (Int → H → Prop) → Prop) : List Value → (Value → H → Prop) → H → Prop
  | [.pointer x_b, .int .i64 x_i, .int .i64 x_at, .string x_s] => fun Q h => F x_b x_i x_at x_s h fun n17 h18 => Q (.int .i64 n17) h18
  | _ => fun _ _ => False
def bank_Bank_Write.W : W := fun args => bank_Bank_Write.L bank_Bank_Write args.toList
def bank_Bank_Write.ann : Ann := ⟨lookN [], lookN [], lookN []⟩
def bank_Bank_Write.env : Env := envOf [(56, fun args => bank_Bank_there.L bank_Bank_there args.toList), (33, fun args => bank_Bank_Spend.L bank_Bank_Spend args.toList), (15, fun args => disk_Disk_Write.L disk_Disk_Write args.toList)]
theorem bank_Bank_Write.geq (bank_Bank_there' : Option Addr → Int → H → (Int → H → Prop) → Prop) (bank_Bank_Spend' : Option Addr → H → (Int → H → Prop) → Prop) (disk_Disk_Write' : Option Addr → Int → ByteArray → H → (Int → H → Prop) → Prop) (x_b : Option Addr) (x_i : Int) (x_at : Int) (x_s : ByteArray) (Q : Value → H → Prop) (h : H) : evF Try.prog (envOf [(56, fun args => bank_Bank_there.L bank_Bank_there' args.toList), (33, fun args => bank_Bank_Spend.L bank_Bank_Spend' args.toList), (15, fun args => disk_Disk_Write.L disk_Disk_Write' args.toList)]) Try.f35 bank_Bank_Write.ann [(.pointer x_b), (.int .i64 x_i), (.int .i64 x_at), (.string x_s)] Q h = bank_Bank_Write.g bank_Bank_there' bank_Bank_Spend' disk_Disk_Write' x_b x_i x_at x_s h fun n17 h18 => Q (.int .i64 n17) h18 := by kernel_rfl
theorem bank_Bank_Write.eq (x_b : Option Addr) (x_i : Int) (x_at : Int) (x_s : ByteArray) (Q : Value → H → Prop) (h : H) : evF Try.prog bank_Bank_Write.env Try.f35 bank_Bank_Write.ann [(.pointer x_b), (.int .i64 x_i), (.int .i64 x_at), (.string x_s)] Q h = bank_Bank_Write x_b x_i x_at x_s h fun n17 h18 => Q (.int .i64 n17) h18 := bank_Bank_Write.geq bank_Bank_there bank_Bank_Spend disk_Disk_Write x_b x_i x_at x_s Q h
theorem bank_Bank_Write.W_eq (x_b : Option Addr) (x_i : Int) (x_at : Int) (x_s : ByteArray) (Q : Value → H → Prop) (h : H) : bank_Bank_Write.W #[(.pointer x_b), (.int .i64 x_i), (.int .i64 x_at), (.string x_s)] Q h = bank_Bank_Write x_b x_i x_at x_s h fun n17 h18 => Q (.int .i64 n17) h18 := by kernel_rfl
theorem bank_Bank_Write.good : FnGood Try.prog 35 bank_Bank_Write.W := by
  refine FnGood.of (ann := bank_Bank_Write.ann) (env := bank_Bank_Write.env) mixed (EnvGood.cons bank_Bank_there.good (EnvGood.cons bank_Bank_Spend.good (EnvGood.cons disk_Disk_Write.good EnvGood.nil))) Try.func35 Try.call35 fun args => ?_
  show bank_Bank_Write.L bank_Bank_Write args.toList = _ ∨ ∀ Q m, evF Try.prog bank_Bank_Write.env Try.f35 bank_Bank_Write.ann args.toList Q m = bank_Bank_Write.L bank_Bank_Write args.toList Q m
  generalize args.toList = l
  unfold bank_Bank_Write.L
  split
  · exact .inr fun Q m => bank_Bank_Write.eq _ _ _ _ Q m
  · exact .inl rfl

def bank_Bank_Read.g (bank_Bank_there' : Option Addr → Int → H → (Int → H → Prop) → Prop) (disk_Disk_Read' : Option Addr → Int → H → (ByteArray → Int → H → Prop) → Prop) (x_b : Option Addr) (x_i : Int) (x_at : Int) (h : H) (Q : ByteArray → Int → H → Prop) : Prop :=
bank_Bank_there' x_b x_i h fun n3 h4 =>
(bif (n3 != (0 : Int)) then
Q (ByteArray.empty) n3 h4
else
M.join (α := Bool) (fun d12 h13 =>
(bif d12 then
Q (ByteArray.empty) (21 : Int) h13
else
M.nn x_b fun a14 =>
M.load h13 (Addr.add a14 0) fun v15 =>
M.slc v15 fun a16 l17 c18 =>
M.idx a16 l17 x_i fun a19 j20 =>
M.load h13 (Addr.add a19 (j20 * 1)) fun v21 =>
M.ptr v21 fun p22 =>
disk_Disk_Read' p22 x_at h13 fun s23 n24 h25 =>
Q s23 n24 h25)) fun J5 =>
M.nn x_b fun a6 =>
M.load h4 (Addr.add a6 2) fun v7 =>
M.bool v7 fun b8 =>
(bif b8 then
M.nn x_b fun a9 =>
M.load h4 (Addr.add a9 3) fun v10 =>
M.int .i64 v10 fun n11 =>
J5 (n11 == (0 : Int)) h4
else
J5 false h4))
def bank_Bank_Read (x_b : Option Addr) (x_i : Int) (x_at : Int) (h : H) (Q : ByteArray → Int → H → Prop) : Prop := bank_Bank_Read.g bank_Bank_there disk_Disk_Read x_b x_i x_at h Q
def bank_Bank_Read.L (F : Option Addr → Int → Int → H → (ByteArray → Int → H → Prop) → Prop) : List Value → (Value → H → Prop) → H → Prop
  | [.pointer x_b, .int .i64 x_i, .int .i64 x_at] => fun Q h => F x_b x_i x_at h fun s26 n27 h28 => Q (.tuple #[(.string s26), (.int .i64 n27)]) h28
  | _ => fun _ _ => False
def bank_Bank_Read.W : W := fun args => bank_Bank_Read.L bank_Bank_Read args.toList
def bank_Bank_Read.ann : Ann := ⟨lookN [(4, [(25, .bool)])], lookN [], lookN []⟩
def bank_Bank_Read.env : Env := envOf [(56, fun args => bank_Bank_there.L bank_Bank_there args.toList), (19, fun args => disk_Disk_Read.L disk_Disk_Read args.toList)]
theorem bank_Bank_Read.geq (bank_Bank_there' : Option Addr → Int → H → (Int → H → Prop) → Prop) (disk_Disk_Read' : Option Addr → Int → H → (ByteArray → Int → H → Prop) → Prop) (x_b : Option Addr) (x_i : Int) (x_at : Int) (Q : Value → H → Prop) (h : H) : evF Try.prog (envOf [(56, fun args => bank_Bank_there.L bank_Bank_there' args.toList), (19, fun args => disk_Disk_Read.L disk_Disk_Read' args.toList)]) Try.f36 bank_Bank_Read.ann [(.pointer x_b), (.int .i64 x_i), (.int .i64 x_at)] Q h = bank_Bank_Read.g bank_Bank_there' disk_Disk_Read' x_b x_i x_at h fun s26 n27 h28 => Q (.tuple #[(.string s26), (.int .i64 n27)]) h28 := by kernel_rfl
theorem bank_Bank_Read.eq (x_b : Option Addr) (x_i : Int) (x_at : Int) (Q : Value → H → Prop) (h : H) : evF Try.prog bank_Bank_Read.env Try.f36 bank_Bank_Read.ann [(.pointer x_b), (.int .i64 x_i), (.int .i64 x_at)] Q h = bank_Bank_Read x_b x_i x_at h fun s26 n27 h28 => Q (.tuple #[(.string s26), (.int .i64 n27)]) h28 := bank_Bank_Read.geq bank_Bank_there disk_Disk_Read x_b x_i x_at Q h
theorem bank_Bank_Read.W_eq (x_b : Option Addr) (x_i : Int) (x_at : Int) (Q : Value → H → Prop) (h : H) : bank_Bank_Read.W #[(.pointer x_b), (.int .i64 x_i), (.int .i64 x_at)] Q h = bank_Bank_Read x_b x_i x_at h fun s26 n27 h28 => Q (.tuple #[(.string s26), (.int .i64 n27)]) h28 := by kernel_rfl
theorem bank_Bank_Read.good : FnGood Try.prog 36 bank_Bank_Read.W := by
  refine FnGood.of (ann := bank_Bank_Read.ann) (env := bank_Bank_Read.env) mixed (EnvGood.cons bank_Bank_there.good (EnvGood.cons disk_Disk_Read.good EnvGood.nil)) Try.func36 Try.call36 fun args => ?_
  show bank_Bank_Read.L bank_Bank_Read args.toList = _ ∨ ∀ Q m, evF Try.prog bank_Bank_Read.env Try.f36 bank_Bank_Read.ann args.toList Q m = bank_Bank_Read.L bank_Bank_Read args.toList Q m
  generalize args.toList = l
  unfold bank_Bank_Read.L
  split
  · exact .inr fun Q m => bank_Bank_Read.eq _ _ _ Q m
  · exact .inl rfl

def bank_Bank_Crash.g (disk_Disk_Crash' : Option Addr → Option Addr → Nat → Nat → H → (H → Prop) → Prop) (x_b : Option Addr) (x_kept : Option Addr) (x_keptL : Nat) (x_keptC : Nat) (h : H) (Q : H → Prop) : Prop :=
(bif (Option.isNone x_b) then
Q  h
else
M.join (α := Unit) (fun d24 h25 =>
M.nn x_b fun a26 =>
M.put h25 (Addr.add a26 2) (.bool false) fun h27 =>
M.nn x_b fun a28 =>
M.put h27 (Addr.add a28 3) (.int .i64 (0 : Int)) fun h29 =>
Q  h29) fun J1 =>
M.nn x_b fun a2 =>
M.load h (Addr.add a2 0) fun v3 =>
M.slc v3 fun a4 l5 c6 =>
M.loop (α := Int) (fun J7 d8 h9 =>
(bif (decide (d8 < ((l5 : Nat) : Int))) then
M.idx a4 l5 d8 fun a10 j11 =>
M.load h9 (Addr.add a10 (j11 * 1)) fun v12 =>
M.ptr v12 fun p13 =>
(bif (decide (d8 < ((x_keptL : Nat) : Int))) then
M.idx x_kept x_keptL d8 fun a14 j15 =>
M.load h9 (Addr.add a14 (j15 * 1)) fun v16 =>
M.slc v16 fun a17 l18 c19 =>
disk_Disk_Crash' p13 a17 l18 c19 h9 fun h20 =>
M.val (IntKind.wrap .i64 (d8 + (1 : Int))) fun z21 =>
J7 z21 h20
else
disk_Disk_Crash' p13 none 0 0 h9 fun h22 =>
M.val (IntKind.wrap .i64 (d8 + (1 : Int))) fun z23 =>
J7 z23 h22)
else
J1 () h9)) (0 : Int) h)
def bank_Bank_Crash (x_b : Option Addr) (x_kept : Option Addr) (x_keptL : Nat) (x_keptC : Nat) (h : H) (Q : H → Prop) : Prop := bank_Bank_Crash.g disk_Disk_Crash x_b x_kept x_keptL x_keptC h Q
def bank_Bank_Crash.L (F : Option Addr → Option Addr → Nat → Nat → H → (H → Prop) → Prop) : List Value → (Value → H → Prop) → H → Prop
  | [.pointer x_b, .slice x_kept x_keptL x_keptC] => fun Q h => F x_b x_kept x_keptL x_keptC h fun h30 => Q (.tuple #[]) h30
  | _ => fun _ _ => False
def bank_Bank_Crash.W : W := fun args => bank_Bank_Crash.L bank_Bank_Crash args.toList
def bank_Bank_Crash.ann : Ann := ⟨lookN [], lookN [(3, [])], lookN [(26, [(13, .int .i64)])]⟩
def bank_Bank_Crash.env : Env := envOf [(18, fun args => disk_Disk_Crash.L disk_Disk_Crash args.toList)]
theorem bank_Bank_Crash.geq (disk_Disk_Crash' : Option Addr → Option Addr → Nat → Nat → H → (H → Prop) → Prop) (x_b : Option Addr) (x_kept : Option Addr) (x_keptL : Nat) (x_keptC : Nat) (Q : Value → H → Prop) (h : H) : evF Try.prog (envOf [(18, fun args => disk_Disk_Crash.L disk_Disk_Crash' args.toList)]) Try.f38 bank_Bank_Crash.ann [(.pointer x_b), (.slice x_kept x_keptL x_keptC)] Q h = bank_Bank_Crash.g disk_Disk_Crash' x_b x_kept x_keptL x_keptC h fun h30 => Q (.tuple #[]) h30 := by kernel_rfl
theorem bank_Bank_Crash.eq (x_b : Option Addr) (x_kept : Option Addr) (x_keptL : Nat) (x_keptC : Nat) (Q : Value → H → Prop) (h : H) : evF Try.prog bank_Bank_Crash.env Try.f38 bank_Bank_Crash.ann [(.pointer x_b), (.slice x_kept x_keptL x_keptC)] Q h = bank_Bank_Crash x_b x_kept x_keptL x_keptC h fun h30 => Q (.tuple #[]) h30 := bank_Bank_Crash.geq disk_Disk_Crash x_b x_kept x_keptL x_keptC Q h
theorem bank_Bank_Crash.W_eq (x_b : Option Addr) (x_kept : Option Addr) (x_keptL : Nat) (x_keptC : Nat) (Q : Value → H → Prop) (h : H) : bank_Bank_Crash.W #[(.pointer x_b), (.slice x_kept x_keptL x_keptC)] Q h = bank_Bank_Crash x_b x_kept x_keptL x_keptC h fun h30 => Q (.tuple #[]) h30 := by kernel_rfl
theorem bank_Bank_Crash.good : FnGood Try.prog 38 bank_Bank_Crash.W := by
  refine FnGood.of (ann := bank_Bank_Crash.ann) (env := bank_Bank_Crash.env) mixed (EnvGood.cons disk_Disk_Crash.good EnvGood.nil) Try.func38 Try.call38 fun args => ?_
  show bank_Bank_Crash.L bank_Bank_Crash args.toList = _ ∨ ∀ Q m, evF Try.prog bank_Bank_Crash.env Try.f38 bank_Bank_Crash.ann args.toList Q m = bank_Bank_Crash.L bank_Bank_Crash args.toList Q m
  generalize args.toList = l
  unfold bank_Bank_Crash.L
  split
  · exact .inr fun Q m => bank_Bank_Crash.eq _ _ _ _ Q m
  · exact .inl rfl

def law10_wakes.g (bank_New' : Int → Int → H → (Option Addr → H → Prop) → Prop) (bank_Bank_Cut' : Option Addr → Int → H → (H → Prop) → Prop) (bank_Bank_Write' : Option Addr → Int → Int → ByteArray → H → (Int → H → Prop) → Prop) (bank_Bank_Crash' : Option Addr → Option Addr → Nat → Nat → H → (H → Prop) → Prop) (bank_Bank_Read' : Option Addr → Int → Int → H → (ByteArray → Int → H → Prop) → Prop) (bank_Bank_Steps' : Option Addr → H → (Int → H → Prop) → Prop) (bank_Bank_Size' : Option Addr → H → (Int → H → Prop) → Prop)  (h : H) (Q : Bool → H → Prop) : Prop :=
bank_New' (2 : Int) (4 : Int) h fun p2 h3 =>
bank_Bank_Cut' p2 (1 : Int) h3 fun h4 =>
bank_Bank_Write' p2 (0 : Int) (0 : Int) (⟨#[97]⟩ : ByteArray) h4 fun n5 h6 =>
bank_Bank_Write' p2 (1 : Int) (0 : Int) (⟨#[98]⟩ : ByteArray) h6 fun n7 h8 =>
bank_Bank_Crash' p2 none 0 0 h8 fun h9 =>
bank_Bank_Read' p2 (0 : Int) (0 : Int) h9 fun s10 n11 h12 =>
M.join (α := Bool) (fun d18 h19 =>
Q d18 h19) fun J13 =>
(bif (n5 == (0 : Int)) then
(bif (n7 == (21 : Int)) then
(bif (n11 == (0 : Int)) then
(bif (strEq s10 (ByteArray.empty)) then
bank_Bank_Steps' p2 h12 fun n14 h15 =>
(bif (n14 == (1 : Int)) then
bank_Bank_Size' p2 h15 fun n16 h17 =>
J13 (n16 == (2 : Int)) h17
else
J13 false h15)
else
J13 false h12)
else
J13 false h12)
else
J13 false h12)
else
J13 false h12)
def law10_wakes  (h : H) (Q : Bool → H → Prop) : Prop := law10_wakes.g bank_New bank_Bank_Cut bank_Bank_Write bank_Bank_Crash bank_Bank_Read bank_Bank_Steps bank_Bank_Size  h Q
def law10_wakes.L (F : H → (Bool → H → Prop) → Prop) : List Value → (Value → H → Prop) → H → Prop
  | [] => fun Q h => F  h fun b20 h21 => Q (.bool b20) h21
  | _ => fun _ _ => False
def law10_wakes.W : W := fun args => law10_wakes.L law10_wakes args.toList
def law10_wakes.ann : Ann := ⟨lookN [(6, [(0, .bool)])], lookN [], lookN []⟩
def law10_wakes.env : Env := envOf [(31, fun args => bank_New.L bank_New args.toList), (32, fun args => bank_Bank_Cut.L bank_Bank_Cut args.toList), (35, fun args => bank_Bank_Write.L bank_Bank_Write args.toList), (38, fun args => bank_Bank_Crash.L bank_Bank_Crash args.toList), (36, fun args => bank_Bank_Read.L bank_Bank_Read args.toList), (37, fun args => bank_Bank_Steps.L bank_Bank_Steps args.toList), (40, fun args => bank_Bank_Size.L bank_Bank_Size args.toList)]
theorem law10_wakes.geq (bank_New' : Int → Int → H → (Option Addr → H → Prop) → Prop) (bank_Bank_Cut' : Option Addr → Int → H → (H → Prop) → Prop) (bank_Bank_Write' : Option Addr → Int → Int → ByteArray → H → (Int → H → Prop) → Prop) (bank_Bank_Crash' : Option Addr → Option Addr → Nat → Nat → H → (H → Prop) → Prop) (bank_Bank_Read' : Option Addr → Int → Int → H → (ByteArray → Int → H → Prop) → Prop) (bank_Bank_Steps' : Option Addr → H → (Int → H → Prop) → Prop) (bank_Bank_Size' : Option Addr → H → (Int → H → Prop) → Prop)  (Q : Value → H → Prop) (h : H) : evF Try.prog (envOf [(31, fun args => bank_New.L bank_New' args.toList), (32, fun args => bank_Bank_Cut.L bank_Bank_Cut' args.toList), (35, fun args => bank_Bank_Write.L bank_Bank_Write' args.toList), (38, fun args => bank_Bank_Crash.L bank_Bank_Crash' args.toList), (36, fun args => bank_Bank_Read.L bank_Bank_Read' args.toList), (37, fun args => bank_Bank_Steps.L bank_Bank_Steps' args.toList), (40, fun args => bank_Bank_Size.L bank_Bank_Size' args.toList)]) Try.f39 law10_wakes.ann [] Q h = law10_wakes.g bank_New' bank_Bank_Cut' bank_Bank_Write' bank_Bank_Crash' bank_Bank_Read' bank_Bank_Steps' bank_Bank_Size'  h fun b20 h21 => Q (.bool b20) h21 := by kernel_rfl
theorem law10_wakes.eq  (Q : Value → H → Prop) (h : H) : evF Try.prog law10_wakes.env Try.f39 law10_wakes.ann [] Q h = law10_wakes  h fun b20 h21 => Q (.bool b20) h21 := law10_wakes.geq bank_New bank_Bank_Cut bank_Bank_Write bank_Bank_Crash bank_Bank_Read bank_Bank_Steps bank_Bank_Size  Q h
theorem law10_wakes.W_eq  (Q : Value → H → Prop) (h : H) : law10_wakes.W #[] Q h = law10_wakes  h fun b20 h21 => Q (.bool b20) h21 := by kernel_rfl
theorem law10_wakes.good : FnGood Try.prog 39 law10_wakes.W := by
  refine FnGood.of (ann := law10_wakes.ann) (env := law10_wakes.env) mixed (EnvGood.cons bank_New.good (EnvGood.cons bank_Bank_Cut.good (EnvGood.cons bank_Bank_Write.good (EnvGood.cons bank_Bank_Crash.good (EnvGood.cons bank_Bank_Read.good (EnvGood.cons bank_Bank_Steps.good (EnvGood.cons bank_Bank_Size.good EnvGood.nil))))))) Try.func39 Try.call39 fun args => ?_
  show law10_wakes.L law10_wakes args.toList = _ ∨ ∀ Q m, evF Try.prog law10_wakes.env Try.f39 law10_wakes.ann args.toList Q m = law10_wakes.L law10_wakes args.toList Q m
  generalize args.toList = l
  unfold law10_wakes.L
  split
  · exact .inr fun Q m => law10_wakes.eq  Q m
  · exact .inl rfl

def ref10_Flush.g (ref10_Spend' : Option Addr → H → (Int → H → Prop) → Prop) (ref09_Flush' : Option Addr → H → (Int → H → Prop) → Prop) (x_b : Option Addr) (x_i : Int) (h : H) (Q : Int → H → Prop) : Prop :=
M.join (α := Bool) (fun d8 h9 =>
(bif d8 then
Q (11 : Int) h9
else
ref10_Spend' x_b h9 fun n10 h11 =>
(bif (n10 != (0 : Int)) then
Q n10 h11
else
M.nn x_b fun a12 =>
M.load h11 (Addr.add a12 0) fun v13 =>
M.slc v13 fun a14 l15 c16 =>
M.idx a14 l15 x_i fun a17 j18 =>
M.load h11 (Addr.add a17 (j18 * 1)) fun v19 =>
M.ptr v19 fun p20 =>
ref09_Flush' p20 h11 fun n21 h22 =>
Q n21 h22))) fun J2 =>
(bif (decide (x_i < (0 : Int))) then
J2 true h
else
M.nn x_b fun a3 =>
M.load h (Addr.add a3 0) fun v4 =>
M.slc v4 fun a5 l6 c7 =>
J2 (decide (x_i ≥ ((l6 : Nat) : Int))) h)
def ref10_Flush (x_b : Option Addr) (x_i : Int) (h : H) (Q : Int → H → Prop) : Prop := ref10_Flush.g ref10_Spend ref09_Flush x_b x_i h Q
def ref10_Flush.L (F : Option Addr → Int → H → (Int → H → Prop) → Prop) : List Value → (Value → H → Prop) → H → Prop
  | [.pointer x_b, .int .i64 x_i] => fun Q h => F x_b x_i h fun n23 h24 => Q (.int .i64 n23) h24
  | _ => fun _ _ => False
def ref10_Flush.W : W := fun args => ref10_Flush.L ref10_Flush args.toList
def ref10_Flush.ann : Ann := ⟨lookN [(1, [(16, .bool)])], lookN [], lookN []⟩
def ref10_Flush.env : Env := envOf [(59, fun args => ref10_Spend.L ref10_Spend args.toList), (48, fun args => ref09_Flush.L ref09_Flush args.toList)]
theorem ref10_Flush.geq (ref10_Spend' : Option Addr → H → (Int → H → Prop) → Prop) (ref09_Flush' : Option Addr → H → (Int → H → Prop) → Prop) (x_b : Option Addr) (x_i : Int) (Q : Value → H → Prop) (h : H) : evF Try.prog (envOf [(59, fun args => ref10_Spend.L ref10_Spend' args.toList), (48, fun args => ref09_Flush.L ref09_Flush' args.toList)]) Try.f58 ref10_Flush.ann [(.pointer x_b), (.int .i64 x_i)] Q h = ref10_Flush.g ref10_Spend' ref09_Flush' x_b x_i h fun n23 h24 => Q (.int .i64 n23) h24 := by kernel_rfl
theorem ref10_Flush.eq (x_b : Option Addr) (x_i : Int) (Q : Value → H → Prop) (h : H) : evF Try.prog ref10_Flush.env Try.f58 ref10_Flush.ann [(.pointer x_b), (.int .i64 x_i)] Q h = ref10_Flush x_b x_i h fun n23 h24 => Q (.int .i64 n23) h24 := ref10_Flush.geq ref10_Spend ref09_Flush x_b x_i Q h
theorem ref10_Flush.W_eq (x_b : Option Addr) (x_i : Int) (Q : Value → H → Prop) (h : H) : ref10_Flush.W #[(.pointer x_b), (.int .i64 x_i)] Q h = ref10_Flush x_b x_i h fun n23 h24 => Q (.int .i64 n23) h24 := by kernel_rfl
theorem ref10_Flush.good : FnGood Try.prog 58 ref10_Flush.W := by
  refine FnGood.of (ann := ref10_Flush.ann) (env := ref10_Flush.env) mixed (EnvGood.cons ref10_Spend.good (EnvGood.cons ref09_Flush.good EnvGood.nil)) Try.func58 Try.call58 fun args => ?_
  show ref10_Flush.L ref10_Flush args.toList = _ ∨ ∀ Q m, evF Try.prog ref10_Flush.env Try.f58 ref10_Flush.ann args.toList Q m = ref10_Flush.L ref10_Flush args.toList Q m
  generalize args.toList = l
  unfold ref10_Flush.L
  split
  · exact .inr fun Q m => ref10_Flush.eq _ _ Q m
  · exact .inl rfl

def law10_BankCut.g (bank_New' : Int → Int → H → (Option Addr → H → Prop) → Prop) (bank_Bank_Cut' : Option Addr → Int → H → (H → Prop) → Prop) (bank_Bank_Spend' : Option Addr → H → (Int → H → Prop) → Prop) (bank_Bank_Flush' : Option Addr → Int → H → (Int → H → Prop) → Prop) (bank_Bank_Write' : Option Addr → Int → Int → ByteArray → H → (Int → H → Prop) → Prop) (bank_Bank_Read' : Option Addr → Int → Int → H → (ByteArray → Int → H → Prop) → Prop) (bank_Bank_Steps' : Option Addr → H → (Int → H → Prop) → Prop) (bank_Bank_Crash' : Option Addr → Option Addr → Nat → Nat → H → (H → Prop) → Prop) (law10_wakes' : H → (Bool → H → Prop) → Prop) (x_n : Int) (x_script : Option Addr) (x_scriptL : Nat) (x_scriptC : Nat) (h : H) (Q : Bool → H → Prop) : Prop :=
bank_New' (3 : Int) (8 : Int) h fun p2 h3 =>
bank_Bank_Cut' p2 x_n h3 fun h4 =>
M.join (α := Int) (fun d60 h61 =>
bank_Bank_Steps' p2 h61 fun n62 h63 =>
bank_Bank_Crash' p2 none 0 0 h63 fun h64 =>
M.join (α := Bool) (fun d72 h73 =>
Q d72 h73) fun J65 =>
law10_wakes'  h64 fun b66 h67 =>
(bif b66 then
(bif (n62 == d60) then
bank_Bank_Spend' p2 h67 fun n68 h69 =>
(bif (n68 == (0 : Int)) then
bank_Bank_Write' p2 (2 : Int) (7 : Int) (⟨#[121]⟩ : ByteArray) h69 fun n70 h71 =>
J65 (n70 == (0 : Int)) h71
else
J65 false h69)
else
J65 false h67)
else
J65 false h67)) fun J5 =>
M.sub x_script x_scriptC 6 0 (mn ((x_scriptL : Nat) : Int) (60 : Int)) fun a6 l7 c8 =>
M.loop (α := Int × Int) (fun J9 d10 h11 =>
(bif (decide (d10.2 < ((l7 : Nat) : Int))) then
M.idx a6 l7 d10.2 fun a12 j13 =>
M.load h11 ((Addr.add a12 (j13 * 6)).add 0) fun v14 =>
M.int .i64 v14 fun n15 =>
M.load h11 ((Addr.add a12 (j13 * 6)).add 1) fun v16 =>
M.int .i64 v16 fun n17 =>
M.load h11 ((Addr.add a12 (j13 * 6)).add 2) fun v18 =>
M.int .i64 v18 fun n19 =>
M.load h11 ((Addr.add a12 (j13 * 6)).add 3) fun v20 =>
M.str v20 fun s21 =>
M.load h11 ((Addr.add a12 (j13 * 6)).add 4) fun v22 =>
M.slc v22 fun a23 l24 c25 =>
M.load h11 ((Addr.add a12 (j13 * 6)).add 5) fun v26 =>
M.bool v26 fun b27 =>
M.new h11 (.cells (#[(.int .i64 (0 : Int)), (.int .i64 (0 : Int)), (.int .i64 (0 : Int)), (.string (ByteArray.empty)), (.slice none 0 0), (.bool false)] : Array Value) 65) fun b28 h29 =>
M.req (Array.size (#[(.int .i64 n15), (.int .i64 n17), (.int .i64 n19), (.string s21), (.slice a23 l24 c25), (.bool b27)] : Array Value) = 6) (M.puts h29 (⟨b28, 0, none⟩ : Addr) [(.int .i64 n15), (.int .i64 n17), (.int .i64 n19), (.string s21), (.slice a23 l24 c25), (.bool b27)] fun h30 =>
M.load h30 (Addr.add (⟨b28, 0, none⟩ : Addr) 1) fun v31 =>
M.int .i64 v31 fun n32 =>
M.nz (3 : Int) (
M.val (Int.tmod (mx (0 : Int) n32) (3 : Int)) fun z33 =>
M.join (α := Int) (fun d47 h48 =>
M.join (α := Bool) (fun d50 h51 =>
(bif d50 then
Q false h51
else
M.join (α := Int) (fun d54 h55 =>
bank_Bank_Read' p2 z33 (0 : Int) h55 fun s56 n57 h58 =>
(bif (!((n57 == (21 : Int)) == (decide (d54 ≥ x_n)))) then
Q false h58
else
M.val (IntKind.wrap .i64 (d10.2 + (1 : Int))) fun z59 =>
J9 (d54, z59) h58)) fun J52 =>
(bif (d47 == (0 : Int)) then
M.val (IntKind.wrap .i64 (d10.1 + (1 : Int))) fun z53 =>
J52 z53 h51
else
J52 d10.1 h51))) fun J49 =>
(bif (!((d47 == (0 : Int)) == (decide (d10.1 < x_n)))) then
J49 true h48
else
(bif (d47 != (0 : Int)) then
J49 (d47 != (21 : Int)) h48
else
J49 false h48))) fun J34 =>
M.load h30 (Addr.add (⟨b28, 0, none⟩ : Addr) 0) fun v35 =>
M.int .i64 v35 fun n36 =>
M.val (bAnd .i64 n36 (3 : Int)) fun z37 =>
(bif (z37 == (0 : Int)) then
bank_Bank_Spend' p2 h30 fun n38 h39 =>
J34 n38 h39
else
(bif (z37 == (1 : Int)) then
bank_Bank_Flush' p2 z33 h30 fun n40 h41 =>
J34 n40 h41
else
M.load h30 (Addr.add (⟨b28, 0, none⟩ : Addr) 2) fun v42 =>
M.int .i64 v42 fun n43 =>
M.nz (8 : Int) (
M.val (Int.tmod (mx (0 : Int) n43) (8 : Int)) fun z44 =>
bank_Bank_Write' p2 z33 z44 (⟨#[120]⟩ : ByteArray) h30 fun n45 h46 =>
J34 n45 h46)))))
else
J5 d10.1 h11)) ((0 : Int), (0 : Int)) h4
def law10_BankCut (x_n : Int) (x_script : Option Addr) (x_scriptL : Nat) (x_scriptC : Nat) (h : H) (Q : Bool → H → Prop) : Prop := law10_BankCut.g bank_New bank_Bank_Cut bank_Bank_Spend bank_Bank_Flush bank_Bank_Write bank_Bank_Read bank_Bank_Steps bank_Bank_Crash law10_wakes x_n x_script x_scriptL x_scriptC h Q
def law10_BankCut.L (F : Int → Option Addr → Nat → Nat → H → (Bool → H → Prop) → Prop) : List Value → (Value → H → Prop) → H → Prop
  | [.int .i64 x_n, .slice x_script x_scriptL x_scriptC] => fun Q h => F x_n x_script x_scriptL x_scriptC h fun b74 h75 => Q (.bool b74) h75
  | _ => fun _ _ => False
def law10_BankCut.W : W := fun args => law10_BankCut.L law10_BankCut args.toList
def law10_BankCut.ann : Ann := ⟨lookN [(15, [(64, .bool)]), (25, [(4, .bool)])], lookN [(31, [(6, .int .i64)]), (64103, [(10, .int .i64)]), (256415, [(6, .int .i64)])], lookN [(250, [(6, .int .i64), (24, .int .i64)])]⟩
def law10_BankCut.env : Env := envOf [(31, fun args => bank_New.L bank_New args.toList), (32, fun args => bank_Bank_Cut.L bank_Bank_Cut args.toList), (33, fun args => bank_Bank_Spend.L bank_Bank_Spend args.toList), (34, fun args => bank_Bank_Flush.L bank_Bank_Flush args.toList), (35, fun args => bank_Bank_Write.L bank_Bank_Write args.toList), (36, fun args => bank_Bank_Read.L bank_Bank_Read args.toList), (37, fun args => bank_Bank_Steps.L bank_Bank_Steps args.toList), (38, fun args => bank_Bank_Crash.L bank_Bank_Crash args.toList), (39, fun args => law10_wakes.L law10_wakes args.toList)]
theorem law10_BankCut.geq (bank_New' : Int → Int → H → (Option Addr → H → Prop) → Prop) (bank_Bank_Cut' : Option Addr → Int → H → (H → Prop) → Prop) (bank_Bank_Spend' : Option Addr → H → (Int → H → Prop) → Prop) (bank_Bank_Flush' : Option Addr → Int → H → (Int → H → Prop) → Prop) (bank_Bank_Write' : Option Addr → Int → Int → ByteArray → H → (Int → H → Prop) → Prop) (bank_Bank_Read' : Option Addr → Int → Int → H → (ByteArray → Int → H → Prop) → Prop) (bank_Bank_Steps' : Option Addr → H → (Int → H → Prop) → Prop) (bank_Bank_Crash' : Option Addr → Option Addr → Nat → Nat → H → (H → Prop) → Prop) (law10_wakes' : H → (Bool → H → Prop) → Prop) (x_n : Int) (x_script : Option Addr) (x_scriptL : Nat) (x_scriptC : Nat) (Q : Value → H → Prop) (h : H) : evF Try.prog (envOf [(31, fun args => bank_New.L bank_New' args.toList), (32, fun args => bank_Bank_Cut.L bank_Bank_Cut' args.toList), (33, fun args => bank_Bank_Spend.L bank_Bank_Spend' args.toList), (34, fun args => bank_Bank_Flush.L bank_Bank_Flush' args.toList), (35, fun args => bank_Bank_Write.L bank_Bank_Write' args.toList), (36, fun args => bank_Bank_Read.L bank_Bank_Read' args.toList), (37, fun args => bank_Bank_Steps.L bank_Bank_Steps' args.toList), (38, fun args => bank_Bank_Crash.L bank_Bank_Crash' args.toList), (39, fun args => law10_wakes.L law10_wakes' args.toList)]) Try.f8 law10_BankCut.ann [(.int .i64 x_n), (.slice x_script x_scriptL x_scriptC)] Q h = law10_BankCut.g bank_New' bank_Bank_Cut' bank_Bank_Spend' bank_Bank_Flush' bank_Bank_Write' bank_Bank_Read' bank_Bank_Steps' bank_Bank_Crash' law10_wakes' x_n x_script x_scriptL x_scriptC h fun b74 h75 => Q (.bool b74) h75 := by kernel_rfl
theorem law10_BankCut.eq (x_n : Int) (x_script : Option Addr) (x_scriptL : Nat) (x_scriptC : Nat) (Q : Value → H → Prop) (h : H) : evF Try.prog law10_BankCut.env Try.f8 law10_BankCut.ann [(.int .i64 x_n), (.slice x_script x_scriptL x_scriptC)] Q h = law10_BankCut x_n x_script x_scriptL x_scriptC h fun b74 h75 => Q (.bool b74) h75 := law10_BankCut.geq bank_New bank_Bank_Cut bank_Bank_Spend bank_Bank_Flush bank_Bank_Write bank_Bank_Read bank_Bank_Steps bank_Bank_Crash law10_wakes x_n x_script x_scriptL x_scriptC Q h
theorem law10_BankCut.W_eq (x_n : Int) (x_script : Option Addr) (x_scriptL : Nat) (x_scriptC : Nat) (Q : Value → H → Prop) (h : H) : law10_BankCut.W #[(.int .i64 x_n), (.slice x_script x_scriptL x_scriptC)] Q h = law10_BankCut x_n x_script x_scriptL x_scriptC h fun b74 h75 => Q (.bool b74) h75 := by kernel_rfl
theorem law10_BankCut.good : FnGood Try.prog 8 law10_BankCut.W := by
  refine FnGood.of (ann := law10_BankCut.ann) (env := law10_BankCut.env) mixed (EnvGood.cons bank_New.good (EnvGood.cons bank_Bank_Cut.good (EnvGood.cons bank_Bank_Spend.good (EnvGood.cons bank_Bank_Flush.good (EnvGood.cons bank_Bank_Write.good (EnvGood.cons bank_Bank_Read.good (EnvGood.cons bank_Bank_Steps.good (EnvGood.cons bank_Bank_Crash.good (EnvGood.cons law10_wakes.good EnvGood.nil))))))))) Try.func8 Try.call8 fun args => ?_
  show law10_BankCut.L law10_BankCut args.toList = _ ∨ ∀ Q m, evF Try.prog law10_BankCut.env Try.f8 law10_BankCut.ann args.toList Q m = law10_BankCut.L law10_BankCut args.toList Q m
  generalize args.toList = l
  unfold law10_BankCut.L
  split
  · exact .inr fun Q m => law10_BankCut.eq _ _ _ _ Q m
  · exact .inl rfl

def law10_BankNil.g (bank_New' : Int → Int → H → (Option Addr → H → Prop) → Prop) (bank_Bank_Read' : Option Addr → Int → Int → H → (ByteArray → Int → H → Prop) → Prop) (bank_Bank_Cut' : Option Addr → Int → H → (H → Prop) → Prop) (bank_Bank_Crash' : Option Addr → Option Addr → Nat → Nat → H → (H → Prop) → Prop) (law10_wakes' : H → (Bool → H → Prop) → Prop) (bank_Bank_Size' : Option Addr → H → (Int → H → Prop) → Prop) (bank_Bank_Disk' : Option Addr → Int → H → (Option Addr → H → Prop) → Prop) (bank_Bank_Write' : Option Addr → Int → Int → ByteArray → H → (Int → H → Prop) → Prop) (bank_Bank_Flush' : Option Addr → Int → H → (Int → H → Prop) → Prop) (bank_Bank_Spend' : Option Addr → H → (Int → H → Prop) → Prop) (bank_Bank_Steps' : Option Addr → H → (Int → H → Prop) → Prop) (x_a_0 : Int) (x_a_1 : Int) (x_a_2 : Int) (x_a_3 : ByteArray) (x_a_4 : Option Addr) (x_a_4L : Nat) (x_a_4C : Nat) (x_a_5 : Bool) (h : H) (Q : Bool → H → Prop) : Prop :=
M.new h (.cells (#[(.int .i64 x_a_0), (.int .i64 x_a_1), (.int .i64 x_a_2), (.string x_a_3), (.slice x_a_4 x_a_4L x_a_4C), (.bool x_a_5)] : Array Value) 65) fun b2 h3 =>
bank_New' (2 : Int) (3 : Int) h3 fun p4 h5 =>
M.load h5 (Addr.add (⟨b2, 0, none⟩ : Addr) 1) fun v6 =>
M.int .i64 v6 fun n7 =>
M.load h5 (Addr.add (⟨b2, 0, none⟩ : Addr) 2) fun v8 =>
M.int .i64 v8 fun n9 =>
bank_Bank_Read' none n7 n9 h5 fun s10 n11 h12 =>
M.load h12 (Addr.add (⟨b2, 0, none⟩ : Addr) 2) fun v13 =>
M.int .i64 v13 fun n14 =>
bank_Bank_Cut' none n14 h12 fun h15 =>
bank_Bank_Crash' none none 0 0 h15 fun h16 =>
M.join (α := Bool) (fun d42 h43 =>
(bif d42 then
Q false h43
else
M.join (α := Bool) (fun d49 h50 =>
(bif d49 then
M.load h50 (Addr.add (⟨b2, 0, none⟩ : Addr) 1) fun v51 =>
M.int .i64 v51 fun n52 =>
bank_Bank_Disk' p4 n52 h50 fun p53 h54 =>
Q (!(Option.isNone p53)) h54
else
M.load h50 (Addr.add (⟨b2, 0, none⟩ : Addr) 1) fun v55 =>
M.int .i64 v55 fun n56 =>
M.load h50 (Addr.add (⟨b2, 0, none⟩ : Addr) 2) fun v57 =>
M.int .i64 v57 fun n58 =>
bank_Bank_Read' p4 n56 n58 h50 fun s59 n60 h61 =>
M.join (α := Bool) (fun d81 h82 =>
Q d81 h82) fun J62 =>
M.load h61 (Addr.add (⟨b2, 0, none⟩ : Addr) 1) fun v63 =>
M.int .i64 v63 fun n64 =>
bank_Bank_Disk' p4 n64 h61 fun p65 h66 =>
(bif (Option.isNone p65) then
M.load h66 (Addr.add (⟨b2, 0, none⟩ : Addr) 1) fun v67 =>
M.int .i64 v67 fun n68 =>
M.load h66 (Addr.add (⟨b2, 0, none⟩ : Addr) 2) fun v69 =>
M.int .i64 v69 fun n70 =>
M.load h66 (Addr.add (⟨b2, 0, none⟩ : Addr) 3) fun v71 =>
M.str v71 fun s72 =>
bank_Bank_Write' p4 n68 n70 s72 h66 fun n73 h74 =>
(bif (n73 == (11 : Int)) then
(bif (n60 == (11 : Int)) then
M.load h74 (Addr.add (⟨b2, 0, none⟩ : Addr) 1) fun v75 =>
M.int .i64 v75 fun n76 =>
bank_Bank_Flush' p4 n76 h74 fun n77 h78 =>
(bif (n77 == (11 : Int)) then
bank_Bank_Steps' p4 h78 fun n79 h80 =>
J62 (n79 == (0 : Int)) h80
else
J62 false h78)
else
J62 false h74)
else
J62 false h74)
else
J62 false h66))) fun J44 =>
M.load h43 (Addr.add (⟨b2, 0, none⟩ : Addr) 1) fun v45 =>
M.int .i64 v45 fun n46 =>
(bif (decide (n46 ≥ (0 : Int))) then
M.load h43 (Addr.add (⟨b2, 0, none⟩ : Addr) 1) fun v47 =>
M.int .i64 v47 fun n48 =>
J44 (decide (n48 < (2 : Int))) h43
else
J44 false h43))) fun J17 =>
law10_wakes'  h16 fun b18 h19 =>
(bif (!b18) then
J17 true h19
else
bank_Bank_Size' none h19 fun n20 h21 =>
(bif (n20 != (0 : Int)) then
J17 true h21
else
M.load h21 (Addr.add (⟨b2, 0, none⟩ : Addr) 1) fun v22 =>
M.int .i64 v22 fun n23 =>
bank_Bank_Disk' none n23 h21 fun p24 h25 =>
(bif (!(Option.isNone p24)) then
J17 true h25
else
M.load h25 (Addr.add (⟨b2, 0, none⟩ : Addr) 1) fun v26 =>
M.int .i64 v26 fun n27 =>
M.load h25 (Addr.add (⟨b2, 0, none⟩ : Addr) 2) fun v28 =>
M.int .i64 v28 fun n29 =>
M.load h25 (Addr.add (⟨b2, 0, none⟩ : Addr) 3) fun v30 =>
M.str v30 fun s31 =>
bank_Bank_Write' none n27 n29 s31 h25 fun n32 h33 =>
(bif (n32 != (1 : Int)) then
J17 true h33
else
(bif (n11 != (1 : Int)) then
J17 true h33
else
M.load h33 (Addr.add (⟨b2, 0, none⟩ : Addr) 1) fun v34 =>
M.int .i64 v34 fun n35 =>
bank_Bank_Flush' none n35 h33 fun n36 h37 =>
(bif (n36 != (1 : Int)) then
J17 true h37
else
bank_Bank_Spend' none h37 fun n38 h39 =>
(bif (n38 != (1 : Int)) then
J17 true h39
else
bank_Bank_Steps' none h39 fun n40 h41 =>
J17 (n40 != (0 : Int)) h41)))))))
def law10_BankNil (x_a_0 : Int) (x_a_1 : Int) (x_a_2 : Int) (x_a_3 : ByteArray) (x_a_4 : Option Addr) (x_a_4L : Nat) (x_a_4C : Nat) (x_a_5 : Bool) (h : H) (Q : Bool → H → Prop) : Prop := law10_BankNil.g bank_New bank_Bank_Read bank_Bank_Cut bank_Bank_Crash law10_wakes bank_Bank_Size bank_Bank_Disk bank_Bank_Write bank_Bank_Flush bank_Bank_Spend bank_Bank_Steps x_a_0 x_a_1 x_a_2 x_a_3 x_a_4 x_a_4L x_a_4C x_a_5 h Q
def law10_BankNil.L (F : Int → Int → Int → ByteArray → Option Addr → Nat → Nat → Bool → H → (Bool → H → Prop) → Prop) : List Value → (Value → H → Prop) → H → Prop
  | [.agg ⟨[.int .i64 x_a_0, .int .i64 x_a_1, .int .i64 x_a_2, .string x_a_3, .slice x_a_4 x_a_4L x_a_4C, .bool x_a_5]⟩] => fun Q h => F x_a_0 x_a_1 x_a_2 x_a_3 x_a_4 x_a_4L x_a_4C x_a_5 h fun b83 h84 => Q (.bool b83) h84
  | _ => fun _ _ => False
def law10_BankNil.W : W := fun args => law10_BankNil.L law10_BankNil args.toList
def law10_BankNil.ann : Ann := ⟨lookN [(6, [(70, .bool)]), (8, [(78, .bool)]), (11, [(2, .bool)])], lookN [], lookN []⟩
def law10_BankNil.env : Env := envOf [(31, fun args => bank_New.L bank_New args.toList), (36, fun args => bank_Bank_Read.L bank_Bank_Read args.toList), (32, fun args => bank_Bank_Cut.L bank_Bank_Cut args.toList), (38, fun args => bank_Bank_Crash.L bank_Bank_Crash args.toList), (39, fun args => law10_wakes.L law10_wakes args.toList), (40, fun args => bank_Bank_Size.L bank_Bank_Size args.toList), (41, fun args => bank_Bank_Disk.L bank_Bank_Disk args.toList), (35, fun args => bank_Bank_Write.L bank_Bank_Write args.toList), (34, fun args => bank_Bank_Flush.L bank_Bank_Flush args.toList), (33, fun args => bank_Bank_Spend.L bank_Bank_Spend args.toList), (37, fun args => bank_Bank_Steps.L bank_Bank_Steps args.toList)]
theorem law10_BankNil.geq (bank_New' : Int → Int → H → (Option Addr → H → Prop) → Prop) (bank_Bank_Read' : Option Addr → Int → Int → H → (ByteArray → Int → H → Prop) → Prop) (bank_Bank_Cut' : Option Addr → Int → H → (H → Prop) → Prop) (bank_Bank_Crash' : Option Addr → Option Addr → Nat → Nat → H → (H → Prop) → Prop) (law10_wakes' : H → (Bool → H → Prop) → Prop) (bank_Bank_Size' : Option Addr → H → (Int → H → Prop) → Prop) (bank_Bank_Disk' : Option Addr → Int → H → (Option Addr → H → Prop) → Prop) (bank_Bank_Write' : Option Addr → Int → Int → ByteArray → H → (Int → H → Prop) → Prop) (bank_Bank_Flush' : Option Addr → Int → H → (Int → H → Prop) → Prop) (bank_Bank_Spend' : Option Addr → H → (Int → H → Prop) → Prop) (bank_Bank_Steps' : Option Addr → H → (Int → H → Prop) → Prop) (x_a_0 : Int) (x_a_1 : Int) (x_a_2 : Int) (x_a_3 : ByteArray) (x_a_4 : Option Addr) (x_a_4L : Nat) (x_a_4C : Nat) (x_a_5 : Bool) (Q : Value → H → Prop) (h : H) : evF Try.prog (envOf [(31, fun args => bank_New.L bank_New' args.toList), (36, fun args => bank_Bank_Read.L bank_Bank_Read' args.toList), (32, fun args => bank_Bank_Cut.L bank_Bank_Cut' args.toList), (38, fun args => bank_Bank_Crash.L bank_Bank_Crash' args.toList), (39, fun args => law10_wakes.L law10_wakes' args.toList), (40, fun args => bank_Bank_Size.L bank_Bank_Size' args.toList), (41, fun args => bank_Bank_Disk.L bank_Bank_Disk' args.toList), (35, fun args => bank_Bank_Write.L bank_Bank_Write' args.toList), (34, fun args => bank_Bank_Flush.L bank_Bank_Flush' args.toList), (33, fun args => bank_Bank_Spend.L bank_Bank_Spend' args.toList), (37, fun args => bank_Bank_Steps.L bank_Bank_Steps' args.toList)]) Try.f9 law10_BankNil.ann [(.agg (#[(.int .i64 x_a_0), (.int .i64 x_a_1), (.int .i64 x_a_2), (.string x_a_3), (.slice x_a_4 x_a_4L x_a_4C), (.bool x_a_5)] : Array Value))] Q h = law10_BankNil.g bank_New' bank_Bank_Read' bank_Bank_Cut' bank_Bank_Crash' law10_wakes' bank_Bank_Size' bank_Bank_Disk' bank_Bank_Write' bank_Bank_Flush' bank_Bank_Spend' bank_Bank_Steps' x_a_0 x_a_1 x_a_2 x_a_3 x_a_4 x_a_4L x_a_4C x_a_5 h fun b83 h84 => Q (.bool b83) h84 := by kernel_rfl
theorem law10_BankNil.eq (x_a_0 : Int) (x_a_1 : Int) (x_a_2 : Int) (x_a_3 : ByteArray) (x_a_4 : Option Addr) (x_a_4L : Nat) (x_a_4C : Nat) (x_a_5 : Bool) (Q : Value → H → Prop) (h : H) : evF Try.prog law10_BankNil.env Try.f9 law10_BankNil.ann [(.agg (#[(.int .i64 x_a_0), (.int .i64 x_a_1), (.int .i64 x_a_2), (.string x_a_3), (.slice x_a_4 x_a_4L x_a_4C), (.bool x_a_5)] : Array Value))] Q h = law10_BankNil x_a_0 x_a_1 x_a_2 x_a_3 x_a_4 x_a_4L x_a_4C x_a_5 h fun b83 h84 => Q (.bool b83) h84 := law10_BankNil.geq bank_New bank_Bank_Read bank_Bank_Cut bank_Bank_Crash law10_wakes bank_Bank_Size bank_Bank_Disk bank_Bank_Write bank_Bank_Flush bank_Bank_Spend bank_Bank_Steps x_a_0 x_a_1 x_a_2 x_a_3 x_a_4 x_a_4L x_a_4C x_a_5 Q h
theorem law10_BankNil.W_eq (x_a_0 : Int) (x_a_1 : Int) (x_a_2 : Int) (x_a_3 : ByteArray) (x_a_4 : Option Addr) (x_a_4L : Nat) (x_a_4C : Nat) (x_a_5 : Bool) (Q : Value → H → Prop) (h : H) : law10_BankNil.W #[(.agg (#[(.int .i64 x_a_0), (.int .i64 x_a_1), (.int .i64 x_a_2), (.string x_a_3), (.slice x_a_4 x_a_4L x_a_4C), (.bool x_a_5)] : Array Value))] Q h = law10_BankNil x_a_0 x_a_1 x_a_2 x_a_3 x_a_4 x_a_4L x_a_4C x_a_5 h fun b83 h84 => Q (.bool b83) h84 := by kernel_rfl
theorem law10_BankNil.good : FnGood Try.prog 9 law10_BankNil.W := by
  refine FnGood.of (ann := law10_BankNil.ann) (env := law10_BankNil.env) mixed (EnvGood.cons bank_New.good (EnvGood.cons bank_Bank_Read.good (EnvGood.cons bank_Bank_Cut.good (EnvGood.cons bank_Bank_Crash.good (EnvGood.cons law10_wakes.good (EnvGood.cons bank_Bank_Size.good (EnvGood.cons bank_Bank_Disk.good (EnvGood.cons bank_Bank_Write.good (EnvGood.cons bank_Bank_Flush.good (EnvGood.cons bank_Bank_Spend.good (EnvGood.cons bank_Bank_Steps.good EnvGood.nil))))))))))) Try.func9 Try.call9 fun args => ?_
  show law10_BankNil.L law10_BankNil args.toList = _ ∨ ∀ Q m, evF Try.prog law10_BankNil.env Try.f9 law10_BankNil.ann args.toList Q m = law10_BankNil.L law10_BankNil args.toList Q m
  generalize args.toList = l
  unfold law10_BankNil.L
  split
  · exact .inr fun Q m => law10_BankNil.eq _ _ _ _ _ _ _ _ Q m
  · exact .inl rfl

def law10_BankApart.g (bank_New' : Int → Int → H → (Option Addr → H → Prop) → Prop) (law10_wakes' : H → (Bool → H → Prop) → Prop) (bank_Bank_Size' : Option Addr → H → (Int → H → Prop) → Prop) (bank_Bank_Write' : Option Addr → Int → Int → ByteArray → H → (Int → H → Prop) → Prop) (bank_Bank_Flush' : Option Addr → Int → H → (Int → H → Prop) → Prop) (bank_Bank_Read' : Option Addr → Int → Int → H → (ByteArray → Int → H → Prop) → Prop) (bank_Bank_Disk' : Option Addr → Int → H → (Option Addr → H → Prop) → Prop) (disk_Disk_Waiting' : Option Addr → H → (Int → H → Prop) → Prop) (x_disks : Int) (x_script : Option Addr) (x_scriptL : Nat) (x_scriptC : Nat) (x_i : Int) (h : H) (Q : Bool → H → Prop) : Prop :=
bank_New' x_disks (6 : Int) h fun p2 h3 =>
M.join (α := Bool) (fun d9 h10 =>
(bif d9 then
Q false h10
else
bank_Bank_Size' p2 h10 fun n11 h12 =>
M.nz n11 (
M.val (Int.tmod (mx (0 : Int) x_i) n11) fun z13 =>
bank_Bank_Write' p2 z13 (3 : Int) (⟨#[109, 105, 110, 101]⟩ : ByteArray) h12 fun n14 h15 =>
(bif (n14 != (0 : Int)) then
Q false h15
else
M.join (α := Unit) (fun d65 h66 =>
bank_Bank_Read' p2 z13 (3 : Int) h66 fun s67 n68 h69 =>
M.join (α := Bool) (fun d75 h76 =>
Q d75 h76) fun J70 =>
(bif (n68 == (0 : Int)) then
(bif (strEq s67 (⟨#[109, 105, 110, 101]⟩ : ByteArray)) then
bank_Bank_Disk' p2 z13 h69 fun p71 h72 =>
disk_Disk_Waiting' p71 h72 fun n73 h74 =>
J70 (n73 == (1 : Int)) h74
else
J70 false h69)
else
J70 false h69)) fun J16 =>
M.sub x_script x_scriptC 6 0 (mn ((x_scriptL : Nat) : Int) (40 : Int)) fun a17 l18 c19 =>
M.loop (α := Int) (fun J20 d21 h22 =>
(bif (decide (d21 < ((l18 : Nat) : Int))) then
M.idx a17 l18 d21 fun a23 j24 =>
M.load h22 ((Addr.add a23 (j24 * 6)).add 0) fun v25 =>
M.int .i64 v25 fun n26 =>
M.load h22 ((Addr.add a23 (j24 * 6)).add 1) fun v27 =>
M.int .i64 v27 fun n28 =>
M.load h22 ((Addr.add a23 (j24 * 6)).add 2) fun v29 =>
M.int .i64 v29 fun n30 =>
M.load h22 ((Addr.add a23 (j24 * 6)).add 3) fun v31 =>
M.str v31 fun s32 =>
M.load h22 ((Addr.add a23 (j24 * 6)).add 4) fun v33 =>
M.slc v33 fun a34 l35 c36 =>
M.load h22 ((Addr.add a23 (j24 * 6)).add 5) fun v37 =>
M.bool v37 fun b38 =>
M.new h22 (.cells (#[(.int .i64 (0 : Int)), (.int .i64 (0 : Int)), (.int .i64 (0 : Int)), (.string (ByteArray.empty)), (.slice none 0 0), (.bool false)] : Array Value) 65) fun b39 h40 =>
M.req (Array.size (#[(.int .i64 n26), (.int .i64 n28), (.int .i64 n30), (.string s32), (.slice a34 l35 c36), (.bool b38)] : Array Value) = 6) (M.puts h40 (⟨b39, 0, none⟩ : Addr) [(.int .i64 n26), (.int .i64 n28), (.int .i64 n30), (.string s32), (.slice a34 l35 c36), (.bool b38)] fun h41 =>
M.load h41 (Addr.add (⟨b39, 0, none⟩ : Addr) 1) fun v42 =>
M.int .i64 v42 fun n43 =>
(bif (n43 == z13) then
M.val (IntKind.wrap .i64 (d21 + (1 : Int))) fun z44 =>
J20 z44 h41
else
M.load h41 (Addr.add (⟨b39, 0, none⟩ : Addr) 0) fun v45 =>
M.int .i64 v45 fun n46 =>
M.val (bAnd .i64 n46 (1 : Int)) fun z47 =>
(bif (z47 == (0 : Int)) then
M.load h41 (Addr.add (⟨b39, 0, none⟩ : Addr) 1) fun v48 =>
M.int .i64 v48 fun n49 =>
M.load h41 (Addr.add (⟨b39, 0, none⟩ : Addr) 2) fun v50 =>
M.int .i64 v50 fun n51 =>
M.load h41 (Addr.add (⟨b39, 0, none⟩ : Addr) 3) fun v52 =>
M.str v52 fun s53 =>
M.load h41 (Addr.add (⟨b39, 0, none⟩ : Addr) 3) fun v54 =>
M.str v54 fun s55 =>
M.ssub s53 0 (mn (ByteArray.size s55 : Int) (50 : Int)) fun s56 =>
bank_Bank_Write' p2 n49 n51 s56 h41 fun n57 h58 =>
M.val (IntKind.wrap .i64 (d21 + (1 : Int))) fun z59 =>
J20 z59 h58
else
M.load h41 (Addr.add (⟨b39, 0, none⟩ : Addr) 1) fun v60 =>
M.int .i64 v60 fun n61 =>
bank_Bank_Flush' p2 n61 h41 fun n62 h63 =>
M.val (IntKind.wrap .i64 (d21 + (1 : Int))) fun z64 =>
J20 z64 h63)))
else
J16 () h22)) (0 : Int) h15)))) fun J4 =>
law10_wakes'  h3 fun b5 h6 =>
(bif (!b5) then
J4 true h6
else
bank_Bank_Size' p2 h6 fun n7 h8 =>
J4 (decide (n7 < (1 : Int))) h8)
def law10_BankApart (x_disks : Int) (x_script : Option Addr) (x_scriptL : Nat) (x_scriptC : Nat) (x_i : Int) (h : H) (Q : Bool → H → Prop) : Prop := law10_BankApart.g bank_New law10_wakes bank_Bank_Size bank_Bank_Write bank_Bank_Flush bank_Bank_Read bank_Bank_Disk disk_Disk_Waiting x_disks x_script x_scriptL x_scriptC x_i h Q
def law10_BankApart.L (F : Int → Option Addr → Nat → Nat → Int → H → (Bool → H → Prop) → Prop) : List Value → (Value → H → Prop) → H → Prop
  | [.int .i64 x_disks, .slice x_script x_scriptL x_scriptC, .int .i64 x_i] => fun Q h => F x_disks x_script x_scriptL x_scriptC x_i h fun b77 h78 => Q (.bool b77) h78
  | _ => fun _ _ => False
def law10_BankApart.W : W := fun args => law10_BankApart.L law10_BankApart args.toList
def law10_BankApart.ann : Ann := ⟨lookN [(2, [(20, .bool)]), (16, [(6, .bool)])], lookN [(63, [])], lookN [(506, [(36, .int .i64)])]⟩
def law10_BankApart.env : Env := envOf [(31, fun args => bank_New.L bank_New args.toList), (39, fun args => law10_wakes.L law10_wakes args.toList), (40, fun args => bank_Bank_Size.L bank_Bank_Size args.toList), (35, fun args => bank_Bank_Write.L bank_Bank_Write args.toList), (34, fun args => bank_Bank_Flush.L bank_Bank_Flush args.toList), (36, fun args => bank_Bank_Read.L bank_Bank_Read args.toList), (41, fun args => bank_Bank_Disk.L bank_Bank_Disk args.toList), (20, fun args => disk_Disk_Waiting.L disk_Disk_Waiting args.toList)]
theorem law10_BankApart.geq (bank_New' : Int → Int → H → (Option Addr → H → Prop) → Prop) (law10_wakes' : H → (Bool → H → Prop) → Prop) (bank_Bank_Size' : Option Addr → H → (Int → H → Prop) → Prop) (bank_Bank_Write' : Option Addr → Int → Int → ByteArray → H → (Int → H → Prop) → Prop) (bank_Bank_Flush' : Option Addr → Int → H → (Int → H → Prop) → Prop) (bank_Bank_Read' : Option Addr → Int → Int → H → (ByteArray → Int → H → Prop) → Prop) (bank_Bank_Disk' : Option Addr → Int → H → (Option Addr → H → Prop) → Prop) (disk_Disk_Waiting' : Option Addr → H → (Int → H → Prop) → Prop) (x_disks : Int) (x_script : Option Addr) (x_scriptL : Nat) (x_scriptC : Nat) (x_i : Int) (Q : Value → H → Prop) (h : H) : evF Try.prog (envOf [(31, fun args => bank_New.L bank_New' args.toList), (39, fun args => law10_wakes.L law10_wakes' args.toList), (40, fun args => bank_Bank_Size.L bank_Bank_Size' args.toList), (35, fun args => bank_Bank_Write.L bank_Bank_Write' args.toList), (34, fun args => bank_Bank_Flush.L bank_Bank_Flush' args.toList), (36, fun args => bank_Bank_Read.L bank_Bank_Read' args.toList), (41, fun args => bank_Bank_Disk.L bank_Bank_Disk' args.toList), (20, fun args => disk_Disk_Waiting.L disk_Disk_Waiting' args.toList)]) Try.f10 law10_BankApart.ann [(.int .i64 x_disks), (.slice x_script x_scriptL x_scriptC), (.int .i64 x_i)] Q h = law10_BankApart.g bank_New' law10_wakes' bank_Bank_Size' bank_Bank_Write' bank_Bank_Flush' bank_Bank_Read' bank_Bank_Disk' disk_Disk_Waiting' x_disks x_script x_scriptL x_scriptC x_i h fun b77 h78 => Q (.bool b77) h78 := by kernel_rfl
theorem law10_BankApart.eq (x_disks : Int) (x_script : Option Addr) (x_scriptL : Nat) (x_scriptC : Nat) (x_i : Int) (Q : Value → H → Prop) (h : H) : evF Try.prog law10_BankApart.env Try.f10 law10_BankApart.ann [(.int .i64 x_disks), (.slice x_script x_scriptL x_scriptC), (.int .i64 x_i)] Q h = law10_BankApart x_disks x_script x_scriptL x_scriptC x_i h fun b77 h78 => Q (.bool b77) h78 := law10_BankApart.geq bank_New law10_wakes bank_Bank_Size bank_Bank_Write bank_Bank_Flush bank_Bank_Read bank_Bank_Disk disk_Disk_Waiting x_disks x_script x_scriptL x_scriptC x_i Q h
theorem law10_BankApart.W_eq (x_disks : Int) (x_script : Option Addr) (x_scriptL : Nat) (x_scriptC : Nat) (x_i : Int) (Q : Value → H → Prop) (h : H) : law10_BankApart.W #[(.int .i64 x_disks), (.slice x_script x_scriptL x_scriptC), (.int .i64 x_i)] Q h = law10_BankApart x_disks x_script x_scriptL x_scriptC x_i h fun b77 h78 => Q (.bool b77) h78 := by kernel_rfl
theorem law10_BankApart.good : FnGood Try.prog 10 law10_BankApart.W := by
  refine FnGood.of (ann := law10_BankApart.ann) (env := law10_BankApart.env) mixed (EnvGood.cons bank_New.good (EnvGood.cons law10_wakes.good (EnvGood.cons bank_Bank_Size.good (EnvGood.cons bank_Bank_Write.good (EnvGood.cons bank_Bank_Flush.good (EnvGood.cons bank_Bank_Read.good (EnvGood.cons bank_Bank_Disk.good (EnvGood.cons disk_Disk_Waiting.good EnvGood.nil)))))))) Try.func10 Try.call10 fun args => ?_
  show law10_BankApart.L law10_BankApart args.toList = _ ∨ ∀ Q m, evF Try.prog law10_BankApart.env Try.f10 law10_BankApart.ann args.toList Q m = law10_BankApart.L law10_BankApart args.toList Q m
  generalize args.toList = l
  unfold law10_BankApart.L
  split
  · exact .inr fun Q m => law10_BankApart.eq _ _ _ _ _ Q m
  · exact .inl rfl

def law09_wakes.g (disk_New' : Int → H → (Option Addr → H → Prop) → Prop) (disk_Disk_Write' : Option Addr → Int → ByteArray → H → (Int → H → Prop) → Prop) (disk_Disk_Flush' : Option Addr → H → (Int → H → Prop) → Prop) (disk_Disk_Read' : Option Addr → Int → H → (ByteArray → Int → H → Prop) → Prop) (disk_Disk_Crash' : Option Addr → Option Addr → Nat → Nat → H → (H → Prop) → Prop) (disk_Disk_Size' : Option Addr → H → (Int → H → Prop) → Prop)  (h : H) (Q : Bool → H → Prop) : Prop :=
disk_New' (3 : Int) h fun p2 h3 =>
disk_Disk_Write' p2 (0 : Int) (⟨#[97]⟩ : ByteArray) h3 fun n4 h5 =>
disk_Disk_Flush' p2 h5 fun n6 h7 =>
disk_Disk_Write' p2 (0 : Int) (⟨#[98]⟩ : ByteArray) h7 fun n8 h9 =>
disk_Disk_Write' p2 (0 : Int) (⟨#[99]⟩ : ByteArray) h9 fun n10 h11 =>
disk_Disk_Read' p2 (0 : Int) h11 fun s12 n13 h14 =>
M.new h14 (.cells (#[(.bool true)] : Array Value) 4) fun b15 h16 =>
disk_Disk_Crash' p2 (some (⟨b15, 0, none⟩ : Addr)) 1 1 h16 fun h17 =>
disk_Disk_Read' p2 (0 : Int) h17 fun s18 n19 h20 =>
M.join (α := Bool) (fun d24 h25 =>
Q d24 h25) fun J21 =>
(bif (n4 == (0 : Int)) then
(bif (n6 == (0 : Int)) then
(bif (n8 == (0 : Int)) then
(bif (n10 == (0 : Int)) then
(bif (n13 == (0 : Int)) then
(bif (n19 == (0 : Int)) then
(bif (strEq s12 (⟨#[99]⟩ : ByteArray)) then
(bif (strEq s18 (⟨#[98]⟩ : ByteArray)) then
disk_Disk_Size' p2 h20 fun n22 h23 =>
J21 (n22 == (3 : Int)) h23
else
J21 false h20)
else
J21 false h20)
else
J21 false h20)
else
J21 false h20)
else
J21 false h20)
else
J21 false h20)
else
J21 false h20)
else
J21 false h20)
def law09_wakes  (h : H) (Q : Bool → H → Prop) : Prop := law09_wakes.g disk_New disk_Disk_Write disk_Disk_Flush disk_Disk_Read disk_Disk_Crash disk_Disk_Size  h Q
def law09_wakes.L (F : H → (Bool → H → Prop) → Prop) : List Value → (Value → H → Prop) → H → Prop
  | [] => fun Q h => F  h fun b26 h27 => Q (.bool b26) h27
  | _ => fun _ _ => False
def law09_wakes.W : W := fun args => law09_wakes.L law09_wakes args.toList
def law09_wakes.ann : Ann := ⟨lookN [(7, [(0, .bool)])], lookN [], lookN []⟩
def law09_wakes.env : Env := envOf [(13, fun args => disk_New.L disk_New args.toList), (15, fun args => disk_Disk_Write.L disk_Disk_Write args.toList), (16, fun args => disk_Disk_Flush.L disk_Disk_Flush args.toList), (19, fun args => disk_Disk_Read.L disk_Disk_Read args.toList), (18, fun args => disk_Disk_Crash.L disk_Disk_Crash args.toList), (24, fun args => disk_Disk_Size.L disk_Disk_Size args.toList)]
theorem law09_wakes.geq (disk_New' : Int → H → (Option Addr → H → Prop) → Prop) (disk_Disk_Write' : Option Addr → Int → ByteArray → H → (Int → H → Prop) → Prop) (disk_Disk_Flush' : Option Addr → H → (Int → H → Prop) → Prop) (disk_Disk_Read' : Option Addr → Int → H → (ByteArray → Int → H → Prop) → Prop) (disk_Disk_Crash' : Option Addr → Option Addr → Nat → Nat → H → (H → Prop) → Prop) (disk_Disk_Size' : Option Addr → H → (Int → H → Prop) → Prop)  (Q : Value → H → Prop) (h : H) : evF Try.prog (envOf [(13, fun args => disk_New.L disk_New' args.toList), (15, fun args => disk_Disk_Write.L disk_Disk_Write' args.toList), (16, fun args => disk_Disk_Flush.L disk_Disk_Flush' args.toList), (19, fun args => disk_Disk_Read.L disk_Disk_Read' args.toList), (18, fun args => disk_Disk_Crash.L disk_Disk_Crash' args.toList), (24, fun args => disk_Disk_Size.L disk_Disk_Size' args.toList)]) Try.f14 law09_wakes.ann [] Q h = law09_wakes.g disk_New' disk_Disk_Write' disk_Disk_Flush' disk_Disk_Read' disk_Disk_Crash' disk_Disk_Size'  h fun b26 h27 => Q (.bool b26) h27 := by kernel_rfl
theorem law09_wakes.eq  (Q : Value → H → Prop) (h : H) : evF Try.prog law09_wakes.env Try.f14 law09_wakes.ann [] Q h = law09_wakes  h fun b26 h27 => Q (.bool b26) h27 := law09_wakes.geq disk_New disk_Disk_Write disk_Disk_Flush disk_Disk_Read disk_Disk_Crash disk_Disk_Size  Q h
theorem law09_wakes.W_eq  (Q : Value → H → Prop) (h : H) : law09_wakes.W #[] Q h = law09_wakes  h fun b26 h27 => Q (.bool b26) h27 := by kernel_rfl
theorem law09_wakes.good : FnGood Try.prog 14 law09_wakes.W := by
  refine FnGood.of (ann := law09_wakes.ann) (env := law09_wakes.env) mixed (EnvGood.cons disk_New.good (EnvGood.cons disk_Disk_Write.good (EnvGood.cons disk_Disk_Flush.good (EnvGood.cons disk_Disk_Read.good (EnvGood.cons disk_Disk_Crash.good (EnvGood.cons disk_Disk_Size.good EnvGood.nil)))))) Try.func14 Try.call14 fun args => ?_
  show law09_wakes.L law09_wakes args.toList = _ ∨ ∀ Q m, evF Try.prog law09_wakes.env Try.f14 law09_wakes.ann args.toList Q m = law09_wakes.L law09_wakes args.toList Q m
  generalize args.toList = l
  unfold law09_wakes.L
  split
  · exact .inr fun Q m => law09_wakes.eq  Q m
  · exact .inl rfl

end Go.Proofs.Ytkfokpkpobjoeaa

/- The shallow forms of the functions of this seat, printed by a program of mine, each checked by the kernel against the given code. -/
import Derived.Test.YtgkebmhkmedadaaDoorShA9
import Derived.Test.YtgkebmhkmedadaaDoorProg
namespace Go.Proofs.YtgkebmhkmedadaaDoor
open Go.Sh
set_option linter.unusedVariables false
theorem mixed : Tryd.prog.follows .mixedOrders = true := by kernel_rfl

def ref18_Good (x_l_0 : Int) (x_l_1 : Int) (x_l_2 : Int) (x_l_3 : Bool) (h : H) (Q : Bool → H → Prop) : Prop :=
M.new h (.cells (#[(.int .i64 x_l_0), (.int .i64 x_l_1), (.int .i64 x_l_2), (.bool x_l_3)] : Array Value) 25) fun b2 h3 =>
M.join (α := Bool) (fun d13 h14 =>
(bif d13 then
Q false h14
else
M.join (α := Bool) (fun d24 h25 =>
(bif d24 then
Q false h25
else
M.join (α := Bool) (fun d37 h38 =>
Q d37 h38) fun J26 =>
M.load h25 (Addr.add (⟨b2, 0, none⟩ : Addr) 2) fun v27 =>
M.int .i64 v27 fun n28 =>
(bif (decide (n28 ≥ (0 : Int))) then
M.load h25 (Addr.add (⟨b2, 0, none⟩ : Addr) 2) fun v29 =>
M.int .i64 v29 fun n30 =>
M.load h25 (Addr.add (⟨b2, 0, none⟩ : Addr) 1) fun v31 =>
M.int .i64 v31 fun n32 =>
(bif (decide (n30 < n32)) then
M.load h25 (Addr.add (⟨b2, 0, none⟩ : Addr) 3) fun v33 =>
M.bool v33 fun b34 =>
(bif b34 then
J26 true h25
else
M.load h25 (Addr.add (⟨b2, 0, none⟩ : Addr) 2) fun v35 =>
M.int .i64 v35 fun n36 =>
J26 (n36 == (0 : Int)) h25)
else
J26 false h25)
else
J26 false h25))) fun J15 =>
M.load h14 (Addr.add (⟨b2, 0, none⟩ : Addr) 0) fun v16 =>
M.int .i64 v16 fun n17 =>
(bif (decide (n17 < (2 : Int))) then
J15 true h14
else
M.load h14 (Addr.add (⟨b2, 0, none⟩ : Addr) 0) fun v18 =>
M.int .i64 v18 fun n19 =>
(bif (decide (n19 > (8 : Int))) then
J15 true h14
else
M.load h14 (Addr.add (⟨b2, 0, none⟩ : Addr) 3) fun v20 =>
M.bool v20 fun b21 =>
(bif b21 then
M.load h14 (Addr.add (⟨b2, 0, none⟩ : Addr) 0) fun v22 =>
M.int .i64 v22 fun n23 =>
J15 (n23 == (8 : Int)) h14
else
J15 false h14))))) fun J4 =>
M.load h3 (Addr.add (⟨b2, 0, none⟩ : Addr) 1) fun v5 =>
M.int .i64 v5 fun n6 =>
(bif (n6 != (2 : Int)) then
M.load h3 (Addr.add (⟨b2, 0, none⟩ : Addr) 1) fun v7 =>
M.int .i64 v7 fun n8 =>
(bif (n8 != (4 : Int)) then
M.load h3 (Addr.add (⟨b2, 0, none⟩ : Addr) 1) fun v9 =>
M.int .i64 v9 fun n10 =>
(bif (n10 != (8 : Int)) then
M.load h3 (Addr.add (⟨b2, 0, none⟩ : Addr) 1) fun v11 =>
M.int .i64 v11 fun n12 =>
J4 (n12 != (16 : Int)) h3
else
J4 false h3)
else
J4 false h3)
else
J4 false h3)
def ref18_Good.L : List Value → (Value → H → Prop) → H → Prop
  | [.agg ⟨[.int .i64 x_l_0, .int .i64 x_l_1, .int .i64 x_l_2, .bool x_l_3]⟩] => fun Q h => ref18_Good x_l_0 x_l_1 x_l_2 x_l_3 h fun b39 h40 => Q (.bool b39) h40
  | _ => fun _ _ => False
def ref18_Good.W : W := fun args => ref18_Good.L args.toList
def ref18_Good.ann : Ann := ⟨lookN [(1, [(20, .bool)]), (3, [(37, .bool)]), (5, [(2, .bool)])], lookN [], lookN []⟩
def ref18_Good.env : Env := envOf []
theorem ref18_Good.eq (x_l_0 : Int) (x_l_1 : Int) (x_l_2 : Int) (x_l_3 : Bool) (Q : Value → H → Prop) (h : H) : evF Tryd.prog ref18_Good.env Tryd.f10 ref18_Good.ann [(.agg (#[(.int .i64 x_l_0), (.int .i64 x_l_1), (.int .i64 x_l_2), (.bool x_l_3)] : Array Value))] Q h = ref18_Good x_l_0 x_l_1 x_l_2 x_l_3 h fun b39 h40 => Q (.bool b39) h40 := by kernel_rfl
theorem ref18_Good.W_eq (x_l_0 : Int) (x_l_1 : Int) (x_l_2 : Int) (x_l_3 : Bool) (Q : Value → H → Prop) (h : H) : ref18_Good.W #[(.agg (#[(.int .i64 x_l_0), (.int .i64 x_l_1), (.int .i64 x_l_2), (.bool x_l_3)] : Array Value))] Q h = ref18_Good x_l_0 x_l_1 x_l_2 x_l_3 h fun b39 h40 => Q (.bool b39) h40 := by kernel_rfl
theorem ref18_Good.good : FnGood Tryd.prog 10 ref18_Good.W := by
  refine FnGood.of (ann := ref18_Good.ann) (env := ref18_Good.env) mixed EnvGood.nil Tryd.func10 Tryd.call10 fun args => ?_
  show ref18_Good.L args.toList = _ ∨ ∀ Q m, evF Tryd.prog ref18_Good.env Tryd.f10 ref18_Good.ann args.toList Q m = ref18_Good.L args.toList Q m
  generalize args.toList = l
  unfold ref18_Good.L
  split
  · exact .inr fun Q m => ref18_Good.eq _ _ _ _ Q m
  · exact .inl rfl

def ref18_Wide (x_l_0 : Int) (x_l_1 : Int) (x_l_2 : Int) (x_l_3 : Bool) (x_stripe : Int) (h : H) (Q : Int → H → Prop) : Prop :=
M.new h (.cells (#[(.int .i64 x_l_0), (.int .i64 x_l_1), (.int .i64 x_l_2), (.bool x_l_3)] : Array Value) 25) fun b2 h3 =>
M.load h3 ((⟨b2, 0, none⟩ : Addr).add 0) fun v4 =>
M.int .i64 v4 fun n5 =>
M.load h3 ((⟨b2, 0, none⟩ : Addr).add 1) fun v6 =>
M.int .i64 v6 fun n7 =>
M.load h3 ((⟨b2, 0, none⟩ : Addr).add 2) fun v8 =>
M.int .i64 v8 fun n9 =>
M.load h3 ((⟨b2, 0, none⟩ : Addr).add 3) fun v10 =>
M.bool v10 fun b11 =>
ref18_Good n5 n7 n9 b11 h3 fun b12 h13 =>
M.join (α := Bool) (fun d17 h18 =>
(bif d17 then
Q (0 : Int) h18
else
M.join (α := Bool) (fun d24 h25 =>
(bif d24 then
M.load h25 (Addr.add (⟨b2, 0, none⟩ : Addr) 0) fun v26 =>
M.int .i64 v26 fun n27 =>
M.val (IntKind.wrap .i64 (n27 + (1 : Int))) fun z28 =>
Q z28 h25
else
M.load h25 (Addr.add (⟨b2, 0, none⟩ : Addr) 0) fun v29 =>
M.int .i64 v29 fun n30 =>
Q n30 h25)) fun J19 =>
M.load h18 (Addr.add (⟨b2, 0, none⟩ : Addr) 3) fun v20 =>
M.bool v20 fun b21 =>
(bif b21 then
M.load h18 (Addr.add (⟨b2, 0, none⟩ : Addr) 2) fun v22 =>
M.int .i64 v22 fun n23 =>
J19 (decide (x_stripe < n23)) h18
else
J19 false h18))) fun J14 =>
(bif (!b12) then
J14 true h13
else
(bif (decide (x_stripe < (0 : Int))) then
J14 true h13
else
M.load h13 (Addr.add (⟨b2, 0, none⟩ : Addr) 1) fun v15 =>
M.int .i64 v15 fun n16 =>
J14 (decide (x_stripe ≥ n16)) h13))
def ref18_Wide.L : List Value → (Value → H → Prop) → H → Prop
  | [.agg ⟨[.int .i64 x_l_0, .int .i64 x_l_1, .int .i64 x_l_2, .bool x_l_3]⟩, .int .i64 x_stripe] => fun Q h => ref18_Wide x_l_0 x_l_1 x_l_2 x_l_3 x_stripe h fun n31 h32 => Q (.int .i64 n31) h32
  | _ => fun _ _ => False
def ref18_Wide.W : W := fun args => ref18_Wide.L args.toList
def ref18_Wide.ann : Ann := ⟨lookN [(2, [(19, .bool)]), (4, [(27, .bool)])], lookN [], lookN []⟩
def ref18_Wide.env : Env := envOf [(10, ref18_Good.W)]
theorem ref18_Wide.eq (x_l_0 : Int) (x_l_1 : Int) (x_l_2 : Int) (x_l_3 : Bool) (x_stripe : Int) (Q : Value → H → Prop) (h : H) : evF Tryd.prog ref18_Wide.env Tryd.f15 ref18_Wide.ann [(.agg (#[(.int .i64 x_l_0), (.int .i64 x_l_1), (.int .i64 x_l_2), (.bool x_l_3)] : Array Value)), (.int .i64 x_stripe)] Q h = ref18_Wide x_l_0 x_l_1 x_l_2 x_l_3 x_stripe h fun n31 h32 => Q (.int .i64 n31) h32 := by kernel_rfl
theorem ref18_Wide.W_eq (x_l_0 : Int) (x_l_1 : Int) (x_l_2 : Int) (x_l_3 : Bool) (x_stripe : Int) (Q : Value → H → Prop) (h : H) : ref18_Wide.W #[(.agg (#[(.int .i64 x_l_0), (.int .i64 x_l_1), (.int .i64 x_l_2), (.bool x_l_3)] : Array Value)), (.int .i64 x_stripe)] Q h = ref18_Wide x_l_0 x_l_1 x_l_2 x_l_3 x_stripe h fun n31 h32 => Q (.int .i64 n31) h32 := by kernel_rfl
theorem ref18_Wide.good : FnGood Tryd.prog 15 ref18_Wide.W := by
  refine FnGood.of (ann := ref18_Wide.ann) (env := ref18_Wide.env) mixed (EnvGood.cons ref18_Good.good EnvGood.nil) Tryd.func15 Tryd.call15 fun args => ?_
  show ref18_Wide.L args.toList = _ ∨ ∀ Q m, evF Tryd.prog ref18_Wide.env Tryd.f15 ref18_Wide.ann args.toList Q m = ref18_Wide.L args.toList Q m
  generalize args.toList = l
  unfold ref18_Wide.L
  split
  · exact .inr fun Q m => ref18_Wide.eq _ _ _ _ _ Q m
  · exact .inl rfl

def law18_good (x_x_0 : Int) (x_x_1 : Int) (x_x_2 : Int) (x_x_3 : Bool) (h : H) (Q : Int → Int → Int → Bool → H → Prop) : Prop :=
M.new h (.cells (#[(.int .i64 x_x_0), (.int .i64 x_x_1), (.int .i64 x_x_2), (.bool x_x_3)] : Array Value) 23) fun b5 h6 =>
M.new h6 (.cells (#[(.int .i64 (0 : Int)), (.int .i64 (0 : Int)), (.int .i64 (0 : Int)), (.bool false)] : Array Value) 24) fun b7 h8 =>
M.load h8 (Addr.add (⟨b5, 0, none⟩ : Addr) 0) fun v9 =>
M.int .i64 v9 fun n10 =>
M.nz (6 : Int) (
M.val (Int.tmod (mx (0 : Int) n10) (6 : Int)) fun z11 =>
M.val (IntKind.wrap .i64 ((2 : Int) + z11)) fun z12 =>
M.load h8 (Addr.add (⟨b5, 0, none⟩ : Addr) 1) fun v13 =>
M.int .i64 v13 fun n14 =>
M.nz (4 : Int) (
M.val (Int.tmod (mx (0 : Int) n14) (4 : Int)) fun z15 =>
M.shr0 z15 (
M.val (shl .i64 (2 : Int) z15) fun z16 =>
M.load h8 (Addr.add (⟨b5, 0, none⟩ : Addr) 3) fun v17 =>
M.bool v17 fun b18 =>
M.new h8 (.cells (#[(.int .i64 (0 : Int)), (.int .i64 (0 : Int)), (.int .i64 (0 : Int)), (.bool false)] : Array Value) 24) fun b19 h20 =>
M.still h8 (Addr.add (⟨b5, 0, none⟩ : Addr) 3) 1 h20 (
M.still h8 (Addr.add (⟨b5, 0, none⟩ : Addr) 1) 1 h20 (
M.still h8 (Addr.add (⟨b5, 0, none⟩ : Addr) 0) 1 h20 (
M.req (Array.size (#[(.int .i64 z12), (.int .i64 z16), (.int .i64 (0 : Int)), (.bool b18)] : Array Value) = 4) (M.puts h20 (⟨b19, 0, none⟩ : Addr) [(.int .i64 z12), (.int .i64 z16), (.int .i64 (0 : Int)), (.bool b18)] fun h21 =>
M.load h21 (Addr.add (⟨b5, 0, none⟩ : Addr) 3) fun v22 =>
M.bool v22 fun b23 =>
(bif b23 then
M.load h21 (Addr.add (⟨b5, 0, none⟩ : Addr) 2) fun v24 =>
M.int .i64 v24 fun n25 =>
M.load h21 (Addr.add (⟨b19, 0, none⟩ : Addr) 1) fun v26 =>
M.int .i64 v26 fun n27 =>
M.nz n27 (
M.val (Int.tmod (mx (0 : Int) n25) n27) fun z28 =>
M.put h21 (Addr.add (⟨b19, 0, none⟩ : Addr) 2) (.int .i64 z28) fun h29 =>
M.load h29 ((⟨b19, 0, none⟩ : Addr).add 0) fun v30 =>
M.int .i64 v30 fun n31 =>
M.load h29 ((⟨b19, 0, none⟩ : Addr).add 1) fun v32 =>
M.int .i64 v32 fun n33 =>
M.load h29 ((⟨b19, 0, none⟩ : Addr).add 2) fun v34 =>
M.int .i64 v34 fun n35 =>
M.load h29 ((⟨b19, 0, none⟩ : Addr).add 3) fun v36 =>
M.bool v36 fun b37 =>
M.req (Array.size (#[(.int .i64 n31), (.int .i64 n33), (.int .i64 n35), (.bool b37)] : Array Value) = 4) (M.puts h29 (⟨b7, 0, none⟩ : Addr) [(.int .i64 n31), (.int .i64 n33), (.int .i64 n35), (.bool b37)] fun h38 =>
M.load h38 ((⟨b7, 0, none⟩ : Addr).add 0) fun v39 =>
M.int .i64 v39 fun n40 =>
M.load h38 ((⟨b7, 0, none⟩ : Addr).add 1) fun v41 =>
M.int .i64 v41 fun n42 =>
M.load h38 ((⟨b7, 0, none⟩ : Addr).add 2) fun v43 =>
M.int .i64 v43 fun n44 =>
M.load h38 ((⟨b7, 0, none⟩ : Addr).add 3) fun v45 =>
M.bool v45 fun b46 =>
Q n40 n42 n44 b46 h38))
else
M.load h21 ((⟨b19, 0, none⟩ : Addr).add 0) fun v47 =>
M.int .i64 v47 fun n48 =>
M.load h21 ((⟨b19, 0, none⟩ : Addr).add 1) fun v49 =>
M.int .i64 v49 fun n50 =>
M.load h21 ((⟨b19, 0, none⟩ : Addr).add 2) fun v51 =>
M.int .i64 v51 fun n52 =>
M.load h21 ((⟨b19, 0, none⟩ : Addr).add 3) fun v53 =>
M.bool v53 fun b54 =>
M.req (Array.size (#[(.int .i64 n48), (.int .i64 n50), (.int .i64 n52), (.bool b54)] : Array Value) = 4) (M.puts h21 (⟨b7, 0, none⟩ : Addr) [(.int .i64 n48), (.int .i64 n50), (.int .i64 n52), (.bool b54)] fun h55 =>
M.load h55 ((⟨b7, 0, none⟩ : Addr).add 0) fun v56 =>
M.int .i64 v56 fun n57 =>
M.load h55 ((⟨b7, 0, none⟩ : Addr).add 1) fun v58 =>
M.int .i64 v58 fun n59 =>
M.load h55 ((⟨b7, 0, none⟩ : Addr).add 2) fun v60 =>
M.int .i64 v60 fun n61 =>
M.load h55 ((⟨b7, 0, none⟩ : Addr).add 3) fun v62 =>
M.bool v62 fun b63 =>
Q n57 n59 n61 b63 h55)))))))))
def law18_good.L : List Value → (Value → H → Prop) → H → Prop
  | [.agg ⟨[.int .i64 x_x_0, .int .i64 x_x_1, .int .i64 x_x_2, .bool x_x_3]⟩] => fun Q h => law18_good x_x_0 x_x_1 x_x_2 x_x_3 h fun n64 n65 n66 b67 h68 => Q (.agg (#[(.int .i64 n64), (.int .i64 n65), (.int .i64 n66), (.bool b67)] : Array Value)) h68
  | _ => fun _ _ => False
def law18_good.W : W := fun args => law18_good.L args.toList
def law18_good.ann : Ann := ⟨lookN [], lookN [], lookN []⟩
def law18_good.env : Env := envOf []
theorem law18_good.eq (x_x_0 : Int) (x_x_1 : Int) (x_x_2 : Int) (x_x_3 : Bool) (Q : Value → H → Prop) (h : H) : evF Tryd.prog law18_good.env Tryd.f16 law18_good.ann [(.agg (#[(.int .i64 x_x_0), (.int .i64 x_x_1), (.int .i64 x_x_2), (.bool x_x_3)] : Array Value))] Q h = law18_good x_x_0 x_x_1 x_x_2 x_x_3 h fun n64 n65 n66 b67 h68 => Q (.agg (#[(.int .i64 n64), (.int .i64 n65), (.int .i64 n66), (.bool b67)] : Array Value)) h68 := by kernel_rfl
theorem law18_good.W_eq (x_x_0 : Int) (x_x_1 : Int) (x_x_2 : Int) (x_x_3 : Bool) (Q : Value → H → Prop) (h : H) : law18_good.W #[(.agg (#[(.int .i64 x_x_0), (.int .i64 x_x_1), (.int .i64 x_x_2), (.bool x_x_3)] : Array Value))] Q h = law18_good x_x_0 x_x_1 x_x_2 x_x_3 h fun n64 n65 n66 b67 h68 => Q (.agg (#[(.int .i64 n64), (.int .i64 n65), (.int .i64 n66), (.bool b67)] : Array Value)) h68 := by kernel_rfl
theorem law18_good.good : FnGood Tryd.prog 16 law18_good.W := by
  refine FnGood.of (ann := law18_good.ann) (env := law18_good.env) mixed EnvGood.nil Tryd.func16 Tryd.call16 fun args => ?_
  show law18_good.L args.toList = _ ∨ ∀ Q m, evF Tryd.prog law18_good.env Tryd.f16 law18_good.ann args.toList Q m = law18_good.L args.toList Q m
  generalize args.toList = l
  unfold law18_good.L
  split
  · exact .inr fun Q m => law18_good.eq _ _ _ _ Q m
  · exact .inl rfl

def ref18_Find (x_l_0 : Int) (x_l_1 : Int) (x_l_2 : Int) (x_l_3 : Bool) (x_block : Int) (h : H) (Q : Int → Int → Int → H → Prop) : Prop :=
M.new h (.cells (#[(.int .i64 x_l_0), (.int .i64 x_l_1), (.int .i64 x_l_2), (.bool x_l_3)] : Array Value) 25) fun b4 h5 =>
M.load h5 ((⟨b4, 0, none⟩ : Addr).add 0) fun v6 =>
M.int .i64 v6 fun n7 =>
M.load h5 ((⟨b4, 0, none⟩ : Addr).add 1) fun v8 =>
M.int .i64 v8 fun n9 =>
M.load h5 ((⟨b4, 0, none⟩ : Addr).add 2) fun v10 =>
M.int .i64 v10 fun n11 =>
M.load h5 ((⟨b4, 0, none⟩ : Addr).add 3) fun v12 =>
M.bool v12 fun b13 =>
ref18_Good n7 n9 n11 b13 h5 fun b14 h15 =>
(bif (!b14) then
Q (0 : Int) (0 : Int) (4 : Int) h15
else
M.join (α := Bool) (fun d22 h23 =>
(bif d22 then
Q (0 : Int) (0 : Int) (2 : Int) h23
else
M.join (α := Unit) (fun d66 h67 =>
Q (0 : Int) (0 : Int) (2 : Int) h67) fun J24 =>
M.loop (α := Int) (fun J25 d26 h27 =>
M.load h27 (Addr.add (⟨b4, 0, none⟩ : Addr) 1) fun v28 =>
M.int .i64 v28 fun n29 =>
(bif (decide (d26 < n29)) then
M.join (α := Unit) (fun d63 h64 =>
M.val (IntKind.wrap .i64 (d26 + (1 : Int))) fun z65 =>
J25 z65 h64) fun J30 =>
M.load h27 ((⟨b4, 0, none⟩ : Addr).add 0) fun v31 =>
M.int .i64 v31 fun n32 =>
M.load h27 ((⟨b4, 0, none⟩ : Addr).add 1) fun v33 =>
M.int .i64 v33 fun n34 =>
M.load h27 ((⟨b4, 0, none⟩ : Addr).add 2) fun v35 =>
M.int .i64 v35 fun n36 =>
M.load h27 ((⟨b4, 0, none⟩ : Addr).add 3) fun v37 =>
M.bool v37 fun b38 =>
ref18_Wide n32 n34 n36 b38 d26 h27 fun n39 h40 =>
M.join (α := Bool) (fun d46 h47 =>
M.load h47 (Addr.add (⟨b4, 0, none⟩ : Addr) 2) fun v48 =>
M.int .i64 v48 fun n49 =>
M.load h47 (Addr.add (⟨b4, 0, none⟩ : Addr) 0) fun v50 =>
M.int .i64 v50 fun n51 =>
M.val (IntKind.wrap .i64 (n51 + (1 : Int))) fun z52 =>
M.val (IntKind.wrap .i64 (n49 * z52)) fun z53 =>
M.loop (α := Int) (fun J54 d55 h56 =>
(bif (decide (d55 < n39)) then
M.join (α := Bool) (fun d60 h61 =>
(bif d60 then
Q d26 d55 (0 : Int) h61
else
M.val (IntKind.wrap .i64 (d55 + (1 : Int))) fun z62 =>
J54 z62 h61)) fun J57 =>
(bif (d46 == (decide (x_block < z53))) then
M.val (IntKind.wrap .i64 (d26 * n39)) fun z58 =>
M.val (IntKind.wrap .i64 (z58 + d55)) fun z59 =>
J57 (z59 == x_block) h56
else
J57 false h56)
else
J30 () h56)) (0 : Int) h47) fun J41 =>
M.load h40 (Addr.add (⟨b4, 0, none⟩ : Addr) 3) fun v42 =>
M.bool v42 fun b43 =>
(bif b43 then
M.load h40 (Addr.add (⟨b4, 0, none⟩ : Addr) 2) fun v44 =>
M.int .i64 v44 fun n45 =>
J41 (decide (d26 < n45)) h40
else
J41 false h40)
else
J24 () h27)) (0 : Int) h23)) fun J16 =>
(bif (decide (x_block < (0 : Int))) then
J16 true h15
else
M.load h15 (Addr.add (⟨b4, 0, none⟩ : Addr) 1) fun v17 =>
M.int .i64 v17 fun n18 =>
M.load h15 (Addr.add (⟨b4, 0, none⟩ : Addr) 0) fun v19 =>
M.int .i64 v19 fun n20 =>
M.val (IntKind.wrap .i64 (n18 * n20)) fun z21 =>
J16 (decide (x_block ≥ z21)) h15))
def ref18_Find.L : List Value → (Value → H → Prop) → H → Prop
  | [.agg ⟨[.int .i64 x_l_0, .int .i64 x_l_1, .int .i64 x_l_2, .bool x_l_3]⟩, .int .i64 x_block] => fun Q h => ref18_Find x_l_0 x_l_1 x_l_2 x_l_3 x_block h fun n68 n69 n70 h71 => Q (.tuple #[(.int .i64 n68), (.int .i64 n69), (.int .i64 n70)]) h71
  | _ => fun _ _ => False
def ref18_Find.W : W := fun args => ref18_Find.L args.toList
def ref18_Find.ann : Ann := ⟨lookN [(4, [(27, .bool)]), (10, [(10, .bool)]), (15, [(69, .bool)])], lookN [(31, []), (1001, [])], lookN [(250, [(8, .int .i64)]), (128158, [(12, .int .i64)])]⟩
def ref18_Find.env : Env := envOf [(10, ref18_Good.W), (15, ref18_Wide.W)]
theorem ref18_Find.eq (x_l_0 : Int) (x_l_1 : Int) (x_l_2 : Int) (x_l_3 : Bool) (x_block : Int) (Q : Value → H → Prop) (h : H) : evF Tryd.prog ref18_Find.env Tryd.f18 ref18_Find.ann [(.agg (#[(.int .i64 x_l_0), (.int .i64 x_l_1), (.int .i64 x_l_2), (.bool x_l_3)] : Array Value)), (.int .i64 x_block)] Q h = ref18_Find x_l_0 x_l_1 x_l_2 x_l_3 x_block h fun n68 n69 n70 h71 => Q (.tuple #[(.int .i64 n68), (.int .i64 n69), (.int .i64 n70)]) h71 := by kernel_rfl
theorem ref18_Find.W_eq (x_l_0 : Int) (x_l_1 : Int) (x_l_2 : Int) (x_l_3 : Bool) (x_block : Int) (Q : Value → H → Prop) (h : H) : ref18_Find.W #[(.agg (#[(.int .i64 x_l_0), (.int .i64 x_l_1), (.int .i64 x_l_2), (.bool x_l_3)] : Array Value)), (.int .i64 x_block)] Q h = ref18_Find x_l_0 x_l_1 x_l_2 x_l_3 x_block h fun n68 n69 n70 h71 => Q (.tuple #[(.int .i64 n68), (.int .i64 n69), (.int .i64 n70)]) h71 := by kernel_rfl
theorem ref18_Find.good : FnGood Tryd.prog 18 ref18_Find.W := by
  refine FnGood.of (ann := ref18_Find.ann) (env := ref18_Find.env) mixed (EnvGood.cons ref18_Good.good (EnvGood.cons ref18_Wide.good EnvGood.nil)) Tryd.func18 Tryd.call18 fun args => ?_
  show ref18_Find.L args.toList = _ ∨ ∀ Q m, evF Tryd.prog ref18_Find.env Tryd.f18 ref18_Find.ann args.toList Q m = ref18_Find.L args.toList Q m
  generalize args.toList = l
  unfold ref18_Find.L
  split
  · exact .inr fun Q m => ref18_Find.eq _ _ _ _ _ Q m
  · exact .inl rfl

def ref18_Seat (x_l_0 : Int) (x_l_1 : Int) (x_l_2 : Int) (x_l_3 : Bool) (x_stripe : Int) (x_chunk : Int) (h : H) (Q : Int → Int → H → Prop) : Prop :=
M.new h (.cells (#[(.int .i64 x_l_0), (.int .i64 x_l_1), (.int .i64 x_l_2), (.bool x_l_3)] : Array Value) 25) fun b3 h4 =>
M.load h4 ((⟨b3, 0, none⟩ : Addr).add 0) fun v5 =>
M.int .i64 v5 fun n6 =>
M.load h4 ((⟨b3, 0, none⟩ : Addr).add 1) fun v7 =>
M.int .i64 v7 fun n8 =>
M.load h4 ((⟨b3, 0, none⟩ : Addr).add 2) fun v9 =>
M.int .i64 v9 fun n10 =>
M.load h4 ((⟨b3, 0, none⟩ : Addr).add 3) fun v11 =>
M.bool v11 fun b12 =>
ref18_Good n6 n8 n10 b12 h4 fun b13 h14 =>
(bif (!b13) then
Q (0 : Int) (4 : Int) h14
else
M.load h14 ((⟨b3, 0, none⟩ : Addr).add 0) fun v15 =>
M.int .i64 v15 fun n16 =>
M.load h14 ((⟨b3, 0, none⟩ : Addr).add 1) fun v17 =>
M.int .i64 v17 fun n18 =>
M.load h14 ((⟨b3, 0, none⟩ : Addr).add 2) fun v19 =>
M.int .i64 v19 fun n20 =>
M.load h14 ((⟨b3, 0, none⟩ : Addr).add 3) fun v21 =>
M.bool v21 fun b22 =>
ref18_Wide n16 n18 n20 b22 x_stripe h14 fun n23 h24 =>
M.join (α := Bool) (fun d27 h28 =>
(bif d27 then
Q (0 : Int) (2 : Int) h28
else
M.val (IntKind.wrap .i64 (x_chunk + x_stripe)) fun z29 =>
M.val (IntKind.wrap .i64 (n23 + (2 : Int))) fun z30 =>
M.nz z30 (
M.val (Int.tmod z29 z30) fun z31 =>
Q z31 (0 : Int) h28))) fun J25 =>
(bif (n23 == (0 : Int)) then
J25 true h24
else
(bif (decide (x_chunk < (0 : Int))) then
J25 true h24
else
M.val (IntKind.wrap .i64 (n23 + (2 : Int))) fun z26 =>
J25 (decide (x_chunk ≥ z26)) h24)))
def ref18_Seat.L : List Value → (Value → H → Prop) → H → Prop
  | [.agg ⟨[.int .i64 x_l_0, .int .i64 x_l_1, .int .i64 x_l_2, .bool x_l_3]⟩, .int .i64 x_stripe, .int .i64 x_chunk] => fun Q h => ref18_Seat x_l_0 x_l_1 x_l_2 x_l_3 x_stripe x_chunk h fun n32 n33 h34 => Q (.tuple #[(.int .i64 n32), (.int .i64 n33)]) h34
  | _ => fun _ _ => False
def ref18_Seat.W : W := fun args => ref18_Seat.L args.toList
def ref18_Seat.ann : Ann := ⟨lookN [(5, [(28, .bool)])], lookN [], lookN []⟩
def ref18_Seat.env : Env := envOf [(10, ref18_Good.W), (15, ref18_Wide.W)]
theorem ref18_Seat.eq (x_l_0 : Int) (x_l_1 : Int) (x_l_2 : Int) (x_l_3 : Bool) (x_stripe : Int) (x_chunk : Int) (Q : Value → H → Prop) (h : H) : evF Tryd.prog ref18_Seat.env Tryd.f20 ref18_Seat.ann [(.agg (#[(.int .i64 x_l_0), (.int .i64 x_l_1), (.int .i64 x_l_2), (.bool x_l_3)] : Array Value)), (.int .i64 x_stripe), (.int .i64 x_chunk)] Q h = ref18_Seat x_l_0 x_l_1 x_l_2 x_l_3 x_stripe x_chunk h fun n32 n33 h34 => Q (.tuple #[(.int .i64 n32), (.int .i64 n33)]) h34 := by kernel_rfl
theorem ref18_Seat.W_eq (x_l_0 : Int) (x_l_1 : Int) (x_l_2 : Int) (x_l_3 : Bool) (x_stripe : Int) (x_chunk : Int) (Q : Value → H → Prop) (h : H) : ref18_Seat.W #[(.agg (#[(.int .i64 x_l_0), (.int .i64 x_l_1), (.int .i64 x_l_2), (.bool x_l_3)] : Array Value)), (.int .i64 x_stripe), (.int .i64 x_chunk)] Q h = ref18_Seat x_l_0 x_l_1 x_l_2 x_l_3 x_stripe x_chunk h fun n32 n33 h34 => Q (.tuple #[(.int .i64 n32), (.int .i64 n33)]) h34 := by kernel_rfl
theorem ref18_Seat.good : FnGood Tryd.prog 20 ref18_Seat.W := by
  refine FnGood.of (ann := ref18_Seat.ann) (env := ref18_Seat.env) mixed (EnvGood.cons ref18_Good.good (EnvGood.cons ref18_Wide.good EnvGood.nil)) Tryd.func20 Tryd.call20 fun args => ?_
  show ref18_Seat.L args.toList = _ ∨ ∀ Q m, evF Tryd.prog ref18_Seat.env Tryd.f20 ref18_Seat.ann args.toList Q m = ref18_Seat.L args.toList Q m
  generalize args.toList = l
  unfold ref18_Seat.L
  split
  · exact .inr fun Q m => ref18_Seat.eq _ _ _ _ _ _ Q m
  · exact .inl rfl

def ref18_Chunk (x_l_0 : Int) (x_l_1 : Int) (x_l_2 : Int) (x_l_3 : Bool) (x_stripe : Int) (x_seat : Int) (h : H) (Q : Int → Bool → H → Prop) : Prop :=
M.new h (.cells (#[(.int .i64 x_l_0), (.int .i64 x_l_1), (.int .i64 x_l_2), (.bool x_l_3)] : Array Value) 25) fun b3 h4 =>
M.load h4 ((⟨b3, 0, none⟩ : Addr).add 0) fun v5 =>
M.int .i64 v5 fun n6 =>
M.load h4 ((⟨b3, 0, none⟩ : Addr).add 1) fun v7 =>
M.int .i64 v7 fun n8 =>
M.load h4 ((⟨b3, 0, none⟩ : Addr).add 2) fun v9 =>
M.int .i64 v9 fun n10 =>
M.load h4 ((⟨b3, 0, none⟩ : Addr).add 3) fun v11 =>
M.bool v11 fun b12 =>
ref18_Wide n6 n8 n10 b12 x_stripe h4 fun n13 h14 =>
M.loop (α := Int) (fun J15 d16 h17 =>
M.join (α := Bool) (fun d20 h21 =>
(bif d20 then
M.load h21 ((⟨b3, 0, none⟩ : Addr).add 0) fun v22 =>
M.int .i64 v22 fun n23 =>
M.load h21 ((⟨b3, 0, none⟩ : Addr).add 1) fun v24 =>
M.int .i64 v24 fun n25 =>
M.load h21 ((⟨b3, 0, none⟩ : Addr).add 2) fun v26 =>
M.int .i64 v26 fun n27 =>
M.load h21 ((⟨b3, 0, none⟩ : Addr).add 3) fun v28 =>
M.bool v28 fun b29 =>
ref18_Seat n23 n25 n27 b29 x_stripe d16 h21 fun n30 n31 h32 =>
(bif (n30 == x_seat) then
Q d16 true h32
else
M.val (IntKind.wrap .i64 (d16 + (1 : Int))) fun z33 =>
J15 z33 h32)
else
Q (0 : Int) false h21)) fun J18 =>
(bif (decide (n13 > (0 : Int))) then
M.val (IntKind.wrap .i64 (n13 + (2 : Int))) fun z19 =>
J18 (decide (d16 < z19)) h17
else
J18 false h17)) (0 : Int) h14
def ref18_Chunk.L : List Value → (Value → H → Prop) → H → Prop
  | [.agg ⟨[.int .i64 x_l_0, .int .i64 x_l_1, .int .i64 x_l_2, .bool x_l_3]⟩, .int .i64 x_stripe, .int .i64 x_seat] => fun Q h => ref18_Chunk x_l_0 x_l_1 x_l_2 x_l_3 x_stripe x_seat h fun n34 b35 h36 => Q (.tuple #[(.int .i64 n34), (.bool b35)]) h36
  | _ => fun _ _ => False
def ref18_Chunk.W : W := fun args => ref18_Chunk.L args.toList
def ref18_Chunk.ann : Ann := ⟨lookN [(3, [(22, .bool)])], lookN [], lookN [(58, [(9, .int .i64)])]⟩
def ref18_Chunk.env : Env := envOf [(15, ref18_Wide.W), (20, ref18_Seat.W)]
theorem ref18_Chunk.eq (x_l_0 : Int) (x_l_1 : Int) (x_l_2 : Int) (x_l_3 : Bool) (x_stripe : Int) (x_seat : Int) (Q : Value → H → Prop) (h : H) : evF Tryd.prog ref18_Chunk.env Tryd.f22 ref18_Chunk.ann [(.agg (#[(.int .i64 x_l_0), (.int .i64 x_l_1), (.int .i64 x_l_2), (.bool x_l_3)] : Array Value)), (.int .i64 x_stripe), (.int .i64 x_seat)] Q h = ref18_Chunk x_l_0 x_l_1 x_l_2 x_l_3 x_stripe x_seat h fun n34 b35 h36 => Q (.tuple #[(.int .i64 n34), (.bool b35)]) h36 := by kernel_rfl
theorem ref18_Chunk.W_eq (x_l_0 : Int) (x_l_1 : Int) (x_l_2 : Int) (x_l_3 : Bool) (x_stripe : Int) (x_seat : Int) (Q : Value → H → Prop) (h : H) : ref18_Chunk.W #[(.agg (#[(.int .i64 x_l_0), (.int .i64 x_l_1), (.int .i64 x_l_2), (.bool x_l_3)] : Array Value)), (.int .i64 x_stripe), (.int .i64 x_seat)] Q h = ref18_Chunk x_l_0 x_l_1 x_l_2 x_l_3 x_stripe x_seat h fun n34 b35 h36 => Q (.tuple #[(.int .i64 n34), (.bool b35)]) h36 := by kernel_rfl
theorem ref18_Chunk.good : FnGood Tryd.prog 22 ref18_Chunk.W := by
  refine FnGood.of (ann := ref18_Chunk.ann) (env := ref18_Chunk.env) mixed (EnvGood.cons ref18_Wide.good (EnvGood.cons ref18_Seat.good EnvGood.nil)) Tryd.func22 Tryd.call22 fun args => ?_
  show ref18_Chunk.L args.toList = _ ∨ ∀ Q m, evF Tryd.prog ref18_Chunk.env Tryd.f22 ref18_Chunk.ann args.toList Q m = ref18_Chunk.L args.toList Q m
  generalize args.toList = l
  unfold ref18_Chunk.L
  split
  · exact .inr fun Q m => ref18_Chunk.eq _ _ _ _ _ _ Q m
  · exact .inl rfl

def ref18_Moves (x_l_0 : Int) (x_l_1 : Int) (x_l_2 : Int) (x_l_3 : Bool) (h : H) (Q : Option Addr → Nat → Nat → Int → H → Prop) : Prop :=
M.new h (.cells (#[(.int .i64 x_l_0), (.int .i64 x_l_1), (.int .i64 x_l_2), (.bool x_l_3)] : Array Value) 25) fun b5 h6 =>
M.load h6 ((⟨b5, 0, none⟩ : Addr).add 0) fun v7 =>
M.int .i64 v7 fun n8 =>
M.load h6 ((⟨b5, 0, none⟩ : Addr).add 1) fun v9 =>
M.int .i64 v9 fun n10 =>
M.load h6 ((⟨b5, 0, none⟩ : Addr).add 2) fun v11 =>
M.int .i64 v11 fun n12 =>
M.load h6 ((⟨b5, 0, none⟩ : Addr).add 3) fun v13 =>
M.bool v13 fun b14 =>
ref18_Good n8 n10 n12 b14 h6 fun b15 h16 =>
(bif (!b15) then
Q none 0 0 (4 : Int) h16
else
M.load h16 (Addr.add (⟨b5, 0, none⟩ : Addr) 3) fun v17 =>
M.bool v17 fun b18 =>
(bif (!b18) then
Q none 0 0 (12 : Int) h16
else
M.join (α := (Option Addr × Nat × Nat)) (fun d40 h41 =>
Q d40.1 d40.2.1 d40.2.2 (0 : Int) h41) fun J19 =>
M.loop (α := (Option Addr × Nat × Nat) × Int) (fun J20 d21 h22 =>
M.load h22 (Addr.add (⟨b5, 0, none⟩ : Addr) 0) fun v23 =>
M.int .i64 v23 fun n24 =>
(bif (decide (d21.2 ≤ n24)) then
M.load h22 (Addr.add (⟨b5, 0, none⟩ : Addr) 2) fun v25 =>
M.int .i64 v25 fun n26 =>
M.load h22 (Addr.add (⟨b5, 0, none⟩ : Addr) 0) fun v27 =>
M.int .i64 v27 fun n28 =>
M.val (IntKind.wrap .i64 (n28 + (1 : Int))) fun z29 =>
M.val (IntKind.wrap .i64 (n26 * z29)) fun z30 =>
M.val (IntKind.wrap .i64 (z30 + d21.2)) fun z31 =>
M.new h22 (.cells (#[(.int .i64 z31)] : Array Value) 3) fun b32 h33 =>
M.cellsOf h33 (some (⟨b32, 0, none⟩ : Addr)) (1 * 1) fun cs38 =>
M.app h33 3 1 8 [(.int .i64 (0 : Int))] d21.1.1 d21.1.2.1 d21.1.2.2 1 cs38 fun a34 l35 c36 h37 =>
M.val (IntKind.wrap .i64 (d21.2 + (1 : Int))) fun z39 =>
J20 ((a34, l35, c36), z39) h37
else
J19 (d21.1.1, d21.1.2.1, d21.1.2.2) h22)) ((none, 0, 0), (0 : Int)) h16))
def ref18_Moves.L : List Value → (Value → H → Prop) → H → Prop
  | [.agg ⟨[.int .i64 x_l_0, .int .i64 x_l_1, .int .i64 x_l_2, .bool x_l_3]⟩] => fun Q h => ref18_Moves x_l_0 x_l_1 x_l_2 x_l_3 h fun a42 l43 c44 n45 h46 => Q (.tuple #[(.slice a42 l43 c44), (.int .i64 n45)]) h46
  | _ => fun _ _ => False
def ref18_Moves.W : W := fun args => ref18_Moves.L args.toList
def ref18_Moves.ann : Ann := ⟨lookN [], lookN [(63, [(5, .slc)])], lookN [(506, [(5, .slc), (6, .int .i64)])]⟩
def ref18_Moves.env : Env := envOf [(10, ref18_Good.W)]
theorem ref18_Moves.eq (x_l_0 : Int) (x_l_1 : Int) (x_l_2 : Int) (x_l_3 : Bool) (Q : Value → H → Prop) (h : H) : evF Tryd.prog ref18_Moves.env Tryd.f24 ref18_Moves.ann [(.agg (#[(.int .i64 x_l_0), (.int .i64 x_l_1), (.int .i64 x_l_2), (.bool x_l_3)] : Array Value))] Q h = ref18_Moves x_l_0 x_l_1 x_l_2 x_l_3 h fun a42 l43 c44 n45 h46 => Q (.tuple #[(.slice a42 l43 c44), (.int .i64 n45)]) h46 := by kernel_rfl
theorem ref18_Moves.W_eq (x_l_0 : Int) (x_l_1 : Int) (x_l_2 : Int) (x_l_3 : Bool) (Q : Value → H → Prop) (h : H) : ref18_Moves.W #[(.agg (#[(.int .i64 x_l_0), (.int .i64 x_l_1), (.int .i64 x_l_2), (.bool x_l_3)] : Array Value))] Q h = ref18_Moves x_l_0 x_l_1 x_l_2 x_l_3 h fun a42 l43 c44 n45 h46 => Q (.tuple #[(.slice a42 l43 c44), (.int .i64 n45)]) h46 := by kernel_rfl
theorem ref18_Moves.good : FnGood Tryd.prog 24 ref18_Moves.W := by
  refine FnGood.of (ann := ref18_Moves.ann) (env := ref18_Moves.env) mixed (EnvGood.cons ref18_Good.good EnvGood.nil) Tryd.func24 Tryd.call24 fun args => ?_
  show ref18_Moves.L args.toList = _ ∨ ∀ Q m, evF Tryd.prog ref18_Moves.env Tryd.f24 ref18_Moves.ann args.toList Q m = ref18_Moves.L args.toList Q m
  generalize args.toList = l
  unfold ref18_Moves.L
  split
  · exact .inr fun Q m => ref18_Moves.eq _ _ _ _ Q m
  · exact .inl rfl

def ref18_Step (x_l_0 : Int) (x_l_1 : Int) (x_l_2 : Int) (x_l_3 : Bool) (h : H) (Q : Int → Int → Int → Bool → Int → H → Prop) : Prop :=
M.new h (.cells (#[(.int .i64 x_l_0), (.int .i64 x_l_1), (.int .i64 x_l_2), (.bool x_l_3)] : Array Value) 25) fun b6 h7 =>
M.new h7 (.cells (#[(.int .i64 (0 : Int)), (.int .i64 (0 : Int)), (.int .i64 (0 : Int)), (.bool false)] : Array Value) 25) fun b8 h9 =>
M.load h9 ((⟨b6, 0, none⟩ : Addr).add 0) fun v10 =>
M.int .i64 v10 fun n11 =>
M.load h9 ((⟨b6, 0, none⟩ : Addr).add 1) fun v12 =>
M.int .i64 v12 fun n13 =>
M.load h9 ((⟨b6, 0, none⟩ : Addr).add 2) fun v14 =>
M.int .i64 v14 fun n15 =>
M.load h9 ((⟨b6, 0, none⟩ : Addr).add 3) fun v16 =>
M.bool v16 fun b17 =>
ref18_Good n11 n13 n15 b17 h9 fun b18 h19 =>
(bif (!b18) then
M.req (Array.size (#[(.int .i64 (0 : Int)), (.int .i64 (0 : Int)), (.int .i64 (0 : Int)), (.bool false)] : Array Value) = 4) (M.puts h19 (⟨b8, 0, none⟩ : Addr) [(.int .i64 (0 : Int)), (.int .i64 (0 : Int)), (.int .i64 (0 : Int)), (.bool false)] fun h20 =>
M.load h20 ((⟨b8, 0, none⟩ : Addr).add 0) fun v21 =>
M.int .i64 v21 fun n22 =>
M.load h20 ((⟨b8, 0, none⟩ : Addr).add 1) fun v23 =>
M.int .i64 v23 fun n24 =>
M.load h20 ((⟨b8, 0, none⟩ : Addr).add 2) fun v25 =>
M.int .i64 v25 fun n26 =>
M.load h20 ((⟨b8, 0, none⟩ : Addr).add 3) fun v27 =>
M.bool v27 fun b28 =>
Q n22 n24 n26 b28 (4 : Int) h20)
else
M.load h19 (Addr.add (⟨b6, 0, none⟩ : Addr) 3) fun v29 =>
M.bool v29 fun b30 =>
(bif (!b30) then
M.req (Array.size (#[(.int .i64 (0 : Int)), (.int .i64 (0 : Int)), (.int .i64 (0 : Int)), (.bool false)] : Array Value) = 4) (M.puts h19 (⟨b8, 0, none⟩ : Addr) [(.int .i64 (0 : Int)), (.int .i64 (0 : Int)), (.int .i64 (0 : Int)), (.bool false)] fun h31 =>
M.load h31 ((⟨b8, 0, none⟩ : Addr).add 0) fun v32 =>
M.int .i64 v32 fun n33 =>
M.load h31 ((⟨b8, 0, none⟩ : Addr).add 1) fun v34 =>
M.int .i64 v34 fun n35 =>
M.load h31 ((⟨b8, 0, none⟩ : Addr).add 2) fun v36 =>
M.int .i64 v36 fun n37 =>
M.load h31 ((⟨b8, 0, none⟩ : Addr).add 3) fun v38 =>
M.bool v38 fun b39 =>
Q n33 n35 n37 b39 (12 : Int) h31)
else
M.load h19 (Addr.add (⟨b6, 0, none⟩ : Addr) 2) fun v40 =>
M.int .i64 v40 fun n41 =>
M.load h19 (Addr.add (⟨b6, 0, none⟩ : Addr) 1) fun v42 =>
M.int .i64 v42 fun n43 =>
M.val (IntKind.wrap .i64 (n43 - (1 : Int))) fun z44 =>
(bif (n41 == z44) then
M.load h19 (Addr.add (⟨b6, 0, none⟩ : Addr) 0) fun v45 =>
M.int .i64 v45 fun n46 =>
M.val (IntKind.wrap .i64 (n46 + (1 : Int))) fun z47 =>
M.load h19 (Addr.add (⟨b6, 0, none⟩ : Addr) 1) fun v48 =>
M.int .i64 v48 fun n49 =>
M.req (Array.size (#[(.int .i64 z47), (.int .i64 n49), (.int .i64 (0 : Int)), (.bool false)] : Array Value) = 4) (M.puts h19 (⟨b8, 0, none⟩ : Addr) [(.int .i64 z47), (.int .i64 n49), (.int .i64 (0 : Int)), (.bool false)] fun h50 =>
M.load h50 ((⟨b8, 0, none⟩ : Addr).add 0) fun v51 =>
M.int .i64 v51 fun n52 =>
M.load h50 ((⟨b8, 0, none⟩ : Addr).add 1) fun v53 =>
M.int .i64 v53 fun n54 =>
M.load h50 ((⟨b8, 0, none⟩ : Addr).add 2) fun v55 =>
M.int .i64 v55 fun n56 =>
M.load h50 ((⟨b8, 0, none⟩ : Addr).add 3) fun v57 =>
M.bool v57 fun b58 =>
Q n52 n54 n56 b58 (0 : Int) h50)
else
M.load h19 (Addr.add (⟨b6, 0, none⟩ : Addr) 2) fun v59 =>
M.int .i64 v59 fun n60 =>
M.val (IntKind.wrap .i64 (n60 + (1 : Int))) fun z61 =>
M.put h19 (Addr.add (⟨b6, 0, none⟩ : Addr) 2) (.int .i64 z61) fun h62 =>
M.load h62 ((⟨b6, 0, none⟩ : Addr).add 0) fun v63 =>
M.int .i64 v63 fun n64 =>
M.load h62 ((⟨b6, 0, none⟩ : Addr).add 1) fun v65 =>
M.int .i64 v65 fun n66 =>
M.load h62 ((⟨b6, 0, none⟩ : Addr).add 2) fun v67 =>
M.int .i64 v67 fun n68 =>
M.load h62 ((⟨b6, 0, none⟩ : Addr).add 3) fun v69 =>
M.bool v69 fun b70 =>
M.req (Array.size (#[(.int .i64 n64), (.int .i64 n66), (.int .i64 n68), (.bool b70)] : Array Value) = 4) (M.puts h62 (⟨b8, 0, none⟩ : Addr) [(.int .i64 n64), (.int .i64 n66), (.int .i64 n68), (.bool b70)] fun h71 =>
M.load h71 ((⟨b8, 0, none⟩ : Addr).add 0) fun v72 =>
M.int .i64 v72 fun n73 =>
M.load h71 ((⟨b8, 0, none⟩ : Addr).add 1) fun v74 =>
M.int .i64 v74 fun n75 =>
M.load h71 ((⟨b8, 0, none⟩ : Addr).add 2) fun v76 =>
M.int .i64 v76 fun n77 =>
M.load h71 ((⟨b8, 0, none⟩ : Addr).add 3) fun v78 =>
M.bool v78 fun b79 =>
Q n73 n75 n77 b79 (0 : Int) h71))))
def ref18_Step.L : List Value → (Value → H → Prop) → H → Prop
  | [.agg ⟨[.int .i64 x_l_0, .int .i64 x_l_1, .int .i64 x_l_2, .bool x_l_3]⟩] => fun Q h => ref18_Step x_l_0 x_l_1 x_l_2 x_l_3 h fun n80 n81 n82 b83 n84 h85 => Q (.tuple #[(.agg (#[(.int .i64 n80), (.int .i64 n81), (.int .i64 n82), (.bool b83)] : Array Value)), (.int .i64 n84)]) h85
  | _ => fun _ _ => False
def ref18_Step.W : W := fun args => ref18_Step.L args.toList
def ref18_Step.ann : Ann := ⟨lookN [], lookN [], lookN []⟩
def ref18_Step.env : Env := envOf [(10, ref18_Good.W)]
theorem ref18_Step.eq (x_l_0 : Int) (x_l_1 : Int) (x_l_2 : Int) (x_l_3 : Bool) (Q : Value → H → Prop) (h : H) : evF Tryd.prog ref18_Step.env Tryd.f26 ref18_Step.ann [(.agg (#[(.int .i64 x_l_0), (.int .i64 x_l_1), (.int .i64 x_l_2), (.bool x_l_3)] : Array Value))] Q h = ref18_Step x_l_0 x_l_1 x_l_2 x_l_3 h fun n80 n81 n82 b83 n84 h85 => Q (.tuple #[(.agg (#[(.int .i64 n80), (.int .i64 n81), (.int .i64 n82), (.bool b83)] : Array Value)), (.int .i64 n84)]) h85 := by kernel_rfl
theorem ref18_Step.W_eq (x_l_0 : Int) (x_l_1 : Int) (x_l_2 : Int) (x_l_3 : Bool) (Q : Value → H → Prop) (h : H) : ref18_Step.W #[(.agg (#[(.int .i64 x_l_0), (.int .i64 x_l_1), (.int .i64 x_l_2), (.bool x_l_3)] : Array Value))] Q h = ref18_Step x_l_0 x_l_1 x_l_2 x_l_3 h fun n80 n81 n82 b83 n84 h85 => Q (.tuple #[(.agg (#[(.int .i64 n80), (.int .i64 n81), (.int .i64 n82), (.bool b83)] : Array Value)), (.int .i64 n84)]) h85 := by kernel_rfl
theorem ref18_Step.good : FnGood Tryd.prog 26 ref18_Step.W := by
  refine FnGood.of (ann := ref18_Step.ann) (env := ref18_Step.env) mixed (EnvGood.cons ref18_Good.good EnvGood.nil) Tryd.func26 Tryd.call26 fun args => ?_
  show ref18_Step.L args.toList = _ ∨ ∀ Q m, evF Tryd.prog ref18_Step.env Tryd.f26 ref18_Step.ann args.toList Q m = ref18_Step.L args.toList Q m
  generalize args.toList = l
  unfold ref18_Step.L
  split
  · exact .inr fun Q m => ref18_Step.eq _ _ _ _ Q m
  · exact .inl rfl

def slices_Indexint_int (x_s : Option Addr) (x_sL : Nat) (x_sC : Nat) (x_v : Int) (h : H) (Q : Int → H → Prop) : Prop :=
M.loop (α := Int) (fun J2 d3 h4 =>
(bif (decide (d3 < ((x_sL : Nat) : Int))) then
M.idx x_s x_sL d3 fun a5 j6 =>
M.load h4 (Addr.add a5 (j6 * 1)) fun v7 =>
M.int .i64 v7 fun n8 =>
(bif (x_v == n8) then
Q d3 h4
else
M.val (IntKind.wrap .i64 (d3 + (1 : Int))) fun z9 =>
J2 z9 h4)
else
Q (-1 : Int) h4)) (0 : Int) h
def slices_Indexint_int.L : List Value → (Value → H → Prop) → H → Prop
  | [.slice x_s x_sL x_sC, .int .i64 x_v] => fun Q h => slices_Indexint_int x_s x_sL x_sC x_v h fun n10 h11 => Q (.int .i64 n10) h11
  | _ => fun _ _ => False
def slices_Indexint_int.W : W := fun args => slices_Indexint_int.L args.toList
def slices_Indexint_int.ann : Ann := ⟨lookN [], lookN [], lookN [(26, [(8, .int .i64)])]⟩
def slices_Indexint_int.env : Env := envOf []
theorem slices_Indexint_int.eq (x_s : Option Addr) (x_sL : Nat) (x_sC : Nat) (x_v : Int) (Q : Value → H → Prop) (h : H) : evF Tryd.prog slices_Indexint_int.env Tryd.f28 slices_Indexint_int.ann [(.slice x_s x_sL x_sC), (.int .i64 x_v)] Q h = slices_Indexint_int x_s x_sL x_sC x_v h fun n10 h11 => Q (.int .i64 n10) h11 := by kernel_rfl
theorem slices_Indexint_int.W_eq (x_s : Option Addr) (x_sL : Nat) (x_sC : Nat) (x_v : Int) (Q : Value → H → Prop) (h : H) : slices_Indexint_int.W #[(.slice x_s x_sL x_sC), (.int .i64 x_v)] Q h = slices_Indexint_int x_s x_sL x_sC x_v h fun n10 h11 => Q (.int .i64 n10) h11 := by kernel_rfl
theorem slices_Indexint_int.good : FnGood Tryd.prog 28 slices_Indexint_int.W := by
  refine FnGood.of (ann := slices_Indexint_int.ann) (env := slices_Indexint_int.env) mixed EnvGood.nil Tryd.func28 Tryd.call28 fun args => ?_
  show slices_Indexint_int.L args.toList = _ ∨ ∀ Q m, evF Tryd.prog slices_Indexint_int.env Tryd.f28 slices_Indexint_int.ann args.toList Q m = slices_Indexint_int.L args.toList Q m
  generalize args.toList = l
  unfold slices_Indexint_int.L
  split
  · exact .inr fun Q m => slices_Indexint_int.eq _ _ _ _ Q m
  · exact .inl rfl

def slices_Containsint_int (x_s : Option Addr) (x_sL : Nat) (x_sC : Nat) (x_v : Int) (h : H) (Q : Bool → H → Prop) : Prop :=
slices_Indexint_int x_s x_sL x_sC x_v h fun n2 h3 =>
Q (decide (n2 ≥ (0 : Int))) h3
def slices_Containsint_int.L : List Value → (Value → H → Prop) → H → Prop
  | [.slice x_s x_sL x_sC, .int .i64 x_v] => fun Q h => slices_Containsint_int x_s x_sL x_sC x_v h fun b4 h5 => Q (.bool b4) h5
  | _ => fun _ _ => False
def slices_Containsint_int.W : W := fun args => slices_Containsint_int.L args.toList
def slices_Containsint_int.ann : Ann := ⟨lookN [], lookN [], lookN []⟩
def slices_Containsint_int.env : Env := envOf [(28, slices_Indexint_int.W)]
theorem slices_Containsint_int.eq (x_s : Option Addr) (x_sL : Nat) (x_sC : Nat) (x_v : Int) (Q : Value → H → Prop) (h : H) : evF Tryd.prog slices_Containsint_int.env Tryd.f27 slices_Containsint_int.ann [(.slice x_s x_sL x_sC), (.int .i64 x_v)] Q h = slices_Containsint_int x_s x_sL x_sC x_v h fun b4 h5 => Q (.bool b4) h5 := by kernel_rfl
theorem slices_Containsint_int.W_eq (x_s : Option Addr) (x_sL : Nat) (x_sC : Nat) (x_v : Int) (Q : Value → H → Prop) (h : H) : slices_Containsint_int.W #[(.slice x_s x_sL x_sC), (.int .i64 x_v)] Q h = slices_Containsint_int x_s x_sL x_sC x_v h fun b4 h5 => Q (.bool b4) h5 := by kernel_rfl
theorem slices_Containsint_int.good : FnGood Tryd.prog 27 slices_Containsint_int.W := by
  refine FnGood.of (ann := slices_Containsint_int.ann) (env := slices_Containsint_int.env) mixed (EnvGood.cons slices_Indexint_int.good EnvGood.nil) Tryd.func27 Tryd.call27 fun args => ?_
  show slices_Containsint_int.L args.toList = _ ∨ ∀ Q m, evF Tryd.prog slices_Containsint_int.env Tryd.f27 slices_Containsint_int.ann args.toList Q m = slices_Containsint_int.L args.toList Q m
  generalize args.toList = l
  unfold slices_Containsint_int.L
  split
  · exact .inr fun Q m => slices_Containsint_int.eq _ _ _ _ Q m
  · exact .inl rfl

def layout_Layout_Good (x_l_0 : Int) (x_l_1 : Int) (x_l_2 : Int) (x_l_3 : Bool) (h : H) (Q : Bool → H → Prop) : Prop :=
M.new h (.cells (#[(.int .i64 x_l_0), (.int .i64 x_l_1), (.int .i64 x_l_2), (.bool x_l_3)] : Array Value) 24) fun b2 h3 =>
M.join (α := Int) (fun d8 h9 =>
M.join (α := Bool) (fun d32 h33 =>
Q d32 h33) fun J10 =>
M.sub (some (⟨0, 0, none⟩ : Addr)) 4 1 0 ((4 : Nat) : Int) fun a11 l12 c13 =>
M.load h9 (Addr.add (⟨b2, 0, none⟩ : Addr) 1) fun v14 =>
M.int .i64 v14 fun n15 =>
slices_Containsint_int a11 l12 c13 n15 h9 fun b16 h17 =>
(bif b16 then
M.load h17 (Addr.add (⟨b2, 0, none⟩ : Addr) 0) fun v18 =>
M.int .i64 v18 fun n19 =>
(bif (decide (n19 ≥ (2 : Int))) then
M.load h17 (Addr.add (⟨b2, 0, none⟩ : Addr) 0) fun v20 =>
M.int .i64 v20 fun n21 =>
(bif (decide (n21 ≤ d8)) then
M.load h17 (Addr.add (⟨b2, 0, none⟩ : Addr) 2) fun v22 =>
M.int .i64 v22 fun n23 =>
(bif (decide (n23 ≥ (0 : Int))) then
M.load h17 (Addr.add (⟨b2, 0, none⟩ : Addr) 2) fun v24 =>
M.int .i64 v24 fun n25 =>
M.load h17 (Addr.add (⟨b2, 0, none⟩ : Addr) 1) fun v26 =>
M.int .i64 v26 fun n27 =>
(bif (decide (n25 < n27)) then
M.load h17 (Addr.add (⟨b2, 0, none⟩ : Addr) 3) fun v28 =>
M.bool v28 fun b29 =>
(bif b29 then
J10 true h17
else
M.load h17 (Addr.add (⟨b2, 0, none⟩ : Addr) 2) fun v30 =>
M.int .i64 v30 fun n31 =>
J10 (n31 == (0 : Int)) h17)
else
J10 false h17)
else
J10 false h17)
else
J10 false h17)
else
J10 false h17)
else
J10 false h17)) fun J4 =>
M.load h3 (Addr.add (⟨b2, 0, none⟩ : Addr) 3) fun v5 =>
M.bool v5 fun b6 =>
(bif b6 then
M.val (IntKind.wrap .i64 ((8 : Int) - (1 : Int))) fun z7 =>
J4 z7 h3
else
J4 (8 : Int) h3)
def layout_Layout_Good.L : List Value → (Value → H → Prop) → H → Prop
  | [.agg ⟨[.int .i64 x_l_0, .int .i64 x_l_1, .int .i64 x_l_2, .bool x_l_3]⟩] => fun Q h => layout_Layout_Good x_l_0 x_l_1 x_l_2 x_l_3 h fun b34 h35 => Q (.bool b34) h35
  | _ => fun _ _ => False
def layout_Layout_Good.W : W := fun args => layout_Layout_Good.L args.toList
def layout_Layout_Good.ann : Ann := ⟨lookN [(4, [(2, .bool)])], lookN [(7, [(3, .int .i64)])], lookN []⟩
def layout_Layout_Good.env : Env := envOf [(27, slices_Containsint_int.W)]
theorem layout_Layout_Good.eq (x_l_0 : Int) (x_l_1 : Int) (x_l_2 : Int) (x_l_3 : Bool) (Q : Value → H → Prop) (h : H) : evF Tryd.prog layout_Layout_Good.env Tryd.f12 layout_Layout_Good.ann [(.agg (#[(.int .i64 x_l_0), (.int .i64 x_l_1), (.int .i64 x_l_2), (.bool x_l_3)] : Array Value))] Q h = layout_Layout_Good x_l_0 x_l_1 x_l_2 x_l_3 h fun b34 h35 => Q (.bool b34) h35 := by kernel_rfl
theorem layout_Layout_Good.W_eq (x_l_0 : Int) (x_l_1 : Int) (x_l_2 : Int) (x_l_3 : Bool) (Q : Value → H → Prop) (h : H) : layout_Layout_Good.W #[(.agg (#[(.int .i64 x_l_0), (.int .i64 x_l_1), (.int .i64 x_l_2), (.bool x_l_3)] : Array Value))] Q h = layout_Layout_Good x_l_0 x_l_1 x_l_2 x_l_3 h fun b34 h35 => Q (.bool b34) h35 := by kernel_rfl
theorem layout_Layout_Good.good : FnGood Tryd.prog 12 layout_Layout_Good.W := by
  refine FnGood.of (ann := layout_Layout_Good.ann) (env := layout_Layout_Good.env) mixed (EnvGood.cons slices_Containsint_int.good EnvGood.nil) Tryd.func12 Tryd.call12 fun args => ?_
  show layout_Layout_Good.L args.toList = _ ∨ ∀ Q m, evF Tryd.prog layout_Layout_Good.env Tryd.f12 layout_Layout_Good.ann args.toList Q m = layout_Layout_Good.L args.toList Q m
  generalize args.toList = l
  unfold layout_Layout_Good.L
  split
  · exact .inr fun Q m => layout_Layout_Good.eq _ _ _ _ Q m
  · exact .inl rfl

def layout_Layout_Blocks (x_l_0 : Int) (x_l_1 : Int) (x_l_2 : Int) (x_l_3 : Bool) (h : H) (Q : Int → H → Prop) : Prop :=
M.new h (.cells (#[(.int .i64 x_l_0), (.int .i64 x_l_1), (.int .i64 x_l_2), (.bool x_l_3)] : Array Value) 24) fun b2 h3 =>
M.load h3 ((⟨b2, 0, none⟩ : Addr).add 0) fun v4 =>
M.int .i64 v4 fun n5 =>
M.load h3 ((⟨b2, 0, none⟩ : Addr).add 1) fun v6 =>
M.int .i64 v6 fun n7 =>
M.load h3 ((⟨b2, 0, none⟩ : Addr).add 2) fun v8 =>
M.int .i64 v8 fun n9 =>
M.load h3 ((⟨b2, 0, none⟩ : Addr).add 3) fun v10 =>
M.bool v10 fun b11 =>
layout_Layout_Good n5 n7 n9 b11 h3 fun b12 h13 =>
(bif (!b12) then
Q (0 : Int) h13
else
M.load h13 (Addr.add (⟨b2, 0, none⟩ : Addr) 1) fun v14 =>
M.int .i64 v14 fun n15 =>
M.load h13 (Addr.add (⟨b2, 0, none⟩ : Addr) 0) fun v16 =>
M.int .i64 v16 fun n17 =>
M.val (IntKind.wrap .i64 (n15 * n17)) fun z18 =>
Q z18 h13)
def layout_Layout_Blocks.L : List Value → (Value → H → Prop) → H → Prop
  | [.agg ⟨[.int .i64 x_l_0, .int .i64 x_l_1, .int .i64 x_l_2, .bool x_l_3]⟩] => fun Q h => layout_Layout_Blocks x_l_0 x_l_1 x_l_2 x_l_3 h fun n19 h20 => Q (.int .i64 n19) h20
  | _ => fun _ _ => False
def layout_Layout_Blocks.W : W := fun args => layout_Layout_Blocks.L args.toList
def layout_Layout_Blocks.ann : Ann := ⟨lookN [], lookN [], lookN []⟩
def layout_Layout_Blocks.env : Env := envOf [(12, layout_Layout_Good.W)]
theorem layout_Layout_Blocks.eq (x_l_0 : Int) (x_l_1 : Int) (x_l_2 : Int) (x_l_3 : Bool) (Q : Value → H → Prop) (h : H) : evF Tryd.prog layout_Layout_Blocks.env Tryd.f13 layout_Layout_Blocks.ann [(.agg (#[(.int .i64 x_l_0), (.int .i64 x_l_1), (.int .i64 x_l_2), (.bool x_l_3)] : Array Value))] Q h = layout_Layout_Blocks x_l_0 x_l_1 x_l_2 x_l_3 h fun n19 h20 => Q (.int .i64 n19) h20 := by kernel_rfl
theorem layout_Layout_Blocks.W_eq (x_l_0 : Int) (x_l_1 : Int) (x_l_2 : Int) (x_l_3 : Bool) (Q : Value → H → Prop) (h : H) : layout_Layout_Blocks.W #[(.agg (#[(.int .i64 x_l_0), (.int .i64 x_l_1), (.int .i64 x_l_2), (.bool x_l_3)] : Array Value))] Q h = layout_Layout_Blocks x_l_0 x_l_1 x_l_2 x_l_3 h fun n19 h20 => Q (.int .i64 n19) h20 := by kernel_rfl
theorem layout_Layout_Blocks.good : FnGood Tryd.prog 13 layout_Layout_Blocks.W := by
  refine FnGood.of (ann := layout_Layout_Blocks.ann) (env := layout_Layout_Blocks.env) mixed (EnvGood.cons layout_Layout_Good.good EnvGood.nil) Tryd.func13 Tryd.call13 fun args => ?_
  show layout_Layout_Blocks.L args.toList = _ ∨ ∀ Q m, evF Tryd.prog layout_Layout_Blocks.env Tryd.f13 layout_Layout_Blocks.ann args.toList Q m = layout_Layout_Blocks.L args.toList Q m
  generalize args.toList = l
  unfold layout_Layout_Blocks.L
  split
  · exact .inr fun Q m => layout_Layout_Blocks.eq _ _ _ _ Q m
  · exact .inl rfl

def layout_Layout_Wide (x_l_0 : Int) (x_l_1 : Int) (x_l_2 : Int) (x_l_3 : Bool) (x_stripe : Int) (h : H) (Q : Int → H → Prop) : Prop :=
M.new h (.cells (#[(.int .i64 x_l_0), (.int .i64 x_l_1), (.int .i64 x_l_2), (.bool x_l_3)] : Array Value) 24) fun b2 h3 =>
M.join (α := Bool) (fun d17 h18 =>
(bif d17 then
Q (0 : Int) h18
else
M.load h18 (Addr.add (⟨b2, 0, none⟩ : Addr) 2) fun v19 =>
M.int .i64 v19 fun n20 =>
(bif (decide (x_stripe < n20)) then
M.load h18 (Addr.add (⟨b2, 0, none⟩ : Addr) 0) fun v21 =>
M.int .i64 v21 fun n22 =>
M.val (IntKind.wrap .i64 (n22 + (1 : Int))) fun z23 =>
Q z23 h18
else
M.load h18 (Addr.add (⟨b2, 0, none⟩ : Addr) 0) fun v24 =>
M.int .i64 v24 fun n25 =>
Q n25 h18))) fun J4 =>
M.load h3 ((⟨b2, 0, none⟩ : Addr).add 0) fun v5 =>
M.int .i64 v5 fun n6 =>
M.load h3 ((⟨b2, 0, none⟩ : Addr).add 1) fun v7 =>
M.int .i64 v7 fun n8 =>
M.load h3 ((⟨b2, 0, none⟩ : Addr).add 2) fun v9 =>
M.int .i64 v9 fun n10 =>
M.load h3 ((⟨b2, 0, none⟩ : Addr).add 3) fun v11 =>
M.bool v11 fun b12 =>
layout_Layout_Good n6 n8 n10 b12 h3 fun b13 h14 =>
(bif (!b13) then
J4 true h14
else
(bif (decide (x_stripe < (0 : Int))) then
J4 true h14
else
M.load h14 (Addr.add (⟨b2, 0, none⟩ : Addr) 1) fun v15 =>
M.int .i64 v15 fun n16 =>
J4 (decide (x_stripe ≥ n16)) h14))
def layout_Layout_Wide.L : List Value → (Value → H → Prop) → H → Prop
  | [.agg ⟨[.int .i64 x_l_0, .int .i64 x_l_1, .int .i64 x_l_2, .bool x_l_3]⟩, .int .i64 x_stripe] => fun Q h => layout_Layout_Wide x_l_0 x_l_1 x_l_2 x_l_3 x_stripe h fun n26 h27 => Q (.int .i64 n26) h27
  | _ => fun _ _ => False
def layout_Layout_Wide.W : W := fun args => layout_Layout_Wide.L args.toList
def layout_Layout_Wide.ann : Ann := ⟨lookN [(1, [(5, .bool)])], lookN [], lookN []⟩
def layout_Layout_Wide.env : Env := envOf [(12, layout_Layout_Good.W)]
theorem layout_Layout_Wide.eq (x_l_0 : Int) (x_l_1 : Int) (x_l_2 : Int) (x_l_3 : Bool) (x_stripe : Int) (Q : Value → H → Prop) (h : H) : evF Tryd.prog layout_Layout_Wide.env Tryd.f14 layout_Layout_Wide.ann [(.agg (#[(.int .i64 x_l_0), (.int .i64 x_l_1), (.int .i64 x_l_2), (.bool x_l_3)] : Array Value)), (.int .i64 x_stripe)] Q h = layout_Layout_Wide x_l_0 x_l_1 x_l_2 x_l_3 x_stripe h fun n26 h27 => Q (.int .i64 n26) h27 := by kernel_rfl
theorem layout_Layout_Wide.W_eq (x_l_0 : Int) (x_l_1 : Int) (x_l_2 : Int) (x_l_3 : Bool) (x_stripe : Int) (Q : Value → H → Prop) (h : H) : layout_Layout_Wide.W #[(.agg (#[(.int .i64 x_l_0), (.int .i64 x_l_1), (.int .i64 x_l_2), (.bool x_l_3)] : Array Value)), (.int .i64 x_stripe)] Q h = layout_Layout_Wide x_l_0 x_l_1 x_l_2 x_l_3 x_stripe h fun n26 h27 => Q (.int .i64 n26) h27 := by kernel_rfl
theorem layout_Layout_Wide.good : FnGood Tryd.prog 14 layout_Layout_Wide.W := by
  refine FnGood.of (ann := layout_Layout_Wide.ann) (env := layout_Layout_Wide.env) mixed (EnvGood.cons layout_Layout_Good.good EnvGood.nil) Tryd.func14 Tryd.call14 fun args => ?_
  show layout_Layout_Wide.L args.toList = _ ∨ ∀ Q m, evF Tryd.prog layout_Layout_Wide.env Tryd.f14 layout_Layout_Wide.ann args.toList Q m = layout_Layout_Wide.L args.toList Q m
  generalize args.toList = l
  unfold layout_Layout_Wide.L
  split
  · exact .inr fun Q m => layout_Layout_Wide.eq _ _ _ _ _ Q m
  · exact .inl rfl

def layout_Layout_Find (x_l_0 : Int) (x_l_1 : Int) (x_l_2 : Int) (x_l_3 : Bool) (x_block : Int) (h : H) (Q : Int → Int → Int → H → Prop) : Prop :=
M.new h (.cells (#[(.int .i64 x_l_0), (.int .i64 x_l_1), (.int .i64 x_l_2), (.bool x_l_3)] : Array Value) 24) fun b4 h5 =>
M.load h5 ((⟨b4, 0, none⟩ : Addr).add 0) fun v6 =>
M.int .i64 v6 fun n7 =>
M.load h5 ((⟨b4, 0, none⟩ : Addr).add 1) fun v8 =>
M.int .i64 v8 fun n9 =>
M.load h5 ((⟨b4, 0, none⟩ : Addr).add 2) fun v10 =>
M.int .i64 v10 fun n11 =>
M.load h5 ((⟨b4, 0, none⟩ : Addr).add 3) fun v12 =>
M.bool v12 fun b13 =>
layout_Layout_Good n7 n9 n11 b13 h5 fun b14 h15 =>
(bif (!b14) then
Q (0 : Int) (0 : Int) (4 : Int) h15
else
M.join (α := Bool) (fun d27 h28 =>
(bif d27 then
Q (0 : Int) (0 : Int) (2 : Int) h28
else
M.load h28 (Addr.add (⟨b4, 0, none⟩ : Addr) 2) fun v29 =>
M.int .i64 v29 fun n30 =>
M.load h28 (Addr.add (⟨b4, 0, none⟩ : Addr) 0) fun v31 =>
M.int .i64 v31 fun n32 =>
M.val (IntKind.wrap .i64 (n32 + (1 : Int))) fun z33 =>
M.val (IntKind.wrap .i64 (n30 * z33)) fun z34 =>
(bif (decide (x_block < z34)) then
M.load h28 (Addr.add (⟨b4, 0, none⟩ : Addr) 0) fun v35 =>
M.int .i64 v35 fun n36 =>
M.val (IntKind.wrap .i64 (n36 + (1 : Int))) fun z37 =>
M.nz z37 (
M.val (IntKind.wrap .i64 (Int.tdiv x_block z37)) fun z38 =>
M.load h28 (Addr.add (⟨b4, 0, none⟩ : Addr) 0) fun v39 =>
M.int .i64 v39 fun n40 =>
M.val (IntKind.wrap .i64 (n40 + (1 : Int))) fun z41 =>
M.nz z41 (
M.val (Int.tmod x_block z41) fun z42 =>
Q z38 z42 (0 : Int) h28))
else
M.load h28 (Addr.add (⟨b4, 0, none⟩ : Addr) 0) fun v43 =>
M.int .i64 v43 fun n44 =>
M.nz n44 (
M.val (IntKind.wrap .i64 (Int.tdiv x_block n44)) fun z45 =>
M.load h28 (Addr.add (⟨b4, 0, none⟩ : Addr) 0) fun v46 =>
M.int .i64 v46 fun n47 =>
M.nz n47 (
M.val (Int.tmod x_block n47) fun z48 =>
Q z45 z48 (0 : Int) h28))))) fun J16 =>
(bif (decide (x_block < (0 : Int))) then
J16 true h15
else
M.load h15 ((⟨b4, 0, none⟩ : Addr).add 0) fun v17 =>
M.int .i64 v17 fun n18 =>
M.load h15 ((⟨b4, 0, none⟩ : Addr).add 1) fun v19 =>
M.int .i64 v19 fun n20 =>
M.load h15 ((⟨b4, 0, none⟩ : Addr).add 2) fun v21 =>
M.int .i64 v21 fun n22 =>
M.load h15 ((⟨b4, 0, none⟩ : Addr).add 3) fun v23 =>
M.bool v23 fun b24 =>
layout_Layout_Blocks n18 n20 n22 b24 h15 fun n25 h26 =>
J16 (decide (x_block ≥ n25)) h26))
def layout_Layout_Find.L : List Value → (Value → H → Prop) → H → Prop
  | [.agg ⟨[.int .i64 x_l_0, .int .i64 x_l_1, .int .i64 x_l_2, .bool x_l_3]⟩, .int .i64 x_block] => fun Q h => layout_Layout_Find x_l_0 x_l_1 x_l_2 x_l_3 x_block h fun n49 n50 n51 h52 => Q (.tuple #[(.int .i64 n49), (.int .i64 n50), (.int .i64 n51)]) h52
  | _ => fun _ _ => False
def layout_Layout_Find.W : W := fun args => layout_Layout_Find.L args.toList
def layout_Layout_Find.ann : Ann := ⟨lookN [(3, [(11, .bool)])], lookN [], lookN []⟩
def layout_Layout_Find.env : Env := envOf [(12, layout_Layout_Good.W), (13, layout_Layout_Blocks.W)]
theorem layout_Layout_Find.eq (x_l_0 : Int) (x_l_1 : Int) (x_l_2 : Int) (x_l_3 : Bool) (x_block : Int) (Q : Value → H → Prop) (h : H) : evF Tryd.prog layout_Layout_Find.env Tryd.f17 layout_Layout_Find.ann [(.agg (#[(.int .i64 x_l_0), (.int .i64 x_l_1), (.int .i64 x_l_2), (.bool x_l_3)] : Array Value)), (.int .i64 x_block)] Q h = layout_Layout_Find x_l_0 x_l_1 x_l_2 x_l_3 x_block h fun n49 n50 n51 h52 => Q (.tuple #[(.int .i64 n49), (.int .i64 n50), (.int .i64 n51)]) h52 := by kernel_rfl
theorem layout_Layout_Find.W_eq (x_l_0 : Int) (x_l_1 : Int) (x_l_2 : Int) (x_l_3 : Bool) (x_block : Int) (Q : Value → H → Prop) (h : H) : layout_Layout_Find.W #[(.agg (#[(.int .i64 x_l_0), (.int .i64 x_l_1), (.int .i64 x_l_2), (.bool x_l_3)] : Array Value)), (.int .i64 x_block)] Q h = layout_Layout_Find x_l_0 x_l_1 x_l_2 x_l_3 x_block h fun n49 n50 n51 h52 => Q (.tuple #[(.int .i64 n49), (.int .i64 n50), (.int .i64 n51)]) h52 := by kernel_rfl
theorem layout_Layout_Find.good : FnGood Tryd.prog 17 layout_Layout_Find.W := by
  refine FnGood.of (ann := layout_Layout_Find.ann) (env := layout_Layout_Find.env) mixed (EnvGood.cons layout_Layout_Good.good (EnvGood.cons layout_Layout_Blocks.good EnvGood.nil)) Tryd.func17 Tryd.call17 fun args => ?_
  show layout_Layout_Find.L args.toList = _ ∨ ∀ Q m, evF Tryd.prog layout_Layout_Find.env Tryd.f17 layout_Layout_Find.ann args.toList Q m = layout_Layout_Find.L args.toList Q m
  generalize args.toList = l
  unfold layout_Layout_Find.L
  split
  · exact .inr fun Q m => layout_Layout_Find.eq _ _ _ _ _ Q m
  · exact .inl rfl

def layout_Layout_Seat (x_l_0 : Int) (x_l_1 : Int) (x_l_2 : Int) (x_l_3 : Bool) (x_stripe : Int) (x_chunk : Int) (h : H) (Q : Int → Int → H → Prop) : Prop :=
M.new h (.cells (#[(.int .i64 x_l_0), (.int .i64 x_l_1), (.int .i64 x_l_2), (.bool x_l_3)] : Array Value) 24) fun b3 h4 =>
M.load h4 ((⟨b3, 0, none⟩ : Addr).add 0) fun v5 =>
M.int .i64 v5 fun n6 =>
M.load h4 ((⟨b3, 0, none⟩ : Addr).add 1) fun v7 =>
M.int .i64 v7 fun n8 =>
M.load h4 ((⟨b3, 0, none⟩ : Addr).add 2) fun v9 =>
M.int .i64 v9 fun n10 =>
M.load h4 ((⟨b3, 0, none⟩ : Addr).add 3) fun v11 =>
M.bool v11 fun b12 =>
layout_Layout_Good n6 n8 n10 b12 h4 fun b13 h14 =>
(bif (!b13) then
Q (0 : Int) (4 : Int) h14
else
M.load h14 ((⟨b3, 0, none⟩ : Addr).add 0) fun v15 =>
M.int .i64 v15 fun n16 =>
M.load h14 ((⟨b3, 0, none⟩ : Addr).add 1) fun v17 =>
M.int .i64 v17 fun n18 =>
M.load h14 ((⟨b3, 0, none⟩ : Addr).add 2) fun v19 =>
M.int .i64 v19 fun n20 =>
M.load h14 ((⟨b3, 0, none⟩ : Addr).add 3) fun v21 =>
M.bool v21 fun b22 =>
layout_Layout_Wide n16 n18 n20 b22 x_stripe h14 fun n23 h24 =>
M.join (α := Bool) (fun d27 h28 =>
(bif d27 then
Q (0 : Int) (2 : Int) h28
else
M.val (IntKind.wrap .i64 (x_chunk + x_stripe)) fun z29 =>
M.val (IntKind.wrap .i64 (n23 + (2 : Int))) fun z30 =>
M.nz z30 (
M.val (Int.tmod z29 z30) fun z31 =>
Q z31 (0 : Int) h28))) fun J25 =>
(bif (n23 == (0 : Int)) then
J25 true h24
else
(bif (decide (x_chunk < (0 : Int))) then
J25 true h24
else
M.val (IntKind.wrap .i64 (n23 + (2 : Int))) fun z26 =>
J25 (decide (x_chunk ≥ z26)) h24)))
def layout_Layout_Seat.L : List Value → (Value → H → Prop) → H → Prop
  | [.agg ⟨[.int .i64 x_l_0, .int .i64 x_l_1, .int .i64 x_l_2, .bool x_l_3]⟩, .int .i64 x_stripe, .int .i64 x_chunk] => fun Q h => layout_Layout_Seat x_l_0 x_l_1 x_l_2 x_l_3 x_stripe x_chunk h fun n32 n33 h34 => Q (.tuple #[(.int .i64 n32), (.int .i64 n33)]) h34
  | _ => fun _ _ => False
def layout_Layout_Seat.W : W := fun args => layout_Layout_Seat.L args.toList
def layout_Layout_Seat.ann : Ann := ⟨lookN [(4, [(26, .bool)])], lookN [], lookN []⟩
def layout_Layout_Seat.env : Env := envOf [(12, layout_Layout_Good.W), (14, layout_Layout_Wide.W)]
theorem layout_Layout_Seat.eq (x_l_0 : Int) (x_l_1 : Int) (x_l_2 : Int) (x_l_3 : Bool) (x_stripe : Int) (x_chunk : Int) (Q : Value → H → Prop) (h : H) : evF Tryd.prog layout_Layout_Seat.env Tryd.f19 layout_Layout_Seat.ann [(.agg (#[(.int .i64 x_l_0), (.int .i64 x_l_1), (.int .i64 x_l_2), (.bool x_l_3)] : Array Value)), (.int .i64 x_stripe), (.int .i64 x_chunk)] Q h = layout_Layout_Seat x_l_0 x_l_1 x_l_2 x_l_3 x_stripe x_chunk h fun n32 n33 h34 => Q (.tuple #[(.int .i64 n32), (.int .i64 n33)]) h34 := by kernel_rfl
theorem layout_Layout_Seat.W_eq (x_l_0 : Int) (x_l_1 : Int) (x_l_2 : Int) (x_l_3 : Bool) (x_stripe : Int) (x_chunk : Int) (Q : Value → H → Prop) (h : H) : layout_Layout_Seat.W #[(.agg (#[(.int .i64 x_l_0), (.int .i64 x_l_1), (.int .i64 x_l_2), (.bool x_l_3)] : Array Value)), (.int .i64 x_stripe), (.int .i64 x_chunk)] Q h = layout_Layout_Seat x_l_0 x_l_1 x_l_2 x_l_3 x_stripe x_chunk h fun n32 n33 h34 => Q (.tuple #[(.int .i64 n32), (.int .i64 n33)]) h34 := by kernel_rfl
theorem layout_Layout_Seat.good : FnGood Tryd.prog 19 layout_Layout_Seat.W := by
  refine FnGood.of (ann := layout_Layout_Seat.ann) (env := layout_Layout_Seat.env) mixed (EnvGood.cons layout_Layout_Good.good (EnvGood.cons layout_Layout_Wide.good EnvGood.nil)) Tryd.func19 Tryd.call19 fun args => ?_
  show layout_Layout_Seat.L args.toList = _ ∨ ∀ Q m, evF Tryd.prog layout_Layout_Seat.env Tryd.f19 layout_Layout_Seat.ann args.toList Q m = layout_Layout_Seat.L args.toList Q m
  generalize args.toList = l
  unfold layout_Layout_Seat.L
  split
  · exact .inr fun Q m => layout_Layout_Seat.eq _ _ _ _ _ _ Q m
  · exact .inl rfl

def layout_Layout_Chunk (x_l_0 : Int) (x_l_1 : Int) (x_l_2 : Int) (x_l_3 : Bool) (x_stripe : Int) (x_seat : Int) (h : H) (Q : Int → Bool → H → Prop) : Prop :=
M.new h (.cells (#[(.int .i64 x_l_0), (.int .i64 x_l_1), (.int .i64 x_l_2), (.bool x_l_3)] : Array Value) 24) fun b3 h4 =>
M.load h4 ((⟨b3, 0, none⟩ : Addr).add 0) fun v5 =>
M.int .i64 v5 fun n6 =>
M.load h4 ((⟨b3, 0, none⟩ : Addr).add 1) fun v7 =>
M.int .i64 v7 fun n8 =>
M.load h4 ((⟨b3, 0, none⟩ : Addr).add 2) fun v9 =>
M.int .i64 v9 fun n10 =>
M.load h4 ((⟨b3, 0, none⟩ : Addr).add 3) fun v11 =>
M.bool v11 fun b12 =>
layout_Layout_Wide n6 n8 n10 b12 x_stripe h4 fun n13 h14 =>
M.join (α := Bool) (fun d17 h18 =>
(bif d17 then
Q (0 : Int) false h18
else
M.val (IntKind.wrap .i64 (n13 + (2 : Int))) fun z19 =>
M.val (IntKind.wrap .i64 (x_seat + z19)) fun z20 =>
M.nz z19 (
M.val (Int.tmod x_stripe z19) fun z21 =>
M.val (IntKind.wrap .i64 (z20 - z21)) fun z22 =>
M.nz z19 (
M.val (Int.tmod z22 z19) fun z23 =>
Q z23 true h18)))) fun J15 =>
(bif (n13 == (0 : Int)) then
J15 true h14
else
(bif (decide (x_seat < (0 : Int))) then
J15 true h14
else
M.val (IntKind.wrap .i64 (n13 + (2 : Int))) fun z16 =>
J15 (decide (x_seat ≥ z16)) h14))
def layout_Layout_Chunk.L : List Value → (Value → H → Prop) → H → Prop
  | [.agg ⟨[.int .i64 x_l_0, .int .i64 x_l_1, .int .i64 x_l_2, .bool x_l_3]⟩, .int .i64 x_stripe, .int .i64 x_seat] => fun Q h => layout_Layout_Chunk x_l_0 x_l_1 x_l_2 x_l_3 x_stripe x_seat h fun n24 b25 h26 => Q (.tuple #[(.int .i64 n24), (.bool b25)]) h26
  | _ => fun _ _ => False
def layout_Layout_Chunk.W : W := fun args => layout_Layout_Chunk.L args.toList
def layout_Layout_Chunk.ann : Ann := ⟨lookN [(2, [(24, .bool)])], lookN [], lookN []⟩
def layout_Layout_Chunk.env : Env := envOf [(14, layout_Layout_Wide.W)]
theorem layout_Layout_Chunk.eq (x_l_0 : Int) (x_l_1 : Int) (x_l_2 : Int) (x_l_3 : Bool) (x_stripe : Int) (x_seat : Int) (Q : Value → H → Prop) (h : H) : evF Tryd.prog layout_Layout_Chunk.env Tryd.f21 layout_Layout_Chunk.ann [(.agg (#[(.int .i64 x_l_0), (.int .i64 x_l_1), (.int .i64 x_l_2), (.bool x_l_3)] : Array Value)), (.int .i64 x_stripe), (.int .i64 x_seat)] Q h = layout_Layout_Chunk x_l_0 x_l_1 x_l_2 x_l_3 x_stripe x_seat h fun n24 b25 h26 => Q (.tuple #[(.int .i64 n24), (.bool b25)]) h26 := by kernel_rfl
theorem layout_Layout_Chunk.W_eq (x_l_0 : Int) (x_l_1 : Int) (x_l_2 : Int) (x_l_3 : Bool) (x_stripe : Int) (x_seat : Int) (Q : Value → H → Prop) (h : H) : layout_Layout_Chunk.W #[(.agg (#[(.int .i64 x_l_0), (.int .i64 x_l_1), (.int .i64 x_l_2), (.bool x_l_3)] : Array Value)), (.int .i64 x_stripe), (.int .i64 x_seat)] Q h = layout_Layout_Chunk x_l_0 x_l_1 x_l_2 x_l_3 x_stripe x_seat h fun n24 b25 h26 => Q (.tuple #[(.int .i64 n24), (.bool b25)]) h26 := by kernel_rfl
theorem layout_Layout_Chunk.good : FnGood Tryd.prog 21 layout_Layout_Chunk.W := by
  refine FnGood.of (ann := layout_Layout_Chunk.ann) (env := layout_Layout_Chunk.env) mixed (EnvGood.cons layout_Layout_Wide.good EnvGood.nil) Tryd.func21 Tryd.call21 fun args => ?_
  show layout_Layout_Chunk.L args.toList = _ ∨ ∀ Q m, evF Tryd.prog layout_Layout_Chunk.env Tryd.f21 layout_Layout_Chunk.ann args.toList Q m = layout_Layout_Chunk.L args.toList Q m
  generalize args.toList = l
  unfold layout_Layout_Chunk.L
  split
  · exact .inr fun Q m => layout_Layout_Chunk.eq _ _ _ _ _ _ Q m
  · exact .inl rfl

def layout_Layout_Moves (x_l_0 : Int) (x_l_1 : Int) (x_l_2 : Int) (x_l_3 : Bool) (h : H) (Q : Option Addr → Nat → Nat → Int → H → Prop) : Prop :=
M.new h (.cells (#[(.int .i64 x_l_0), (.int .i64 x_l_1), (.int .i64 x_l_2), (.bool x_l_3)] : Array Value) 24) fun b5 h6 =>
M.load h6 ((⟨b5, 0, none⟩ : Addr).add 0) fun v7 =>
M.int .i64 v7 fun n8 =>
M.load h6 ((⟨b5, 0, none⟩ : Addr).add 1) fun v9 =>
M.int .i64 v9 fun n10 =>
M.load h6 ((⟨b5, 0, none⟩ : Addr).add 2) fun v11 =>
M.int .i64 v11 fun n12 =>
M.load h6 ((⟨b5, 0, none⟩ : Addr).add 3) fun v13 =>
M.bool v13 fun b14 =>
layout_Layout_Good n8 n10 n12 b14 h6 fun b15 h16 =>
(bif (!b15) then
Q none 0 0 (4 : Int) h16
else
M.load h16 (Addr.add (⟨b5, 0, none⟩ : Addr) 3) fun v17 =>
M.bool v17 fun b18 =>
(bif (!b18) then
Q none 0 0 (12 : Int) h16
else
M.join (α := (Option Addr × Nat × Nat)) (fun d41 h42 =>
Q d41.1 d41.2.1 d41.2.2 (0 : Int) h42) fun J19 =>
M.load h16 (Addr.add (⟨b5, 0, none⟩ : Addr) 0) fun v20 =>
M.int .i64 v20 fun n21 =>
M.val (IntKind.wrap .i64 (n21 + (1 : Int))) fun z22 =>
M.loop (α := (Option Addr × Nat × Nat) × Int) (fun J23 d24 h25 =>
(bif (decide (d24.2 < z22)) then
M.load h25 (Addr.add (⟨b5, 0, none⟩ : Addr) 2) fun v26 =>
M.int .i64 v26 fun n27 =>
M.load h25 (Addr.add (⟨b5, 0, none⟩ : Addr) 0) fun v28 =>
M.int .i64 v28 fun n29 =>
M.val (IntKind.wrap .i64 (n29 + (1 : Int))) fun z30 =>
M.val (IntKind.wrap .i64 (n27 * z30)) fun z31 =>
M.val (IntKind.wrap .i64 (z31 + d24.2)) fun z32 =>
M.new h25 (.cells (#[(.int .i64 z32)] : Array Value) 3) fun b33 h34 =>
M.cellsOf h34 (some (⟨b33, 0, none⟩ : Addr)) (1 * 1) fun cs39 =>
M.app h34 3 1 8 [(.int .i64 (0 : Int))] d24.1.1 d24.1.2.1 d24.1.2.2 1 cs39 fun a35 l36 c37 h38 =>
M.val (IntKind.wrap .i64 (d24.2 + (1 : Int))) fun z40 =>
J23 ((a35, l36, c37), z40) h38
else
J19 (d24.1.1, d24.1.2.1, d24.1.2.2) h25)) ((none, 0, 0), (0 : Int)) h16))
def layout_Layout_Moves.L : List Value → (Value → H → Prop) → H → Prop
  | [.agg ⟨[.int .i64 x_l_0, .int .i64 x_l_1, .int .i64 x_l_2, .bool x_l_3]⟩] => fun Q h => layout_Layout_Moves x_l_0 x_l_1 x_l_2 x_l_3 h fun a43 l44 c45 n46 h47 => Q (.tuple #[(.slice a43 l44 c45), (.int .i64 n46)]) h47
  | _ => fun _ _ => False
def layout_Layout_Moves.W : W := fun args => layout_Layout_Moves.L args.toList
def layout_Layout_Moves.ann : Ann := ⟨lookN [], lookN [(15, [(4, .slc)])], lookN [(122, [(4, .slc), (17, .int .i64)])]⟩
def layout_Layout_Moves.env : Env := envOf [(12, layout_Layout_Good.W)]
theorem layout_Layout_Moves.eq (x_l_0 : Int) (x_l_1 : Int) (x_l_2 : Int) (x_l_3 : Bool) (Q : Value → H → Prop) (h : H) : evF Tryd.prog layout_Layout_Moves.env Tryd.f23 layout_Layout_Moves.ann [(.agg (#[(.int .i64 x_l_0), (.int .i64 x_l_1), (.int .i64 x_l_2), (.bool x_l_3)] : Array Value))] Q h = layout_Layout_Moves x_l_0 x_l_1 x_l_2 x_l_3 h fun a43 l44 c45 n46 h47 => Q (.tuple #[(.slice a43 l44 c45), (.int .i64 n46)]) h47 := by kernel_rfl
theorem layout_Layout_Moves.W_eq (x_l_0 : Int) (x_l_1 : Int) (x_l_2 : Int) (x_l_3 : Bool) (Q : Value → H → Prop) (h : H) : layout_Layout_Moves.W #[(.agg (#[(.int .i64 x_l_0), (.int .i64 x_l_1), (.int .i64 x_l_2), (.bool x_l_3)] : Array Value))] Q h = layout_Layout_Moves x_l_0 x_l_1 x_l_2 x_l_3 h fun a43 l44 c45 n46 h47 => Q (.tuple #[(.slice a43 l44 c45), (.int .i64 n46)]) h47 := by kernel_rfl
theorem layout_Layout_Moves.good : FnGood Tryd.prog 23 layout_Layout_Moves.W := by
  refine FnGood.of (ann := layout_Layout_Moves.ann) (env := layout_Layout_Moves.env) mixed (EnvGood.cons layout_Layout_Good.good EnvGood.nil) Tryd.func23 Tryd.call23 fun args => ?_
  show layout_Layout_Moves.L args.toList = _ ∨ ∀ Q m, evF Tryd.prog layout_Layout_Moves.env Tryd.f23 layout_Layout_Moves.ann args.toList Q m = layout_Layout_Moves.L args.toList Q m
  generalize args.toList = l
  unfold layout_Layout_Moves.L
  split
  · exact .inr fun Q m => layout_Layout_Moves.eq _ _ _ _ Q m
  · exact .inl rfl

def layout_Layout_Step (x_l_0 : Int) (x_l_1 : Int) (x_l_2 : Int) (x_l_3 : Bool) (h : H) (Q : Int → Int → Int → Bool → Int → H → Prop) : Prop :=
M.new h (.cells (#[(.int .i64 x_l_0), (.int .i64 x_l_1), (.int .i64 x_l_2), (.bool x_l_3)] : Array Value) 24) fun b6 h7 =>
M.new h7 (.cells (#[(.int .i64 (0 : Int)), (.int .i64 (0 : Int)), (.int .i64 (0 : Int)), (.bool false)] : Array Value) 24) fun b8 h9 =>
M.load h9 ((⟨b6, 0, none⟩ : Addr).add 0) fun v10 =>
M.int .i64 v10 fun n11 =>
M.load h9 ((⟨b6, 0, none⟩ : Addr).add 1) fun v12 =>
M.int .i64 v12 fun n13 =>
M.load h9 ((⟨b6, 0, none⟩ : Addr).add 2) fun v14 =>
M.int .i64 v14 fun n15 =>
M.load h9 ((⟨b6, 0, none⟩ : Addr).add 3) fun v16 =>
M.bool v16 fun b17 =>
layout_Layout_Good n11 n13 n15 b17 h9 fun b18 h19 =>
(bif (!b18) then
M.req (Array.size (#[(.int .i64 (0 : Int)), (.int .i64 (0 : Int)), (.int .i64 (0 : Int)), (.bool false)] : Array Value) = 4) (M.puts h19 (⟨b8, 0, none⟩ : Addr) [(.int .i64 (0 : Int)), (.int .i64 (0 : Int)), (.int .i64 (0 : Int)), (.bool false)] fun h20 =>
M.load h20 ((⟨b8, 0, none⟩ : Addr).add 0) fun v21 =>
M.int .i64 v21 fun n22 =>
M.load h20 ((⟨b8, 0, none⟩ : Addr).add 1) fun v23 =>
M.int .i64 v23 fun n24 =>
M.load h20 ((⟨b8, 0, none⟩ : Addr).add 2) fun v25 =>
M.int .i64 v25 fun n26 =>
M.load h20 ((⟨b8, 0, none⟩ : Addr).add 3) fun v27 =>
M.bool v27 fun b28 =>
Q n22 n24 n26 b28 (4 : Int) h20)
else
M.load h19 (Addr.add (⟨b6, 0, none⟩ : Addr) 3) fun v29 =>
M.bool v29 fun b30 =>
(bif (!b30) then
M.req (Array.size (#[(.int .i64 (0 : Int)), (.int .i64 (0 : Int)), (.int .i64 (0 : Int)), (.bool false)] : Array Value) = 4) (M.puts h19 (⟨b8, 0, none⟩ : Addr) [(.int .i64 (0 : Int)), (.int .i64 (0 : Int)), (.int .i64 (0 : Int)), (.bool false)] fun h31 =>
M.load h31 ((⟨b8, 0, none⟩ : Addr).add 0) fun v32 =>
M.int .i64 v32 fun n33 =>
M.load h31 ((⟨b8, 0, none⟩ : Addr).add 1) fun v34 =>
M.int .i64 v34 fun n35 =>
M.load h31 ((⟨b8, 0, none⟩ : Addr).add 2) fun v36 =>
M.int .i64 v36 fun n37 =>
M.load h31 ((⟨b8, 0, none⟩ : Addr).add 3) fun v38 =>
M.bool v38 fun b39 =>
Q n33 n35 n37 b39 (12 : Int) h31)
else
M.load h19 (Addr.add (⟨b6, 0, none⟩ : Addr) 2) fun v40 =>
M.int .i64 v40 fun n41 =>
M.val (IntKind.wrap .i64 (n41 + (1 : Int))) fun z42 =>
M.put h19 (Addr.add (⟨b6, 0, none⟩ : Addr) 2) (.int .i64 z42) fun h43 =>
M.load h43 (Addr.add (⟨b6, 0, none⟩ : Addr) 2) fun v44 =>
M.int .i64 v44 fun n45 =>
M.load h43 (Addr.add (⟨b6, 0, none⟩ : Addr) 1) fun v46 =>
M.int .i64 v46 fun n47 =>
(bif (n45 == n47) then
M.load h43 (Addr.add (⟨b6, 0, none⟩ : Addr) 0) fun v48 =>
M.int .i64 v48 fun n49 =>
M.val (IntKind.wrap .i64 (n49 + (1 : Int))) fun z50 =>
M.load h43 (Addr.add (⟨b6, 0, none⟩ : Addr) 1) fun v51 =>
M.int .i64 v51 fun n52 =>
M.req (Array.size (#[(.int .i64 z50), (.int .i64 n52), (.int .i64 (0 : Int)), (.bool false)] : Array Value) = 4) (M.puts h43 (⟨b8, 0, none⟩ : Addr) [(.int .i64 z50), (.int .i64 n52), (.int .i64 (0 : Int)), (.bool false)] fun h53 =>
M.load h53 ((⟨b8, 0, none⟩ : Addr).add 0) fun v54 =>
M.int .i64 v54 fun n55 =>
M.load h53 ((⟨b8, 0, none⟩ : Addr).add 1) fun v56 =>
M.int .i64 v56 fun n57 =>
M.load h53 ((⟨b8, 0, none⟩ : Addr).add 2) fun v58 =>
M.int .i64 v58 fun n59 =>
M.load h53 ((⟨b8, 0, none⟩ : Addr).add 3) fun v60 =>
M.bool v60 fun b61 =>
Q n55 n57 n59 b61 (0 : Int) h53)
else
M.load h43 ((⟨b6, 0, none⟩ : Addr).add 0) fun v62 =>
M.int .i64 v62 fun n63 =>
M.load h43 ((⟨b6, 0, none⟩ : Addr).add 1) fun v64 =>
M.int .i64 v64 fun n65 =>
M.load h43 ((⟨b6, 0, none⟩ : Addr).add 2) fun v66 =>
M.int .i64 v66 fun n67 =>
M.load h43 ((⟨b6, 0, none⟩ : Addr).add 3) fun v68 =>
M.bool v68 fun b69 =>
M.req (Array.size (#[(.int .i64 n63), (.int .i64 n65), (.int .i64 n67), (.bool b69)] : Array Value) = 4) (M.puts h43 (⟨b8, 0, none⟩ : Addr) [(.int .i64 n63), (.int .i64 n65), (.int .i64 n67), (.bool b69)] fun h70 =>
M.load h70 ((⟨b8, 0, none⟩ : Addr).add 0) fun v71 =>
M.int .i64 v71 fun n72 =>
M.load h70 ((⟨b8, 0, none⟩ : Addr).add 1) fun v73 =>
M.int .i64 v73 fun n74 =>
M.load h70 ((⟨b8, 0, none⟩ : Addr).add 2) fun v75 =>
M.int .i64 v75 fun n76 =>
M.load h70 ((⟨b8, 0, none⟩ : Addr).add 3) fun v77 =>
M.bool v77 fun b78 =>
Q n72 n74 n76 b78 (0 : Int) h70))))
def layout_Layout_Step.L : List Value → (Value → H → Prop) → H → Prop
  | [.agg ⟨[.int .i64 x_l_0, .int .i64 x_l_1, .int .i64 x_l_2, .bool x_l_3]⟩] => fun Q h => layout_Layout_Step x_l_0 x_l_1 x_l_2 x_l_3 h fun n79 n80 n81 b82 n83 h84 => Q (.tuple #[(.agg (#[(.int .i64 n79), (.int .i64 n80), (.int .i64 n81), (.bool b82)] : Array Value)), (.int .i64 n83)]) h84
  | _ => fun _ _ => False
def layout_Layout_Step.W : W := fun args => layout_Layout_Step.L args.toList
def layout_Layout_Step.ann : Ann := ⟨lookN [], lookN [], lookN []⟩
def layout_Layout_Step.env : Env := envOf [(12, layout_Layout_Good.W)]
theorem layout_Layout_Step.eq (x_l_0 : Int) (x_l_1 : Int) (x_l_2 : Int) (x_l_3 : Bool) (Q : Value → H → Prop) (h : H) : evF Tryd.prog layout_Layout_Step.env Tryd.f25 layout_Layout_Step.ann [(.agg (#[(.int .i64 x_l_0), (.int .i64 x_l_1), (.int .i64 x_l_2), (.bool x_l_3)] : Array Value))] Q h = layout_Layout_Step x_l_0 x_l_1 x_l_2 x_l_3 h fun n79 n80 n81 b82 n83 h84 => Q (.tuple #[(.agg (#[(.int .i64 n79), (.int .i64 n80), (.int .i64 n81), (.bool b82)] : Array Value)), (.int .i64 n83)]) h84 := by kernel_rfl
theorem layout_Layout_Step.W_eq (x_l_0 : Int) (x_l_1 : Int) (x_l_2 : Int) (x_l_3 : Bool) (Q : Value → H → Prop) (h : H) : layout_Layout_Step.W #[(.agg (#[(.int .i64 x_l_0), (.int .i64 x_l_1), (.int .i64 x_l_2), (.bool x_l_3)] : Array Value))] Q h = layout_Layout_Step x_l_0 x_l_1 x_l_2 x_l_3 h fun n79 n80 n81 b82 n83 h84 => Q (.tuple #[(.agg (#[(.int .i64 n79), (.int .i64 n80), (.int .i64 n81), (.bool b82)] : Array Value)), (.int .i64 n83)]) h84 := by kernel_rfl
theorem layout_Layout_Step.good : FnGood Tryd.prog 25 layout_Layout_Step.W := by
  refine FnGood.of (ann := layout_Layout_Step.ann) (env := layout_Layout_Step.env) mixed (EnvGood.cons layout_Layout_Good.good EnvGood.nil) Tryd.func25 Tryd.call25 fun args => ?_
  show layout_Layout_Step.L args.toList = _ ∨ ∀ Q m, evF Tryd.prog layout_Layout_Step.env Tryd.f25 layout_Layout_Step.ann args.toList Q m = layout_Layout_Step.L args.toList Q m
  generalize args.toList = l
  unfold layout_Layout_Step.L
  split
  · exact .inr fun Q m => layout_Layout_Step.eq _ _ _ _ Q m
  · exact .inl rfl

def law18_wakes  (h : H) (Q : Bool → H → Prop) : Prop :=
layout_Layout_Find (2 : Int) (4 : Int) (0 : Int) false (5 : Int) h fun n2 n3 n4 h5 =>
layout_Layout_Seat (2 : Int) (4 : Int) (0 : Int) false (2 : Int) (1 : Int) h5 fun n6 n7 h8 =>
layout_Layout_Find (2 : Int) (4 : Int) (1 : Int) true (2 : Int) h8 fun n9 n10 n11 h12 =>
M.join (α := Bool) (fun d14 h15 =>
Q d14 h15) fun J13 =>
(bif (n4 == (0 : Int)) then
(bif (n7 == (0 : Int)) then
(bif (n11 == (0 : Int)) then
(bif (n2 == (2 : Int)) then
(bif (n3 == (1 : Int)) then
(bif (n6 == (3 : Int)) then
(bif (n9 == (0 : Int)) then
J13 (n10 == (2 : Int)) h12
else
J13 false h12)
else
J13 false h12)
else
J13 false h12)
else
J13 false h12)
else
J13 false h12)
else
J13 false h12)
else
J13 false h12)
def law18_wakes.L : List Value → (Value → H → Prop) → H → Prop
  | [] => fun Q h => law18_wakes  h fun b16 h17 => Q (.bool b16) h17
  | _ => fun _ _ => False
def law18_wakes.W : W := fun args => law18_wakes.L args.toList
def law18_wakes.ann : Ann := ⟨lookN [(4, [(0, .bool)])], lookN [], lookN []⟩
def law18_wakes.env : Env := envOf [(17, layout_Layout_Find.W), (19, layout_Layout_Seat.W)]
theorem law18_wakes.eq  (Q : Value → H → Prop) (h : H) : evF Tryd.prog law18_wakes.env Tryd.f11 law18_wakes.ann [] Q h = law18_wakes  h fun b16 h17 => Q (.bool b16) h17 := by kernel_rfl
theorem law18_wakes.W_eq  (Q : Value → H → Prop) (h : H) : law18_wakes.W #[] Q h = law18_wakes  h fun b16 h17 => Q (.bool b16) h17 := by kernel_rfl
theorem law18_wakes.good : FnGood Tryd.prog 11 law18_wakes.W := by
  refine FnGood.of (ann := law18_wakes.ann) (env := law18_wakes.env) mixed (EnvGood.cons layout_Layout_Find.good (EnvGood.cons layout_Layout_Seat.good EnvGood.nil)) Tryd.func11 Tryd.call11 fun args => ?_
  show law18_wakes.L args.toList = _ ∨ ∀ Q m, evF Tryd.prog law18_wakes.env Tryd.f11 law18_wakes.ann args.toList Q m = law18_wakes.L args.toList Q m
  generalize args.toList = l
  unfold law18_wakes.L
  split
  · exact .inr fun Q m => law18_wakes.eq  Q m
  · exact .inl rfl

def law18_LayoutGood (x_x_0 : Int) (x_x_1 : Int) (x_x_2 : Int) (x_x_3 : Bool) (x_stripe : Int) (h : H) (Q : Bool → H → Prop) : Prop :=
M.new h (.cells (#[(.int .i64 x_x_0), (.int .i64 x_x_1), (.int .i64 x_x_2), (.bool x_x_3)] : Array Value) 23) fun b2 h3 =>
M.join (α := Addr × Addr) (fun d33 h34 =>
M.join (α := Int) (fun d51 h52 =>
M.join (α := Bool) (fun d106 h107 =>
Q d106 h107) fun J53 =>
law18_wakes  h52 fun b54 h55 =>
(bif b54 then
M.load h55 (d33.1.add 0) fun v56 =>
M.int .i64 v56 fun n57 =>
M.load h55 (d33.1.add 1) fun v58 =>
M.int .i64 v58 fun n59 =>
M.load h55 (d33.1.add 2) fun v60 =>
M.int .i64 v60 fun n61 =>
M.load h55 (d33.1.add 3) fun v62 =>
M.bool v62 fun b63 =>
M.load h55 (d33.2.add 0) fun v64 =>
M.int .i64 v64 fun n65 =>
M.load h55 (d33.2.add 1) fun v66 =>
M.int .i64 v66 fun n67 =>
M.load h55 (d33.2.add 2) fun v68 =>
M.int .i64 v68 fun n69 =>
M.load h55 (d33.2.add 3) fun v70 =>
M.bool v70 fun b71 =>
layout_Layout_Good n57 n59 n61 b63 h55 fun b72 h73 =>
M.still h55 d33.2 4 h73 (
ref18_Good n65 n67 n69 b71 h73 fun b74 h75 =>
(bif (b72 == b74) then
M.load h75 (d33.1.add 0) fun v76 =>
M.int .i64 v76 fun n77 =>
M.load h75 (d33.1.add 1) fun v78 =>
M.int .i64 v78 fun n79 =>
M.load h75 (d33.1.add 2) fun v80 =>
M.int .i64 v80 fun n81 =>
M.load h75 (d33.1.add 3) fun v82 =>
M.bool v82 fun b83 =>
layout_Layout_Blocks n77 n79 n81 b83 h75 fun n84 h85 =>
(bif (n84 == d51) then
M.load h85 (d33.1.add 0) fun v86 =>
M.int .i64 v86 fun n87 =>
M.load h85 (d33.1.add 1) fun v88 =>
M.int .i64 v88 fun n89 =>
M.load h85 (d33.1.add 2) fun v90 =>
M.int .i64 v90 fun n91 =>
M.load h85 (d33.1.add 3) fun v92 =>
M.bool v92 fun b93 =>
M.load h85 (d33.2.add 0) fun v94 =>
M.int .i64 v94 fun n95 =>
M.load h85 (d33.2.add 1) fun v96 =>
M.int .i64 v96 fun n97 =>
M.load h85 (d33.2.add 2) fun v98 =>
M.int .i64 v98 fun n99 =>
M.load h85 (d33.2.add 3) fun v100 =>
M.bool v100 fun b101 =>
layout_Layout_Wide n87 n89 n91 b93 x_stripe h85 fun n102 h103 =>
M.still h85 d33.2 4 h103 (
ref18_Wide n95 n97 n99 b101 x_stripe h103 fun n104 h105 =>
J53 (n102 == n104) h105)
else
M.still h85 d33.2 4 h85 (
J53 false h85))
else
M.still h75 d33.2 4 h75 (
J53 false h75)))
else
M.still h55 d33.2 4 h55 (
M.still h55 d33.2 4 h55 (
J53 false h55)))) fun J35 =>
M.load h34 (d33.2.add 0) fun v36 =>
M.int .i64 v36 fun n37 =>
M.load h34 (d33.2.add 1) fun v38 =>
M.int .i64 v38 fun n39 =>
M.load h34 (d33.2.add 2) fun v40 =>
M.int .i64 v40 fun n41 =>
M.load h34 (d33.2.add 3) fun v42 =>
M.bool v42 fun b43 =>
ref18_Good n37 n39 n41 b43 h34 fun b44 h45 =>
(bif b44 then
M.load h45 (Addr.add d33.2 1) fun v46 =>
M.int .i64 v46 fun n47 =>
M.load h45 (Addr.add d33.2 0) fun v48 =>
M.int .i64 v48 fun n49 =>
M.val (IntKind.wrap .i64 (n47 * n49)) fun z50 =>
J35 z50 h45
else
J35 (0 : Int) h45)) fun J4 =>
M.load h3 ((⟨b2, 0, none⟩ : Addr).add 0) fun v5 =>
M.int .i64 v5 fun n6 =>
M.load h3 ((⟨b2, 0, none⟩ : Addr).add 1) fun v7 =>
M.int .i64 v7 fun n8 =>
M.load h3 ((⟨b2, 0, none⟩ : Addr).add 2) fun v9 =>
M.int .i64 v9 fun n10 =>
M.load h3 ((⟨b2, 0, none⟩ : Addr).add 3) fun v11 =>
M.bool v11 fun b12 =>
M.load h3 ((⟨b2, 0, none⟩ : Addr).add 0) fun v13 =>
M.int .i64 v13 fun n14 =>
M.load h3 ((⟨b2, 0, none⟩ : Addr).add 1) fun v15 =>
M.int .i64 v15 fun n16 =>
M.load h3 ((⟨b2, 0, none⟩ : Addr).add 2) fun v17 =>
M.int .i64 v17 fun n18 =>
M.load h3 ((⟨b2, 0, none⟩ : Addr).add 3) fun v19 =>
M.bool v19 fun b20 =>
(M.new h3 (.cells (#[(.int .i64 (0 : Int)), (.int .i64 (0 : Int)), (.int .i64 (0 : Int)), (.bool false)] : Array Value) 24) fun b21 h22 =>
M.still h3 (⟨b2, 0, none⟩ : Addr) 4 h22 (
M.still h3 (⟨b2, 0, none⟩ : Addr) 4 h22 (
M.new h22 (.cells (#[(.int .i64 (0 : Int)), (.int .i64 (0 : Int)), (.int .i64 (0 : Int)), (.bool false)] : Array Value) 25) fun b23 h24 =>
M.still h3 (⟨b2, 0, none⟩ : Addr) 4 h24 (
M.still h3 (⟨b2, 0, none⟩ : Addr) 4 h24 (
M.req (Array.size (#[(.int .i64 n6), (.int .i64 n8), (.int .i64 n10), (.bool b12)] : Array Value) = 4) (M.puts h24 (⟨b21, 0, none⟩ : Addr) [(.int .i64 n6), (.int .i64 n8), (.int .i64 n10), (.bool b12)] fun h25 =>
M.still h3 (⟨b2, 0, none⟩ : Addr) 4 h25 (
M.req (Array.size (#[(.int .i64 n14), (.int .i64 n16), (.int .i64 n18), (.bool b20)] : Array Value) = 4) (M.puts h25 (⟨b23, 0, none⟩ : Addr) [(.int .i64 n14), (.int .i64 n16), (.int .i64 n18), (.bool b20)] fun h26 =>
J4 ((⟨b21, 0, none⟩ : Addr), (⟨b23, 0, none⟩ : Addr)) h26)))))))) ∧
(M.new h3 (.cells (#[(.int .i64 (0 : Int)), (.int .i64 (0 : Int)), (.int .i64 (0 : Int)), (.bool false)] : Array Value) 25) fun b27 h28 =>
M.still h3 (⟨b2, 0, none⟩ : Addr) 4 h28 (
M.still h3 (⟨b2, 0, none⟩ : Addr) 4 h28 (
M.new h28 (.cells (#[(.int .i64 (0 : Int)), (.int .i64 (0 : Int)), (.int .i64 (0 : Int)), (.bool false)] : Array Value) 24) fun b29 h30 =>
M.still h3 (⟨b2, 0, none⟩ : Addr) 4 h30 (
M.still h3 (⟨b2, 0, none⟩ : Addr) 4 h30 (
M.req (Array.size (#[(.int .i64 n6), (.int .i64 n8), (.int .i64 n10), (.bool b12)] : Array Value) = 4) (M.puts h30 (⟨b29, 0, none⟩ : Addr) [(.int .i64 n6), (.int .i64 n8), (.int .i64 n10), (.bool b12)] fun h31 =>
M.still h3 (⟨b2, 0, none⟩ : Addr) 4 h31 (
M.req (Array.size (#[(.int .i64 n14), (.int .i64 n16), (.int .i64 n18), (.bool b20)] : Array Value) = 4) (M.puts h31 (⟨b27, 0, none⟩ : Addr) [(.int .i64 n14), (.int .i64 n16), (.int .i64 n18), (.bool b20)] fun h32 =>
J4 ((⟨b29, 0, none⟩ : Addr), (⟨b27, 0, none⟩ : Addr)) h32))))))))
def law18_LayoutGood.L : List Value → (Value → H → Prop) → H → Prop
  | [.agg ⟨[.int .i64 x_x_0, .int .i64 x_x_1, .int .i64 x_x_2, .bool x_x_3]⟩, .int .i64 x_stripe] => fun Q h => law18_LayoutGood x_x_0 x_x_1 x_x_2 x_x_3 x_stripe h fun b108 h109 => Q (.bool b108) h109
  | _ => fun _ _ => False
def law18_LayoutGood.W : W := fun args => law18_LayoutGood.L args.toList
def law18_LayoutGood.ann : Ann := ⟨lookN [(1, [(5, .adr), (6, .adr)]), (5, [(4, .bool)])], lookN [(15, [(7, .int .i64)])], lookN []⟩
def law18_LayoutGood.env : Env := envOf [(10, ref18_Good.W), (11, law18_wakes.W), (12, layout_Layout_Good.W), (13, layout_Layout_Blocks.W), (14, layout_Layout_Wide.W), (15, ref18_Wide.W)]
theorem law18_LayoutGood.eq (x_x_0 : Int) (x_x_1 : Int) (x_x_2 : Int) (x_x_3 : Bool) (x_stripe : Int) (Q : Value → H → Prop) (h : H) : evF Tryd.prog law18_LayoutGood.env Tryd.f3 law18_LayoutGood.ann [(.agg (#[(.int .i64 x_x_0), (.int .i64 x_x_1), (.int .i64 x_x_2), (.bool x_x_3)] : Array Value)), (.int .i64 x_stripe)] Q h = law18_LayoutGood x_x_0 x_x_1 x_x_2 x_x_3 x_stripe h fun b108 h109 => Q (.bool b108) h109 := by kernel_rfl
theorem law18_LayoutGood.W_eq (x_x_0 : Int) (x_x_1 : Int) (x_x_2 : Int) (x_x_3 : Bool) (x_stripe : Int) (Q : Value → H → Prop) (h : H) : law18_LayoutGood.W #[(.agg (#[(.int .i64 x_x_0), (.int .i64 x_x_1), (.int .i64 x_x_2), (.bool x_x_3)] : Array Value)), (.int .i64 x_stripe)] Q h = law18_LayoutGood x_x_0 x_x_1 x_x_2 x_x_3 x_stripe h fun b108 h109 => Q (.bool b108) h109 := by kernel_rfl
theorem law18_LayoutGood.good : FnGood Tryd.prog 3 law18_LayoutGood.W := by
  refine FnGood.of (ann := law18_LayoutGood.ann) (env := law18_LayoutGood.env) mixed (EnvGood.cons ref18_Good.good (EnvGood.cons law18_wakes.good (EnvGood.cons layout_Layout_Good.good (EnvGood.cons layout_Layout_Blocks.good (EnvGood.cons layout_Layout_Wide.good (EnvGood.cons ref18_Wide.good EnvGood.nil)))))) Tryd.func3 Tryd.call3 fun args => ?_
  show law18_LayoutGood.L args.toList = _ ∨ ∀ Q m, evF Tryd.prog law18_LayoutGood.env Tryd.f3 law18_LayoutGood.ann args.toList Q m = law18_LayoutGood.L args.toList Q m
  generalize args.toList = l
  unfold law18_LayoutGood.L
  split
  · exact .inr fun Q m => law18_LayoutGood.eq _ _ _ _ _ Q m
  · exact .inl rfl

def law18_LayoutFinds (x_x_0 : Int) (x_x_1 : Int) (x_x_2 : Int) (x_x_3 : Bool) (x_block : Int) (h : H) (Q : Bool → H → Prop) : Prop :=
M.new h (.cells (#[(.int .i64 x_x_0), (.int .i64 x_x_1), (.int .i64 x_x_2), (.bool x_x_3)] : Array Value) 23) fun b2 h3 =>
M.load h3 ((⟨b2, 0, none⟩ : Addr).add 0) fun v4 =>
M.int .i64 v4 fun n5 =>
M.load h3 ((⟨b2, 0, none⟩ : Addr).add 1) fun v6 =>
M.int .i64 v6 fun n7 =>
M.load h3 ((⟨b2, 0, none⟩ : Addr).add 2) fun v8 =>
M.int .i64 v8 fun n9 =>
M.load h3 ((⟨b2, 0, none⟩ : Addr).add 3) fun v10 =>
M.bool v10 fun b11 =>
M.load h3 ((⟨b2, 0, none⟩ : Addr).add 0) fun v12 =>
M.int .i64 v12 fun n13 =>
M.load h3 ((⟨b2, 0, none⟩ : Addr).add 1) fun v14 =>
M.int .i64 v14 fun n15 =>
M.load h3 ((⟨b2, 0, none⟩ : Addr).add 2) fun v16 =>
M.int .i64 v16 fun n17 =>
M.load h3 ((⟨b2, 0, none⟩ : Addr).add 3) fun v18 =>
M.bool v18 fun b19 =>
law18_good n13 n15 n17 b19 h3 fun n20 n21 n22 b23 h24 =>
M.still h3 (⟨b2, 0, none⟩ : Addr) 4 h24 (
M.new h24 (.cells (#[(.int .i64 n5), (.int .i64 n7), (.int .i64 n9), (.bool b11), (.int .i64 n20), (.int .i64 n21), (.int .i64 n22), (.bool b23)] : Array Value) 24) fun b25 h26 =>
M.loop (α := Int) (fun J27 d28 h29 =>
(bif (decide (d28 < ((2 : Nat) : Int))) then
M.idx (some (⟨b25, 0, none⟩ : Addr)) 2 d28 fun a30 j31 =>
M.load h29 ((Addr.add a30 (j31 * 4)).add 0) fun v32 =>
M.int .i64 v32 fun n33 =>
M.load h29 ((Addr.add a30 (j31 * 4)).add 1) fun v34 =>
M.int .i64 v34 fun n35 =>
M.load h29 ((Addr.add a30 (j31 * 4)).add 2) fun v36 =>
M.int .i64 v36 fun n37 =>
M.load h29 ((Addr.add a30 (j31 * 4)).add 3) fun v38 =>
M.bool v38 fun b39 =>
M.new h29 (.cells (#[(.int .i64 (0 : Int)), (.int .i64 (0 : Int)), (.int .i64 (0 : Int)), (.bool false)] : Array Value) 24) fun b40 h41 =>
M.req (Array.size (#[(.int .i64 n33), (.int .i64 n35), (.int .i64 n37), (.bool b39)] : Array Value) = 4) (M.puts h41 (⟨b40, 0, none⟩ : Addr) [(.int .i64 n33), (.int .i64 n35), (.int .i64 n37), (.bool b39)] fun h42 =>
M.val (bAnd .i64 x_block (127 : Int)) fun z43 =>
M.new h42 (.cells (#[(.int .i64 x_block), (.int .i64 z43)] : Array Value) 3) fun b44 h45 =>
M.loop (α := Int) (fun J46 d47 h48 =>
(bif (decide (d47 < ((2 : Nat) : Int))) then
M.idx (some (⟨b44, 0, none⟩ : Addr)) 2 d47 fun a49 j50 =>
M.load h48 (Addr.add a49 (j50 * 1)) fun v51 =>
M.int .i64 v51 fun n52 =>
M.load h48 ((⟨b40, 0, none⟩ : Addr).add 0) fun v53 =>
M.int .i64 v53 fun n54 =>
M.load h48 ((⟨b40, 0, none⟩ : Addr).add 1) fun v55 =>
M.int .i64 v55 fun n56 =>
M.load h48 ((⟨b40, 0, none⟩ : Addr).add 2) fun v57 =>
M.int .i64 v57 fun n58 =>
M.load h48 ((⟨b40, 0, none⟩ : Addr).add 3) fun v59 =>
M.bool v59 fun b60 =>
layout_Layout_Find n54 n56 n58 b60 n52 h48 fun n61 n62 n63 h64 =>
M.load h64 ((⟨b40, 0, none⟩ : Addr).add 0) fun v65 =>
M.int .i64 v65 fun n66 =>
M.load h64 ((⟨b40, 0, none⟩ : Addr).add 1) fun v67 =>
M.int .i64 v67 fun n68 =>
M.load h64 ((⟨b40, 0, none⟩ : Addr).add 2) fun v69 =>
M.int .i64 v69 fun n70 =>
M.load h64 ((⟨b40, 0, none⟩ : Addr).add 3) fun v71 =>
M.bool v71 fun b72 =>
ref18_Find n66 n68 n70 b72 n52 h64 fun n73 n74 n75 h76 =>
M.join (α := Bool) (fun d78 h79 =>
(bif d78 then
Q false h79
else
M.val (IntKind.wrap .i64 (d47 + (1 : Int))) fun z80 =>
J46 z80 h79)) fun J77 =>
(bif (n61 != n73) then
J77 true h76
else
(bif (n62 != n74) then
J77 true h76
else
J77 (n63 != n75) h76))
else
M.val (IntKind.wrap .i64 (d28 + (1 : Int))) fun z81 =>
J27 z81 h48)) (0 : Int) h45)
else
law18_wakes  h29 fun b82 h83 =>
Q b82 h83)) (0 : Int) h26)
def law18_LayoutFinds.L : List Value → (Value → H → Prop) → H → Prop
  | [.agg ⟨[.int .i64 x_x_0, .int .i64 x_x_1, .int .i64 x_x_2, .bool x_x_3]⟩, .int .i64 x_block] => fun Q h => law18_LayoutFinds x_x_0 x_x_1 x_x_2 x_x_3 x_block h fun b84 h85 => Q (.bool b84) h85
  | _ => fun _ _ => False
def law18_LayoutFinds.W : W := fun args => law18_LayoutFinds.L args.toList
def law18_LayoutFinds.ann : Ann := ⟨lookN [(9, [(59, .bool)])], lookN [], lookN [(26, [(20, .int .i64)]), (6758, [(29, .int .i64)])]⟩
def law18_LayoutFinds.env : Env := envOf [(16, law18_good.W), (17, layout_Layout_Find.W), (18, ref18_Find.W), (11, law18_wakes.W)]
theorem law18_LayoutFinds.eq (x_x_0 : Int) (x_x_1 : Int) (x_x_2 : Int) (x_x_3 : Bool) (x_block : Int) (Q : Value → H → Prop) (h : H) : evF Tryd.prog law18_LayoutFinds.env Tryd.f4 law18_LayoutFinds.ann [(.agg (#[(.int .i64 x_x_0), (.int .i64 x_x_1), (.int .i64 x_x_2), (.bool x_x_3)] : Array Value)), (.int .i64 x_block)] Q h = law18_LayoutFinds x_x_0 x_x_1 x_x_2 x_x_3 x_block h fun b84 h85 => Q (.bool b84) h85 := by kernel_rfl
theorem law18_LayoutFinds.W_eq (x_x_0 : Int) (x_x_1 : Int) (x_x_2 : Int) (x_x_3 : Bool) (x_block : Int) (Q : Value → H → Prop) (h : H) : law18_LayoutFinds.W #[(.agg (#[(.int .i64 x_x_0), (.int .i64 x_x_1), (.int .i64 x_x_2), (.bool x_x_3)] : Array Value)), (.int .i64 x_block)] Q h = law18_LayoutFinds x_x_0 x_x_1 x_x_2 x_x_3 x_block h fun b84 h85 => Q (.bool b84) h85 := by kernel_rfl
theorem law18_LayoutFinds.good : FnGood Tryd.prog 4 law18_LayoutFinds.W := by
  refine FnGood.of (ann := law18_LayoutFinds.ann) (env := law18_LayoutFinds.env) mixed (EnvGood.cons law18_good.good (EnvGood.cons layout_Layout_Find.good (EnvGood.cons ref18_Find.good (EnvGood.cons law18_wakes.good EnvGood.nil)))) Tryd.func4 Tryd.call4 fun args => ?_
  show law18_LayoutFinds.L args.toList = _ ∨ ∀ Q m, evF Tryd.prog law18_LayoutFinds.env Tryd.f4 law18_LayoutFinds.ann args.toList Q m = law18_LayoutFinds.L args.toList Q m
  generalize args.toList = l
  unfold law18_LayoutFinds.L
  split
  · exact .inr fun Q m => law18_LayoutFinds.eq _ _ _ _ _ Q m
  · exact .inl rfl

def law18_LayoutOnce (x_x_0 : Int) (x_x_1 : Int) (x_x_2 : Int) (x_x_3 : Bool) (h : H) (Q : Bool → H → Prop) : Prop :=
M.new h (.cells (#[(.int .i64 x_x_0), (.int .i64 x_x_1), (.int .i64 x_x_2), (.bool x_x_3)] : Array Value) 23) fun b2 h3 =>
M.load h3 ((⟨b2, 0, none⟩ : Addr).add 0) fun v4 =>
M.int .i64 v4 fun n5 =>
M.load h3 ((⟨b2, 0, none⟩ : Addr).add 1) fun v6 =>
M.int .i64 v6 fun n7 =>
M.load h3 ((⟨b2, 0, none⟩ : Addr).add 2) fun v8 =>
M.int .i64 v8 fun n9 =>
M.load h3 ((⟨b2, 0, none⟩ : Addr).add 3) fun v10 =>
M.bool v10 fun b11 =>
law18_good n5 n7 n9 b11 h3 fun n12 n13 n14 b15 h16 =>
M.new h16 (.cells (#[(.int .i64 (0 : Int)), (.int .i64 (0 : Int)), (.int .i64 (0 : Int)), (.bool false)] : Array Value) 24) fun b17 h18 =>
M.req (Array.size (#[(.int .i64 n12), (.int .i64 n13), (.int .i64 n14), (.bool b15)] : Array Value) = 4) (M.puts h18 (⟨b17, 0, none⟩ : Addr) [(.int .i64 n12), (.int .i64 n13), (.int .i64 n14), (.bool b15)] fun h19 =>
M.new h19 (.map #[] 0) fun b20 h21 =>
M.join (α := Unit) (fun d66 h67 =>
M.join (α := Bool) (fun d77 h78 =>
Q d77 h78) fun J68 =>
law18_wakes  h67 fun b69 h70 =>
(bif b69 then
M.mlen h70 (some b20) fun n71 =>
M.load h70 (Addr.add (⟨b17, 0, none⟩ : Addr) 1) fun v72 =>
M.int .i64 v72 fun n73 =>
M.load h70 (Addr.add (⟨b17, 0, none⟩ : Addr) 0) fun v74 =>
M.int .i64 v74 fun n75 =>
M.val (IntKind.wrap .i64 (n73 * n75)) fun z76 =>
J68 (n71 == z76) h70
else
J68 false h70)) fun J22 =>
M.load h21 ((⟨b17, 0, none⟩ : Addr).add 0) fun v23 =>
M.int .i64 v23 fun n24 =>
M.load h21 ((⟨b17, 0, none⟩ : Addr).add 1) fun v25 =>
M.int .i64 v25 fun n26 =>
M.load h21 ((⟨b17, 0, none⟩ : Addr).add 2) fun v27 =>
M.int .i64 v27 fun n28 =>
M.load h21 ((⟨b17, 0, none⟩ : Addr).add 3) fun v29 =>
M.bool v29 fun b30 =>
layout_Layout_Blocks n24 n26 n28 b30 h21 fun n31 h32 =>
M.loop (α := Int) (fun J33 d34 h35 =>
(bif (decide (d34 < n31)) then
M.load h35 ((⟨b17, 0, none⟩ : Addr).add 0) fun v36 =>
M.int .i64 v36 fun n37 =>
M.load h35 ((⟨b17, 0, none⟩ : Addr).add 1) fun v38 =>
M.int .i64 v38 fun n39 =>
M.load h35 ((⟨b17, 0, none⟩ : Addr).add 2) fun v40 =>
M.int .i64 v40 fun n41 =>
M.load h35 ((⟨b17, 0, none⟩ : Addr).add 3) fun v42 =>
M.bool v42 fun b43 =>
layout_Layout_Find n37 n39 n41 b43 d34 h35 fun n44 n45 n46 h47 =>
M.join (α := Bool) (fun d62 h63 =>
(bif d62 then
Q false h63
else
M.mput Tryd.prog 40 (.map (some b20)) (.agg (#[(.int .i64 n44), (.int .i64 n45)] : Array Value)) (.bool true) h63 fun h64 =>
M.val (IntKind.wrap .i64 (d34 + (1 : Int))) fun z65 =>
J33 z65 h64)) fun J48 =>
(bif (n46 != (0 : Int)) then
J48 true h47
else
M.lk Tryd.prog 40 (.map (some b20)) (.agg (#[(.int .i64 n44), (.int .i64 n45)] : Array Value)) h47 fun v49 h50 =>
M.bool v49 fun b51 =>
(bif b51 then
J48 true h50
else
(bif (decide (n45 < (0 : Int))) then
J48 true h50
else
M.load h50 ((⟨b17, 0, none⟩ : Addr).add 0) fun v52 =>
M.int .i64 v52 fun n53 =>
M.load h50 ((⟨b17, 0, none⟩ : Addr).add 1) fun v54 =>
M.int .i64 v54 fun n55 =>
M.load h50 ((⟨b17, 0, none⟩ : Addr).add 2) fun v56 =>
M.int .i64 v56 fun n57 =>
M.load h50 ((⟨b17, 0, none⟩ : Addr).add 3) fun v58 =>
M.bool v58 fun b59 =>
layout_Layout_Wide n53 n55 n57 b59 n44 h50 fun n60 h61 =>
J48 (decide (n45 ≥ n60)) h61)))
else
J22 () h35)) (0 : Int) h32)
def law18_LayoutOnce.L : List Value → (Value → H → Prop) → H → Prop
  | [.agg ⟨[.int .i64 x_x_0, .int .i64 x_x_1, .int .i64 x_x_2, .bool x_x_3]⟩] => fun Q h => law18_LayoutOnce x_x_0 x_x_1 x_x_2 x_x_3 h fun b79 h80 => Q (.bool b79) h80
  | _ => fun _ _ => False
def law18_LayoutOnce.W : W := fun args => law18_LayoutOnce.L args.toList
def law18_LayoutOnce.ann : Ann := ⟨lookN [(7, [(43, .bool)]), (11, [(2, .bool)])], lookN [(15, [])], lookN [(122, [(14, .int .i64)])]⟩
def law18_LayoutOnce.env : Env := envOf [(16, law18_good.W), (13, layout_Layout_Blocks.W), (17, layout_Layout_Find.W), (14, layout_Layout_Wide.W), (11, law18_wakes.W)]
theorem law18_LayoutOnce.eq (x_x_0 : Int) (x_x_1 : Int) (x_x_2 : Int) (x_x_3 : Bool) (Q : Value → H → Prop) (h : H) : evF Tryd.prog law18_LayoutOnce.env Tryd.f5 law18_LayoutOnce.ann [(.agg (#[(.int .i64 x_x_0), (.int .i64 x_x_1), (.int .i64 x_x_2), (.bool x_x_3)] : Array Value))] Q h = law18_LayoutOnce x_x_0 x_x_1 x_x_2 x_x_3 h fun b79 h80 => Q (.bool b79) h80 := by kernel_rfl
theorem law18_LayoutOnce.W_eq (x_x_0 : Int) (x_x_1 : Int) (x_x_2 : Int) (x_x_3 : Bool) (Q : Value → H → Prop) (h : H) : law18_LayoutOnce.W #[(.agg (#[(.int .i64 x_x_0), (.int .i64 x_x_1), (.int .i64 x_x_2), (.bool x_x_3)] : Array Value))] Q h = law18_LayoutOnce x_x_0 x_x_1 x_x_2 x_x_3 h fun b79 h80 => Q (.bool b79) h80 := by kernel_rfl
theorem law18_LayoutOnce.good : FnGood Tryd.prog 5 law18_LayoutOnce.W := by
  refine FnGood.of (ann := law18_LayoutOnce.ann) (env := law18_LayoutOnce.env) mixed (EnvGood.cons law18_good.good (EnvGood.cons layout_Layout_Blocks.good (EnvGood.cons layout_Layout_Find.good (EnvGood.cons layout_Layout_Wide.good (EnvGood.cons law18_wakes.good EnvGood.nil))))) Tryd.func5 Tryd.call5 fun args => ?_
  show law18_LayoutOnce.L args.toList = _ ∨ ∀ Q m, evF Tryd.prog law18_LayoutOnce.env Tryd.f5 law18_LayoutOnce.ann args.toList Q m = law18_LayoutOnce.L args.toList Q m
  generalize args.toList = l
  unfold law18_LayoutOnce.L
  split
  · exact .inr fun Q m => law18_LayoutOnce.eq _ _ _ _ Q m
  · exact .inl rfl

def law18_LayoutSeats (x_x_0 : Int) (x_x_1 : Int) (x_x_2 : Int) (x_x_3 : Bool) (x_stripe : Int) (x_n : Int) (h : H) (Q : Bool → H → Prop) : Prop :=
M.new h (.cells (#[(.int .i64 x_x_0), (.int .i64 x_x_1), (.int .i64 x_x_2), (.bool x_x_3)] : Array Value) 23) fun b2 h3 =>
M.load h3 ((⟨b2, 0, none⟩ : Addr).add 0) fun v4 =>
M.int .i64 v4 fun n5 =>
M.load h3 ((⟨b2, 0, none⟩ : Addr).add 1) fun v6 =>
M.int .i64 v6 fun n7 =>
M.load h3 ((⟨b2, 0, none⟩ : Addr).add 2) fun v8 =>
M.int .i64 v8 fun n9 =>
M.load h3 ((⟨b2, 0, none⟩ : Addr).add 3) fun v10 =>
M.bool v10 fun b11 =>
M.load h3 ((⟨b2, 0, none⟩ : Addr).add 0) fun v12 =>
M.int .i64 v12 fun n13 =>
M.load h3 ((⟨b2, 0, none⟩ : Addr).add 1) fun v14 =>
M.int .i64 v14 fun n15 =>
M.load h3 ((⟨b2, 0, none⟩ : Addr).add 2) fun v16 =>
M.int .i64 v16 fun n17 =>
M.load h3 ((⟨b2, 0, none⟩ : Addr).add 3) fun v18 =>
M.bool v18 fun b19 =>
law18_good n13 n15 n17 b19 h3 fun n20 n21 n22 b23 h24 =>
M.still h3 (⟨b2, 0, none⟩ : Addr) 4 h24 (
M.new h24 (.cells (#[(.int .i64 n5), (.int .i64 n7), (.int .i64 n9), (.bool b11), (.int .i64 n20), (.int .i64 n21), (.int .i64 n22), (.bool b23)] : Array Value) 24) fun b25 h26 =>
M.loop (α := Int) (fun J27 d28 h29 =>
(bif (decide (d28 < ((2 : Nat) : Int))) then
M.idx (some (⟨b25, 0, none⟩ : Addr)) 2 d28 fun a30 j31 =>
M.load h29 ((Addr.add a30 (j31 * 4)).add 0) fun v32 =>
M.int .i64 v32 fun n33 =>
M.load h29 ((Addr.add a30 (j31 * 4)).add 1) fun v34 =>
M.int .i64 v34 fun n35 =>
M.load h29 ((Addr.add a30 (j31 * 4)).add 2) fun v36 =>
M.int .i64 v36 fun n37 =>
M.load h29 ((Addr.add a30 (j31 * 4)).add 3) fun v38 =>
M.bool v38 fun b39 =>
M.new h29 (.cells (#[(.int .i64 (0 : Int)), (.int .i64 (0 : Int)), (.int .i64 (0 : Int)), (.bool false)] : Array Value) 24) fun b40 h41 =>
M.req (Array.size (#[(.int .i64 n33), (.int .i64 n35), (.int .i64 n37), (.bool b39)] : Array Value) = 4) (M.puts h41 (⟨b40, 0, none⟩ : Addr) [(.int .i64 n33), (.int .i64 n35), (.int .i64 n37), (.bool b39)] fun h42 =>
M.val (bAnd .i64 x_stripe (15 : Int)) fun z43 =>
M.val (bAnd .i64 x_n (15 : Int)) fun z44 =>
M.new h42 (.cells (#[(.int .i64 x_stripe), (.int .i64 x_n), (.int .i64 z43), (.int .i64 z44)] : Array Value) 41) fun b45 h46 =>
M.loop (α := Int) (fun J47 d48 h49 =>
(bif (decide (d48 < ((2 : Nat) : Int))) then
M.idx (some (⟨b45, 0, none⟩ : Addr)) 2 d48 fun a50 j51 =>
M.load h49 ((Addr.add a50 (j51 * 2)).add 0) fun v52 =>
M.int .i64 v52 fun n53 =>
M.load h49 ((Addr.add a50 (j51 * 2)).add 1) fun v54 =>
M.int .i64 v54 fun n55 =>
M.new h49 (.cells (#[(.int .i64 (0 : Int)), (.int .i64 (0 : Int))] : Array Value) 41) fun b56 h57 =>
M.req (Array.size (#[(.int .i64 n53), (.int .i64 n55)] : Array Value) = 2) (M.puts h57 (⟨b56, 0, none⟩ : Addr) [(.int .i64 n53), (.int .i64 n55)] fun h58 =>
M.load h58 ((⟨b40, 0, none⟩ : Addr).add 0) fun v59 =>
M.int .i64 v59 fun n60 =>
M.load h58 ((⟨b40, 0, none⟩ : Addr).add 1) fun v61 =>
M.int .i64 v61 fun n62 =>
M.load h58 ((⟨b40, 0, none⟩ : Addr).add 2) fun v63 =>
M.int .i64 v63 fun n64 =>
M.load h58 ((⟨b40, 0, none⟩ : Addr).add 3) fun v65 =>
M.bool v65 fun b66 =>
M.new h58 (.cells (#[(.int .i64 (0 : Int)), (.int .i64 (0 : Int)), (.int .i64 (0 : Int)), (.bool false)] : Array Value) 25) fun b67 h68 =>
M.req (Array.size (#[(.int .i64 n60), (.int .i64 n62), (.int .i64 n64), (.bool b66)] : Array Value) = 4) (M.puts h68 (⟨b67, 0, none⟩ : Addr) [(.int .i64 n60), (.int .i64 n62), (.int .i64 n64), (.bool b66)] fun h69 =>
M.load h69 ((⟨b40, 0, none⟩ : Addr).add 0) fun v70 =>
M.int .i64 v70 fun n71 =>
M.load h69 ((⟨b40, 0, none⟩ : Addr).add 1) fun v72 =>
M.int .i64 v72 fun n73 =>
M.load h69 ((⟨b40, 0, none⟩ : Addr).add 2) fun v74 =>
M.int .i64 v74 fun n75 =>
M.load h69 ((⟨b40, 0, none⟩ : Addr).add 3) fun v76 =>
M.bool v76 fun b77 =>
M.aidx 2 (0 : Int) fun j78 =>
M.load h69 (Addr.add (⟨b56, 0, none⟩ : Addr) (j78 * 1)) fun v79 =>
M.int .i64 v79 fun n80 =>
M.aidx 2 (1 : Int) fun j81 =>
M.load h69 (Addr.add (⟨b56, 0, none⟩ : Addr) (j81 * 1)) fun v82 =>
M.int .i64 v82 fun n83 =>
layout_Layout_Seat n71 n73 n75 b77 n80 n83 h69 fun n84 n85 h86 =>
M.load h86 ((⟨b67, 0, none⟩ : Addr).add 0) fun v87 =>
M.int .i64 v87 fun n88 =>
M.load h86 ((⟨b67, 0, none⟩ : Addr).add 1) fun v89 =>
M.int .i64 v89 fun n90 =>
M.load h86 ((⟨b67, 0, none⟩ : Addr).add 2) fun v91 =>
M.int .i64 v91 fun n92 =>
M.load h86 ((⟨b67, 0, none⟩ : Addr).add 3) fun v93 =>
M.bool v93 fun b94 =>
M.aidx 2 (0 : Int) fun j95 =>
M.load h86 (Addr.add (⟨b56, 0, none⟩ : Addr) (j95 * 1)) fun v96 =>
M.int .i64 v96 fun n97 =>
M.aidx 2 (1 : Int) fun j98 =>
M.load h86 (Addr.add (⟨b56, 0, none⟩ : Addr) (j98 * 1)) fun v99 =>
M.int .i64 v99 fun n100 =>
ref18_Seat n88 n90 n92 b94 n97 n100 h86 fun n101 n102 h103 =>
M.load h103 ((⟨b40, 0, none⟩ : Addr).add 0) fun v104 =>
M.int .i64 v104 fun n105 =>
M.load h103 ((⟨b40, 0, none⟩ : Addr).add 1) fun v106 =>
M.int .i64 v106 fun n107 =>
M.load h103 ((⟨b40, 0, none⟩ : Addr).add 2) fun v108 =>
M.int .i64 v108 fun n109 =>
M.load h103 ((⟨b40, 0, none⟩ : Addr).add 3) fun v110 =>
M.bool v110 fun b111 =>
M.aidx 2 (0 : Int) fun j112 =>
M.load h103 (Addr.add (⟨b56, 0, none⟩ : Addr) (j112 * 1)) fun v113 =>
M.int .i64 v113 fun n114 =>
M.aidx 2 (1 : Int) fun j115 =>
M.load h103 (Addr.add (⟨b56, 0, none⟩ : Addr) (j115 * 1)) fun v116 =>
M.int .i64 v116 fun n117 =>
layout_Layout_Chunk n105 n107 n109 b111 n114 n117 h103 fun n118 b119 h120 =>
M.load h120 ((⟨b67, 0, none⟩ : Addr).add 0) fun v121 =>
M.int .i64 v121 fun n122 =>
M.load h120 ((⟨b67, 0, none⟩ : Addr).add 1) fun v123 =>
M.int .i64 v123 fun n124 =>
M.load h120 ((⟨b67, 0, none⟩ : Addr).add 2) fun v125 =>
M.int .i64 v125 fun n126 =>
M.load h120 ((⟨b67, 0, none⟩ : Addr).add 3) fun v127 =>
M.bool v127 fun b128 =>
M.aidx 2 (0 : Int) fun j129 =>
M.load h120 (Addr.add (⟨b56, 0, none⟩ : Addr) (j129 * 1)) fun v130 =>
M.int .i64 v130 fun n131 =>
M.aidx 2 (1 : Int) fun j132 =>
M.load h120 (Addr.add (⟨b56, 0, none⟩ : Addr) (j132 * 1)) fun v133 =>
M.int .i64 v133 fun n134 =>
ref18_Chunk n122 n124 n126 b128 n131 n134 h120 fun n135 b136 h137 =>
M.join (α := Bool) (fun d139 h140 =>
(bif d139 then
Q false h140
else
M.val (IntKind.wrap .i64 (d48 + (1 : Int))) fun z141 =>
J47 z141 h140)) fun J138 =>
(bif (n84 != n101) then
J138 true h137
else
(bif (n85 != n102) then
J138 true h137
else
(bif (n118 != n135) then
J138 true h137
else
J138 (!(b119 == b136)) h137)))))
else
M.val (IntKind.wrap .i64 (d28 + (1 : Int))) fun z142 =>
J27 z142 h49)) (0 : Int) h46)
else
law18_wakes  h29 fun b143 h144 =>
Q b143 h144)) (0 : Int) h26)
def law18_LayoutSeats.L : List Value → (Value → H → Prop) → H → Prop
  | [.agg ⟨[.int .i64 x_x_0, .int .i64 x_x_1, .int .i64 x_x_2, .bool x_x_3]⟩, .int .i64 x_stripe, .int .i64 x_n] => fun Q h => law18_LayoutSeats x_x_0 x_x_1 x_x_2 x_x_3 x_stripe x_n h fun b145 h146 => Q (.bool b145) h146
  | _ => fun _ _ => False
def law18_LayoutSeats.W : W := fun args => law18_LayoutSeats.L args.toList
def law18_LayoutSeats.ann : Ann := ⟨lookN [(12, [(97, .bool)])], lookN [], lookN [(26, [(25, .int .i64)]), (6758, [(39, .int .i64)])]⟩
def law18_LayoutSeats.env : Env := envOf [(16, law18_good.W), (19, layout_Layout_Seat.W), (20, ref18_Seat.W), (21, layout_Layout_Chunk.W), (22, ref18_Chunk.W), (11, law18_wakes.W)]
theorem law18_LayoutSeats.eq (x_x_0 : Int) (x_x_1 : Int) (x_x_2 : Int) (x_x_3 : Bool) (x_stripe : Int) (x_n : Int) (Q : Value → H → Prop) (h : H) : evF Tryd.prog law18_LayoutSeats.env Tryd.f6 law18_LayoutSeats.ann [(.agg (#[(.int .i64 x_x_0), (.int .i64 x_x_1), (.int .i64 x_x_2), (.bool x_x_3)] : Array Value)), (.int .i64 x_stripe), (.int .i64 x_n)] Q h = law18_LayoutSeats x_x_0 x_x_1 x_x_2 x_x_3 x_stripe x_n h fun b145 h146 => Q (.bool b145) h146 := by kernel_rfl
theorem law18_LayoutSeats.W_eq (x_x_0 : Int) (x_x_1 : Int) (x_x_2 : Int) (x_x_3 : Bool) (x_stripe : Int) (x_n : Int) (Q : Value → H → Prop) (h : H) : law18_LayoutSeats.W #[(.agg (#[(.int .i64 x_x_0), (.int .i64 x_x_1), (.int .i64 x_x_2), (.bool x_x_3)] : Array Value)), (.int .i64 x_stripe), (.int .i64 x_n)] Q h = law18_LayoutSeats x_x_0 x_x_1 x_x_2 x_x_3 x_stripe x_n h fun b145 h146 => Q (.bool b145) h146 := by kernel_rfl
theorem law18_LayoutSeats.good : FnGood Tryd.prog 6 law18_LayoutSeats.W := by
  refine FnGood.of (ann := law18_LayoutSeats.ann) (env := law18_LayoutSeats.env) mixed (EnvGood.cons law18_good.good (EnvGood.cons layout_Layout_Seat.good (EnvGood.cons ref18_Seat.good (EnvGood.cons layout_Layout_Chunk.good (EnvGood.cons ref18_Chunk.good (EnvGood.cons law18_wakes.good EnvGood.nil)))))) Tryd.func6 Tryd.call6 fun args => ?_
  show law18_LayoutSeats.L args.toList = _ ∨ ∀ Q m, evF Tryd.prog law18_LayoutSeats.env Tryd.f6 law18_LayoutSeats.ann args.toList Q m = law18_LayoutSeats.L args.toList Q m
  generalize args.toList = l
  unfold law18_LayoutSeats.L
  split
  · exact .inr fun Q m => law18_LayoutSeats.eq _ _ _ _ _ _ Q m
  · exact .inl rfl

def law18_LayoutRounds (x_x_0 : Int) (x_x_1 : Int) (x_x_2 : Int) (x_x_3 : Bool) (h : H) (Q : Bool → H → Prop) : Prop :=
M.new h (.cells (#[(.int .i64 x_x_0), (.int .i64 x_x_1), (.int .i64 x_x_2), (.bool x_x_3)] : Array Value) 23) fun b2 h3 =>
M.load h3 ((⟨b2, 0, none⟩ : Addr).add 0) fun v4 =>
M.int .i64 v4 fun n5 =>
M.load h3 ((⟨b2, 0, none⟩ : Addr).add 1) fun v6 =>
M.int .i64 v6 fun n7 =>
M.load h3 ((⟨b2, 0, none⟩ : Addr).add 2) fun v8 =>
M.int .i64 v8 fun n9 =>
M.load h3 ((⟨b2, 0, none⟩ : Addr).add 3) fun v10 =>
M.bool v10 fun b11 =>
law18_good n5 n7 n9 b11 h3 fun n12 n13 n14 b15 h16 =>
M.new h16 (.cells (#[(.int .i64 (0 : Int)), (.int .i64 (0 : Int)), (.int .i64 (0 : Int)), (.bool false)] : Array Value) 24) fun b17 h18 =>
M.req (Array.size (#[(.int .i64 n12), (.int .i64 n13), (.int .i64 n14), (.bool b15)] : Array Value) = 4) (M.puts h18 (⟨b17, 0, none⟩ : Addr) [(.int .i64 n12), (.int .i64 n13), (.int .i64 n14), (.bool b15)] fun h19 =>
M.load h19 (Addr.add (⟨b17, 0, none⟩ : Addr) 1) fun v20 =>
M.int .i64 v20 fun n21 =>
M.loop (α := Int) (fun J22 d23 h24 =>
(bif (decide (d23 < n21)) then
M.load h24 ((⟨b17, 0, none⟩ : Addr).add 0) fun v25 =>
M.int .i64 v25 fun n26 =>
M.load h24 ((⟨b17, 0, none⟩ : Addr).add 1) fun v27 =>
M.int .i64 v27 fun n28 =>
M.load h24 ((⟨b17, 0, none⟩ : Addr).add 2) fun v29 =>
M.int .i64 v29 fun n30 =>
M.load h24 ((⟨b17, 0, none⟩ : Addr).add 3) fun v31 =>
M.bool v31 fun b32 =>
layout_Layout_Wide n26 n28 n30 b32 d23 h24 fun n33 h34 =>
M.val (IntKind.wrap .i64 (n33 + (2 : Int))) fun z35 =>
M.new h34 (.map #[] 0) fun b36 h37 =>
M.join (α := Unit) (fun d72 h73 =>
M.load h73 ((⟨b17, 0, none⟩ : Addr).add 0) fun v74 =>
M.int .i64 v74 fun n75 =>
M.load h73 ((⟨b17, 0, none⟩ : Addr).add 1) fun v76 =>
M.int .i64 v76 fun n77 =>
M.load h73 ((⟨b17, 0, none⟩ : Addr).add 2) fun v78 =>
M.int .i64 v78 fun n79 =>
M.load h73 ((⟨b17, 0, none⟩ : Addr).add 3) fun v80 =>
M.bool v80 fun b81 =>
layout_Layout_Chunk n75 n77 n79 b81 d23 z35 h73 fun n82 b83 h84 =>
(bif b83 then
Q false h84
else
M.join (α := Bool) (fun d107 h108 =>
(bif d107 then
M.load h108 ((⟨b17, 0, none⟩ : Addr).add 0) fun v109 =>
M.int .i64 v109 fun n110 =>
M.load h108 ((⟨b17, 0, none⟩ : Addr).add 1) fun v111 =>
M.int .i64 v111 fun n112 =>
M.load h108 ((⟨b17, 0, none⟩ : Addr).add 2) fun v113 =>
M.int .i64 v113 fun n114 =>
M.load h108 ((⟨b17, 0, none⟩ : Addr).add 3) fun v115 =>
M.bool v115 fun b116 =>
layout_Layout_Seat n110 n112 n114 b116 d23 (0 : Int) h108 fun n117 n118 h119 =>
M.load h119 ((⟨b17, 0, none⟩ : Addr).add 0) fun v120 =>
M.int .i64 v120 fun n121 =>
M.load h119 ((⟨b17, 0, none⟩ : Addr).add 1) fun v122 =>
M.int .i64 v122 fun n123 =>
M.load h119 ((⟨b17, 0, none⟩ : Addr).add 2) fun v124 =>
M.int .i64 v124 fun n125 =>
M.load h119 ((⟨b17, 0, none⟩ : Addr).add 3) fun v126 =>
M.bool v126 fun b127 =>
M.val (IntKind.wrap .i64 (d23 - (1 : Int))) fun z128 =>
layout_Layout_Seat n121 n123 n125 b127 z128 (0 : Int) h119 fun n129 n130 h131 =>
M.val (IntKind.wrap .i64 (n129 + (1 : Int))) fun z132 =>
M.nz z35 (
M.val (Int.tmod z132 z35) fun z133 =>
(bif (n117 != z133) then
Q false h131
else
M.val (IntKind.wrap .i64 (d23 + (1 : Int))) fun z134 =>
J22 z134 h131))
else
M.val (IntKind.wrap .i64 (d23 + (1 : Int))) fun z135 =>
J22 z135 h108)) fun J85 =>
(bif (decide (d23 > (0 : Int))) then
M.load h84 ((⟨b17, 0, none⟩ : Addr).add 0) fun v86 =>
M.int .i64 v86 fun n87 =>
M.load h84 ((⟨b17, 0, none⟩ : Addr).add 1) fun v88 =>
M.int .i64 v88 fun n89 =>
M.load h84 ((⟨b17, 0, none⟩ : Addr).add 2) fun v90 =>
M.int .i64 v90 fun n91 =>
M.load h84 ((⟨b17, 0, none⟩ : Addr).add 3) fun v92 =>
M.bool v92 fun b93 =>
M.load h84 ((⟨b17, 0, none⟩ : Addr).add 0) fun v94 =>
M.int .i64 v94 fun n95 =>
M.load h84 ((⟨b17, 0, none⟩ : Addr).add 1) fun v96 =>
M.int .i64 v96 fun n97 =>
M.load h84 ((⟨b17, 0, none⟩ : Addr).add 2) fun v98 =>
M.int .i64 v98 fun n99 =>
M.load h84 ((⟨b17, 0, none⟩ : Addr).add 3) fun v100 =>
M.bool v100 fun b101 =>
M.val (IntKind.wrap .i64 (d23 - (1 : Int))) fun z102 =>
layout_Layout_Wide n87 n89 n91 b93 d23 h84 fun n103 h104 =>
M.still h84 (⟨b17, 0, none⟩ : Addr) 4 h104 (
layout_Layout_Wide n95 n97 n99 b101 z102 h104 fun n105 h106 =>
J85 (n103 == n105) h106)
else
M.still h84 (⟨b17, 0, none⟩ : Addr) 4 h84 (
J85 false h84)))) fun J38 =>
M.loop (α := Int) (fun J39 d40 h41 =>
(bif (decide (d40 < z35)) then
M.load h41 ((⟨b17, 0, none⟩ : Addr).add 0) fun v42 =>
M.int .i64 v42 fun n43 =>
M.load h41 ((⟨b17, 0, none⟩ : Addr).add 1) fun v44 =>
M.int .i64 v44 fun n45 =>
M.load h41 ((⟨b17, 0, none⟩ : Addr).add 2) fun v46 =>
M.int .i64 v46 fun n47 =>
M.load h41 ((⟨b17, 0, none⟩ : Addr).add 3) fun v48 =>
M.bool v48 fun b49 =>
layout_Layout_Seat n43 n45 n47 b49 d23 d40 h41 fun n50 n51 h52 =>
M.load h52 ((⟨b17, 0, none⟩ : Addr).add 0) fun v53 =>
M.int .i64 v53 fun n54 =>
M.load h52 ((⟨b17, 0, none⟩ : Addr).add 1) fun v55 =>
M.int .i64 v55 fun n56 =>
M.load h52 ((⟨b17, 0, none⟩ : Addr).add 2) fun v57 =>
M.int .i64 v57 fun n58 =>
M.load h52 ((⟨b17, 0, none⟩ : Addr).add 3) fun v59 =>
M.bool v59 fun b60 =>
layout_Layout_Chunk n54 n56 n58 b60 d23 n50 h52 fun n61 b62 h63 =>
M.join (α := Bool) (fun d68 h69 =>
(bif d68 then
Q false h69
else
M.mput Tryd.prog 52 (.map (some b36)) (.int .i64 n50) (.bool true) h69 fun h70 =>
M.val (IntKind.wrap .i64 (d40 + (1 : Int))) fun z71 =>
J39 z71 h70)) fun J64 =>
(bif (n51 != (0 : Int)) then
J64 true h63
else
M.lk Tryd.prog 52 (.map (some b36)) (.int .i64 n50) h63 fun v65 h66 =>
M.bool v65 fun b67 =>
(bif b67 then
J64 true h66
else
(bif (decide (n50 < (0 : Int))) then
J64 true h66
else
(bif (decide (n50 ≥ z35)) then
J64 true h66
else
(bif (!b62) then
J64 true h66
else
J64 (n61 != d40) h66)))))
else
J38 () h41)) (0 : Int) h37
else
law18_wakes  h24 fun b136 h137 =>
Q b136 h137)) (0 : Int) h19)
def law18_LayoutRounds.L : List Value → (Value → H → Prop) → H → Prop
  | [.agg ⟨[.int .i64 x_x_0, .int .i64 x_x_1, .int .i64 x_x_2, .bool x_x_3]⟩] => fun Q h => law18_LayoutRounds x_x_0 x_x_1 x_x_2 x_x_3 h fun b138 h139 => Q (.bool b138) h139
  | _ => fun _ _ => False
def law18_LayoutRounds.W : W := fun args => law18_LayoutRounds.L args.toList
def law18_LayoutRounds.ann : Ann := ⟨lookN [(12, [(72, .bool)]), (19, [(95, .bool)])], lookN [(14951, [])], lookN [(58, [(22, .int .i64)]), (119610, [(31, .int .i64)])]⟩
def law18_LayoutRounds.env : Env := envOf [(16, law18_good.W), (14, layout_Layout_Wide.W), (19, layout_Layout_Seat.W), (21, layout_Layout_Chunk.W), (11, law18_wakes.W)]
theorem law18_LayoutRounds.eq (x_x_0 : Int) (x_x_1 : Int) (x_x_2 : Int) (x_x_3 : Bool) (Q : Value → H → Prop) (h : H) : evF Tryd.prog law18_LayoutRounds.env Tryd.f7 law18_LayoutRounds.ann [(.agg (#[(.int .i64 x_x_0), (.int .i64 x_x_1), (.int .i64 x_x_2), (.bool x_x_3)] : Array Value))] Q h = law18_LayoutRounds x_x_0 x_x_1 x_x_2 x_x_3 h fun b138 h139 => Q (.bool b138) h139 := by kernel_rfl
theorem law18_LayoutRounds.W_eq (x_x_0 : Int) (x_x_1 : Int) (x_x_2 : Int) (x_x_3 : Bool) (Q : Value → H → Prop) (h : H) : law18_LayoutRounds.W #[(.agg (#[(.int .i64 x_x_0), (.int .i64 x_x_1), (.int .i64 x_x_2), (.bool x_x_3)] : Array Value))] Q h = law18_LayoutRounds x_x_0 x_x_1 x_x_2 x_x_3 h fun b138 h139 => Q (.bool b138) h139 := by kernel_rfl
theorem law18_LayoutRounds.good : FnGood Tryd.prog 7 law18_LayoutRounds.W := by
  refine FnGood.of (ann := law18_LayoutRounds.ann) (env := law18_LayoutRounds.env) mixed (EnvGood.cons law18_good.good (EnvGood.cons layout_Layout_Wide.good (EnvGood.cons layout_Layout_Seat.good (EnvGood.cons layout_Layout_Chunk.good (EnvGood.cons law18_wakes.good EnvGood.nil))))) Tryd.func7 Tryd.call7 fun args => ?_
  show law18_LayoutRounds.L args.toList = _ ∨ ∀ Q m, evF Tryd.prog law18_LayoutRounds.env Tryd.f7 law18_LayoutRounds.ann args.toList Q m = law18_LayoutRounds.L args.toList Q m
  generalize args.toList = l
  unfold law18_LayoutRounds.L
  split
  · exact .inr fun Q m => law18_LayoutRounds.eq _ _ _ _ Q m
  · exact .inl rfl

def law18_LayoutSteps (x_x_0 : Int) (x_x_1 : Int) (x_x_2 : Int) (x_x_3 : Bool) (h : H) (Q : Bool → H → Prop) : Prop :=
M.new h (.cells (#[(.int .i64 x_x_0), (.int .i64 x_x_1), (.int .i64 x_x_2), (.bool x_x_3)] : Array Value) 23) fun b2 h3 =>
M.load h3 ((⟨b2, 0, none⟩ : Addr).add 0) fun v4 =>
M.int .i64 v4 fun n5 =>
M.load h3 ((⟨b2, 0, none⟩ : Addr).add 1) fun v6 =>
M.int .i64 v6 fun n7 =>
M.load h3 ((⟨b2, 0, none⟩ : Addr).add 2) fun v8 =>
M.int .i64 v8 fun n9 =>
M.load h3 ((⟨b2, 0, none⟩ : Addr).add 3) fun v10 =>
M.bool v10 fun b11 =>
M.load h3 ((⟨b2, 0, none⟩ : Addr).add 0) fun v12 =>
M.int .i64 v12 fun n13 =>
M.load h3 ((⟨b2, 0, none⟩ : Addr).add 1) fun v14 =>
M.int .i64 v14 fun n15 =>
M.load h3 ((⟨b2, 0, none⟩ : Addr).add 2) fun v16 =>
M.int .i64 v16 fun n17 =>
M.load h3 ((⟨b2, 0, none⟩ : Addr).add 3) fun v18 =>
M.bool v18 fun b19 =>
law18_good n13 n15 n17 b19 h3 fun n20 n21 n22 b23 h24 =>
M.still h3 (⟨b2, 0, none⟩ : Addr) 4 h24 (
M.new h24 (.cells (#[(.int .i64 n5), (.int .i64 n7), (.int .i64 n9), (.bool b11), (.int .i64 n20), (.int .i64 n21), (.int .i64 n22), (.bool b23)] : Array Value) 24) fun b25 h26 =>
M.loop (α := Int) (fun J27 d28 h29 =>
(bif (decide (d28 < ((2 : Nat) : Int))) then
M.idx (some (⟨b25, 0, none⟩ : Addr)) 2 d28 fun a30 j31 =>
M.load h29 ((Addr.add a30 (j31 * 4)).add 0) fun v32 =>
M.int .i64 v32 fun n33 =>
M.load h29 ((Addr.add a30 (j31 * 4)).add 1) fun v34 =>
M.int .i64 v34 fun n35 =>
M.load h29 ((Addr.add a30 (j31 * 4)).add 2) fun v36 =>
M.int .i64 v36 fun n37 =>
M.load h29 ((Addr.add a30 (j31 * 4)).add 3) fun v38 =>
M.bool v38 fun b39 =>
M.new h29 (.cells (#[(.int .i64 (0 : Int)), (.int .i64 (0 : Int)), (.int .i64 (0 : Int)), (.bool false)] : Array Value) 24) fun b40 h41 =>
M.req (Array.size (#[(.int .i64 n33), (.int .i64 n35), (.int .i64 n37), (.bool b39)] : Array Value) = 4) (M.puts h41 (⟨b40, 0, none⟩ : Addr) [(.int .i64 n33), (.int .i64 n35), (.int .i64 n37), (.bool b39)] fun h42 =>
M.load h42 ((⟨b40, 0, none⟩ : Addr).add 0) fun v43 =>
M.int .i64 v43 fun n44 =>
M.load h42 ((⟨b40, 0, none⟩ : Addr).add 1) fun v45 =>
M.int .i64 v45 fun n46 =>
M.load h42 ((⟨b40, 0, none⟩ : Addr).add 2) fun v47 =>
M.int .i64 v47 fun n48 =>
M.load h42 ((⟨b40, 0, none⟩ : Addr).add 3) fun v49 =>
M.bool v49 fun b50 =>
M.new h42 (.cells (#[(.int .i64 (0 : Int)), (.int .i64 (0 : Int)), (.int .i64 (0 : Int)), (.bool false)] : Array Value) 25) fun b51 h52 =>
M.req (Array.size (#[(.int .i64 n44), (.int .i64 n46), (.int .i64 n48), (.bool b50)] : Array Value) = 4) (M.puts h52 (⟨b51, 0, none⟩ : Addr) [(.int .i64 n44), (.int .i64 n46), (.int .i64 n48), (.bool b50)] fun h53 =>
M.load h53 ((⟨b40, 0, none⟩ : Addr).add 0) fun v54 =>
M.int .i64 v54 fun n55 =>
M.load h53 ((⟨b40, 0, none⟩ : Addr).add 1) fun v56 =>
M.int .i64 v56 fun n57 =>
M.load h53 ((⟨b40, 0, none⟩ : Addr).add 2) fun v58 =>
M.int .i64 v58 fun n59 =>
M.load h53 ((⟨b40, 0, none⟩ : Addr).add 3) fun v60 =>
M.bool v60 fun b61 =>
layout_Layout_Moves n55 n57 n59 b61 h53 fun a62 l63 c64 n65 h66 =>
M.load h66 ((⟨b51, 0, none⟩ : Addr).add 0) fun v67 =>
M.int .i64 v67 fun n68 =>
M.load h66 ((⟨b51, 0, none⟩ : Addr).add 1) fun v69 =>
M.int .i64 v69 fun n70 =>
M.load h66 ((⟨b51, 0, none⟩ : Addr).add 2) fun v71 =>
M.int .i64 v71 fun n72 =>
M.load h66 ((⟨b51, 0, none⟩ : Addr).add 3) fun v73 =>
M.bool v73 fun b74 =>
ref18_Moves n68 n70 n72 b74 h66 fun a75 l76 c77 n78 h79 =>
M.load h79 ((⟨b40, 0, none⟩ : Addr).add 0) fun v80 =>
M.int .i64 v80 fun n81 =>
M.load h79 ((⟨b40, 0, none⟩ : Addr).add 1) fun v82 =>
M.int .i64 v82 fun n83 =>
M.load h79 ((⟨b40, 0, none⟩ : Addr).add 2) fun v84 =>
M.int .i64 v84 fun n85 =>
M.load h79 ((⟨b40, 0, none⟩ : Addr).add 3) fun v86 =>
M.bool v86 fun b87 =>
layout_Layout_Step n81 n83 n85 b87 h79 fun n88 n89 n90 b91 n92 h93 =>
M.new h93 (.cells (#[(.int .i64 (0 : Int)), (.int .i64 (0 : Int)), (.int .i64 (0 : Int)), (.bool false)] : Array Value) 24) fun b94 h95 =>
M.req (Array.size (#[(.int .i64 n88), (.int .i64 n89), (.int .i64 n90), (.bool b91)] : Array Value) = 4) (M.puts h95 (⟨b94, 0, none⟩ : Addr) [(.int .i64 n88), (.int .i64 n89), (.int .i64 n90), (.bool b91)] fun h96 =>
M.load h96 ((⟨b51, 0, none⟩ : Addr).add 0) fun v97 =>
M.int .i64 v97 fun n98 =>
M.load h96 ((⟨b51, 0, none⟩ : Addr).add 1) fun v99 =>
M.int .i64 v99 fun n100 =>
M.load h96 ((⟨b51, 0, none⟩ : Addr).add 2) fun v101 =>
M.int .i64 v101 fun n102 =>
M.load h96 ((⟨b51, 0, none⟩ : Addr).add 3) fun v103 =>
M.bool v103 fun b104 =>
ref18_Step n98 n100 n102 b104 h96 fun n105 n106 n107 b108 n109 h110 =>
M.new h110 (.cells (#[(.int .i64 (0 : Int)), (.int .i64 (0 : Int)), (.int .i64 (0 : Int)), (.bool false)] : Array Value) 25) fun b111 h112 =>
M.req (Array.size (#[(.int .i64 n105), (.int .i64 n106), (.int .i64 n107), (.bool b108)] : Array Value) = 4) (M.puts h112 (⟨b111, 0, none⟩ : Addr) [(.int .i64 n105), (.int .i64 n106), (.int .i64 n107), (.bool b108)] fun h113 =>
M.join (α := Bool) (fun d133 h134 =>
(bif d133 then
Q false h134
else
M.loop (α := Int) (fun J135 d136 h137 =>
(bif (decide (d136 < ((l63 : Nat) : Int))) then
M.idx a62 l63 d136 fun a138 j139 =>
M.load h137 (Addr.add a138 (j139 * 1)) fun v140 =>
M.int .i64 v140 fun n141 =>
M.idx a75 l76 d136 fun a142 j143 =>
M.load h137 (Addr.add a142 (j143 * 1)) fun v144 =>
M.int .i64 v144 fun n145 =>
(bif (n141 != n145) then
Q false h137
else
M.val (IntKind.wrap .i64 (d136 + (1 : Int))) fun z146 =>
J135 z146 h137)
else
M.val (IntKind.wrap .i64 (d28 + (1 : Int))) fun z147 =>
J27 z147 h137)) (0 : Int) h134)) fun J114 =>
(bif (n65 != n78) then
J114 true h113
else
(bif (((l63 : Nat) : Int) != ((l76 : Nat) : Int)) then
J114 true h113
else
M.load h113 ((⟨b94, 0, none⟩ : Addr).add 0) fun v115 =>
M.int .i64 v115 fun n116 =>
M.load h113 ((⟨b94, 0, none⟩ : Addr).add 1) fun v117 =>
M.int .i64 v117 fun n118 =>
M.load h113 ((⟨b94, 0, none⟩ : Addr).add 2) fun v119 =>
M.int .i64 v119 fun n120 =>
M.load h113 ((⟨b94, 0, none⟩ : Addr).add 3) fun v121 =>
M.bool v121 fun b122 =>
M.load h113 ((⟨b111, 0, none⟩ : Addr).add 0) fun v123 =>
M.int .i64 v123 fun n124 =>
M.load h113 ((⟨b111, 0, none⟩ : Addr).add 1) fun v125 =>
M.int .i64 v125 fun n126 =>
M.load h113 ((⟨b111, 0, none⟩ : Addr).add 2) fun v127 =>
M.int .i64 v127 fun n128 =>
M.load h113 ((⟨b111, 0, none⟩ : Addr).add 3) fun v129 =>
M.bool v129 fun b130 =>
M.eqv Tryd.prog .neq 25 (.tmp 56) (.tmp 57) (.agg (#[(.int .i64 n116), (.int .i64 n118), (.int .i64 n120), (.bool b122)] : Array Value)) (.agg (#[(.int .i64 n124), (.int .i64 n126), (.int .i64 n128), (.bool b130)] : Array Value)) h113 fun b131 h132 =>
(bif b131 then
J114 true h132
else
J114 (n92 != n109) h132)))))))
else
law18_wakes  h29 fun b148 h149 =>
Q b148 h149)) (0 : Int) h26)
def law18_LayoutSteps.L : List Value → (Value → H → Prop) → H → Prop
  | [.agg ⟨[.int .i64 x_x_0, .int .i64 x_x_1, .int .i64 x_x_2, .bool x_x_3]⟩] => fun Q h => law18_LayoutSteps x_x_0 x_x_1 x_x_2 x_x_3 h fun b150 h151 => Q (.bool b150) h151
  | _ => fun _ _ => False
def law18_LayoutSteps.W : W := fun args => law18_LayoutSteps.L args.toList
def law18_LayoutSteps.ann : Ann := ⟨lookN [(9, [(64, .bool)])], lookN [], lookN [(26, [(20, .int .i64)]), (432638, [(67, .int .i64)])]⟩
def law18_LayoutSteps.env : Env := envOf [(16, law18_good.W), (23, layout_Layout_Moves.W), (24, ref18_Moves.W), (25, layout_Layout_Step.W), (26, ref18_Step.W), (11, law18_wakes.W)]
theorem law18_LayoutSteps.eq (x_x_0 : Int) (x_x_1 : Int) (x_x_2 : Int) (x_x_3 : Bool) (Q : Value → H → Prop) (h : H) : evF Tryd.prog law18_LayoutSteps.env Tryd.f8 law18_LayoutSteps.ann [(.agg (#[(.int .i64 x_x_0), (.int .i64 x_x_1), (.int .i64 x_x_2), (.bool x_x_3)] : Array Value))] Q h = law18_LayoutSteps x_x_0 x_x_1 x_x_2 x_x_3 h fun b150 h151 => Q (.bool b150) h151 := by kernel_rfl
theorem law18_LayoutSteps.W_eq (x_x_0 : Int) (x_x_1 : Int) (x_x_2 : Int) (x_x_3 : Bool) (Q : Value → H → Prop) (h : H) : law18_LayoutSteps.W #[(.agg (#[(.int .i64 x_x_0), (.int .i64 x_x_1), (.int .i64 x_x_2), (.bool x_x_3)] : Array Value))] Q h = law18_LayoutSteps x_x_0 x_x_1 x_x_2 x_x_3 h fun b150 h151 => Q (.bool b150) h151 := by kernel_rfl
theorem law18_LayoutSteps.good : FnGood Tryd.prog 8 law18_LayoutSteps.W := by
  refine FnGood.of (ann := law18_LayoutSteps.ann) (env := law18_LayoutSteps.env) mixed (EnvGood.cons law18_good.good (EnvGood.cons layout_Layout_Moves.good (EnvGood.cons ref18_Moves.good (EnvGood.cons layout_Layout_Step.good (EnvGood.cons ref18_Step.good (EnvGood.cons law18_wakes.good EnvGood.nil)))))) Tryd.func8 Tryd.call8 fun args => ?_
  show law18_LayoutSteps.L args.toList = _ ∨ ∀ Q m, evF Tryd.prog law18_LayoutSteps.env Tryd.f8 law18_LayoutSteps.ann args.toList Q m = law18_LayoutSteps.L args.toList Q m
  generalize args.toList = l
  unfold law18_LayoutSteps.L
  split
  · exact .inr fun Q m => law18_LayoutSteps.eq _ _ _ _ Q m
  · exact .inl rfl

def law18_LayoutGrows (x_x_0 : Int) (x_x_1 : Int) (x_x_2 : Int) (x_x_3 : Bool) (h : H) (Q : Bool → H → Prop) : Prop :=
M.new h (.cells (#[(.int .i64 x_x_0), (.int .i64 x_x_1), (.int .i64 x_x_2), (.bool x_x_3)] : Array Value) 23) fun b2 h3 =>
M.put h3 (Addr.add (⟨b2, 0, none⟩ : Addr) 3) (.bool true) fun h4 =>
M.load h4 ((⟨b2, 0, none⟩ : Addr).add 0) fun v5 =>
M.int .i64 v5 fun n6 =>
M.load h4 ((⟨b2, 0, none⟩ : Addr).add 1) fun v7 =>
M.int .i64 v7 fun n8 =>
M.load h4 ((⟨b2, 0, none⟩ : Addr).add 2) fun v9 =>
M.int .i64 v9 fun n10 =>
M.load h4 ((⟨b2, 0, none⟩ : Addr).add 3) fun v11 =>
M.bool v11 fun b12 =>
law18_good n6 n8 n10 b12 h4 fun n13 n14 n15 b16 h17 =>
M.new h17 (.cells (#[(.int .i64 (0 : Int)), (.int .i64 (0 : Int)), (.int .i64 (0 : Int)), (.bool false)] : Array Value) 24) fun b18 h19 =>
M.req (Array.size (#[(.int .i64 n13), (.int .i64 n14), (.int .i64 n15), (.bool b16)] : Array Value) = 4) (M.puts h19 (⟨b18, 0, none⟩ : Addr) [(.int .i64 n13), (.int .i64 n14), (.int .i64 n15), (.bool b16)] fun h20 =>
M.put h20 (Addr.add (⟨b18, 0, none⟩ : Addr) 2) (.int .i64 (0 : Int)) fun h21 =>
M.load h21 (Addr.add (⟨b18, 0, none⟩ : Addr) 0) fun v22 =>
M.int .i64 v22 fun n23 =>
M.join (α := Unit) (fun d201 h202 =>
M.join (α := Bool) (fun d219 h220 =>
Q d219 h220) fun J203 =>
law18_wakes  h202 fun b204 h205 =>
(bif b204 then
M.load h205 ((⟨b18, 0, none⟩ : Addr).add 0) fun v206 =>
M.int .i64 v206 fun n207 =>
M.load h205 ((⟨b18, 0, none⟩ : Addr).add 1) fun v208 =>
M.int .i64 v208 fun n209 =>
M.load h205 ((⟨b18, 0, none⟩ : Addr).add 2) fun v210 =>
M.int .i64 v210 fun n211 =>
M.load h205 ((⟨b18, 0, none⟩ : Addr).add 3) fun v212 =>
M.bool v212 fun b213 =>
M.val (IntKind.wrap .i64 (n23 + (1 : Int))) fun z214 =>
M.load h205 (Addr.add (⟨b18, 0, none⟩ : Addr) 1) fun v215 =>
M.int .i64 v215 fun n216 =>
M.eqv Tryd.prog .eql 24 (.tmp 172) (.tmp 177) (.agg (#[(.int .i64 n207), (.int .i64 n209), (.int .i64 n211), (.bool b213)] : Array Value)) (.agg (#[(.int .i64 z214), (.int .i64 n216), (.int .i64 (0 : Int)), (.bool false)] : Array Value)) h205 fun b217 h218 =>
J203 b217 h218
else
J203 false h205)) fun J24 =>
M.load h21 (Addr.add (⟨b18, 0, none⟩ : Addr) 1) fun v25 =>
M.int .i64 v25 fun n26 =>
M.loop (α := Int) (fun J27 d28 h29 =>
(bif (decide (d28 < n26)) then
M.load h29 ((⟨b18, 0, none⟩ : Addr).add 0) fun v30 =>
M.int .i64 v30 fun n31 =>
M.load h29 ((⟨b18, 0, none⟩ : Addr).add 1) fun v32 =>
M.int .i64 v32 fun n33 =>
M.load h29 ((⟨b18, 0, none⟩ : Addr).add 2) fun v34 =>
M.int .i64 v34 fun n35 =>
M.load h29 ((⟨b18, 0, none⟩ : Addr).add 3) fun v36 =>
M.bool v36 fun b37 =>
layout_Layout_Moves n31 n33 n35 b37 h29 fun a38 l39 c40 n41 h42 =>
M.load h42 ((⟨b18, 0, none⟩ : Addr).add 0) fun v43 =>
M.int .i64 v43 fun n44 =>
M.load h42 ((⟨b18, 0, none⟩ : Addr).add 1) fun v45 =>
M.int .i64 v45 fun n46 =>
M.load h42 ((⟨b18, 0, none⟩ : Addr).add 2) fun v47 =>
M.int .i64 v47 fun n48 =>
M.load h42 ((⟨b18, 0, none⟩ : Addr).add 3) fun v49 =>
M.bool v49 fun b50 =>
layout_Layout_Step n44 n46 n48 b50 h42 fun n51 n52 n53 b54 n55 h56 =>
M.new h56 (.cells (#[(.int .i64 (0 : Int)), (.int .i64 (0 : Int)), (.int .i64 (0 : Int)), (.bool false)] : Array Value) 24) fun b57 h58 =>
M.req (Array.size (#[(.int .i64 n51), (.int .i64 n52), (.int .i64 n53), (.bool b54)] : Array Value) = 4) (M.puts h58 (⟨b57, 0, none⟩ : Addr) [(.int .i64 n51), (.int .i64 n52), (.int .i64 n53), (.bool b54)] fun h59 =>
M.join (α := Bool) (fun d72 h73 =>
(bif d72 then
Q false h73
else
M.join (α := Unit) (fun d137 h138 =>
M.load h138 ((⟨b18, 0, none⟩ : Addr).add 0) fun v139 =>
M.int .i64 v139 fun n140 =>
M.load h138 ((⟨b18, 0, none⟩ : Addr).add 1) fun v141 =>
M.int .i64 v141 fun n142 =>
M.load h138 ((⟨b18, 0, none⟩ : Addr).add 2) fun v143 =>
M.int .i64 v143 fun n144 =>
M.load h138 ((⟨b18, 0, none⟩ : Addr).add 3) fun v145 =>
M.bool v145 fun b146 =>
layout_Layout_Blocks n140 n142 n144 b146 h138 fun n147 h148 =>
M.loop (α := Int) (fun J149 d150 h151 =>
(bif (decide (d150 < n147)) then
M.load h151 ((⟨b18, 0, none⟩ : Addr).add 0) fun v152 =>
M.int .i64 v152 fun n153 =>
M.load h151 ((⟨b18, 0, none⟩ : Addr).add 1) fun v154 =>
M.int .i64 v154 fun n155 =>
M.load h151 ((⟨b18, 0, none⟩ : Addr).add 2) fun v156 =>
M.int .i64 v156 fun n157 =>
M.load h151 ((⟨b18, 0, none⟩ : Addr).add 3) fun v158 =>
M.bool v158 fun b159 =>
layout_Layout_Find n153 n155 n157 b159 d150 h151 fun n160 n161 n162 h163 =>
M.load h163 ((⟨b57, 0, none⟩ : Addr).add 0) fun v164 =>
M.int .i64 v164 fun n165 =>
M.load h163 ((⟨b57, 0, none⟩ : Addr).add 1) fun v166 =>
M.int .i64 v166 fun n167 =>
M.load h163 ((⟨b57, 0, none⟩ : Addr).add 2) fun v168 =>
M.int .i64 v168 fun n169 =>
M.load h163 ((⟨b57, 0, none⟩ : Addr).add 3) fun v170 =>
M.bool v170 fun b171 =>
layout_Layout_Find n165 n167 n169 b171 d150 h163 fun n172 n173 n174 h175 =>
M.join (α := Bool) (fun d185 h186 =>
M.join (α := Bool) (fun d188 h189 =>
(bif d188 then
Q false h189
else
M.val (IntKind.wrap .i64 (d150 + (1 : Int))) fun z190 =>
J149 z190 h189)) fun J187 =>
(bif (!d185) then
(bif (n160 != n172) then
J187 true h186
else
(bif (n161 != n173) then
J187 true h186
else
(bif (!d185) then
J187 (n172 == d28) h186
else
J187 false h186)))
else
(bif (!d185) then
J187 (n172 == d28) h186
else
J187 false h186))) fun J176 =>
M.idx a38 l39 (0 : Int) fun a177 j178 =>
M.load h175 (Addr.add a177 (j178 * 1)) fun v179 =>
M.int .i64 v179 fun n180 =>
(bif (decide (d150 ≥ n180)) then
M.idx a38 l39 n23 fun a181 j182 =>
M.load h175 (Addr.add a181 (j182 * 1)) fun v183 =>
M.int .i64 v183 fun n184 =>
J176 (decide (d150 ≤ n184)) h175
else
J176 false h175)
else
M.load h151 ((⟨b57, 0, none⟩ : Addr).add 0) fun v191 =>
M.int .i64 v191 fun n192 =>
M.load h151 ((⟨b57, 0, none⟩ : Addr).add 1) fun v193 =>
M.int .i64 v193 fun n194 =>
M.load h151 ((⟨b57, 0, none⟩ : Addr).add 2) fun v195 =>
M.int .i64 v195 fun n196 =>
M.load h151 ((⟨b57, 0, none⟩ : Addr).add 3) fun v197 =>
M.bool v197 fun b198 =>
M.req (Array.size (#[(.int .i64 n192), (.int .i64 n194), (.int .i64 n196), (.bool b198)] : Array Value) = 4) (M.puts h151 (⟨b18, 0, none⟩ : Addr) [(.int .i64 n192), (.int .i64 n194), (.int .i64 n196), (.bool b198)] fun h199 =>
M.val (IntKind.wrap .i64 (d28 + (1 : Int))) fun z200 =>
J27 z200 h199))) (0 : Int) h148) fun J74 =>
M.loop (α := Int) (fun J75 d76 h77 =>
(bif (decide (d76 < ((l39 : Nat) : Int))) then
M.idx a38 l39 d76 fun a78 j79 =>
M.load h77 (Addr.add a78 (j79 * 1)) fun v80 =>
M.int .i64 v80 fun n81 =>
M.join (α := Unit) (fun d108 h109 =>
M.load h109 ((⟨b57, 0, none⟩ : Addr).add 0) fun v110 =>
M.int .i64 v110 fun n111 =>
M.load h109 ((⟨b57, 0, none⟩ : Addr).add 1) fun v112 =>
M.int .i64 v112 fun n113 =>
M.load h109 ((⟨b57, 0, none⟩ : Addr).add 2) fun v114 =>
M.int .i64 v114 fun n115 =>
M.load h109 ((⟨b57, 0, none⟩ : Addr).add 3) fun v116 =>
M.bool v116 fun b117 =>
layout_Layout_Blocks n111 n113 n115 b117 h109 fun n118 h119 =>
(bif (decide (n81 < n118)) then
M.load h119 ((⟨b57, 0, none⟩ : Addr).add 0) fun v120 =>
M.int .i64 v120 fun n121 =>
M.load h119 ((⟨b57, 0, none⟩ : Addr).add 1) fun v122 =>
M.int .i64 v122 fun n123 =>
M.load h119 ((⟨b57, 0, none⟩ : Addr).add 2) fun v124 =>
M.int .i64 v124 fun n125 =>
M.load h119 ((⟨b57, 0, none⟩ : Addr).add 3) fun v126 =>
M.bool v126 fun b127 =>
layout_Layout_Find n121 n123 n125 b127 n81 h119 fun n128 n129 n130 h131 =>
M.join (α := Bool) (fun d133 h134 =>
(bif d133 then
Q false h134
else
M.val (IntKind.wrap .i64 (d76 + (1 : Int))) fun z135 =>
J75 z135 h134)) fun J132 =>
(bif (n130 != (0 : Int)) then
J132 true h131
else
(bif (n128 != d28) then
J132 true h131
else
J132 (n129 != d76) h131))
else
M.val (IntKind.wrap .i64 (d76 + (1 : Int))) fun z136 =>
J75 z136 h119)) fun J82 =>
M.load h77 ((⟨b18, 0, none⟩ : Addr).add 0) fun v83 =>
M.int .i64 v83 fun n84 =>
M.load h77 ((⟨b18, 0, none⟩ : Addr).add 1) fun v85 =>
M.int .i64 v85 fun n86 =>
M.load h77 ((⟨b18, 0, none⟩ : Addr).add 2) fun v87 =>
M.int .i64 v87 fun n88 =>
M.load h77 ((⟨b18, 0, none⟩ : Addr).add 3) fun v89 =>
M.bool v89 fun b90 =>
layout_Layout_Blocks n84 n86 n88 b90 h77 fun n91 h92 =>
(bif (decide (n81 < n91)) then
M.load h92 ((⟨b18, 0, none⟩ : Addr).add 0) fun v93 =>
M.int .i64 v93 fun n94 =>
M.load h92 ((⟨b18, 0, none⟩ : Addr).add 1) fun v95 =>
M.int .i64 v95 fun n96 =>
M.load h92 ((⟨b18, 0, none⟩ : Addr).add 2) fun v97 =>
M.int .i64 v97 fun n98 =>
M.load h92 ((⟨b18, 0, none⟩ : Addr).add 3) fun v99 =>
M.bool v99 fun b100 =>
layout_Layout_Find n94 n96 n98 b100 n81 h92 fun n101 n102 n103 h104 =>
M.join (α := Bool) (fun d106 h107 =>
(bif d106 then
Q false h107
else
J82 () h107)) fun J105 =>
(bif (n103 != (0 : Int)) then
J105 true h104
else
J105 (decide (n101 < d28)) h104)
else
J82 () h92)
else
J74 () h77)) (0 : Int) h73)) fun J60 =>
(bif (n41 != (0 : Int)) then
J60 true h59
else
(bif (n55 != (0 : Int)) then
J60 true h59
else
M.val (IntKind.wrap .i64 (n23 + (1 : Int))) fun z61 =>
(bif (((l39 : Nat) : Int) != z61) then
J60 true h59
else
M.load h59 ((⟨b57, 0, none⟩ : Addr).add 0) fun v62 =>
M.int .i64 v62 fun n63 =>
M.load h59 ((⟨b57, 0, none⟩ : Addr).add 1) fun v64 =>
M.int .i64 v64 fun n65 =>
M.load h59 ((⟨b57, 0, none⟩ : Addr).add 2) fun v66 =>
M.int .i64 v66 fun n67 =>
M.load h59 ((⟨b57, 0, none⟩ : Addr).add 3) fun v68 =>
M.bool v68 fun b69 =>
layout_Layout_Good n63 n65 n67 b69 h59 fun b70 h71 =>
J60 (!b70) h71))))
else
J24 () h29)) (0 : Int) h21)
def law18_LayoutGrows.L : List Value → (Value → H → Prop) → H → Prop
  | [.agg ⟨[.int .i64 x_x_0, .int .i64 x_x_1, .int .i64 x_x_2, .bool x_x_3]⟩] => fun Q h => law18_LayoutGrows x_x_0 x_x_1 x_x_2 x_x_3 h fun b221 h222 => Q (.bool b221) h222
  | _ => fun _ _ => False
def law18_LayoutGrows.W : W := fun args => law18_LayoutGrows.L args.toList
def law18_LayoutGrows.ann : Ann := ⟨lookN [(10, [(64, .bool)]), (17, [(89, .bool)]), (21, [(112, .bool)]), (29, [(25, .bool)]), (30, [(166, .bool)]), (35, [(2, .bool)])], lookN [(63, []), (259279, []), (132751001, [])], lookN [(506, [(34, .int .i64)]), (2074234, [(67, .int .i64)]), (4148474, [(116, .int .i64)])]⟩
def law18_LayoutGrows.env : Env := envOf [(16, law18_good.W), (23, layout_Layout_Moves.W), (25, layout_Layout_Step.W), (12, layout_Layout_Good.W), (13, layout_Layout_Blocks.W), (17, layout_Layout_Find.W), (11, law18_wakes.W)]
theorem law18_LayoutGrows.eq (x_x_0 : Int) (x_x_1 : Int) (x_x_2 : Int) (x_x_3 : Bool) (Q : Value → H → Prop) (h : H) : evF Tryd.prog law18_LayoutGrows.env Tryd.f9 law18_LayoutGrows.ann [(.agg (#[(.int .i64 x_x_0), (.int .i64 x_x_1), (.int .i64 x_x_2), (.bool x_x_3)] : Array Value))] Q h = law18_LayoutGrows x_x_0 x_x_1 x_x_2 x_x_3 h fun b221 h222 => Q (.bool b221) h222 := by kernel_rfl
theorem law18_LayoutGrows.W_eq (x_x_0 : Int) (x_x_1 : Int) (x_x_2 : Int) (x_x_3 : Bool) (Q : Value → H → Prop) (h : H) : law18_LayoutGrows.W #[(.agg (#[(.int .i64 x_x_0), (.int .i64 x_x_1), (.int .i64 x_x_2), (.bool x_x_3)] : Array Value))] Q h = law18_LayoutGrows x_x_0 x_x_1 x_x_2 x_x_3 h fun b221 h222 => Q (.bool b221) h222 := by kernel_rfl
theorem law18_LayoutGrows.good : FnGood Tryd.prog 9 law18_LayoutGrows.W := by
  refine FnGood.of (ann := law18_LayoutGrows.ann) (env := law18_LayoutGrows.env) mixed (EnvGood.cons law18_good.good (EnvGood.cons layout_Layout_Moves.good (EnvGood.cons layout_Layout_Step.good (EnvGood.cons layout_Layout_Good.good (EnvGood.cons layout_Layout_Blocks.good (EnvGood.cons layout_Layout_Find.good (EnvGood.cons law18_wakes.good EnvGood.nil))))))) Tryd.func9 Tryd.call9 fun args => ?_
  show law18_LayoutGrows.L args.toList = _ ∨ ∀ Q m, evF Tryd.prog law18_LayoutGrows.env Tryd.f9 law18_LayoutGrows.ann args.toList Q m = law18_LayoutGrows.L args.toList Q m
  generalize args.toList = l
  unfold law18_LayoutGrows.L
  split
  · exact .inr fun Q m => law18_LayoutGrows.eq _ _ _ _ Q m
  · exact .inl rfl

end Go.Proofs.YtgkebmhkmedadaaDoor

/- The shallow forms of the functions of this seat, printed by a program of mine, each checked by the kernel against the given code. -/
import Derived.Test.YtkfokpkpobjoeaaShFa
namespace Go.Proofs.Ytkfokpkpobjoeaa
open Go.Sh
set_option linter.unusedVariables false

def law10_act.g (bank_Bank_Read' : Option Addr → Int → Int → H → (ByteArray → Int → H → Prop) → Prop) (ref10_Read' : Option Addr → Int → Int → H → (ByteArray → Int → H → Prop) → Prop) (bank_Bank_Flush' : Option Addr → Int → H → (Int → H → Prop) → Prop) (ref10_Flush' : Option Addr → Int → H → (Int → H → Prop) → Prop) (bank_Bank_Spend' : Option Addr → H → (Int → H → Prop) → Prop) (ref10_Spend' : Option Addr → H → (Int → H → Prop) → Prop) (bank_Bank_Cut' : Option Addr → Int → H → (H → Prop) → Prop) (ref10_Cut' : Option Addr → Int → H → (H → Prop) → Prop) (law10_lists' : Int → Int → Int → ByteArray → Option Addr → Nat → Nat → Bool → H → (Option Addr → Nat → Nat → H → Prop) → Prop) (bank_Bank_Crash' : Option Addr → Option Addr → Nat → Nat → H → (H → Prop) → Prop) (ref10_Crash' : Option Addr → Option Addr → Nat → Nat → H → (H → Prop) → Prop) (bank_Bank_Disk' : Option Addr → Int → H → (Option Addr → H → Prop) → Prop) (disk_Disk_Fail' : Option Addr → H → (H → Prop) → Prop) (ref09_Fail' : Option Addr → H → (H → Prop) → Prop) (bank_Bank_Write' : Option Addr → Int → Int → ByteArray → H → (Int → H → Prop) → Prop) (ref10_Write' : Option Addr → Int → Int → ByteArray → H → (Int → H → Prop) → Prop) (x_b : Option Addr) (x_r : Option Addr) (x_a_0 : Int) (x_a_1 : Int) (x_a_2 : Int) (x_a_3 : ByteArray) (x_a_4 : Option Addr) (x_a_4L : Nat) (x_a_4C : Nat) (x_a_5 : Bool) (h : H) (Q : Bool → H → Prop) : Prop :=
M.new h (.cells (#[(.int .i64 x_a_0), (.int .i64 x_a_1), (.int .i64 x_a_2), (.string x_a_3), (.slice x_a_4 x_a_4L x_a_4C), (.bool x_a_5)] : Array Value) 65) fun b2 h3 =>
M.load h3 (Addr.add (⟨b2, 0, none⟩ : Addr) 3) fun v4 =>
M.str v4 fun s5 =>
M.load h3 (Addr.add (⟨b2, 0, none⟩ : Addr) 3) fun v6 =>
M.str v6 fun s7 =>
M.ssub s5 0 (mn (ByteArray.size s7 : Int) (200 : Int)) fun s8 =>
M.put h3 (Addr.add (⟨b2, 0, none⟩ : Addr) 3) (.string s8) fun h9 =>
M.load h9 (Addr.add (⟨b2, 0, none⟩ : Addr) 0) fun v10 =>
M.int .i64 v10 fun n11 =>
M.nz (8 : Int) (
M.val (Int.tmod n11 (8 : Int)) fun z12 =>
M.join (α := Bool) (fun d14 h15 =>
(bif d14 then
M.load h15 (Addr.add (⟨b2, 0, none⟩ : Addr) 1) fun v16 =>
M.int .i64 v16 fun n17 =>
M.load h15 (Addr.add (⟨b2, 0, none⟩ : Addr) 2) fun v18 =>
M.int .i64 v18 fun n19 =>
bank_Bank_Read' x_b n17 n19 h15 fun s20 n21 h22 =>
M.load h22 (Addr.add (⟨b2, 0, none⟩ : Addr) 1) fun v23 =>
M.int .i64 v23 fun n24 =>
M.load h22 (Addr.add (⟨b2, 0, none⟩ : Addr) 2) fun v25 =>
M.int .i64 v25 fun n26 =>
ref10_Read' x_r n24 n26 h22 fun s27 n28 h29 =>
M.join (α := Bool) (fun d31 h32 =>
Q d31 h32) fun J30 =>
(bif (strEq s20 s27) then
J30 (n21 == n28) h29
else
J30 false h29)
else
M.join (α := Bool) (fun d34 h35 =>
(bif d34 then
M.load h35 (Addr.add (⟨b2, 0, none⟩ : Addr) 1) fun v36 =>
M.int .i64 v36 fun n37 =>
M.load h35 (Addr.add (⟨b2, 0, none⟩ : Addr) 1) fun v38 =>
M.int .i64 v38 fun n39 =>
bank_Bank_Flush' x_b n37 h35 fun n40 h41 =>
M.still h35 (Addr.add (⟨b2, 0, none⟩ : Addr) 1) 1 h41 (
ref10_Flush' x_r n39 h41 fun n42 h43 =>
Q (n40 == n42) h43)
else
M.join (α := Bool) (fun d45 h46 =>
(bif d45 then
bank_Bank_Spend' x_b h46 fun n47 h48 =>
ref10_Spend' x_r h48 fun n49 h50 =>
Q (n47 == n49) h50
else
M.join (α := Bool) (fun d52 h53 =>
(bif d52 then
M.load h53 (Addr.add (⟨b2, 0, none⟩ : Addr) 2) fun v54 =>
M.int .i64 v54 fun n55 =>
bank_Bank_Cut' x_b n55 h53 fun h56 =>
M.load h56 (Addr.add (⟨b2, 0, none⟩ : Addr) 2) fun v57 =>
M.int .i64 v57 fun n58 =>
ref10_Cut' x_r n58 h56 fun h59 =>
Q true h59
else
M.join (α := Bool) (fun d61 h62 =>
(bif d61 then
M.load h62 ((⟨b2, 0, none⟩ : Addr).add 0) fun v63 =>
M.int .i64 v63 fun n64 =>
M.load h62 ((⟨b2, 0, none⟩ : Addr).add 1) fun v65 =>
M.int .i64 v65 fun n66 =>
M.load h62 ((⟨b2, 0, none⟩ : Addr).add 2) fun v67 =>
M.int .i64 v67 fun n68 =>
M.load h62 ((⟨b2, 0, none⟩ : Addr).add 3) fun v69 =>
M.str v69 fun s70 =>
M.load h62 ((⟨b2, 0, none⟩ : Addr).add 4) fun v71 =>
M.slc v71 fun a72 l73 c74 =>
M.load h62 ((⟨b2, 0, none⟩ : Addr).add 5) fun v75 =>
M.bool v75 fun b76 =>
law10_lists' n64 n66 n68 s70 a72 l73 c74 b76 h62 fun a77 l78 c79 h80 =>
bank_Bank_Crash' x_b a77 l78 c79 h80 fun h81 =>
M.load h81 ((⟨b2, 0, none⟩ : Addr).add 0) fun v82 =>
M.int .i64 v82 fun n83 =>
M.load h81 ((⟨b2, 0, none⟩ : Addr).add 1) fun v84 =>
M.int .i64 v84 fun n85 =>
M.load h81 ((⟨b2, 0, none⟩ : Addr).add 2) fun v86 =>
M.int .i64 v86 fun n87 =>
M.load h81 ((⟨b2, 0, none⟩ : Addr).add 3) fun v88 =>
M.str v88 fun s89 =>
M.load h81 ((⟨b2, 0, none⟩ : Addr).add 4) fun v90 =>
M.slc v90 fun a91 l92 c93 =>
M.load h81 ((⟨b2, 0, none⟩ : Addr).add 5) fun v94 =>
M.bool v94 fun b95 =>
law10_lists' n83 n85 n87 s89 a91 l92 c93 b95 h81 fun a96 l97 c98 h99 =>
ref10_Crash' x_r a96 l97 c98 h99 fun h100 =>
Q true h100
else
M.join (α := Bool) (fun d102 h103 =>
(bif d102 then
M.join (α := Bool) (fun d116 h117 =>
(bif d116 then
M.load h117 (Addr.add (⟨b2, 0, none⟩ : Addr) 1) fun v118 =>
M.int .i64 v118 fun n119 =>
bank_Bank_Disk' x_b n119 h117 fun p120 h121 =>
disk_Disk_Fail' p120 h121 fun h122 =>
M.nn x_r fun a123 =>
M.load h122 (Addr.add a123 0) fun v124 =>
M.slc v124 fun a125 l126 c127 =>
M.load h122 (Addr.add (⟨b2, 0, none⟩ : Addr) 1) fun v128 =>
M.int .i64 v128 fun n129 =>
M.idx a125 l126 n129 fun a130 j131 =>
M.load h122 (Addr.add a130 (j131 * 1)) fun v132 =>
M.ptr v132 fun p133 =>
ref09_Fail' p133 h122 fun h134 =>
Q true h134
else
Q true h117)) fun J104 =>
M.load h103 (Addr.add (⟨b2, 0, none⟩ : Addr) 5) fun v105 =>
M.bool v105 fun b106 =>
(bif b106 then
M.load h103 (Addr.add (⟨b2, 0, none⟩ : Addr) 1) fun v107 =>
M.int .i64 v107 fun n108 =>
(bif (decide (n108 ≥ (0 : Int))) then
M.load h103 (Addr.add (⟨b2, 0, none⟩ : Addr) 1) fun v109 =>
M.int .i64 v109 fun n110 =>
M.nn x_r fun a111 =>
M.load h103 (Addr.add a111 0) fun v112 =>
M.slc v112 fun a113 l114 c115 =>
J104 (decide (n110 < ((l114 : Nat) : Int))) h103
else
J104 false h103)
else
J104 false h103)
else
M.load h103 (Addr.add (⟨b2, 0, none⟩ : Addr) 1) fun v135 =>
M.int .i64 v135 fun n136 =>
M.load h103 (Addr.add (⟨b2, 0, none⟩ : Addr) 2) fun v137 =>
M.int .i64 v137 fun n138 =>
M.load h103 (Addr.add (⟨b2, 0, none⟩ : Addr) 3) fun v139 =>
M.str v139 fun s140 =>
M.load h103 (Addr.add (⟨b2, 0, none⟩ : Addr) 1) fun v141 =>
M.int .i64 v141 fun n142 =>
M.load h103 (Addr.add (⟨b2, 0, none⟩ : Addr) 2) fun v143 =>
M.int .i64 v143 fun n144 =>
M.load h103 (Addr.add (⟨b2, 0, none⟩ : Addr) 3) fun v145 =>
M.str v145 fun s146 =>
bank_Bank_Write' x_b n136 n138 s140 h103 fun n147 h148 =>
M.still h103 (Addr.add (⟨b2, 0, none⟩ : Addr) 3) 1 h148 (
M.still h103 (Addr.add (⟨b2, 0, none⟩ : Addr) 2) 1 h148 (
M.still h103 (Addr.add (⟨b2, 0, none⟩ : Addr) 1) 1 h148 (
ref10_Write' x_r n142 n144 s146 h148 fun n149 h150 =>
Q (n147 == n149) h150))))) fun J101 =>
(bif (z12 == (7 : Int)) then
J101 (z12 == (7 : Int)) h62
else
J101 (z12 == (-7 : Int)) h62))) fun J60 =>
(bif (z12 == (6 : Int)) then
J60 (z12 == (6 : Int)) h53
else
J60 (z12 == (-6 : Int)) h53))) fun J51 =>
(bif (z12 == (5 : Int)) then
J51 (z12 == (5 : Int)) h46
else
J51 (z12 == (-5 : Int)) h46))) fun J44 =>
(bif (z12 == (4 : Int)) then
J44 (z12 == (4 : Int)) h35
else
J44 (z12 == (-4 : Int)) h35))) fun J33 =>
(bif (z12 == (3 : Int)) then
J33 (z12 == (3 : Int)) h15
else
J33 (z12 == (-3 : Int)) h15))) fun J13 =>
(bif (z12 == (2 : Int)) then
J13 (z12 == (2 : Int)) h9
else
J13 (z12 == (-2 : Int)) h9))
def law10_act (x_b : Option Addr) (x_r : Option Addr) (x_a_0 : Int) (x_a_1 : Int) (x_a_2 : Int) (x_a_3 : ByteArray) (x_a_4 : Option Addr) (x_a_4L : Nat) (x_a_4C : Nat) (x_a_5 : Bool) (h : H) (Q : Bool → H → Prop) : Prop := law10_act.g bank_Bank_Read ref10_Read bank_Bank_Flush ref10_Flush bank_Bank_Spend ref10_Spend bank_Bank_Cut ref10_Cut law10_lists bank_Bank_Crash ref10_Crash bank_Bank_Disk disk_Disk_Fail ref09_Fail bank_Bank_Write ref10_Write x_b x_r x_a_0 x_a_1 x_a_2 x_a_3 x_a_4 x_a_4L x_a_4C x_a_5 h Q
def law10_act.L (F : Option Addr → Option Addr → Int → Int → Int → ByteArray → Option Addr → Nat → Nat → Bool → H → (Bool → H → Prop) → Prop) : List Value → (Value → H → Prop) → H → Prop
  | [.pointer x_b, .pointer x_r, .agg ⟨[.int .i64 x_a_0, .int .i64 x_a_1, .int .i64 x_a_2, .string x_a_3, .slice x_a_4 x_a_4L x_a_4C, .bool x_a_5]⟩] => fun Q h => F x_b x_r x_a_0 x_a_1 x_a_2 x_a_3 x_a_4 x_a_4L x_a_4C x_a_5 h fun b151 h152 => Q (.bool b151) h152
  | _ => fun _ _ => False
def law10_act.W : W := fun args => law10_act.L law10_act args.toList
def law10_act.ann : Ann := ⟨lookN [(8, [(6, .bool)]), (25, [(129, .bool)])], lookN [(58, [(39, .bool)]), (235, [(68, .bool)]), (943, [(80, .bool)]), (3775, [(88, .bool)]), (15103, [(99, .bool)]), (60415, [(110, .bool)])], lookN []⟩
def law10_act.env : Env := envOf [(36, fun args => bank_Bank_Read.L bank_Bank_Read args.toList), (57, fun args => ref10_Read.L ref10_Read args.toList), (34, fun args => bank_Bank_Flush.L bank_Bank_Flush args.toList), (58, fun args => ref10_Flush.L ref10_Flush args.toList), (33, fun args => bank_Bank_Spend.L bank_Bank_Spend args.toList), (59, fun args => ref10_Spend.L ref10_Spend args.toList), (32, fun args => bank_Bank_Cut.L bank_Bank_Cut args.toList), (60, fun args => ref10_Cut.L ref10_Cut args.toList), (44, fun args => law10_lists.L law10_lists args.toList), (38, fun args => bank_Bank_Crash.L bank_Bank_Crash args.toList), (61, fun args => ref10_Crash.L ref10_Crash args.toList), (41, fun args => bank_Bank_Disk.L bank_Bank_Disk args.toList), (29, fun args => disk_Disk_Fail.L disk_Disk_Fail args.toList), (52, fun args => ref09_Fail.L ref09_Fail args.toList), (35, fun args => bank_Bank_Write.L bank_Bank_Write args.toList), (62, fun args => ref10_Write.L ref10_Write args.toList)]
theorem law10_act.geq (bank_Bank_Read' : Option Addr → Int → Int → H → (ByteArray → Int → H → Prop) → Prop) (ref10_Read' : Option Addr → Int → Int → H → (ByteArray → Int → H → Prop) → Prop) (bank_Bank_Flush' : Option Addr → Int → H → (Int → H → Prop) → Prop) (ref10_Flush' : Option Addr → Int → H → (Int → H → Prop) → Prop) (bank_Bank_Spend' : Option Addr → H → (Int → H → Prop) → Prop) (ref10_Spend' : Option Addr → H → (Int → H → Prop) → Prop) (bank_Bank_Cut' : Option Addr → Int → H → (H → Prop) → Prop) (ref10_Cut' : Option Addr → Int → H → (H → Prop) → Prop) (law10_lists' : Int → Int → Int → ByteArray → Option Addr → Nat → Nat → Bool → H → (Option Addr → Nat → Nat → H → Prop) → Prop) (bank_Bank_Crash' : Option Addr → Option Addr → Nat → Nat → H → (H → Prop) → Prop) (ref10_Crash' : Option Addr → Option Addr → Nat → Nat → H → (H → Prop) → Prop) (bank_Bank_Disk' : Option Addr → Int → H → (Option Addr → H → Prop) → Prop) (disk_Disk_Fail' : Option Addr → H → (H → Prop) → Prop) (ref09_Fail' : Option Addr → H → (H → Prop) → Prop) (bank_Bank_Write' : Option Addr → Int → Int → ByteArray → H → (Int → H → Prop) → Prop) (ref10_Write' : Option Addr → Int → Int → ByteArray → H → (Int → H → Prop) → Prop) (x_b : Option Addr) (x_r : Option Addr) (x_a_0 : Int) (x_a_1 : Int) (x_a_2 : Int) (x_a_3 : ByteArray) (x_a_4 : Option Addr) (x_a_4L : Nat) (x_a_4C : Nat) (x_a_5 : Bool) (Q : Value → H → Prop) (h : H) : evF Try.prog (envOf [(36, fun args => bank_Bank_Read.L bank_Bank_Read' args.toList), (57, fun args => ref10_Read.L ref10_Read' args.toList), (34, fun args => bank_Bank_Flush.L bank_Bank_Flush' args.toList), (58, fun args => ref10_Flush.L ref10_Flush' args.toList), (33, fun args => bank_Bank_Spend.L bank_Bank_Spend' args.toList), (59, fun args => ref10_Spend.L ref10_Spend' args.toList), (32, fun args => bank_Bank_Cut.L bank_Bank_Cut' args.toList), (60, fun args => ref10_Cut.L ref10_Cut' args.toList), (44, fun args => law10_lists.L law10_lists' args.toList), (38, fun args => bank_Bank_Crash.L bank_Bank_Crash' args.toList), (61, fun args => ref10_Crash.L ref10_Crash' args.toList), (41, fun args => bank_Bank_Disk.L bank_Bank_Disk' args.toList), (29, fun args => disk_Disk_Fail.L disk_Disk_Fail' args.toList), (52, fun args => ref09_Fail.L ref09_Fail' args.toList), (35, fun args => bank_Bank_Write.L bank_Bank_Write' args.toList), (62, fun args => ref10_Write.L ref10_Write' args.toList)]) Try.f43 law10_act.ann [(.pointer x_b), (.pointer x_r), (.agg (#[(.int .i64 x_a_0), (.int .i64 x_a_1), (.int .i64 x_a_2), (.string x_a_3), (.slice x_a_4 x_a_4L x_a_4C), (.bool x_a_5)] : Array Value))] Q h = law10_act.g bank_Bank_Read' ref10_Read' bank_Bank_Flush' ref10_Flush' bank_Bank_Spend' ref10_Spend' bank_Bank_Cut' ref10_Cut' law10_lists' bank_Bank_Crash' ref10_Crash' bank_Bank_Disk' disk_Disk_Fail' ref09_Fail' bank_Bank_Write' ref10_Write' x_b x_r x_a_0 x_a_1 x_a_2 x_a_3 x_a_4 x_a_4L x_a_4C x_a_5 h fun b151 h152 => Q (.bool b151) h152 := by kernel_rfl
theorem law10_act.eq (x_b : Option Addr) (x_r : Option Addr) (x_a_0 : Int) (x_a_1 : Int) (x_a_2 : Int) (x_a_3 : ByteArray) (x_a_4 : Option Addr) (x_a_4L : Nat) (x_a_4C : Nat) (x_a_5 : Bool) (Q : Value → H → Prop) (h : H) : evF Try.prog law10_act.env Try.f43 law10_act.ann [(.pointer x_b), (.pointer x_r), (.agg (#[(.int .i64 x_a_0), (.int .i64 x_a_1), (.int .i64 x_a_2), (.string x_a_3), (.slice x_a_4 x_a_4L x_a_4C), (.bool x_a_5)] : Array Value))] Q h = law10_act x_b x_r x_a_0 x_a_1 x_a_2 x_a_3 x_a_4 x_a_4L x_a_4C x_a_5 h fun b151 h152 => Q (.bool b151) h152 := law10_act.geq bank_Bank_Read ref10_Read bank_Bank_Flush ref10_Flush bank_Bank_Spend ref10_Spend bank_Bank_Cut ref10_Cut law10_lists bank_Bank_Crash ref10_Crash bank_Bank_Disk disk_Disk_Fail ref09_Fail bank_Bank_Write ref10_Write x_b x_r x_a_0 x_a_1 x_a_2 x_a_3 x_a_4 x_a_4L x_a_4C x_a_5 Q h
theorem law10_act.W_eq (x_b : Option Addr) (x_r : Option Addr) (x_a_0 : Int) (x_a_1 : Int) (x_a_2 : Int) (x_a_3 : ByteArray) (x_a_4 : Option Addr) (x_a_4L : Nat) (x_a_4C : Nat) (x_a_5 : Bool) (Q : Value → H → Prop) (h : H) : law10_act.W #[(.pointer x_b), (.pointer x_r), (.agg (#[(.int .i64 x_a_0), (.int .i64 x_a_1), (.int .i64 x_a_2), (.string x_a_3), (.slice x_a_4 x_a_4L x_a_4C), (.bool x_a_5)] : Array Value))] Q h = law10_act x_b x_r x_a_0 x_a_1 x_a_2 x_a_3 x_a_4 x_a_4L x_a_4C x_a_5 h fun b151 h152 => Q (.bool b151) h152 := by kernel_rfl
theorem law10_act.good : FnGood Try.prog 43 law10_act.W := by
  refine FnGood.of (ann := law10_act.ann) (env := law10_act.env) mixed (EnvGood.cons bank_Bank_Read.good (EnvGood.cons ref10_Read.good (EnvGood.cons bank_Bank_Flush.good (EnvGood.cons ref10_Flush.good (EnvGood.cons bank_Bank_Spend.good (EnvGood.cons ref10_Spend.good (EnvGood.cons bank_Bank_Cut.good (EnvGood.cons ref10_Cut.good (EnvGood.cons law10_lists.good (EnvGood.cons bank_Bank_Crash.good (EnvGood.cons ref10_Crash.good (EnvGood.cons bank_Bank_Disk.good (EnvGood.cons disk_Disk_Fail.good (EnvGood.cons ref09_Fail.good (EnvGood.cons bank_Bank_Write.good (EnvGood.cons ref10_Write.good EnvGood.nil)))))))))))))))) Try.func43 Try.call43 fun args => ?_
  show law10_act.L law10_act args.toList = _ ∨ ∀ Q m, evF Try.prog law10_act.env Try.f43 law10_act.ann args.toList Q m = law10_act.L law10_act args.toList Q m
  generalize args.toList = l
  unfold law10_act.L
  split
  · exact .inr fun Q m => law10_act.eq _ _ _ _ _ _ _ _ _ _ Q m
  · exact .inl rfl

def slices_IndexFuncdisk_write_disk_write_disk_Disk_Tamper_1.g (disk_Disk_Tamper_1' : Int → ByteArray → Addr → H → (Bool → H → Prop) → Prop) (x_s : Option Addr) (x_sL : Nat) (x_sC : Nat) (x_f_0 : Addr) (h : H) (Q : Int → H → Prop) : Prop :=
M.loop (α := Int) (fun J2 d3 h4 =>
(bif (decide (d3 < ((x_sL : Nat) : Int))) then
M.idx x_s x_sL d3 fun a5 j6 =>
M.load h4 ((Addr.add a5 (j6 * 2)).add 0) fun v7 =>
M.int .i64 v7 fun n8 =>
M.load h4 ((Addr.add a5 (j6 * 2)).add 1) fun v9 =>
M.str v9 fun s10 =>
disk_Disk_Tamper_1' n8 s10 x_f_0 h4 fun b11 h12 =>
(bif b11 then
Q d3 h12
else
M.val (IntKind.wrap .i64 (d3 + (1 : Int))) fun z13 =>
J2 z13 h12)
else
Q (-1 : Int) h4)) (0 : Int) h
def slices_IndexFuncdisk_write_disk_write_disk_Disk_Tamper_1 (x_s : Option Addr) (x_sL : Nat) (x_sC : Nat) (x_f_0 : Addr) (h : H) (Q : Int → H → Prop) : Prop := slices_IndexFuncdisk_write_disk_write_disk_Disk_Tamper_1.g disk_Disk_Tamper_1 x_s x_sL x_sC x_f_0 h Q
def slices_IndexFuncdisk_write_disk_write_disk_Disk_Tamper_1.L (F : Option Addr → Nat → Nat → Addr → H → (Int → H → Prop) → Prop) : List Value → (Value → H → Prop) → H → Prop
  | [.slice x_s x_sL x_sC, .func (.func 55) ⟨[]⟩ ⟨[.pointer (some x_f_0)]⟩] => fun Q h => F x_s x_sL x_sC x_f_0 h fun n14 h15 => Q (.int .i64 n14) h15
  | _ => fun _ _ => False
def slices_IndexFuncdisk_write_disk_write_disk_Disk_Tamper_1.W : W := fun args => slices_IndexFuncdisk_write_disk_write_disk_Disk_Tamper_1.L slices_IndexFuncdisk_write_disk_write_disk_Disk_Tamper_1 args.toList
def slices_IndexFuncdisk_write_disk_write_disk_Disk_Tamper_1.ann : Ann := ⟨lookN [], lookN [], lookN [(26, [(8, .int .i64)])]⟩
def slices_IndexFuncdisk_write_disk_write_disk_Disk_Tamper_1.env : Env := envOf [(55, fun args => disk_Disk_Tamper_1.L disk_Disk_Tamper_1 args.toList)]
theorem slices_IndexFuncdisk_write_disk_write_disk_Disk_Tamper_1.geq (disk_Disk_Tamper_1' : Int → ByteArray → Addr → H → (Bool → H → Prop) → Prop) (x_s : Option Addr) (x_sL : Nat) (x_sC : Nat) (x_f_0 : Addr) (Q : Value → H → Prop) (h : H) : evF Try.prog (envOf [(55, fun args => disk_Disk_Tamper_1.L disk_Disk_Tamper_1' args.toList)]) Try.f63 slices_IndexFuncdisk_write_disk_write_disk_Disk_Tamper_1.ann [(.slice x_s x_sL x_sC), (.func (.func 55) #[] #[(.pointer (some x_f_0))])] Q h = slices_IndexFuncdisk_write_disk_write_disk_Disk_Tamper_1.g disk_Disk_Tamper_1' x_s x_sL x_sC x_f_0 h fun n14 h15 => Q (.int .i64 n14) h15 := by kernel_rfl
theorem slices_IndexFuncdisk_write_disk_write_disk_Disk_Tamper_1.eq (x_s : Option Addr) (x_sL : Nat) (x_sC : Nat) (x_f_0 : Addr) (Q : Value → H → Prop) (h : H) : evF Try.prog slices_IndexFuncdisk_write_disk_write_disk_Disk_Tamper_1.env Try.f63 slices_IndexFuncdisk_write_disk_write_disk_Disk_Tamper_1.ann [(.slice x_s x_sL x_sC), (.func (.func 55) #[] #[(.pointer (some x_f_0))])] Q h = slices_IndexFuncdisk_write_disk_write_disk_Disk_Tamper_1 x_s x_sL x_sC x_f_0 h fun n14 h15 => Q (.int .i64 n14) h15 := slices_IndexFuncdisk_write_disk_write_disk_Disk_Tamper_1.geq disk_Disk_Tamper_1 x_s x_sL x_sC x_f_0 Q h
theorem slices_IndexFuncdisk_write_disk_write_disk_Disk_Tamper_1.W_eq (x_s : Option Addr) (x_sL : Nat) (x_sC : Nat) (x_f_0 : Addr) (Q : Value → H → Prop) (h : H) : slices_IndexFuncdisk_write_disk_write_disk_Disk_Tamper_1.W #[(.slice x_s x_sL x_sC), (.func (.func 55) #[] #[(.pointer (some x_f_0))])] Q h = slices_IndexFuncdisk_write_disk_write_disk_Disk_Tamper_1 x_s x_sL x_sC x_f_0 h fun n14 h15 => Q (.int .i64 n14) h15 := by kernel_rfl
theorem slices_IndexFuncdisk_write_disk_write_disk_Disk_Tamper_1.good : FnGood Try.prog 63 slices_IndexFuncdisk_write_disk_write_disk_Disk_Tamper_1.W := by
  refine FnGood.of (ann := slices_IndexFuncdisk_write_disk_write_disk_Disk_Tamper_1.ann) (env := slices_IndexFuncdisk_write_disk_write_disk_Disk_Tamper_1.env) mixed (EnvGood.cons disk_Disk_Tamper_1.good EnvGood.nil) Try.func63 Try.call63 fun args => ?_
  show slices_IndexFuncdisk_write_disk_write_disk_Disk_Tamper_1.L slices_IndexFuncdisk_write_disk_write_disk_Disk_Tamper_1 args.toList = _ ∨ ∀ Q m, evF Try.prog slices_IndexFuncdisk_write_disk_write_disk_Disk_Tamper_1.env Try.f63 slices_IndexFuncdisk_write_disk_write_disk_Disk_Tamper_1.ann args.toList Q m = slices_IndexFuncdisk_write_disk_write_disk_Disk_Tamper_1.L slices_IndexFuncdisk_write_disk_write_disk_Disk_Tamper_1 args.toList Q m
  generalize args.toList = l
  unfold slices_IndexFuncdisk_write_disk_write_disk_Disk_Tamper_1.L
  split
  · exact .inr fun Q m => slices_IndexFuncdisk_write_disk_write_disk_Disk_Tamper_1.eq _ _ _ _ Q m
  · exact .inl rfl

def law09_DiskLasts.g (disk_New' : Int → H → (Option Addr → H → Prop) → Prop) (law09_wakes' : H → (Bool → H → Prop) → Prop) (disk_Disk_Write' : Option Addr → Int → ByteArray → H → (Int → H → Prop) → Prop) (disk_Disk_Flush' : Option Addr → H → (Int → H → Prop) → Prop) (law09_bytes' : Int → Int → ByteArray → Int → Option Addr → Nat → Nat → Bool → H → (ByteArray → H → Prop) → Prop) (disk_Disk_Crash' : Option Addr → Option Addr → Nat → Nat → H → (H → Prop) → Prop) (disk_Disk_Read' : Option Addr → Int → H → (ByteArray → Int → H → Prop) → Prop) (disk_Disk_Waiting' : Option Addr → H → (Int → H → Prop) → Prop) (x_cells : Option Addr) (x_cellsL : Nat) (x_cellsC : Nat) (x_writes : Option Addr) (x_writesL : Nat) (x_writesC : Nat) (x_kept : Option Addr) (x_keptL : Nat) (x_keptC : Nat) (h : H) (Q : Bool → H → Prop) : Prop :=
M.sub x_cells x_cellsC 1 0 (mn ((x_cellsL : Nat) : Int) (20 : Int)) fun a2 l3 c4 =>
M.sub x_writes x_writesC 6 0 (mn ((x_writesL : Nat) : Int) (40 : Int)) fun a5 l6 c7 =>
M.sub x_kept x_keptC 1 0 (mn ((x_keptL : Nat) : Int) (60 : Int)) fun a8 l9 c10 =>
disk_New' (20 : Int) h fun p11 h12 =>
law09_wakes'  h12 fun b13 h14 =>
(bif (!b13) then
Q false h14
else
M.mk h14 31 [(.map none)] 8 (20 : Int) (20 : Int) fun a15 l16 c17 h18 =>
M.join (α := Unit) (fun d44 h45 =>
disk_Disk_Flush' p11 h45 fun n46 h47 =>
(bif (n46 != (0 : Int)) then
Q false h47
else
M.join (α := Unit) (fun d107 h108 =>
disk_Disk_Crash' p11 a8 l9 c10 h108 fun h109 =>
M.join (α := Unit) (fun d128 h129 =>
disk_Disk_Waiting' p11 h129 fun n130 h131 =>
Q (n130 == (0 : Int)) h131) fun J110 =>
M.loop (α := Int) (fun J111 d112 h113 =>
(bif (decide (d112 < ((l16 : Nat) : Int))) then
disk_Disk_Read' p11 d112 h113 fun s114 n115 h116 =>
M.join (α := Bool) (fun d125 h126 =>
(bif d125 then
Q false h126
else
M.val (IntKind.wrap .i64 (d112 + (1 : Int))) fun z127 =>
J111 z127 h126)) fun J117 =>
(bif (n115 != (0 : Int)) then
J117 true h116
else
M.idx a15 l16 d112 fun a118 j119 =>
M.load h116 (Addr.add a118 (j119 * 1)) fun v120 =>
M.map v120 fun m121 =>
M.lk Try.prog 31 (.map m121) (.string s114) h116 fun v122 h123 =>
M.bool v122 fun b124 =>
J117 (!b124) h123)
else
J110 () h113)) (0 : Int) h109) fun J48 =>
M.loop (α := Int) (fun J49 d50 h51 =>
(bif (decide (d50 < ((l6 : Nat) : Int))) then
M.idx a5 l6 d50 fun a52 j53 =>
M.load h51 ((Addr.add a52 (j53 * 6)).add 0) fun v54 =>
M.int .i64 v54 fun n55 =>
M.load h51 ((Addr.add a52 (j53 * 6)).add 1) fun v56 =>
M.int .i64 v56 fun n57 =>
M.load h51 ((Addr.add a52 (j53 * 6)).add 2) fun v58 =>
M.str v58 fun s59 =>
M.load h51 ((Addr.add a52 (j53 * 6)).add 3) fun v60 =>
M.int .i64 v60 fun n61 =>
M.load h51 ((Addr.add a52 (j53 * 6)).add 4) fun v62 =>
M.slc v62 fun a63 l64 c65 =>
M.load h51 ((Addr.add a52 (j53 * 6)).add 5) fun v66 =>
M.bool v66 fun b67 =>
M.new h51 (.cells (#[(.int .i64 (0 : Int)), (.int .i64 (0 : Int)), (.string (ByteArray.empty)), (.int .i64 (0 : Int)), (.slice none 0 0), (.bool false)] : Array Value) 34) fun b68 h69 =>
M.req (Array.size (#[(.int .i64 n55), (.int .i64 n57), (.string s59), (.int .i64 n61), (.slice a63 l64 c65), (.bool b67)] : Array Value) = 6) (M.puts h69 (⟨b68, 0, none⟩ : Addr) [(.int .i64 n55), (.int .i64 n57), (.string s59), (.int .i64 n61), (.slice a63 l64 c65), (.bool b67)] fun h70 =>
M.load h70 ((⟨b68, 0, none⟩ : Addr).add 0) fun v71 =>
M.int .i64 v71 fun n72 =>
M.load h70 ((⟨b68, 0, none⟩ : Addr).add 1) fun v73 =>
M.int .i64 v73 fun n74 =>
M.load h70 ((⟨b68, 0, none⟩ : Addr).add 2) fun v75 =>
M.str v75 fun s76 =>
M.load h70 ((⟨b68, 0, none⟩ : Addr).add 3) fun v77 =>
M.int .i64 v77 fun n78 =>
M.load h70 ((⟨b68, 0, none⟩ : Addr).add 4) fun v79 =>
M.slc v79 fun a80 l81 c82 =>
M.load h70 ((⟨b68, 0, none⟩ : Addr).add 5) fun v83 =>
M.bool v83 fun b84 =>
law09_bytes' n72 n74 s76 n78 a80 l81 c82 b84 h70 fun s85 h86 =>
M.load h86 (Addr.add (⟨b68, 0, none⟩ : Addr) 1) fun v87 =>
M.int .i64 v87 fun n88 =>
disk_Disk_Write' p11 n88 s85 h86 fun n89 h90 =>
(bif (n89 == (0 : Int)) then
M.join (α := Bool) (fun d96 h97 =>
(bif d96 then
Q false h97
else
M.load h97 (Addr.add (⟨b68, 0, none⟩ : Addr) 1) fun v98 =>
M.int .i64 v98 fun n99 =>
M.idx a15 l16 n99 fun a100 j101 =>
M.load h97 (Addr.add a100 (j101 * 1)) fun v102 =>
M.map v102 fun m103 =>
M.mput Try.prog 31 (.map m103) (.string s85) (.bool true) h97 fun h104 =>
M.val (IntKind.wrap .i64 (d50 + (1 : Int))) fun z105 =>
J49 z105 h104)) fun J91 =>
M.load h90 (Addr.add (⟨b68, 0, none⟩ : Addr) 1) fun v92 =>
M.int .i64 v92 fun n93 =>
(bif (decide (n93 < (0 : Int))) then
J91 true h90
else
M.load h90 (Addr.add (⟨b68, 0, none⟩ : Addr) 1) fun v94 =>
M.int .i64 v94 fun n95 =>
J91 (decide (n95 ≥ ((l16 : Nat) : Int))) h90)
else
M.val (IntKind.wrap .i64 (d50 + (1 : Int))) fun z106 =>
J49 z106 h90))
else
J48 () h51)) (0 : Int) h47)) fun J19 =>
M.loop (α := Int) (fun J20 d21 h22 =>
(bif (decide (d21 < ((l16 : Nat) : Int))) then
M.join (α := ByteArray) (fun d33 h34 =>
disk_Disk_Write' p11 d21 d33 h34 fun n35 h36 =>
(bif (n35 != (0 : Int)) then
Q false h36
else
M.new h36 (.map #[] 0) fun b37 h38 =>
M.mput Try.prog 31 (.map (some b37)) (.string d33) (.bool true) h38 fun h39 =>
M.idx a15 l16 d21 fun a40 j41 =>
M.put h39 (Addr.add a40 (j41 * 1)) (.map (some b37)) fun h42 =>
M.val (IntKind.wrap .i64 (d21 + (1 : Int))) fun z43 =>
J20 z43 h42)) fun J23 =>
(bif (decide (d21 < ((l3 : Nat) : Int))) then
M.idx a2 l3 d21 fun a24 j25 =>
M.load h22 (Addr.add a24 (j25 * 1)) fun v26 =>
M.str v26 fun s27 =>
M.idx a2 l3 d21 fun a28 j29 =>
M.load h22 (Addr.add a28 (j29 * 1)) fun v30 =>
M.str v30 fun s31 =>
M.ssub s27 0 (mn (ByteArray.size s31 : Int) (50 : Int)) fun s32 =>
J23 s32 h22
else
J23 (ByteArray.empty) h22)
else
J19 () h22)) (0 : Int) h18)
def law09_DiskLasts (x_cells : Option Addr) (x_cellsL : Nat) (x_cellsC : Nat) (x_writes : Option Addr) (x_writesL : Nat) (x_writesC : Nat) (x_kept : Option Addr) (x_keptL : Nat) (x_keptC : Nat) (h : H) (Q : Bool → H → Prop) : Prop := law09_DiskLasts.g disk_New law09_wakes disk_Disk_Write disk_Disk_Flush law09_bytes disk_Disk_Crash disk_Disk_Read disk_Disk_Waiting x_cells x_cellsL x_cellsC x_writes x_writesL x_writesC x_kept x_keptL x_keptC h Q
def law09_DiskLasts.L (F : Option Addr → Nat → Nat → Option Addr → Nat → Nat → Option Addr → Nat → Nat → H → (Bool → H → Prop) → Prop) : List Value → (Value → H → Prop) → H → Prop
  | [.slice x_cells x_cellsL x_cellsC, .slice x_writes x_writesL x_writesC, .slice x_kept x_keptL x_keptC] => fun Q h => F x_cells x_cellsL x_cellsC x_writes x_writesL x_writesC x_kept x_keptL x_keptC h fun b132 h133 => Q (.bool b132) h133
  | _ => fun _ _ => False
def law09_DiskLasts.W : W := fun args => law09_DiskLasts.L law09_DiskLasts args.toList
def law09_DiskLasts.ann : Ann := ⟨lookN [(23, [(94, .bool)]), (32, [(126, .bool)])], lookN [(63, []), (255, []), (1023, []), (64819, [(10, .str)])], lookN [(506, [(38, .int .i64)]), (2042, [(73, .int .i64)]), (8186, [(107, .int .i64)])]⟩
def law09_DiskLasts.env : Env := envOf [(13, fun args => disk_New.L disk_New args.toList), (14, fun args => law09_wakes.L law09_wakes args.toList), (15, fun args => disk_Disk_Write.L disk_Disk_Write args.toList), (16, fun args => disk_Disk_Flush.L disk_Disk_Flush args.toList), (17, fun args => law09_bytes.L law09_bytes args.toList), (18, fun args => disk_Disk_Crash.L disk_Disk_Crash args.toList), (19, fun args => disk_Disk_Read.L disk_Disk_Read args.toList), (20, fun args => disk_Disk_Waiting.L disk_Disk_Waiting args.toList)]
theorem law09_DiskLasts.geq (disk_New' : Int → H → (Option Addr → H → Prop) → Prop) (law09_wakes' : H → (Bool → H → Prop) → Prop) (disk_Disk_Write' : Option Addr → Int → ByteArray → H → (Int → H → Prop) → Prop) (disk_Disk_Flush' : Option Addr → H → (Int → H → Prop) → Prop) (law09_bytes' : Int → Int → ByteArray → Int → Option Addr → Nat → Nat → Bool → H → (ByteArray → H → Prop) → Prop) (disk_Disk_Crash' : Option Addr → Option Addr → Nat → Nat → H → (H → Prop) → Prop) (disk_Disk_Read' : Option Addr → Int → H → (ByteArray → Int → H → Prop) → Prop) (disk_Disk_Waiting' : Option Addr → H → (Int → H → Prop) → Prop) (x_cells : Option Addr) (x_cellsL : Nat) (x_cellsC : Nat) (x_writes : Option Addr) (x_writesL : Nat) (x_writesC : Nat) (x_kept : Option Addr) (x_keptL : Nat) (x_keptC : Nat) (Q : Value → H → Prop) (h : H) : evF Try.prog (envOf [(13, fun args => disk_New.L disk_New' args.toList), (14, fun args => law09_wakes.L law09_wakes' args.toList), (15, fun args => disk_Disk_Write.L disk_Disk_Write' args.toList), (16, fun args => disk_Disk_Flush.L disk_Disk_Flush' args.toList), (17, fun args => law09_bytes.L law09_bytes' args.toList), (18, fun args => disk_Disk_Crash.L disk_Disk_Crash' args.toList), (19, fun args => disk_Disk_Read.L disk_Disk_Read' args.toList), (20, fun args => disk_Disk_Waiting.L disk_Disk_Waiting' args.toList)]) Try.f3 law09_DiskLasts.ann [(.slice x_cells x_cellsL x_cellsC), (.slice x_writes x_writesL x_writesC), (.slice x_kept x_keptL x_keptC)] Q h = law09_DiskLasts.g disk_New' law09_wakes' disk_Disk_Write' disk_Disk_Flush' law09_bytes' disk_Disk_Crash' disk_Disk_Read' disk_Disk_Waiting' x_cells x_cellsL x_cellsC x_writes x_writesL x_writesC x_kept x_keptL x_keptC h fun b132 h133 => Q (.bool b132) h133 := by kernel_rfl
theorem law09_DiskLasts.eq (x_cells : Option Addr) (x_cellsL : Nat) (x_cellsC : Nat) (x_writes : Option Addr) (x_writesL : Nat) (x_writesC : Nat) (x_kept : Option Addr) (x_keptL : Nat) (x_keptC : Nat) (Q : Value → H → Prop) (h : H) : evF Try.prog law09_DiskLasts.env Try.f3 law09_DiskLasts.ann [(.slice x_cells x_cellsL x_cellsC), (.slice x_writes x_writesL x_writesC), (.slice x_kept x_keptL x_keptC)] Q h = law09_DiskLasts x_cells x_cellsL x_cellsC x_writes x_writesL x_writesC x_kept x_keptL x_keptC h fun b132 h133 => Q (.bool b132) h133 := law09_DiskLasts.geq disk_New law09_wakes disk_Disk_Write disk_Disk_Flush law09_bytes disk_Disk_Crash disk_Disk_Read disk_Disk_Waiting x_cells x_cellsL x_cellsC x_writes x_writesL x_writesC x_kept x_keptL x_keptC Q h
theorem law09_DiskLasts.W_eq (x_cells : Option Addr) (x_cellsL : Nat) (x_cellsC : Nat) (x_writes : Option Addr) (x_writesL : Nat) (x_writesC : Nat) (x_kept : Option Addr) (x_keptL : Nat) (x_keptC : Nat) (Q : Value → H → Prop) (h : H) : law09_DiskLasts.W #[(.slice x_cells x_cellsL x_cellsC), (.slice x_writes x_writesL x_writesC), (.slice x_kept x_keptL x_keptC)] Q h = law09_DiskLasts x_cells x_cellsL x_cellsC x_writes x_writesL x_writesC x_kept x_keptL x_keptC h fun b132 h133 => Q (.bool b132) h133 := by kernel_rfl
theorem law09_DiskLasts.good : FnGood Try.prog 3 law09_DiskLasts.W := by
  refine FnGood.of (ann := law09_DiskLasts.ann) (env := law09_DiskLasts.env) mixed (EnvGood.cons disk_New.good (EnvGood.cons law09_wakes.good (EnvGood.cons disk_Disk_Write.good (EnvGood.cons disk_Disk_Flush.good (EnvGood.cons law09_bytes.good (EnvGood.cons disk_Disk_Crash.good (EnvGood.cons disk_Disk_Read.good (EnvGood.cons disk_Disk_Waiting.good EnvGood.nil)))))))) Try.func3 Try.call3 fun args => ?_
  show law09_DiskLasts.L law09_DiskLasts args.toList = _ ∨ ∀ Q m, evF Try.prog law09_DiskLasts.env Try.f3 law09_DiskLasts.ann args.toList Q m = law09_DiskLasts.L law09_DiskLasts args.toList Q m
  generalize args.toList = l
  unfold law09_DiskLasts.L
  split
  · exact .inr fun Q m => law09_DiskLasts.eq _ _ _ _ _ _ _ _ _ Q m
  · exact .inl rfl

def law09_DiskAll.g (disk_New' : Int → H → (Option Addr → H → Prop) → Prop) (law09_bytes' : Int → Int → ByteArray → Int → Option Addr → Nat → Nat → Bool → H → (ByteArray → H → Prop) → Prop) (disk_Disk_Write' : Option Addr → Int → ByteArray → H → (Int → H → Prop) → Prop) (disk_Disk_Flush' : Option Addr → H → (Int → H → Prop) → Prop) (disk_Disk_Waiting' : Option Addr → H → (Int → H → Prop) → Prop) (disk_Disk_Image' : Option Addr → H → (Option Addr → Nat → Nat → H → Prop) → Prop) (disk_Disk_Crash' : Option Addr → Option Addr → Nat → Nat → H → (H → Prop) → Prop) (law09_wakes' : H → (Bool → H → Prop) → Prop) (law09_equal' : Option Addr → Nat → Nat → Option Addr → Nat → Nat → H → (Bool → H → Prop) → Prop) (x_script : Option Addr) (x_scriptL : Nat) (x_scriptC : Nat) (x_more : Option Addr) (x_moreL : Nat) (x_moreC : Nat) (h : H) (Q : Bool → H → Prop) : Prop :=
disk_New' (30 : Int) h fun p2 h3 =>
disk_New' (30 : Int) h3 fun p4 h5 =>
disk_New' (30 : Int) h5 fun p6 h7 =>
M.join (α := Unit) (fun d65 h66 =>
M.join (α := Unit) (fun d80 h81 =>
M.mk h81 4 [(.bool false)] 1 (30 : Int) (30 : Int) fun a82 l83 c84 h85 =>
M.join (α := Unit) (fun d156 h157 =>
disk_Disk_Waiting' p4 h157 fun n158 h159 =>
disk_Disk_Image' p4 h159 fun a160 l161 c162 h163 =>
disk_Disk_Crash' p2 none 0 0 h163 fun h164 =>
disk_Disk_Crash' p4 a82 l83 c84 h164 fun h165 =>
M.join (α := Bool) (fun d185 h186 =>
Q d185 h186) fun J166 =>
law09_wakes'  h165 fun b167 h168 =>
(bif b167 then
(bif (decide (n158 ≤ (30 : Int))) then
disk_Disk_Image' p2 h168 fun a169 l170 c171 h172 =>
disk_Disk_Image' p6 h172 fun a173 l174 c175 h176 =>
law09_equal' a169 l170 c171 a173 l174 c175 h176 fun b177 h178 =>
(bif b177 then
disk_Disk_Image' p4 h178 fun a179 l180 c181 h182 =>
law09_equal' a179 l180 c181 a160 l161 c162 h182 fun b183 h184 =>
J166 b183 h184
else
J166 false h178)
else
J166 false h168)
else
J166 false h168)) fun J86 =>
M.sub x_more x_moreC 6 0 (mn ((x_moreL : Nat) : Int) (30 : Int)) fun a87 l88 c89 =>
M.loop (α := Int) (fun J90 d91 h92 =>
(bif (decide (d91 < ((l88 : Nat) : Int))) then
M.idx a87 l88 d91 fun a93 j94 =>
M.load h92 ((Addr.add a93 (j94 * 6)).add 0) fun v95 =>
M.int .i64 v95 fun n96 =>
M.load h92 ((Addr.add a93 (j94 * 6)).add 1) fun v97 =>
M.int .i64 v97 fun n98 =>
M.load h92 ((Addr.add a93 (j94 * 6)).add 2) fun v99 =>
M.str v99 fun s100 =>
M.load h92 ((Addr.add a93 (j94 * 6)).add 3) fun v101 =>
M.int .i64 v101 fun n102 =>
M.load h92 ((Addr.add a93 (j94 * 6)).add 4) fun v103 =>
M.slc v103 fun a104 l105 c106 =>
M.load h92 ((Addr.add a93 (j94 * 6)).add 5) fun v107 =>
M.bool v107 fun b108 =>
M.new h92 (.cells (#[(.int .i64 (0 : Int)), (.int .i64 (0 : Int)), (.string (ByteArray.empty)), (.int .i64 (0 : Int)), (.slice none 0 0), (.bool false)] : Array Value) 34) fun b109 h110 =>
M.req (Array.size (#[(.int .i64 n96), (.int .i64 n98), (.string s100), (.int .i64 n102), (.slice a104 l105 c106), (.bool b108)] : Array Value) = 6) (M.puts h110 (⟨b109, 0, none⟩ : Addr) [(.int .i64 n96), (.int .i64 n98), (.string s100), (.int .i64 n102), (.slice a104 l105 c106), (.bool b108)] fun h111 =>
M.idx a82 l83 d91 fun a112 j113 =>
M.put h111 (Addr.add a112 (j113 * 1)) (.bool true) fun h114 =>
M.load h114 (Addr.add (⟨b109, 0, none⟩ : Addr) 1) fun v115 =>
M.int .i64 v115 fun n116 =>
M.load h114 ((⟨b109, 0, none⟩ : Addr).add 0) fun v117 =>
M.int .i64 v117 fun n118 =>
M.load h114 ((⟨b109, 0, none⟩ : Addr).add 1) fun v119 =>
M.int .i64 v119 fun n120 =>
M.load h114 ((⟨b109, 0, none⟩ : Addr).add 2) fun v121 =>
M.str v121 fun s122 =>
M.load h114 ((⟨b109, 0, none⟩ : Addr).add 3) fun v123 =>
M.int .i64 v123 fun n124 =>
M.load h114 ((⟨b109, 0, none⟩ : Addr).add 4) fun v125 =>
M.slc v125 fun a126 l127 c128 =>
M.load h114 ((⟨b109, 0, none⟩ : Addr).add 5) fun v129 =>
M.bool v129 fun b130 =>
law09_bytes' n118 n120 s122 n124 a126 l127 c128 b130 h114 fun s131 h132 =>
M.still h114 (Addr.add (⟨b109, 0, none⟩ : Addr) 1) 1 h132 (
disk_Disk_Write' p2 n116 s131 h132 fun n133 h134 =>
M.load h134 (Addr.add (⟨b109, 0, none⟩ : Addr) 1) fun v135 =>
M.int .i64 v135 fun n136 =>
M.load h134 ((⟨b109, 0, none⟩ : Addr).add 0) fun v137 =>
M.int .i64 v137 fun n138 =>
M.load h134 ((⟨b109, 0, none⟩ : Addr).add 1) fun v139 =>
M.int .i64 v139 fun n140 =>
M.load h134 ((⟨b109, 0, none⟩ : Addr).add 2) fun v141 =>
M.str v141 fun s142 =>
M.load h134 ((⟨b109, 0, none⟩ : Addr).add 3) fun v143 =>
M.int .i64 v143 fun n144 =>
M.load h134 ((⟨b109, 0, none⟩ : Addr).add 4) fun v145 =>
M.slc v145 fun a146 l147 c148 =>
M.load h134 ((⟨b109, 0, none⟩ : Addr).add 5) fun v149 =>
M.bool v149 fun b150 =>
law09_bytes' n138 n140 s142 n144 a146 l147 c148 b150 h134 fun s151 h152 =>
M.still h134 (Addr.add (⟨b109, 0, none⟩ : Addr) 1) 1 h152 (
disk_Disk_Write' p4 n136 s151 h152 fun n153 h154 =>
M.val (IntKind.wrap .i64 (d91 + (1 : Int))) fun z155 =>
J90 z155 h154)))
else
J86 () h92)) (0 : Int) h85) fun J67 =>
M.new h66 (.cells (#[(.pointer p2), (.pointer p4), (.pointer p6)] : Array Value) 25) fun b68 h69 =>
M.loop (α := Int) (fun J70 d71 h72 =>
(bif (decide (d71 < ((3 : Nat) : Int))) then
M.idx (some (⟨b68, 0, none⟩ : Addr)) 3 d71 fun a73 j74 =>
M.load h72 (Addr.add a73 (j74 * 1)) fun v75 =>
M.ptr v75 fun p76 =>
disk_Disk_Flush' p76 h72 fun n77 h78 =>
M.val (IntKind.wrap .i64 (d71 + (1 : Int))) fun z79 =>
J70 z79 h78
else
J67 () h72)) (0 : Int) h69) fun J8 =>
M.sub x_script x_scriptC 6 0 (mn ((x_scriptL : Nat) : Int) (30 : Int)) fun a9 l10 c11 =>
M.loop (α := Int) (fun J12 d13 h14 =>
(bif (decide (d13 < ((l10 : Nat) : Int))) then
M.idx a9 l10 d13 fun a15 j16 =>
M.load h14 ((Addr.add a15 (j16 * 6)).add 0) fun v17 =>
M.int .i64 v17 fun n18 =>
M.load h14 ((Addr.add a15 (j16 * 6)).add 1) fun v19 =>
M.int .i64 v19 fun n20 =>
M.load h14 ((Addr.add a15 (j16 * 6)).add 2) fun v21 =>
M.str v21 fun s22 =>
M.load h14 ((Addr.add a15 (j16 * 6)).add 3) fun v23 =>
M.int .i64 v23 fun n24 =>
M.load h14 ((Addr.add a15 (j16 * 6)).add 4) fun v25 =>
M.slc v25 fun a26 l27 c28 =>
M.load h14 ((Addr.add a15 (j16 * 6)).add 5) fun v29 =>
M.bool v29 fun b30 =>
M.new h14 (.cells (#[(.int .i64 (0 : Int)), (.int .i64 (0 : Int)), (.string (ByteArray.empty)), (.int .i64 (0 : Int)), (.slice none 0 0), (.bool false)] : Array Value) 34) fun b31 h32 =>
M.req (Array.size (#[(.int .i64 n18), (.int .i64 n20), (.string s22), (.int .i64 n24), (.slice a26 l27 c28), (.bool b30)] : Array Value) = 6) (M.puts h32 (⟨b31, 0, none⟩ : Addr) [(.int .i64 n18), (.int .i64 n20), (.string s22), (.int .i64 n24), (.slice a26 l27 c28), (.bool b30)] fun h33 =>
M.new h33 (.cells (#[(.pointer p2), (.pointer p4), (.pointer p6)] : Array Value) 25) fun b34 h35 =>
M.loop (α := Int) (fun J36 d37 h38 =>
(bif (decide (d37 < ((3 : Nat) : Int))) then
M.idx (some (⟨b34, 0, none⟩ : Addr)) 3 d37 fun a39 j40 =>
M.load h38 (Addr.add a39 (j40 * 1)) fun v41 =>
M.ptr v41 fun p42 =>
M.load h38 (Addr.add (⟨b31, 0, none⟩ : Addr) 1) fun v43 =>
M.int .i64 v43 fun n44 =>
M.load h38 ((⟨b31, 0, none⟩ : Addr).add 0) fun v45 =>
M.int .i64 v45 fun n46 =>
M.load h38 ((⟨b31, 0, none⟩ : Addr).add 1) fun v47 =>
M.int .i64 v47 fun n48 =>
M.load h38 ((⟨b31, 0, none⟩ : Addr).add 2) fun v49 =>
M.str v49 fun s50 =>
M.load h38 ((⟨b31, 0, none⟩ : Addr).add 3) fun v51 =>
M.int .i64 v51 fun n52 =>
M.load h38 ((⟨b31, 0, none⟩ : Addr).add 4) fun v53 =>
M.slc v53 fun a54 l55 c56 =>
M.load h38 ((⟨b31, 0, none⟩ : Addr).add 5) fun v57 =>
M.bool v57 fun b58 =>
law09_bytes' n46 n48 s50 n52 a54 l55 c56 b58 h38 fun s59 h60 =>
M.still h38 (Addr.add (⟨b31, 0, none⟩ : Addr) 1) 1 h60 (
disk_Disk_Write' p42 n44 s59 h60 fun n61 h62 =>
M.val (IntKind.wrap .i64 (d37 + (1 : Int))) fun z63 =>
J36 z63 h62)
else
M.val (IntKind.wrap .i64 (d13 + (1 : Int))) fun z64 =>
J12 z64 h38)) (0 : Int) h35)
else
J8 () h14)) (0 : Int) h7
def law09_DiskAll (x_script : Option Addr) (x_scriptL : Nat) (x_scriptC : Nat) (x_more : Option Addr) (x_moreL : Nat) (x_moreC : Nat) (h : H) (Q : Bool → H → Prop) : Prop := law09_DiskAll.g disk_New law09_bytes disk_Disk_Write disk_Disk_Flush disk_Disk_Waiting disk_Disk_Image disk_Disk_Crash law09_wakes law09_equal x_script x_scriptL x_scriptC x_more x_moreL x_moreC h Q
def law09_DiskAll.L (F : Option Addr → Nat → Nat → Option Addr → Nat → Nat → H → (Bool → H → Prop) → Prop) : List Value → (Value → H → Prop) → H → Prop
  | [.slice x_script x_scriptL x_scriptC, .slice x_more x_moreL x_moreC] => fun Q h => F x_script x_scriptL x_scriptC x_more x_moreL x_moreC h fun b187 h188 => Q (.bool b187) h188
  | _ => fun _ _ => False
def law09_DiskAll.W : W := fun args => law09_DiskAll.L law09_DiskAll args.toList
def law09_DiskAll.ann : Ann := ⟨lookN [(28, [(4, .bool)])], lookN [(7, []), (15, []), (63, [])], lookN [(58, [(28, .int .i64)]), (122, [(54, .int .i64)]), (506, [(68, .int .i64)]), (14950, [(37, .int .i64)])]⟩
def law09_DiskAll.env : Env := envOf [(13, fun args => disk_New.L disk_New args.toList), (17, fun args => law09_bytes.L law09_bytes args.toList), (15, fun args => disk_Disk_Write.L disk_Disk_Write args.toList), (16, fun args => disk_Disk_Flush.L disk_Disk_Flush args.toList), (20, fun args => disk_Disk_Waiting.L disk_Disk_Waiting args.toList), (21, fun args => disk_Disk_Image.L disk_Disk_Image args.toList), (18, fun args => disk_Disk_Crash.L disk_Disk_Crash args.toList), (14, fun args => law09_wakes.L law09_wakes args.toList), (22, fun args => law09_equal.L law09_equal args.toList)]
theorem law09_DiskAll.geq (disk_New' : Int → H → (Option Addr → H → Prop) → Prop) (law09_bytes' : Int → Int → ByteArray → Int → Option Addr → Nat → Nat → Bool → H → (ByteArray → H → Prop) → Prop) (disk_Disk_Write' : Option Addr → Int → ByteArray → H → (Int → H → Prop) → Prop) (disk_Disk_Flush' : Option Addr → H → (Int → H → Prop) → Prop) (disk_Disk_Waiting' : Option Addr → H → (Int → H → Prop) → Prop) (disk_Disk_Image' : Option Addr → H → (Option Addr → Nat → Nat → H → Prop) → Prop) (disk_Disk_Crash' : Option Addr → Option Addr → Nat → Nat → H → (H → Prop) → Prop) (law09_wakes' : H → (Bool → H → Prop) → Prop) (law09_equal' : Option Addr → Nat → Nat → Option Addr → Nat → Nat → H → (Bool → H → Prop) → Prop) (x_script : Option Addr) (x_scriptL : Nat) (x_scriptC : Nat) (x_more : Option Addr) (x_moreL : Nat) (x_moreC : Nat) (Q : Value → H → Prop) (h : H) : evF Try.prog (envOf [(13, fun args => disk_New.L disk_New' args.toList), (17, fun args => law09_bytes.L law09_bytes' args.toList), (15, fun args => disk_Disk_Write.L disk_Disk_Write' args.toList), (16, fun args => disk_Disk_Flush.L disk_Disk_Flush' args.toList), (20, fun args => disk_Disk_Waiting.L disk_Disk_Waiting' args.toList), (21, fun args => disk_Disk_Image.L disk_Disk_Image' args.toList), (18, fun args => disk_Disk_Crash.L disk_Disk_Crash' args.toList), (14, fun args => law09_wakes.L law09_wakes' args.toList), (22, fun args => law09_equal.L law09_equal' args.toList)]) Try.f4 law09_DiskAll.ann [(.slice x_script x_scriptL x_scriptC), (.slice x_more x_moreL x_moreC)] Q h = law09_DiskAll.g disk_New' law09_bytes' disk_Disk_Write' disk_Disk_Flush' disk_Disk_Waiting' disk_Disk_Image' disk_Disk_Crash' law09_wakes' law09_equal' x_script x_scriptL x_scriptC x_more x_moreL x_moreC h fun b187 h188 => Q (.bool b187) h188 := by kernel_rfl
theorem law09_DiskAll.eq (x_script : Option Addr) (x_scriptL : Nat) (x_scriptC : Nat) (x_more : Option Addr) (x_moreL : Nat) (x_moreC : Nat) (Q : Value → H → Prop) (h : H) : evF Try.prog law09_DiskAll.env Try.f4 law09_DiskAll.ann [(.slice x_script x_scriptL x_scriptC), (.slice x_more x_moreL x_moreC)] Q h = law09_DiskAll x_script x_scriptL x_scriptC x_more x_moreL x_moreC h fun b187 h188 => Q (.bool b187) h188 := law09_DiskAll.geq disk_New law09_bytes disk_Disk_Write disk_Disk_Flush disk_Disk_Waiting disk_Disk_Image disk_Disk_Crash law09_wakes law09_equal x_script x_scriptL x_scriptC x_more x_moreL x_moreC Q h
theorem law09_DiskAll.W_eq (x_script : Option Addr) (x_scriptL : Nat) (x_scriptC : Nat) (x_more : Option Addr) (x_moreL : Nat) (x_moreC : Nat) (Q : Value → H → Prop) (h : H) : law09_DiskAll.W #[(.slice x_script x_scriptL x_scriptC), (.slice x_more x_moreL x_moreC)] Q h = law09_DiskAll x_script x_scriptL x_scriptC x_more x_moreL x_moreC h fun b187 h188 => Q (.bool b187) h188 := by kernel_rfl
theorem law09_DiskAll.good : FnGood Try.prog 4 law09_DiskAll.W := by
  refine FnGood.of (ann := law09_DiskAll.ann) (env := law09_DiskAll.env) mixed (EnvGood.cons disk_New.good (EnvGood.cons law09_bytes.good (EnvGood.cons disk_Disk_Write.good (EnvGood.cons disk_Disk_Flush.good (EnvGood.cons disk_Disk_Waiting.good (EnvGood.cons disk_Disk_Image.good (EnvGood.cons disk_Disk_Crash.good (EnvGood.cons law09_wakes.good (EnvGood.cons law09_equal.good EnvGood.nil))))))))) Try.func4 Try.call4 fun args => ?_
  show law09_DiskAll.L law09_DiskAll args.toList = _ ∨ ∀ Q m, evF Try.prog law09_DiskAll.env Try.f4 law09_DiskAll.ann args.toList Q m = law09_DiskAll.L law09_DiskAll args.toList Q m
  generalize args.toList = l
  unfold law09_DiskAll.L
  split
  · exact .inr fun Q m => law09_DiskAll.eq _ _ _ _ _ _ Q m
  · exact .inl rfl

def law10_BankPlays.g (bank_New' : Int → Int → H → (Option Addr → H → Prop) → Prop) (ref10_New' : Int → Int → H → (Option Addr → H → Prop) → Prop) (law10_wakes' : H → (Bool → H → Prop) → Prop) (bank_Bank_Size' : Option Addr → H → (Int → H → Prop) → Prop) (law10_act' : Option Addr → Option Addr → Int → Int → Int → ByteArray → Option Addr → Nat → Nat → Bool → H → (Bool → H → Prop) → Prop) (bank_Bank_Steps' : Option Addr → H → (Int → H → Prop) → Prop) (bank_Bank_Disk' : Option Addr → Int → H → (Option Addr → H → Prop) → Prop) (disk_Disk_Image' : Option Addr → H → (Option Addr → Nat → Nat → H → Prop) → Prop) (ref09_Image' : Option Addr → H → (Option Addr → Nat → Nat → H → Prop) → Prop) (disk_Disk_Waiting' : Option Addr → H → (Int → H → Prop) → Prop) (x_disks : Int) (x_cells : Int) (x_script : Option Addr) (x_scriptL : Nat) (x_scriptC : Nat) (h : H) (Q : Bool → H → Prop) : Prop :=
bank_New' x_disks x_cells h fun p2 h3 =>
ref10_New' x_disks x_cells h3 fun p4 h5 =>
M.join (α := Bool) (fun d16 h17 =>
(bif d16 then
Q false h17
else
M.join (α := Unit) (fun d69 h70 =>
M.nn p4 fun a71 =>
M.load h70 (Addr.add a71 0) fun v72 =>
M.slc v72 fun a73 l74 c75 =>
M.loop (α := Int) (fun J76 d77 h78 =>
(bif (decide (d77 < ((l74 : Nat) : Int))) then
M.idx a73 l74 d77 fun a79 j80 =>
M.load h78 (Addr.add a79 (j80 * 1)) fun v81 =>
M.ptr v81 fun p82 =>
bank_Bank_Disk' p2 d77 h78 fun p83 h84 =>
disk_Disk_Image' p83 h84 fun a85 l86 c87 h88 =>
ref09_Image' p82 h88 fun a89 l90 c91 h92 =>
M.join (α := Bool) (fun d103 h104 =>
(bif d103 then
Q false h104
else
M.loop (α := Int) (fun J105 d106 h107 =>
(bif (decide (d106 < ((l86 : Nat) : Int))) then
M.idx a85 l86 d106 fun a108 j109 =>
M.load h107 (Addr.add a108 (j109 * 1)) fun v110 =>
M.str v110 fun s111 =>
M.idx a89 l90 d106 fun a112 j113 =>
M.load h107 (Addr.add a112 (j113 * 1)) fun v114 =>
M.str v114 fun s115 =>
(bif (!strEq s111 s115) then
Q false h107
else
M.val (IntKind.wrap .i64 (d106 + (1 : Int))) fun z116 =>
J105 z116 h107)
else
M.val (IntKind.wrap .i64 (d77 + (1 : Int))) fun z117 =>
J76 z117 h107)) (0 : Int) h104)) fun J93 =>
(bif (((l86 : Nat) : Int) != ((l90 : Nat) : Int)) then
J93 true h92
else
M.nn p82 fun a94 =>
M.load h92 (Addr.add a94 1) fun v95 =>
M.slc v95 fun a96 l97 c98 =>
bank_Bank_Disk' p2 d77 h92 fun p99 h100 =>
M.still h92 (Addr.add a94 1) 1 h100 (
disk_Disk_Waiting' p99 h100 fun n101 h102 =>
M.still h92 (Addr.add a94 1) 1 h102 (
J93 (n101 != ((l97 : Nat) : Int)) h102)))
else
Q true h78)) (0 : Int) h70) fun J18 =>
M.sub x_script x_scriptC 6 0 (mn ((x_scriptL : Nat) : Int) (60 : Int)) fun a19 l20 c21 =>
M.loop (α := Int) (fun J22 d23 h24 =>
(bif (decide (d23 < ((l20 : Nat) : Int))) then
M.idx a19 l20 d23 fun a25 j26 =>
M.load h24 ((Addr.add a25 (j26 * 6)).add 0) fun v27 =>
M.int .i64 v27 fun n28 =>
M.load h24 ((Addr.add a25 (j26 * 6)).add 1) fun v29 =>
M.int .i64 v29 fun n30 =>
M.load h24 ((Addr.add a25 (j26 * 6)).add 2) fun v31 =>
M.int .i64 v31 fun n32 =>
M.load h24 ((Addr.add a25 (j26 * 6)).add 3) fun v33 =>
M.str v33 fun s34 =>
M.load h24 ((Addr.add a25 (j26 * 6)).add 4) fun v35 =>
M.slc v35 fun a36 l37 c38 =>
M.load h24 ((Addr.add a25 (j26 * 6)).add 5) fun v39 =>
M.bool v39 fun b40 =>
M.new h24 (.cells (#[(.int .i64 (0 : Int)), (.int .i64 (0 : Int)), (.int .i64 (0 : Int)), (.string (ByteArray.empty)), (.slice none 0 0), (.bool false)] : Array Value) 65) fun b41 h42 =>
M.req (Array.size (#[(.int .i64 n28), (.int .i64 n30), (.int .i64 n32), (.string s34), (.slice a36 l37 c38), (.bool b40)] : Array Value) = 6) (M.puts h42 (⟨b41, 0, none⟩ : Addr) [(.int .i64 n28), (.int .i64 n30), (.int .i64 n32), (.string s34), (.slice a36 l37 c38), (.bool b40)] fun h43 =>
M.join (α := Bool) (fun d66 h67 =>
(bif d66 then
Q false h67
else
M.val (IntKind.wrap .i64 (d23 + (1 : Int))) fun z68 =>
J22 z68 h67)) fun J44 =>
M.load h43 ((⟨b41, 0, none⟩ : Addr).add 0) fun v45 =>
M.int .i64 v45 fun n46 =>
M.load h43 ((⟨b41, 0, none⟩ : Addr).add 1) fun v47 =>
M.int .i64 v47 fun n48 =>
M.load h43 ((⟨b41, 0, none⟩ : Addr).add 2) fun v49 =>
M.int .i64 v49 fun n50 =>
M.load h43 ((⟨b41, 0, none⟩ : Addr).add 3) fun v51 =>
M.str v51 fun s52 =>
M.load h43 ((⟨b41, 0, none⟩ : Addr).add 4) fun v53 =>
M.slc v53 fun a54 l55 c56 =>
M.load h43 ((⟨b41, 0, none⟩ : Addr).add 5) fun v57 =>
M.bool v57 fun b58 =>
law10_act' p2 p4 n46 n48 n50 s52 a54 l55 c56 b58 h43 fun b59 h60 =>
(bif (!b59) then
J44 true h60
else
M.nn p4 fun a61 =>
M.load h60 (Addr.add a61 1) fun v62 =>
M.int .i64 v62 fun n63 =>
bank_Bank_Steps' p2 h60 fun n64 h65 =>
M.still h60 (Addr.add a61 1) 1 h65 (
J44 (n64 != n63) h65)))
else
J18 () h24)) (0 : Int) h17)) fun J6 =>
law10_wakes'  h5 fun b7 h8 =>
(bif (!b7) then
J6 true h8
else
M.nn p4 fun a9 =>
M.load h8 (Addr.add a9 0) fun v10 =>
M.slc v10 fun a11 l12 c13 =>
bank_Bank_Size' p2 h8 fun n14 h15 =>
M.still h8 (Addr.add a9 0) 1 h15 (
J6 (n14 != ((l12 : Nat) : Int)) h15))
def law10_BankPlays (x_disks : Int) (x_cells : Int) (x_script : Option Addr) (x_scriptL : Nat) (x_scriptC : Nat) (h : H) (Q : Bool → H → Prop) : Prop := law10_BankPlays.g bank_New ref10_New law10_wakes bank_Bank_Size law10_act bank_Bank_Steps bank_Bank_Disk disk_Disk_Image ref09_Image disk_Disk_Waiting x_disks x_cells x_script x_scriptL x_scriptC h Q
def law10_BankPlays.L (F : Int → Int → Option Addr → Nat → Nat → H → (Bool → H → Prop) → Prop) : List Value → (Value → H → Prop) → H → Prop
  | [.int .i64 x_disks, .int .i64 x_cells, .slice x_script x_scriptL x_scriptC] => fun Q h => F x_disks x_cells x_script x_scriptL x_scriptC h fun b118 h119 => Q (.bool b118) h119
  | _ => fun _ _ => False
def law10_BankPlays.W : W := fun args => law10_BankPlays.L law10_BankPlays args.toList
def law10_BankPlays.ann : Ann := ⟨lookN [(2, [(33, .bool)]), (7, [(57, .bool)]), (14, [(91, .bool)])], lookN [(15, [])], lookN [(122, [(40, .int .i64)]), (250, [(64, .int .i64)]), (256414, [(94, .int .i64)])]⟩
def law10_BankPlays.env : Env := envOf [(31, fun args => bank_New.L bank_New args.toList), (42, fun args => ref10_New.L ref10_New args.toList), (39, fun args => law10_wakes.L law10_wakes args.toList), (40, fun args => bank_Bank_Size.L bank_Bank_Size args.toList), (43, fun args => law10_act.L law10_act args.toList), (37, fun args => bank_Bank_Steps.L bank_Bank_Steps args.toList), (41, fun args => bank_Bank_Disk.L bank_Bank_Disk args.toList), (21, fun args => disk_Disk_Image.L disk_Disk_Image args.toList), (27, fun args => ref09_Image.L ref09_Image args.toList), (20, fun args => disk_Disk_Waiting.L disk_Disk_Waiting args.toList)]
theorem law10_BankPlays.geq (bank_New' : Int → Int → H → (Option Addr → H → Prop) → Prop) (ref10_New' : Int → Int → H → (Option Addr → H → Prop) → Prop) (law10_wakes' : H → (Bool → H → Prop) → Prop) (bank_Bank_Size' : Option Addr → H → (Int → H → Prop) → Prop) (law10_act' : Option Addr → Option Addr → Int → Int → Int → ByteArray → Option Addr → Nat → Nat → Bool → H → (Bool → H → Prop) → Prop) (bank_Bank_Steps' : Option Addr → H → (Int → H → Prop) → Prop) (bank_Bank_Disk' : Option Addr → Int → H → (Option Addr → H → Prop) → Prop) (disk_Disk_Image' : Option Addr → H → (Option Addr → Nat → Nat → H → Prop) → Prop) (ref09_Image' : Option Addr → H → (Option Addr → Nat → Nat → H → Prop) → Prop) (disk_Disk_Waiting' : Option Addr → H → (Int → H → Prop) → Prop) (x_disks : Int) (x_cells : Int) (x_script : Option Addr) (x_scriptL : Nat) (x_scriptC : Nat) (Q : Value → H → Prop) (h : H) : evF Try.prog (envOf [(31, fun args => bank_New.L bank_New' args.toList), (42, fun args => ref10_New.L ref10_New' args.toList), (39, fun args => law10_wakes.L law10_wakes' args.toList), (40, fun args => bank_Bank_Size.L bank_Bank_Size' args.toList), (43, fun args => law10_act.L law10_act' args.toList), (37, fun args => bank_Bank_Steps.L bank_Bank_Steps' args.toList), (41, fun args => bank_Bank_Disk.L bank_Bank_Disk' args.toList), (21, fun args => disk_Disk_Image.L disk_Disk_Image' args.toList), (27, fun args => ref09_Image.L ref09_Image' args.toList), (20, fun args => disk_Disk_Waiting.L disk_Disk_Waiting' args.toList)]) Try.f11 law10_BankPlays.ann [(.int .i64 x_disks), (.int .i64 x_cells), (.slice x_script x_scriptL x_scriptC)] Q h = law10_BankPlays.g bank_New' ref10_New' law10_wakes' bank_Bank_Size' law10_act' bank_Bank_Steps' bank_Bank_Disk' disk_Disk_Image' ref09_Image' disk_Disk_Waiting' x_disks x_cells x_script x_scriptL x_scriptC h fun b118 h119 => Q (.bool b118) h119 := by kernel_rfl
theorem law10_BankPlays.eq (x_disks : Int) (x_cells : Int) (x_script : Option Addr) (x_scriptL : Nat) (x_scriptC : Nat) (Q : Value → H → Prop) (h : H) : evF Try.prog law10_BankPlays.env Try.f11 law10_BankPlays.ann [(.int .i64 x_disks), (.int .i64 x_cells), (.slice x_script x_scriptL x_scriptC)] Q h = law10_BankPlays x_disks x_cells x_script x_scriptL x_scriptC h fun b118 h119 => Q (.bool b118) h119 := law10_BankPlays.geq bank_New ref10_New law10_wakes bank_Bank_Size law10_act bank_Bank_Steps bank_Bank_Disk disk_Disk_Image ref09_Image disk_Disk_Waiting x_disks x_cells x_script x_scriptL x_scriptC Q h
theorem law10_BankPlays.W_eq (x_disks : Int) (x_cells : Int) (x_script : Option Addr) (x_scriptL : Nat) (x_scriptC : Nat) (Q : Value → H → Prop) (h : H) : law10_BankPlays.W #[(.int .i64 x_disks), (.int .i64 x_cells), (.slice x_script x_scriptL x_scriptC)] Q h = law10_BankPlays x_disks x_cells x_script x_scriptL x_scriptC h fun b118 h119 => Q (.bool b118) h119 := by kernel_rfl
theorem law10_BankPlays.good : FnGood Try.prog 11 law10_BankPlays.W := by
  refine FnGood.of (ann := law10_BankPlays.ann) (env := law10_BankPlays.env) mixed (EnvGood.cons bank_New.good (EnvGood.cons ref10_New.good (EnvGood.cons law10_wakes.good (EnvGood.cons bank_Bank_Size.good (EnvGood.cons law10_act.good (EnvGood.cons bank_Bank_Steps.good (EnvGood.cons bank_Bank_Disk.good (EnvGood.cons disk_Disk_Image.good (EnvGood.cons ref09_Image.good (EnvGood.cons disk_Disk_Waiting.good EnvGood.nil)))))))))) Try.func11 Try.call11 fun args => ?_
  show law10_BankPlays.L law10_BankPlays args.toList = _ ∨ ∀ Q m, evF Try.prog law10_BankPlays.env Try.f11 law10_BankPlays.ann args.toList Q m = law10_BankPlays.L law10_BankPlays args.toList Q m
  generalize args.toList = l
  unfold law10_BankPlays.L
  split
  · exact .inr fun Q m => law10_BankPlays.eq _ _ _ _ _ Q m
  · exact .inl rfl

def slices_DeleteFuncdisk_write_disk_write_disk_Disk_Tamper_1.g (slices_IndexFuncdisk_write_disk_write_disk_Disk_Tamper_1' : Option Addr → Nat → Nat → Addr → H → (Int → H → Prop) → Prop) (disk_Disk_Tamper_1' : Int → ByteArray → Addr → H → (Bool → H → Prop) → Prop) (x_s : Option Addr) (x_sL : Nat) (x_sC : Nat) (x_del_0 : Addr) (h : H) (Q : Option Addr → Nat → Nat → H → Prop) : Prop :=
slices_IndexFuncdisk_write_disk_write_disk_Disk_Tamper_1' x_s x_sL x_sC x_del_0 h fun n4 h5 =>
(bif (n4 == (-1 : Int)) then
Q x_s x_sL x_sC h5
else
M.join (α := Int) (fun d38 h39 =>
M.sub x_s x_sC 2 d38 ((x_sL : Nat) : Int) fun a40 l41 c42 =>
M.copy h39 a40 (zerosOf [(.int .i64 (0 : Int)), (.string (ByteArray.empty))] l41) fun h43 =>
M.sub x_s x_sC 2 0 d38 fun a44 l45 c46 =>
Q a44 l45 c46 h43) fun J6 =>
M.val (IntKind.wrap .i64 (n4 + (1 : Int))) fun z7 =>
M.loop (α := Int × Int) (fun J8 d9 h10 =>
(bif (decide (d9.2 < ((x_sL : Nat) : Int))) then
M.join (α := Int) (fun d35 h36 =>
M.val (IntKind.wrap .i64 (d9.2 + (1 : Int))) fun z37 =>
J8 (d35, z37) h36) fun J11 =>
M.idx x_s x_sL d9.2 fun a12 j13 =>
M.load h10 ((Addr.add a12 (j13 * 2)).add 0) fun v14 =>
M.int .i64 v14 fun n15 =>
M.load h10 ((Addr.add a12 (j13 * 2)).add 1) fun v16 =>
M.str v16 fun s17 =>
M.new h10 (.cells (#[(.int .i64 (0 : Int)), (.string (ByteArray.empty))] : Array Value) 86) fun b18 h19 =>
M.req (Array.size (#[(.int .i64 n15), (.string s17)] : Array Value) = 2) (M.puts h19 (⟨b18, 0, none⟩ : Addr) [(.int .i64 n15), (.string s17)] fun h20 =>
M.load h20 ((⟨b18, 0, none⟩ : Addr).add 0) fun v21 =>
M.int .i64 v21 fun n22 =>
M.load h20 ((⟨b18, 0, none⟩ : Addr).add 1) fun v23 =>
M.str v23 fun s24 =>
disk_Disk_Tamper_1' n22 s24 x_del_0 h20 fun b25 h26 =>
(bif (!b25) then
M.load h26 ((⟨b18, 0, none⟩ : Addr).add 0) fun v27 =>
M.int .i64 v27 fun n28 =>
M.load h26 ((⟨b18, 0, none⟩ : Addr).add 1) fun v29 =>
M.str v29 fun s30 =>
M.idx x_s x_sL d9.1 fun a31 j32 =>
M.req (Array.size (#[(.int .i64 n28), (.string s30)] : Array Value) = 2) (M.puts h26 (Addr.add a31 (j32 * 2)) [(.int .i64 n28), (.string s30)] fun h33 =>
M.val (IntKind.wrap .i64 (d9.1 + (1 : Int))) fun z34 =>
J11 z34 h33)
else
J11 d9.1 h26))
else
J6 d9.1 h10)) (n4, z7) h5)
def slices_DeleteFuncdisk_write_disk_write_disk_Disk_Tamper_1 (x_s : Option Addr) (x_sL : Nat) (x_sC : Nat) (x_del_0 : Addr) (h : H) (Q : Option Addr → Nat → Nat → H → Prop) : Prop := slices_DeleteFuncdisk_write_disk_write_disk_Disk_Tamper_1.g slices_IndexFuncdisk_write_disk_write_disk_Disk_Tamper_1 disk_Disk_Tamper_1 x_s x_sL x_sC x_del_0 h Q
def slices_DeleteFuncdisk_write_disk_write_disk_Disk_Tamper_1.L (F : Option Addr → Nat → Nat → Addr → H → (Option Addr → Nat → Nat → H → Prop) → Prop) : List Value → (Value → H → Prop) → H → Prop
  | [.slice x_s x_sL x_sC, .func (.func 55) ⟨[]⟩ ⟨[.pointer (some x_del_0)]⟩] => fun Q h => F x_s x_sL x_sC x_del_0 h fun a47 l48 c49 h50 => Q (.slice a47 l48 c49) h50
  | _ => fun _ _ => False
def slices_DeleteFuncdisk_write_disk_write_disk_Disk_Tamper_1.W : W := fun args => slices_DeleteFuncdisk_write_disk_write_disk_Disk_Tamper_1.L slices_DeleteFuncdisk_write_disk_write_disk_Disk_Tamper_1 args.toList
def slices_DeleteFuncdisk_write_disk_write_disk_Disk_Tamper_1.ann : Ann := ⟨lookN [], lookN [(15, [(5, .int .i64)]), (489, [(5, .int .i64)])], lookN [(122, [(5, .int .i64), (6, .int .i64)])]⟩
def slices_DeleteFuncdisk_write_disk_write_disk_Disk_Tamper_1.env : Env := envOf [(63, fun args => slices_IndexFuncdisk_write_disk_write_disk_Disk_Tamper_1.L slices_IndexFuncdisk_write_disk_write_disk_Disk_Tamper_1 args.toList), (55, fun args => disk_Disk_Tamper_1.L disk_Disk_Tamper_1 args.toList)]
theorem slices_DeleteFuncdisk_write_disk_write_disk_Disk_Tamper_1.geq (slices_IndexFuncdisk_write_disk_write_disk_Disk_Tamper_1' : Option Addr → Nat → Nat → Addr → H → (Int → H → Prop) → Prop) (disk_Disk_Tamper_1' : Int → ByteArray → Addr → H → (Bool → H → Prop) → Prop) (x_s : Option Addr) (x_sL : Nat) (x_sC : Nat) (x_del_0 : Addr) (Q : Value → H → Prop) (h : H) : evF Try.prog (envOf [(63, fun args => slices_IndexFuncdisk_write_disk_write_disk_Disk_Tamper_1.L slices_IndexFuncdisk_write_disk_write_disk_Disk_Tamper_1' args.toList), (55, fun args => disk_Disk_Tamper_1.L disk_Disk_Tamper_1' args.toList)]) Try.f54 slices_DeleteFuncdisk_write_disk_write_disk_Disk_Tamper_1.ann [(.slice x_s x_sL x_sC), (.func (.func 55) #[] #[(.pointer (some x_del_0))])] Q h = slices_DeleteFuncdisk_write_disk_write_disk_Disk_Tamper_1.g slices_IndexFuncdisk_write_disk_write_disk_Disk_Tamper_1' disk_Disk_Tamper_1' x_s x_sL x_sC x_del_0 h fun a47 l48 c49 h50 => Q (.slice a47 l48 c49) h50 := by kernel_rfl
theorem slices_DeleteFuncdisk_write_disk_write_disk_Disk_Tamper_1.eq (x_s : Option Addr) (x_sL : Nat) (x_sC : Nat) (x_del_0 : Addr) (Q : Value → H → Prop) (h : H) : evF Try.prog slices_DeleteFuncdisk_write_disk_write_disk_Disk_Tamper_1.env Try.f54 slices_DeleteFuncdisk_write_disk_write_disk_Disk_Tamper_1.ann [(.slice x_s x_sL x_sC), (.func (.func 55) #[] #[(.pointer (some x_del_0))])] Q h = slices_DeleteFuncdisk_write_disk_write_disk_Disk_Tamper_1 x_s x_sL x_sC x_del_0 h fun a47 l48 c49 h50 => Q (.slice a47 l48 c49) h50 := slices_DeleteFuncdisk_write_disk_write_disk_Disk_Tamper_1.geq slices_IndexFuncdisk_write_disk_write_disk_Disk_Tamper_1 disk_Disk_Tamper_1 x_s x_sL x_sC x_del_0 Q h
theorem slices_DeleteFuncdisk_write_disk_write_disk_Disk_Tamper_1.W_eq (x_s : Option Addr) (x_sL : Nat) (x_sC : Nat) (x_del_0 : Addr) (Q : Value → H → Prop) (h : H) : slices_DeleteFuncdisk_write_disk_write_disk_Disk_Tamper_1.W #[(.slice x_s x_sL x_sC), (.func (.func 55) #[] #[(.pointer (some x_del_0))])] Q h = slices_DeleteFuncdisk_write_disk_write_disk_Disk_Tamper_1 x_s x_sL x_sC x_del_0 h fun a47 l48 c49 h50 => Q (.slice a47 l48 c49) h50 := by kernel_rfl
theorem slices_DeleteFuncdisk_write_disk_write_disk_Disk_Tamper_1.good : FnGood Try.prog 54 slices_DeleteFuncdisk_write_disk_write_disk_Disk_Tamper_1.W := by
  refine FnGood.of (ann := slices_DeleteFuncdisk_write_disk_write_disk_Disk_Tamper_1.ann) (env := slices_DeleteFuncdisk_write_disk_write_disk_Disk_Tamper_1.env) mixed (EnvGood.cons slices_IndexFuncdisk_write_disk_write_disk_Disk_Tamper_1.good (EnvGood.cons disk_Disk_Tamper_1.good EnvGood.nil)) Try.func54 Try.call54 fun args => ?_
  show slices_DeleteFuncdisk_write_disk_write_disk_Disk_Tamper_1.L slices_DeleteFuncdisk_write_disk_write_disk_Disk_Tamper_1 args.toList = _ ∨ ∀ Q m, evF Try.prog slices_DeleteFuncdisk_write_disk_write_disk_Disk_Tamper_1.env Try.f54 slices_DeleteFuncdisk_write_disk_write_disk_Disk_Tamper_1.ann args.toList Q m = slices_DeleteFuncdisk_write_disk_write_disk_Disk_Tamper_1.L slices_DeleteFuncdisk_write_disk_write_disk_Disk_Tamper_1 args.toList Q m
  generalize args.toList = l
  unfold slices_DeleteFuncdisk_write_disk_write_disk_Disk_Tamper_1.L
  split
  · exact .inr fun Q m => slices_DeleteFuncdisk_write_disk_write_disk_Disk_Tamper_1.eq _ _ _ _ Q m
  · exact .inl rfl

def disk_Disk_Tamper.g (disk_Disk_usable' : Option Addr → Int → H → (Int → H → Prop) → Prop) (slices_DeleteFuncdisk_write_disk_write_disk_Disk_Tamper_1' : Option Addr → Nat → Nat → Addr → H → (Option Addr → Nat → Nat → H → Prop) → Prop) (x_d : Option Addr) (x_at : Int) (x_s : ByteArray) (h : H) (Q : Bool → H → Prop) : Prop :=
M.new h (.cells #[(.int .i64 x_at)] 3) fun b2 h3 =>
M.join (α := Bool) (fun d9 h10 =>
(bif d9 then
Q false h10
else
M.nn x_d fun a11 =>
M.load h10 (Addr.add a11 2) fun v12 =>
M.slc v12 fun a13 l14 c15 =>
slices_DeleteFuncdisk_write_disk_write_disk_Disk_Tamper_1' a13 l14 c15 (⟨b2, 0, none⟩ : Addr) h10 fun a16 l17 c18 h19 =>
M.nn x_d fun a20 =>
M.put h19 (Addr.add a20 2) (.slice a16 l17 c18) fun h21 =>
M.nn x_d fun a22 =>
M.load h21 (Addr.add a22 0) fun v23 =>
M.slc v23 fun a24 l25 c26 =>
M.load h21 (⟨b2, 0, none⟩ : Addr) fun v27 =>
M.int .i64 v27 fun n28 =>
M.nn x_d fun a29 =>
M.load h21 (Addr.add a29 1) fun v30 =>
M.slc v30 fun a31 l32 c33 =>
M.load h21 (⟨b2, 0, none⟩ : Addr) fun v34 =>
M.int .i64 v34 fun n35 =>
M.idx a24 l25 n28 fun a36 j37 =>
M.put h21 (Addr.add a36 (j37 * 1)) (.string x_s) fun h38 =>
M.still h21 (⟨b2, 0, none⟩ : Addr) 1 h38 (
M.idx a31 l32 n35 fun a39 j40 =>
M.put h38 (Addr.add a39 (j40 * 1)) (.string x_s) fun h41 =>
Q true h41))) fun J4 =>
M.load h3 (⟨b2, 0, none⟩ : Addr) fun v5 =>
M.int .i64 v5 fun n6 =>
disk_Disk_usable' x_d n6 h3 fun n7 h8 =>
(bif (n7 != (0 : Int)) then
J4 true h8
else
J4 (decide ((ByteArray.size x_s : Int) > (2048 : Int))) h8)
def disk_Disk_Tamper (x_d : Option Addr) (x_at : Int) (x_s : ByteArray) (h : H) (Q : Bool → H → Prop) : Prop := disk_Disk_Tamper.g disk_Disk_usable slices_DeleteFuncdisk_write_disk_write_disk_Disk_Tamper_1 x_d x_at x_s h Q
def disk_Disk_Tamper.L (F : Option Addr → Int → ByteArray → H → (Bool → H → Prop) → Prop) : List Value → (Value → H → Prop) → H → Prop
  | [.pointer x_d, .int .i64 x_at, .string x_s] => fun Q h => F x_d x_at x_s h fun b42 h43 => Q (.bool b42) h43
  | _ => fun _ _ => False
def disk_Disk_Tamper.W : W := fun args => disk_Disk_Tamper.L disk_Disk_Tamper args.toList
def disk_Disk_Tamper.ann : Ann := ⟨lookN [(1, [(15, .bool)])], lookN [], lookN []⟩
def disk_Disk_Tamper.env : Env := envOf [(45, fun args => disk_Disk_usable.L disk_Disk_usable args.toList), (54, fun args => slices_DeleteFuncdisk_write_disk_write_disk_Disk_Tamper_1.L slices_DeleteFuncdisk_write_disk_write_disk_Disk_Tamper_1 args.toList)]
theorem disk_Disk_Tamper.geq (disk_Disk_usable' : Option Addr → Int → H → (Int → H → Prop) → Prop) (slices_DeleteFuncdisk_write_disk_write_disk_Disk_Tamper_1' : Option Addr → Nat → Nat → Addr → H → (Option Addr → Nat → Nat → H → Prop) → Prop) (x_d : Option Addr) (x_at : Int) (x_s : ByteArray) (Q : Value → H → Prop) (h : H) : evF Try.prog (envOf [(45, fun args => disk_Disk_usable.L disk_Disk_usable' args.toList), (54, fun args => slices_DeleteFuncdisk_write_disk_write_disk_Disk_Tamper_1.L slices_DeleteFuncdisk_write_disk_write_disk_Disk_Tamper_1' args.toList)]) Try.f30 disk_Disk_Tamper.ann [(.pointer x_d), (.int .i64 x_at), (.string x_s)] Q h = disk_Disk_Tamper.g disk_Disk_usable' slices_DeleteFuncdisk_write_disk_write_disk_Disk_Tamper_1' x_d x_at x_s h fun b42 h43 => Q (.bool b42) h43 := by kernel_rfl
theorem disk_Disk_Tamper.eq (x_d : Option Addr) (x_at : Int) (x_s : ByteArray) (Q : Value → H → Prop) (h : H) : evF Try.prog disk_Disk_Tamper.env Try.f30 disk_Disk_Tamper.ann [(.pointer x_d), (.int .i64 x_at), (.string x_s)] Q h = disk_Disk_Tamper x_d x_at x_s h fun b42 h43 => Q (.bool b42) h43 := disk_Disk_Tamper.geq disk_Disk_usable slices_DeleteFuncdisk_write_disk_write_disk_Disk_Tamper_1 x_d x_at x_s Q h
theorem disk_Disk_Tamper.W_eq (x_d : Option Addr) (x_at : Int) (x_s : ByteArray) (Q : Value → H → Prop) (h : H) : disk_Disk_Tamper.W #[(.pointer x_d), (.int .i64 x_at), (.string x_s)] Q h = disk_Disk_Tamper x_d x_at x_s h fun b42 h43 => Q (.bool b42) h43 := by kernel_rfl
theorem disk_Disk_Tamper.good : FnGood Try.prog 30 disk_Disk_Tamper.W := by
  refine FnGood.of (ann := disk_Disk_Tamper.ann) (env := disk_Disk_Tamper.env) mixed (EnvGood.cons disk_Disk_usable.good (EnvGood.cons slices_DeleteFuncdisk_write_disk_write_disk_Disk_Tamper_1.good EnvGood.nil)) Try.func30 Try.call30 fun args => ?_
  show disk_Disk_Tamper.L disk_Disk_Tamper args.toList = _ ∨ ∀ Q m, evF Try.prog disk_Disk_Tamper.env Try.f30 disk_Disk_Tamper.ann args.toList Q m = disk_Disk_Tamper.L disk_Disk_Tamper args.toList Q m
  generalize args.toList = l
  unfold disk_Disk_Tamper.L
  split
  · exact .inr fun Q m => disk_Disk_Tamper.eq _ _ _ Q m
  · exact .inl rfl

def law09_DiskDead.g (disk_New' : Int → H → (Option Addr → H → Prop) → Prop) (disk_Disk_Write' : Option Addr → Int → ByteArray → H → (Int → H → Prop) → Prop) (disk_Disk_Fail' : Option Addr → H → (H → Prop) → Prop) (disk_Disk_Read' : Option Addr → Int → H → (ByteArray → Int → H → Prop) → Prop) (disk_Disk_Crash' : Option Addr → Option Addr → Nat → Nat → H → (H → Prop) → Prop) (disk_Disk_Restore' : Option Addr → Option Addr → Nat → Nat → H → (H → Prop) → Prop) (law09_bytes' : Int → Int → ByteArray → Int → Option Addr → Nat → Nat → Bool → H → (ByteArray → H → Prop) → Prop) (disk_Disk_Flush' : Option Addr → H → (Int → H → Prop) → Prop) (disk_Disk_Tamper' : Option Addr → Int → ByteArray → H → (Bool → H → Prop) → Prop) (disk_Disk_Image' : Option Addr → H → (Option Addr → Nat → Nat → H → Prop) → Prop) (disk_Disk_Waiting' : Option Addr → H → (Int → H → Prop) → Prop) (disk_Disk_Dead' : Option Addr → H → (Bool → H → Prop) → Prop) (law09_wakes' : H → (Bool → H → Prop) → Prop) (disk_Disk_Size' : Option Addr → H → (Int → H → Prop) → Prop) (x_a_0 : Int) (x_a_1 : Int) (x_a_2 : ByteArray) (x_a_3 : Int) (x_a_4 : Option Addr) (x_a_4L : Nat) (x_a_4C : Nat) (x_a_5 : Bool) (h : H) (Q : Bool → H → Prop) : Prop :=
M.new h (.cells (#[(.int .i64 x_a_0), (.int .i64 x_a_1), (.string x_a_2), (.int .i64 x_a_3), (.slice x_a_4 x_a_4L x_a_4C), (.bool x_a_5)] : Array Value) 34) fun b2 h3 =>
disk_New' (5 : Int) h3 fun p4 h5 =>
disk_Disk_Write' p4 (1 : Int) (⟨#[120]⟩ : ByteArray) h5 fun n6 h7 =>
disk_Disk_Fail' p4 h7 fun h8 =>
M.join (α := Unit) (fun d76 h77 =>
M.join (α := Bool) (fun d85 h86 =>
Q d85 h86) fun J78 =>
law09_wakes'  h77 fun b79 h80 =>
(bif b79 then
disk_Disk_Size' none h80 fun n81 h82 =>
(bif (n81 == (0 : Int)) then
disk_Disk_Size' p4 h82 fun n83 h84 =>
J78 (n83 == (5 : Int)) h84
else
J78 false h82)
else
J78 false h80)) fun J9 =>
M.new h8 (.cells (#[(.pointer none), (.pointer p4)] : Array Value) 25) fun b10 h11 =>
M.loop (α := Int) (fun J12 d13 h14 =>
(bif (decide (d13 < ((2 : Nat) : Int))) then
M.idx (some (⟨b10, 0, none⟩ : Addr)) 2 d13 fun a15 j16 =>
M.load h14 (Addr.add a15 (j16 * 1)) fun v17 =>
M.ptr v17 fun p18 =>
M.new h14 (.cells (#[(.int .i64 (1 : Int)), (.int .i64 (20 : Int))] : Array Value) 29) fun b19 h20 =>
M.idx (some (⟨b19, 0, none⟩ : Addr)) 2 d13 fun a21 j22 =>
M.load h20 (Addr.add a21 (j22 * 1)) fun v23 =>
M.int .i64 v23 fun n24 =>
M.load h20 (Addr.add (⟨b2, 0, none⟩ : Addr) 1) fun v25 =>
M.int .i64 v25 fun n26 =>
disk_Disk_Read' p18 n26 h20 fun s27 n28 h29 =>
M.load h29 (Addr.add (⟨b2, 0, none⟩ : Addr) 4) fun v30 =>
M.slc v30 fun a31 l32 c33 =>
disk_Disk_Crash' p18 a31 l32 c33 h29 fun h34 =>
M.new h34 (.cells (#[(.string (⟨#[121]⟩ : ByteArray))] : Array Value) 9) fun b35 h36 =>
disk_Disk_Restore' p18 (some (⟨b35, 0, none⟩ : Addr)) 1 1 h36 fun h37 =>
M.join (α := Bool) (fun d73 h74 =>
(bif d73 then
Q false h74
else
M.val (IntKind.wrap .i64 (d13 + (1 : Int))) fun z75 =>
J12 z75 h74)) fun J38 =>
M.load h37 (Addr.add (⟨b2, 0, none⟩ : Addr) 1) fun v39 =>
M.int .i64 v39 fun n40 =>
M.load h37 ((⟨b2, 0, none⟩ : Addr).add 0) fun v41 =>
M.int .i64 v41 fun n42 =>
M.load h37 ((⟨b2, 0, none⟩ : Addr).add 1) fun v43 =>
M.int .i64 v43 fun n44 =>
M.load h37 ((⟨b2, 0, none⟩ : Addr).add 2) fun v45 =>
M.str v45 fun s46 =>
M.load h37 ((⟨b2, 0, none⟩ : Addr).add 3) fun v47 =>
M.int .i64 v47 fun n48 =>
M.load h37 ((⟨b2, 0, none⟩ : Addr).add 4) fun v49 =>
M.slc v49 fun a50 l51 c52 =>
M.load h37 ((⟨b2, 0, none⟩ : Addr).add 5) fun v53 =>
M.bool v53 fun b54 =>
law09_bytes' n42 n44 s46 n48 a50 l51 c52 b54 h37 fun s55 h56 =>
M.still h37 (Addr.add (⟨b2, 0, none⟩ : Addr) 1) 1 h56 (
disk_Disk_Write' p18 n40 s55 h56 fun n57 h58 =>
(bif (n57 != n24) then
J38 true h58
else
(bif (n28 != n24) then
J38 true h58
else
disk_Disk_Flush' p18 h58 fun n59 h60 =>
(bif (n59 != n24) then
J38 true h60
else
M.load h60 (Addr.add (⟨b2, 0, none⟩ : Addr) 1) fun v61 =>
M.int .i64 v61 fun n62 =>
disk_Disk_Tamper' p18 n62 (⟨#[122]⟩ : ByteArray) h60 fun b63 h64 =>
(bif b63 then
J38 true h64
else
disk_Disk_Image' p18 h64 fun a65 l66 c67 h68 =>
(bif (((l66 : Nat) : Int) != (0 : Int)) then
J38 true h68
else
disk_Disk_Waiting' p18 h68 fun n69 h70 =>
(bif (n69 != (0 : Int)) then
J38 true h70
else
disk_Disk_Dead' p18 h70 fun b71 h72 =>
J38 (!(b71 == (d13 == (1 : Int)))) h72)))))))
else
J9 () h14)) (0 : Int) h11
def law09_DiskDead (x_a_0 : Int) (x_a_1 : Int) (x_a_2 : ByteArray) (x_a_3 : Int) (x_a_4 : Option Addr) (x_a_4L : Nat) (x_a_4C : Nat) (x_a_5 : Bool) (h : H) (Q : Bool → H → Prop) : Prop := law09_DiskDead.g disk_New disk_Disk_Write disk_Disk_Fail disk_Disk_Read disk_Disk_Crash disk_Disk_Restore law09_bytes disk_Disk_Flush disk_Disk_Tamper disk_Disk_Image disk_Disk_Waiting disk_Disk_Dead law09_wakes disk_Disk_Size x_a_0 x_a_1 x_a_2 x_a_3 x_a_4 x_a_4L x_a_4C x_a_5 h Q
def law09_DiskDead.L (F : Int → Int → ByteArray → Int → Option Addr → Nat → Nat → Bool → H → (Bool → H → Prop) → Prop) : List Value → (Value → H → Prop) → H → Prop
  | [.agg ⟨[.int .i64 x_a_0, .int .i64 x_a_1, .string x_a_2, .int .i64 x_a_3, .slice x_a_4 x_a_4L x_a_4C, .bool x_a_5]⟩] => fun Q h => F x_a_0 x_a_1 x_a_2 x_a_3 x_a_4 x_a_4L x_a_4C x_a_5 h fun b87 h88 => Q (.bool b87) h88
  | _ => fun _ _ => False
def law09_DiskDead.W : W := fun args => law09_DiskDead.L law09_DiskDead args.toList
def law09_DiskDead.ann : Ann := ⟨lookN [(12, [(84, .bool)]), (15, [(2, .bool)])], lookN [(63, [])], lookN [(506, [(19, .int .i64)])]⟩
def law09_DiskDead.env : Env := envOf [(13, fun args => disk_New.L disk_New args.toList), (15, fun args => disk_Disk_Write.L disk_Disk_Write args.toList), (29, fun args => disk_Disk_Fail.L disk_Disk_Fail args.toList), (19, fun args => disk_Disk_Read.L disk_Disk_Read args.toList), (18, fun args => disk_Disk_Crash.L disk_Disk_Crash args.toList), (28, fun args => disk_Disk_Restore.L disk_Disk_Restore args.toList), (17, fun args => law09_bytes.L law09_bytes args.toList), (16, fun args => disk_Disk_Flush.L disk_Disk_Flush args.toList), (30, fun args => disk_Disk_Tamper.L disk_Disk_Tamper args.toList), (21, fun args => disk_Disk_Image.L disk_Disk_Image args.toList), (20, fun args => disk_Disk_Waiting.L disk_Disk_Waiting args.toList), (26, fun args => disk_Disk_Dead.L disk_Disk_Dead args.toList), (14, fun args => law09_wakes.L law09_wakes args.toList), (24, fun args => disk_Disk_Size.L disk_Disk_Size args.toList)]
theorem law09_DiskDead.geq (disk_New' : Int → H → (Option Addr → H → Prop) → Prop) (disk_Disk_Write' : Option Addr → Int → ByteArray → H → (Int → H → Prop) → Prop) (disk_Disk_Fail' : Option Addr → H → (H → Prop) → Prop) (disk_Disk_Read' : Option Addr → Int → H → (ByteArray → Int → H → Prop) → Prop) (disk_Disk_Crash' : Option Addr → Option Addr → Nat → Nat → H → (H → Prop) → Prop) (disk_Disk_Restore' : Option Addr → Option Addr → Nat → Nat → H → (H → Prop) → Prop) (law09_bytes' : Int → Int → ByteArray → Int → Option Addr → Nat → Nat → Bool → H → (ByteArray → H → Prop) → Prop) (disk_Disk_Flush' : Option Addr → H → (Int → H → Prop) → Prop) (disk_Disk_Tamper' : Option Addr → Int → ByteArray → H → (Bool → H → Prop) → Prop) (disk_Disk_Image' : Option Addr → H → (Option Addr → Nat → Nat → H → Prop) → Prop) (disk_Disk_Waiting' : Option Addr → H → (Int → H → Prop) → Prop) (disk_Disk_Dead' : Option Addr → H → (Bool → H → Prop) → Prop) (law09_wakes' : H → (Bool → H → Prop) → Prop) (disk_Disk_Size' : Option Addr → H → (Int → H → Prop) → Prop) (x_a_0 : Int) (x_a_1 : Int) (x_a_2 : ByteArray) (x_a_3 : Int) (x_a_4 : Option Addr) (x_a_4L : Nat) (x_a_4C : Nat) (x_a_5 : Bool) (Q : Value → H → Prop) (h : H) : evF Try.prog (envOf [(13, fun args => disk_New.L disk_New' args.toList), (15, fun args => disk_Disk_Write.L disk_Disk_Write' args.toList), (29, fun args => disk_Disk_Fail.L disk_Disk_Fail' args.toList), (19, fun args => disk_Disk_Read.L disk_Disk_Read' args.toList), (18, fun args => disk_Disk_Crash.L disk_Disk_Crash' args.toList), (28, fun args => disk_Disk_Restore.L disk_Disk_Restore' args.toList), (17, fun args => law09_bytes.L law09_bytes' args.toList), (16, fun args => disk_Disk_Flush.L disk_Disk_Flush' args.toList), (30, fun args => disk_Disk_Tamper.L disk_Disk_Tamper' args.toList), (21, fun args => disk_Disk_Image.L disk_Disk_Image' args.toList), (20, fun args => disk_Disk_Waiting.L disk_Disk_Waiting' args.toList), (26, fun args => disk_Disk_Dead.L disk_Disk_Dead' args.toList), (14, fun args => law09_wakes.L law09_wakes' args.toList), (24, fun args => disk_Disk_Size.L disk_Disk_Size' args.toList)]) Try.f7 law09_DiskDead.ann [(.agg (#[(.int .i64 x_a_0), (.int .i64 x_a_1), (.string x_a_2), (.int .i64 x_a_3), (.slice x_a_4 x_a_4L x_a_4C), (.bool x_a_5)] : Array Value))] Q h = law09_DiskDead.g disk_New' disk_Disk_Write' disk_Disk_Fail' disk_Disk_Read' disk_Disk_Crash' disk_Disk_Restore' law09_bytes' disk_Disk_Flush' disk_Disk_Tamper' disk_Disk_Image' disk_Disk_Waiting' disk_Disk_Dead' law09_wakes' disk_Disk_Size' x_a_0 x_a_1 x_a_2 x_a_3 x_a_4 x_a_4L x_a_4C x_a_5 h fun b87 h88 => Q (.bool b87) h88 := by kernel_rfl
theorem law09_DiskDead.eq (x_a_0 : Int) (x_a_1 : Int) (x_a_2 : ByteArray) (x_a_3 : Int) (x_a_4 : Option Addr) (x_a_4L : Nat) (x_a_4C : Nat) (x_a_5 : Bool) (Q : Value → H → Prop) (h : H) : evF Try.prog law09_DiskDead.env Try.f7 law09_DiskDead.ann [(.agg (#[(.int .i64 x_a_0), (.int .i64 x_a_1), (.string x_a_2), (.int .i64 x_a_3), (.slice x_a_4 x_a_4L x_a_4C), (.bool x_a_5)] : Array Value))] Q h = law09_DiskDead x_a_0 x_a_1 x_a_2 x_a_3 x_a_4 x_a_4L x_a_4C x_a_5 h fun b87 h88 => Q (.bool b87) h88 := law09_DiskDead.geq disk_New disk_Disk_Write disk_Disk_Fail disk_Disk_Read disk_Disk_Crash disk_Disk_Restore law09_bytes disk_Disk_Flush disk_Disk_Tamper disk_Disk_Image disk_Disk_Waiting disk_Disk_Dead law09_wakes disk_Disk_Size x_a_0 x_a_1 x_a_2 x_a_3 x_a_4 x_a_4L x_a_4C x_a_5 Q h
theorem law09_DiskDead.W_eq (x_a_0 : Int) (x_a_1 : Int) (x_a_2 : ByteArray) (x_a_3 : Int) (x_a_4 : Option Addr) (x_a_4L : Nat) (x_a_4C : Nat) (x_a_5 : Bool) (Q : Value → H → Prop) (h : H) : law09_DiskDead.W #[(.agg (#[(.int .i64 x_a_0), (.int .i64 x_a_1), (.string x_a_2), (.int .i64 x_a_3), (.slice x_a_4 x_a_4L x_a_4C), (.bool x_a_5)] : Array Value))] Q h = law09_DiskDead x_a_0 x_a_1 x_a_2 x_a_3 x_a_4 x_a_4L x_a_4C x_a_5 h fun b87 h88 => Q (.bool b87) h88 := by kernel_rfl
theorem law09_DiskDead.good : FnGood Try.prog 7 law09_DiskDead.W := by
  refine FnGood.of (ann := law09_DiskDead.ann) (env := law09_DiskDead.env) mixed (EnvGood.cons disk_New.good (EnvGood.cons disk_Disk_Write.good (EnvGood.cons disk_Disk_Fail.good (EnvGood.cons disk_Disk_Read.good (EnvGood.cons disk_Disk_Crash.good (EnvGood.cons disk_Disk_Restore.good (EnvGood.cons law09_bytes.good (EnvGood.cons disk_Disk_Flush.good (EnvGood.cons disk_Disk_Tamper.good (EnvGood.cons disk_Disk_Image.good (EnvGood.cons disk_Disk_Waiting.good (EnvGood.cons disk_Disk_Dead.good (EnvGood.cons law09_wakes.good (EnvGood.cons disk_Disk_Size.good EnvGood.nil)))))))))))))) Try.func7 Try.call7 fun args => ?_
  show law09_DiskDead.L law09_DiskDead args.toList = _ ∨ ∀ Q m, evF Try.prog law09_DiskDead.env Try.f7 law09_DiskDead.ann args.toList Q m = law09_DiskDead.L law09_DiskDead args.toList Q m
  generalize args.toList = l
  unfold law09_DiskDead.L
  split
  · exact .inr fun Q m => law09_DiskDead.eq _ _ _ _ _ _ _ _ Q m
  · exact .inl rfl

def law10_BankSteps.g (bank_New' : Int → Int → H → (Option Addr → H → Prop) → Prop) (bank_Bank_Steps' : Option Addr → H → (Int → H → Prop) → Prop) (bank_Bank_Write' : Option Addr → Int → Int → ByteArray → H → (Int → H → Prop) → Prop) (bank_Bank_Flush' : Option Addr → Int → H → (Int → H → Prop) → Prop) (bank_Bank_Spend' : Option Addr → H → (Int → H → Prop) → Prop) (bank_Bank_Read' : Option Addr → Int → Int → H → (ByteArray → Int → H → Prop) → Prop) (law10_lists' : Int → Int → Int → ByteArray → Option Addr → Nat → Nat → Bool → H → (Option Addr → Nat → Nat → H → Prop) → Prop) (bank_Bank_Crash' : Option Addr → Option Addr → Nat → Nat → H → (H → Prop) → Prop) (bank_Bank_Disk' : Option Addr → Int → H → (Option Addr → H → Prop) → Prop) (disk_Disk_Flush' : Option Addr → H → (Int → H → Prop) → Prop) (disk_Disk_Tamper' : Option Addr → Int → ByteArray → H → (Bool → H → Prop) → Prop) (law10_wakes' : H → (Bool → H → Prop) → Prop) (x_script : Option Addr) (x_scriptL : Nat) (x_scriptC : Nat) (h : H) (Q : Bool → H → Prop) : Prop :=
bank_New' (3 : Int) (8 : Int) h fun p2 h3 =>
M.sub x_script x_scriptC 6 0 (mn ((x_scriptL : Nat) : Int) (60 : Int)) fun a4 l5 c6 =>
M.loop (α := Int) (fun J7 d8 h9 =>
(bif (decide (d8 < ((l5 : Nat) : Int))) then
M.idx a4 l5 d8 fun a10 j11 =>
M.load h9 ((Addr.add a10 (j11 * 6)).add 0) fun v12 =>
M.int .i64 v12 fun n13 =>
M.load h9 ((Addr.add a10 (j11 * 6)).add 1) fun v14 =>
M.int .i64 v14 fun n15 =>
M.load h9 ((Addr.add a10 (j11 * 6)).add 2) fun v16 =>
M.int .i64 v16 fun n17 =>
M.load h9 ((Addr.add a10 (j11 * 6)).add 3) fun v18 =>
M.str v18 fun s19 =>
M.load h9 ((Addr.add a10 (j11 * 6)).add 4) fun v20 =>
M.slc v20 fun a21 l22 c23 =>
M.load h9 ((Addr.add a10 (j11 * 6)).add 5) fun v24 =>
M.bool v24 fun b25 =>
M.new h9 (.cells (#[(.int .i64 (0 : Int)), (.int .i64 (0 : Int)), (.int .i64 (0 : Int)), (.string (ByteArray.empty)), (.slice none 0 0), (.bool false)] : Array Value) 65) fun b26 h27 =>
M.req (Array.size (#[(.int .i64 n13), (.int .i64 n15), (.int .i64 n17), (.string s19), (.slice a21 l22 c23), (.bool b25)] : Array Value) = 6) (M.puts h27 (⟨b26, 0, none⟩ : Addr) [(.int .i64 n13), (.int .i64 n15), (.int .i64 n17), (.string s19), (.slice a21 l22 c23), (.bool b25)] fun h28 =>
M.join (α := Int × Bool) (fun d36 h37 =>
M.load h37 (Addr.add (⟨b26, 0, none⟩ : Addr) 3) fun v38 =>
M.str v38 fun s39 =>
M.load h37 (Addr.add (⟨b26, 0, none⟩ : Addr) 3) fun v40 =>
M.str v40 fun s41 =>
M.ssub s39 0 (mn (ByteArray.size s41 : Int) (100 : Int)) fun s42 =>
M.put h37 (Addr.add (⟨b26, 0, none⟩ : Addr) 3) (.string s42) fun h43 =>
M.join (α := Bool) (fun d107 h108 =>
M.join (α := Bool) (fun d115 h116 =>
(bif d115 then
Q false h116
else
M.val (IntKind.wrap .i64 (d8 + (1 : Int))) fun z117 =>
J7 z117 h116)) fun J109 =>
bank_Bank_Steps' p2 h108 fun n110 h111 =>
M.val (IntKind.wrap .i64 (d36.1 + (1 : Int))) fun z112 =>
(bif (!(d107 == (n110 == z112))) then
J109 true h111
else
(bif (!d107) then
bank_Bank_Steps' p2 h111 fun n113 h114 =>
J109 (n113 != d36.1) h114
else
J109 false h111))) fun J44 =>
M.load h43 (Addr.add (⟨b26, 0, none⟩ : Addr) 0) fun v45 =>
M.int .i64 v45 fun n46 =>
M.val (bAnd .i64 n46 (7 : Int)) fun z47 =>
M.join (α := Bool) (fun d49 h50 =>
(bif d49 then
M.load h50 (Addr.add (⟨b26, 0, none⟩ : Addr) 1) fun v51 =>
M.int .i64 v51 fun n52 =>
M.load h50 (Addr.add (⟨b26, 0, none⟩ : Addr) 2) fun v53 =>
M.int .i64 v53 fun n54 =>
M.load h50 (Addr.add (⟨b26, 0, none⟩ : Addr) 3) fun v55 =>
M.str v55 fun s56 =>
bank_Bank_Write' p2 n52 n54 s56 h50 fun n57 h58 =>
J44 d36.2 h58
else
(bif (z47 == (2 : Int)) then
M.load h50 (Addr.add (⟨b26, 0, none⟩ : Addr) 1) fun v59 =>
M.int .i64 v59 fun n60 =>
bank_Bank_Flush' p2 n60 h50 fun n61 h62 =>
J44 d36.2 h62
else
(bif (z47 == (3 : Int)) then
bank_Bank_Spend' p2 h50 fun n63 h64 =>
J44 true h64
else
(bif (z47 == (4 : Int)) then
M.load h50 (Addr.add (⟨b26, 0, none⟩ : Addr) 1) fun v65 =>
M.int .i64 v65 fun n66 =>
M.load h50 (Addr.add (⟨b26, 0, none⟩ : Addr) 2) fun v67 =>
M.int .i64 v67 fun n68 =>
bank_Bank_Read' p2 n66 n68 h50 fun s69 n70 h71 =>
J44 false h71
else
(bif (z47 == (5 : Int)) then
M.load h50 ((⟨b26, 0, none⟩ : Addr).add 0) fun v72 =>
M.int .i64 v72 fun n73 =>
M.load h50 ((⟨b26, 0, none⟩ : Addr).add 1) fun v74 =>
M.int .i64 v74 fun n75 =>
M.load h50 ((⟨b26, 0, none⟩ : Addr).add 2) fun v76 =>
M.int .i64 v76 fun n77 =>
M.load h50 ((⟨b26, 0, none⟩ : Addr).add 3) fun v78 =>
M.str v78 fun s79 =>
M.load h50 ((⟨b26, 0, none⟩ : Addr).add 4) fun v80 =>
M.slc v80 fun a81 l82 c83 =>
M.load h50 ((⟨b26, 0, none⟩ : Addr).add 5) fun v84 =>
M.bool v84 fun b85 =>
law10_lists' n73 n75 n77 s79 a81 l82 c83 b85 h50 fun a86 l87 c88 h89 =>
bank_Bank_Crash' p2 a86 l87 c88 h89 fun h90 =>
J44 false h90
else
(bif (z47 == (6 : Int)) then
M.load h50 (Addr.add (⟨b26, 0, none⟩ : Addr) 1) fun v91 =>
M.int .i64 v91 fun n92 =>
bank_Bank_Disk' p2 n92 h50 fun p93 h94 =>
disk_Disk_Flush' p93 h94 fun n95 h96 =>
J44 false h96
else
M.load h50 (Addr.add (⟨b26, 0, none⟩ : Addr) 1) fun v97 =>
M.int .i64 v97 fun n98 =>
M.load h50 (Addr.add (⟨b26, 0, none⟩ : Addr) 2) fun v99 =>
M.int .i64 v99 fun n100 =>
M.load h50 (Addr.add (⟨b26, 0, none⟩ : Addr) 3) fun v101 =>
M.str v101 fun s102 =>
bank_Bank_Disk' p2 n98 h50 fun p103 h104 =>
M.still h50 (Addr.add (⟨b26, 0, none⟩ : Addr) 3) 1 h104 (
M.still h50 (Addr.add (⟨b26, 0, none⟩ : Addr) 2) 1 h104 (
disk_Disk_Tamper' p103 n100 s102 h104 fun b105 h106 =>
J44 false h106))))))))) fun J48 =>
(bif (z47 == (0 : Int)) then
J48 (z47 == (0 : Int)) h43
else
J48 (z47 == (1 : Int)) h43)) fun J29 =>
M.load h28 (Addr.add (⟨b26, 0, none⟩ : Addr) 1) fun v30 =>
M.int .i64 v30 fun n31 =>
bank_Bank_Steps' p2 h28 fun n32 h33 =>
M.still h28 (Addr.add (⟨b26, 0, none⟩ : Addr) 1) 1 h33 (
(bif (decide (n31 ≥ (0 : Int))) then
M.load h33 (Addr.add (⟨b26, 0, none⟩ : Addr) 1) fun v34 =>
M.int .i64 v34 fun n35 =>
J29 (n32, (decide (n35 < (3 : Int)))) h33
else
J29 (n32, false) h33)))
else
law10_wakes'  h9 fun b118 h119 =>
Q b118 h119)) (0 : Int) h3
def law10_BankSteps (x_script : Option Addr) (x_scriptL : Nat) (x_scriptC : Nat) (h : H) (Q : Bool → H → Prop) : Prop := law10_BankSteps.g bank_New bank_Bank_Steps bank_Bank_Write bank_Bank_Flush bank_Bank_Spend bank_Bank_Read law10_lists bank_Bank_Crash bank_Bank_Disk disk_Disk_Flush disk_Disk_Tamper law10_wakes x_script x_scriptL x_scriptC h Q
def law10_BankSteps.L (F : Option Addr → Nat → Nat → H → (Bool → H → Prop) → Prop) : List Value → (Value → H → Prop) → H → Prop
  | [.slice x_script x_scriptL x_scriptC] => fun Q h => F x_script x_scriptL x_scriptC h fun b120 h121 => Q (.bool b120) h121
  | _ => fun _ _ => False
def law10_BankSteps.W : W := fun args => law10_BankSteps.L law10_BankSteps args.toList
def law10_BankSteps.ann : Ann := ⟨lookN [(5, [(6, .int .i64), (7, .bool)]), (28, [(109, .bool)])], lookN [(29903, [(8, .bool)]), (239226, [(51, .bool)])], lookN [(58, [(16, .int .i64)])]⟩
def law10_BankSteps.env : Env := envOf [(31, fun args => bank_New.L bank_New args.toList), (37, fun args => bank_Bank_Steps.L bank_Bank_Steps args.toList), (35, fun args => bank_Bank_Write.L bank_Bank_Write args.toList), (34, fun args => bank_Bank_Flush.L bank_Bank_Flush args.toList), (33, fun args => bank_Bank_Spend.L bank_Bank_Spend args.toList), (36, fun args => bank_Bank_Read.L bank_Bank_Read args.toList), (44, fun args => law10_lists.L law10_lists args.toList), (38, fun args => bank_Bank_Crash.L bank_Bank_Crash args.toList), (41, fun args => bank_Bank_Disk.L bank_Bank_Disk args.toList), (16, fun args => disk_Disk_Flush.L disk_Disk_Flush args.toList), (30, fun args => disk_Disk_Tamper.L disk_Disk_Tamper args.toList), (39, fun args => law10_wakes.L law10_wakes args.toList)]
theorem law10_BankSteps.geq (bank_New' : Int → Int → H → (Option Addr → H → Prop) → Prop) (bank_Bank_Steps' : Option Addr → H → (Int → H → Prop) → Prop) (bank_Bank_Write' : Option Addr → Int → Int → ByteArray → H → (Int → H → Prop) → Prop) (bank_Bank_Flush' : Option Addr → Int → H → (Int → H → Prop) → Prop) (bank_Bank_Spend' : Option Addr → H → (Int → H → Prop) → Prop) (bank_Bank_Read' : Option Addr → Int → Int → H → (ByteArray → Int → H → Prop) → Prop) (law10_lists' : Int → Int → Int → ByteArray → Option Addr → Nat → Nat → Bool → H → (Option Addr → Nat → Nat → H → Prop) → Prop) (bank_Bank_Crash' : Option Addr → Option Addr → Nat → Nat → H → (H → Prop) → Prop) (bank_Bank_Disk' : Option Addr → Int → H → (Option Addr → H → Prop) → Prop) (disk_Disk_Flush' : Option Addr → H → (Int → H → Prop) → Prop) (disk_Disk_Tamper' : Option Addr → Int → ByteArray → H → (Bool → H → Prop) → Prop) (law10_wakes' : H → (Bool → H → Prop) → Prop) (x_script : Option Addr) (x_scriptL : Nat) (x_scriptC : Nat) (Q : Value → H → Prop) (h : H) : evF Try.prog (envOf [(31, fun args => bank_New.L bank_New' args.toList), (37, fun args => bank_Bank_Steps.L bank_Bank_Steps' args.toList), (35, fun args => bank_Bank_Write.L bank_Bank_Write' args.toList), (34, fun args => bank_Bank_Flush.L bank_Bank_Flush' args.toList), (33, fun args => bank_Bank_Spend.L bank_Bank_Spend' args.toList), (36, fun args => bank_Bank_Read.L bank_Bank_Read' args.toList), (44, fun args => law10_lists.L law10_lists' args.toList), (38, fun args => bank_Bank_Crash.L bank_Bank_Crash' args.toList), (41, fun args => bank_Bank_Disk.L bank_Bank_Disk' args.toList), (16, fun args => disk_Disk_Flush.L disk_Disk_Flush' args.toList), (30, fun args => disk_Disk_Tamper.L disk_Disk_Tamper' args.toList), (39, fun args => law10_wakes.L law10_wakes' args.toList)]) Try.f12 law10_BankSteps.ann [(.slice x_script x_scriptL x_scriptC)] Q h = law10_BankSteps.g bank_New' bank_Bank_Steps' bank_Bank_Write' bank_Bank_Flush' bank_Bank_Spend' bank_Bank_Read' law10_lists' bank_Bank_Crash' bank_Bank_Disk' disk_Disk_Flush' disk_Disk_Tamper' law10_wakes' x_script x_scriptL x_scriptC h fun b120 h121 => Q (.bool b120) h121 := by kernel_rfl
theorem law10_BankSteps.eq (x_script : Option Addr) (x_scriptL : Nat) (x_scriptC : Nat) (Q : Value → H → Prop) (h : H) : evF Try.prog law10_BankSteps.env Try.f12 law10_BankSteps.ann [(.slice x_script x_scriptL x_scriptC)] Q h = law10_BankSteps x_script x_scriptL x_scriptC h fun b120 h121 => Q (.bool b120) h121 := law10_BankSteps.geq bank_New bank_Bank_Steps bank_Bank_Write bank_Bank_Flush bank_Bank_Spend bank_Bank_Read law10_lists bank_Bank_Crash bank_Bank_Disk disk_Disk_Flush disk_Disk_Tamper law10_wakes x_script x_scriptL x_scriptC Q h
theorem law10_BankSteps.W_eq (x_script : Option Addr) (x_scriptL : Nat) (x_scriptC : Nat) (Q : Value → H → Prop) (h : H) : law10_BankSteps.W #[(.slice x_script x_scriptL x_scriptC)] Q h = law10_BankSteps x_script x_scriptL x_scriptC h fun b120 h121 => Q (.bool b120) h121 := by kernel_rfl
theorem law10_BankSteps.good : FnGood Try.prog 12 law10_BankSteps.W := by
  refine FnGood.of (ann := law10_BankSteps.ann) (env := law10_BankSteps.env) mixed (EnvGood.cons bank_New.good (EnvGood.cons bank_Bank_Steps.good (EnvGood.cons bank_Bank_Write.good (EnvGood.cons bank_Bank_Flush.good (EnvGood.cons bank_Bank_Spend.good (EnvGood.cons bank_Bank_Read.good (EnvGood.cons law10_lists.good (EnvGood.cons bank_Bank_Crash.good (EnvGood.cons bank_Bank_Disk.good (EnvGood.cons disk_Disk_Flush.good (EnvGood.cons disk_Disk_Tamper.good (EnvGood.cons law10_wakes.good EnvGood.nil)))))))))))) Try.func12 Try.call12 fun args => ?_
  show law10_BankSteps.L law10_BankSteps args.toList = _ ∨ ∀ Q m, evF Try.prog law10_BankSteps.env Try.f12 law10_BankSteps.ann args.toList Q m = law10_BankSteps.L law10_BankSteps args.toList Q m
  generalize args.toList = l
  unfold law10_BankSteps.L
  split
  · exact .inr fun Q m => law10_BankSteps.eq _ _ _ Q m
  · exact .inl rfl

def law09_act.g (disk_Disk_Read' : Option Addr → Int → H → (ByteArray → Int → H → Prop) → Prop) (ref09_Read' : Option Addr → Int → H → (ByteArray → Int → H → Prop) → Prop) (disk_Disk_Flush' : Option Addr → H → (Int → H → Prop) → Prop) (ref09_Flush' : Option Addr → H → (Int → H → Prop) → Prop) (disk_Disk_Crash' : Option Addr → Option Addr → Nat → Nat → H → (H → Prop) → Prop) (ref09_Crash' : Option Addr → Option Addr → Nat → Nat → H → (H → Prop) → Prop) (law09_bytes' : Int → Int → ByteArray → Int → Option Addr → Nat → Nat → Bool → H → (ByteArray → H → Prop) → Prop) (disk_Disk_Tamper' : Option Addr → Int → ByteArray → H → (Bool → H → Prop) → Prop) (ref09_Tamper' : Option Addr → Int → ByteArray → H → (Bool → H → Prop) → Prop) (disk_Disk_Image' : Option Addr → H → (Option Addr → Nat → Nat → H → Prop) → Prop) (ref09_Image' : Option Addr → H → (Option Addr → Nat → Nat → H → Prop) → Prop) (law09_equal' : Option Addr → Nat → Nat → Option Addr → Nat → Nat → H → (Bool → H → Prop) → Prop) (disk_Disk_Restore' : Option Addr → Option Addr → Nat → Nat → H → (H → Prop) → Prop) (ref09_Restore' : Option Addr → Option Addr → Nat → Nat → H → (H → Prop) → Prop) (disk_Disk_Fail' : Option Addr → H → (H → Prop) → Prop) (ref09_Fail' : Option Addr → H → (H → Prop) → Prop) (disk_Disk_Dead' : Option Addr → H → (Bool → H → Prop) → Prop) (disk_Disk_Write' : Option Addr → Int → ByteArray → H → (Int → H → Prop) → Prop) (ref09_Put' : Option Addr → Int → ByteArray → H → (Int → H → Prop) → Prop) (x_d : Option Addr) (x_r : Option Addr) (x_image : Option Addr) (x_a_0 : Int) (x_a_1 : Int) (x_a_2 : ByteArray) (x_a_3 : Int) (x_a_4 : Option Addr) (x_a_4L : Nat) (x_a_4C : Nat) (x_a_5 : Bool) (h : H) (Q : Bool → H → Prop) : Prop :=
M.new h (.cells (#[(.int .i64 x_a_0), (.int .i64 x_a_1), (.string x_a_2), (.int .i64 x_a_3), (.slice x_a_4 x_a_4L x_a_4C), (.bool x_a_5)] : Array Value) 34) fun b2 h3 =>
M.load h3 (Addr.add (⟨b2, 0, none⟩ : Addr) 4) fun v4 =>
M.slc v4 fun a5 l6 c7 =>
M.load h3 (Addr.add (⟨b2, 0, none⟩ : Addr) 4) fun v8 =>
M.slc v8 fun a9 l10 c11 =>
M.sub a5 c7 1 0 (mn ((l10 : Nat) : Int) (100 : Int)) fun a12 l13 c14 =>
M.put h3 (Addr.add (⟨b2, 0, none⟩ : Addr) 4) (.slice a12 l13 c14) fun h15 =>
M.load h15 (Addr.add (⟨b2, 0, none⟩ : Addr) 0) fun v16 =>
M.int .i64 v16 fun n17 =>
M.nz (8 : Int) (
M.val (Int.tmod n17 (8 : Int)) fun z18 =>
M.join (α := Bool) (fun d20 h21 =>
(bif d20 then
M.load h21 (Addr.add (⟨b2, 0, none⟩ : Addr) 1) fun v22 =>
M.int .i64 v22 fun n23 =>
disk_Disk_Read' x_d n23 h21 fun s24 n25 h26 =>
M.load h26 (Addr.add (⟨b2, 0, none⟩ : Addr) 1) fun v27 =>
M.int .i64 v27 fun n28 =>
ref09_Read' x_r n28 h26 fun s29 n30 h31 =>
M.join (α := Bool) (fun d33 h34 =>
Q d33 h34) fun J32 =>
(bif (strEq s24 s29) then
J32 (n25 == n30) h31
else
J32 false h31)
else
M.join (α := Bool) (fun d36 h37 =>
(bif d36 then
disk_Disk_Flush' x_d h37 fun n38 h39 =>
ref09_Flush' x_r h39 fun n40 h41 =>
Q (n38 == n40) h41
else
M.join (α := Bool) (fun d43 h44 =>
(bif d43 then
M.load h44 (Addr.add (⟨b2, 0, none⟩ : Addr) 4) fun v45 =>
M.slc v45 fun a46 l47 c48 =>
disk_Disk_Crash' x_d a46 l47 c48 h44 fun h49 =>
M.load h49 (Addr.add (⟨b2, 0, none⟩ : Addr) 4) fun v50 =>
M.slc v50 fun a51 l52 c53 =>
ref09_Crash' x_r a51 l52 c53 h49 fun h54 =>
Q true h54
else
M.join (α := Bool) (fun d56 h57 =>
(bif d56 then
M.load h57 (Addr.add (⟨b2, 0, none⟩ : Addr) 1) fun v58 =>
M.int .i64 v58 fun n59 =>
M.load h57 ((⟨b2, 0, none⟩ : Addr).add 0) fun v60 =>
M.int .i64 v60 fun n61 =>
M.load h57 ((⟨b2, 0, none⟩ : Addr).add 1) fun v62 =>
M.int .i64 v62 fun n63 =>
M.load h57 ((⟨b2, 0, none⟩ : Addr).add 2) fun v64 =>
M.str v64 fun s65 =>
M.load h57 ((⟨b2, 0, none⟩ : Addr).add 3) fun v66 =>
M.int .i64 v66 fun n67 =>
M.load h57 ((⟨b2, 0, none⟩ : Addr).add 4) fun v68 =>
M.slc v68 fun a69 l70 c71 =>
M.load h57 ((⟨b2, 0, none⟩ : Addr).add 5) fun v72 =>
M.bool v72 fun b73 =>
M.load h57 (Addr.add (⟨b2, 0, none⟩ : Addr) 1) fun v74 =>
M.int .i64 v74 fun n75 =>
M.load h57 ((⟨b2, 0, none⟩ : Addr).add 0) fun v76 =>
M.int .i64 v76 fun n77 =>
M.load h57 ((⟨b2, 0, none⟩ : Addr).add 1) fun v78 =>
M.int .i64 v78 fun n79 =>
M.load h57 ((⟨b2, 0, none⟩ : Addr).add 2) fun v80 =>
M.str v80 fun s81 =>
M.load h57 ((⟨b2, 0, none⟩ : Addr).add 3) fun v82 =>
M.int .i64 v82 fun n83 =>
M.load h57 ((⟨b2, 0, none⟩ : Addr).add 4) fun v84 =>
M.slc v84 fun a85 l86 c87 =>
M.load h57 ((⟨b2, 0, none⟩ : Addr).add 5) fun v88 =>
M.bool v88 fun b89 =>
law09_bytes' n61 n63 s65 n67 a69 l70 c71 b73 h57 fun s90 h91 =>
M.still h57 (⟨b2, 0, none⟩ : Addr) 6 h91 (
M.still h57 (Addr.add (⟨b2, 0, none⟩ : Addr) 1) 1 h91 (
M.still h57 (Addr.add (⟨b2, 0, none⟩ : Addr) 1) 1 h91 (
disk_Disk_Tamper' x_d n59 s90 h91 fun b92 h93 =>
M.still h57 (⟨b2, 0, none⟩ : Addr) 6 h93 (
M.still h57 (Addr.add (⟨b2, 0, none⟩ : Addr) 1) 1 h93 (
law09_bytes' n77 n79 s81 n83 a85 l86 c87 b89 h93 fun s94 h95 =>
M.still h57 (Addr.add (⟨b2, 0, none⟩ : Addr) 1) 1 h95 (
ref09_Tamper' x_r n75 s94 h95 fun b96 h97 =>
Q (b92 == b96) h97))))))
else
M.join (α := Bool) (fun d99 h100 =>
(bif d99 then
M.load h100 (Addr.add (⟨b2, 0, none⟩ : Addr) 1) fun v101 =>
M.int .i64 v101 fun n102 =>
M.val (bAnd .i64 n102 (1 : Int)) fun z103 =>
(bif (z103 == (0 : Int)) then
disk_Disk_Image' x_d h100 fun a104 l105 c106 h107 =>
M.nn x_image fun a108 =>
M.put h107 a108 (.slice a104 l105 c106) fun h109 =>
M.nn x_image fun a110 =>
M.load h109 a110 fun v111 =>
M.slc v111 fun a112 l113 c114 =>
ref09_Image' x_r h109 fun a115 l116 c117 h118 =>
M.still h109 a110 1 h118 (
law09_equal' a112 l113 c114 a115 l116 c117 h118 fun b119 h120 =>
Q b119 h120)
else
M.nn x_image fun a121 =>
M.load h100 a121 fun v122 =>
M.slc v122 fun a123 l124 c125 =>
disk_Disk_Restore' x_d a123 l124 c125 h100 fun h126 =>
M.nn x_image fun a127 =>
M.load h126 a127 fun v128 =>
M.slc v128 fun a129 l130 c131 =>
ref09_Restore' x_r a129 l130 c131 h126 fun h132 =>
Q true h132)
else
M.join (α := Bool) (fun d134 h135 =>
(bif d134 then
M.join (α := Unit) (fun d141 h142 =>
M.nn x_r fun a143 =>
M.load h142 (Addr.add a143 2) fun v144 =>
M.bool v144 fun b145 =>
disk_Disk_Dead' x_d h142 fun b146 h147 =>
M.still h142 (Addr.add a143 2) 1 h147 (
Q (b146 == b145) h147)) fun J136 =>
M.load h135 (Addr.add (⟨b2, 0, none⟩ : Addr) 5) fun v137 =>
M.bool v137 fun b138 =>
(bif b138 then
disk_Disk_Fail' x_d h135 fun h139 =>
ref09_Fail' x_r h139 fun h140 =>
J136 () h140
else
J136 () h135)
else
M.load h135 (Addr.add (⟨b2, 0, none⟩ : Addr) 1) fun v148 =>
M.int .i64 v148 fun n149 =>
M.load h135 ((⟨b2, 0, none⟩ : Addr).add 0) fun v150 =>
M.int .i64 v150 fun n151 =>
M.load h135 ((⟨b2, 0, none⟩ : Addr).add 1) fun v152 =>
M.int .i64 v152 fun n153 =>
M.load h135 ((⟨b2, 0, none⟩ : Addr).add 2) fun v154 =>
M.str v154 fun s155 =>
M.load h135 ((⟨b2, 0, none⟩ : Addr).add 3) fun v156 =>
M.int .i64 v156 fun n157 =>
M.load h135 ((⟨b2, 0, none⟩ : Addr).add 4) fun v158 =>
M.slc v158 fun a159 l160 c161 =>
M.load h135 ((⟨b2, 0, none⟩ : Addr).add 5) fun v162 =>
M.bool v162 fun b163 =>
M.load h135 (Addr.add (⟨b2, 0, none⟩ : Addr) 1) fun v164 =>
M.int .i64 v164 fun n165 =>
M.load h135 ((⟨b2, 0, none⟩ : Addr).add 0) fun v166 =>
M.int .i64 v166 fun n167 =>
M.load h135 ((⟨b2, 0, none⟩ : Addr).add 1) fun v168 =>
M.int .i64 v168 fun n169 =>
M.load h135 ((⟨b2, 0, none⟩ : Addr).add 2) fun v170 =>
M.str v170 fun s171 =>
M.load h135 ((⟨b2, 0, none⟩ : Addr).add 3) fun v172 =>
M.int .i64 v172 fun n173 =>
M.load h135 ((⟨b2, 0, none⟩ : Addr).add 4) fun v174 =>
M.slc v174 fun a175 l176 c177 =>
M.load h135 ((⟨b2, 0, none⟩ : Addr).add 5) fun v178 =>
M.bool v178 fun b179 =>
law09_bytes' n151 n153 s155 n157 a159 l160 c161 b163 h135 fun s180 h181 =>
M.still h135 (⟨b2, 0, none⟩ : Addr) 6 h181 (
M.still h135 (Addr.add (⟨b2, 0, none⟩ : Addr) 1) 1 h181 (
M.still h135 (Addr.add (⟨b2, 0, none⟩ : Addr) 1) 1 h181 (
disk_Disk_Write' x_d n149 s180 h181 fun n182 h183 =>
M.still h135 (⟨b2, 0, none⟩ : Addr) 6 h183 (
M.still h135 (Addr.add (⟨b2, 0, none⟩ : Addr) 1) 1 h183 (
law09_bytes' n167 n169 s171 n173 a175 l176 c177 b179 h183 fun s184 h185 =>
M.still h135 (Addr.add (⟨b2, 0, none⟩ : Addr) 1) 1 h185 (
ref09_Put' x_r n165 s184 h185 fun n186 h187 =>
Q (n182 == n186) h187)))))))) fun J133 =>
(bif (z18 == (7 : Int)) then
J133 (z18 == (7 : Int)) h100
else
J133 (z18 == (-7 : Int)) h100))) fun J98 =>
(bif (z18 == (6 : Int)) then
J98 (z18 == (6 : Int)) h57
else
J98 (z18 == (-6 : Int)) h57))) fun J55 =>
(bif (z18 == (5 : Int)) then
J55 (z18 == (5 : Int)) h44
else
J55 (z18 == (-5 : Int)) h44))) fun J42 =>
(bif (z18 == (4 : Int)) then
J42 (z18 == (4 : Int)) h37
else
J42 (z18 == (-4 : Int)) h37))) fun J35 =>
(bif (z18 == (3 : Int)) then
J35 (z18 == (3 : Int)) h21
else
J35 (z18 == (-3 : Int)) h21))) fun J19 =>
(bif (z18 == (2 : Int)) then
J19 (z18 == (2 : Int)) h15
else
J19 (z18 == (-2 : Int)) h15))
def law09_act (x_d : Option Addr) (x_r : Option Addr) (x_image : Option Addr) (x_a_0 : Int) (x_a_1 : Int) (x_a_2 : ByteArray) (x_a_3 : Int) (x_a_4 : Option Addr) (x_a_4L : Nat) (x_a_4C : Nat) (x_a_5 : Bool) (h : H) (Q : Bool → H → Prop) : Prop := law09_act.g disk_Disk_Read ref09_Read disk_Disk_Flush ref09_Flush disk_Disk_Crash ref09_Crash law09_bytes disk_Disk_Tamper ref09_Tamper disk_Disk_Image ref09_Image law09_equal disk_Disk_Restore ref09_Restore disk_Disk_Fail ref09_Fail disk_Disk_Dead disk_Disk_Write ref09_Put x_d x_r x_image x_a_0 x_a_1 x_a_2 x_a_3 x_a_4 x_a_4L x_a_4C x_a_5 h Q
def law09_act.L (F : Option Addr → Option Addr → Option Addr → Int → Int → ByteArray → Int → Option Addr → Nat → Nat → Bool → H → (Bool → H → Prop) → Prop) : List Value → (Value → H → Prop) → H → Prop
  | [.pointer x_d, .pointer x_r, .pointer x_image, .agg ⟨[.int .i64 x_a_0, .int .i64 x_a_1, .string x_a_2, .int .i64 x_a_3, .slice x_a_4 x_a_4L x_a_4C, .bool x_a_5]⟩] => fun Q h => F x_d x_r x_image x_a_0 x_a_1 x_a_2 x_a_3 x_a_4 x_a_4L x_a_4C x_a_5 h fun b188 h189 => Q (.bool b188) h189
  | _ => fun _ _ => False
def law09_act.W : W := fun args => law09_act.L law09_act args.toList
def law09_act.ann : Ann := ⟨lookN [(8, [(8, .bool)])], lookN [(58, [(37, .bool)]), (235, [(62, .bool)]), (943, [(70, .bool)]), (3775, [(81, .bool)]), (15103, [(97, .bool)]), (60415, [(124, .bool)]), (241662, [])], lookN []⟩
def law09_act.env : Env := envOf [(19, fun args => disk_Disk_Read.L disk_Disk_Read args.toList), (47, fun args => ref09_Read.L ref09_Read args.toList), (16, fun args => disk_Disk_Flush.L disk_Disk_Flush args.toList), (48, fun args => ref09_Flush.L ref09_Flush args.toList), (18, fun args => disk_Disk_Crash.L disk_Disk_Crash args.toList), (49, fun args => ref09_Crash.L ref09_Crash args.toList), (17, fun args => law09_bytes.L law09_bytes args.toList), (30, fun args => disk_Disk_Tamper.L disk_Disk_Tamper args.toList), (50, fun args => ref09_Tamper.L ref09_Tamper args.toList), (21, fun args => disk_Disk_Image.L disk_Disk_Image args.toList), (27, fun args => ref09_Image.L ref09_Image args.toList), (22, fun args => law09_equal.L law09_equal args.toList), (28, fun args => disk_Disk_Restore.L disk_Disk_Restore args.toList), (51, fun args => ref09_Restore.L ref09_Restore args.toList), (29, fun args => disk_Disk_Fail.L disk_Disk_Fail args.toList), (52, fun args => ref09_Fail.L ref09_Fail args.toList), (26, fun args => disk_Disk_Dead.L disk_Disk_Dead args.toList), (15, fun args => disk_Disk_Write.L disk_Disk_Write args.toList), (53, fun args => ref09_Put.L ref09_Put args.toList)]
theorem law09_act.geq (disk_Disk_Read' : Option Addr → Int → H → (ByteArray → Int → H → Prop) → Prop) (ref09_Read' : Option Addr → Int → H → (ByteArray → Int → H → Prop) → Prop) (disk_Disk_Flush' : Option Addr → H → (Int → H → Prop) → Prop) (ref09_Flush' : Option Addr → H → (Int → H → Prop) → Prop) (disk_Disk_Crash' : Option Addr → Option Addr → Nat → Nat → H → (H → Prop) → Prop) (ref09_Crash' : Option Addr → Option Addr → Nat → Nat → H → (H → Prop) → Prop) (law09_bytes' : Int → Int → ByteArray → Int → Option Addr → Nat → Nat → Bool → H → (ByteArray → H → Prop) → Prop) (disk_Disk_Tamper' : Option Addr → Int → ByteArray → H → (Bool → H → Prop) → Prop) (ref09_Tamper' : Option Addr → Int → ByteArray → H → (Bool → H → Prop) → Prop) (disk_Disk_Image' : Option Addr → H → (Option Addr → Nat → Nat → H → Prop) → Prop) (ref09_Image' : Option Addr → H → (Option Addr → Nat → Nat → H → Prop) → Prop) (law09_equal' : Option Addr → Nat → Nat → Option Addr → Nat → Nat → H → (Bool → H → Prop) → Prop) (disk_Disk_Restore' : Option Addr → Option Addr → Nat → Nat → H → (H → Prop) → Prop) (ref09_Restore' : Option Addr → Option Addr → Nat → Nat → H → (H → Prop) → Prop) (disk_Disk_Fail' : Option Addr → H → (H → Prop) → Prop) (ref09_Fail' : Option Addr → H → (H → Prop) → Prop) (disk_Disk_Dead' : Option Addr → H → (Bool → H → Prop) → Prop) (disk_Disk_Write' : Option Addr → Int → ByteArray → H → (Int → H → Prop) → Prop) (ref09_Put' : Option Addr → Int → ByteArray → H → (Int → H → Prop) → Prop) (x_d : Option Addr) (x_r : Option Addr) (x_image : Option Addr) (x_a_0 : Int) (x_a_1 : Int) (x_a_2 : ByteArray) (x_a_3 : Int) (x_a_4 : Option Addr) (x_a_4L : Nat) (x_a_4C : Nat) (x_a_5 : Bool) (Q : Value → H → Prop) (h : H) : evF Try.prog (envOf [(19, fun args => disk_Disk_Read.L disk_Disk_Read' args.toList), (47, fun args => ref09_Read.L ref09_Read' args.toList), (16, fun args => disk_Disk_Flush.L disk_Disk_Flush' args.toList), (48, fun args => ref09_Flush.L ref09_Flush' args.toList), (18, fun args => disk_Disk_Crash.L disk_Disk_Crash' args.toList), (49, fun args => ref09_Crash.L ref09_Crash' args.toList), (17, fun args => law09_bytes.L law09_bytes' args.toList), (30, fun args => disk_Disk_Tamper.L disk_Disk_Tamper' args.toList), (50, fun args => ref09_Tamper.L ref09_Tamper' args.toList), (21, fun args => disk_Disk_Image.L disk_Disk_Image' args.toList), (27, fun args => ref09_Image.L ref09_Image' args.toList), (22, fun args => law09_equal.L law09_equal' args.toList), (28, fun args => disk_Disk_Restore.L disk_Disk_Restore' args.toList), (51, fun args => ref09_Restore.L ref09_Restore' args.toList), (29, fun args => disk_Disk_Fail.L disk_Disk_Fail' args.toList), (52, fun args => ref09_Fail.L ref09_Fail' args.toList), (26, fun args => disk_Disk_Dead.L disk_Disk_Dead' args.toList), (15, fun args => disk_Disk_Write.L disk_Disk_Write' args.toList), (53, fun args => ref09_Put.L ref09_Put' args.toList)]) Try.f25 law09_act.ann [(.pointer x_d), (.pointer x_r), (.pointer x_image), (.agg (#[(.int .i64 x_a_0), (.int .i64 x_a_1), (.string x_a_2), (.int .i64 x_a_3), (.slice x_a_4 x_a_4L x_a_4C), (.bool x_a_5)] : Array Value))] Q h = law09_act.g disk_Disk_Read' ref09_Read' disk_Disk_Flush' ref09_Flush' disk_Disk_Crash' ref09_Crash' law09_bytes' disk_Disk_Tamper' ref09_Tamper' disk_Disk_Image' ref09_Image' law09_equal' disk_Disk_Restore' ref09_Restore' disk_Disk_Fail' ref09_Fail' disk_Disk_Dead' disk_Disk_Write' ref09_Put' x_d x_r x_image x_a_0 x_a_1 x_a_2 x_a_3 x_a_4 x_a_4L x_a_4C x_a_5 h fun b188 h189 => Q (.bool b188) h189 := by kernel_rfl
theorem law09_act.eq (x_d : Option Addr) (x_r : Option Addr) (x_image : Option Addr) (x_a_0 : Int) (x_a_1 : Int) (x_a_2 : ByteArray) (x_a_3 : Int) (x_a_4 : Option Addr) (x_a_4L : Nat) (x_a_4C : Nat) (x_a_5 : Bool) (Q : Value → H → Prop) (h : H) : evF Try.prog law09_act.env Try.f25 law09_act.ann [(.pointer x_d), (.pointer x_r), (.pointer x_image), (.agg (#[(.int .i64 x_a_0), (.int .i64 x_a_1), (.string x_a_2), (.int .i64 x_a_3), (.slice x_a_4 x_a_4L x_a_4C), (.bool x_a_5)] : Array Value))] Q h = law09_act x_d x_r x_image x_a_0 x_a_1 x_a_2 x_a_3 x_a_4 x_a_4L x_a_4C x_a_5 h fun b188 h189 => Q (.bool b188) h189 := law09_act.geq disk_Disk_Read ref09_Read disk_Disk_Flush ref09_Flush disk_Disk_Crash ref09_Crash law09_bytes disk_Disk_Tamper ref09_Tamper disk_Disk_Image ref09_Image law09_equal disk_Disk_Restore ref09_Restore disk_Disk_Fail ref09_Fail disk_Disk_Dead disk_Disk_Write ref09_Put x_d x_r x_image x_a_0 x_a_1 x_a_2 x_a_3 x_a_4 x_a_4L x_a_4C x_a_5 Q h
theorem law09_act.W_eq (x_d : Option Addr) (x_r : Option Addr) (x_image : Option Addr) (x_a_0 : Int) (x_a_1 : Int) (x_a_2 : ByteArray) (x_a_3 : Int) (x_a_4 : Option Addr) (x_a_4L : Nat) (x_a_4C : Nat) (x_a_5 : Bool) (Q : Value → H → Prop) (h : H) : law09_act.W #[(.pointer x_d), (.pointer x_r), (.pointer x_image), (.agg (#[(.int .i64 x_a_0), (.int .i64 x_a_1), (.string x_a_2), (.int .i64 x_a_3), (.slice x_a_4 x_a_4L x_a_4C), (.bool x_a_5)] : Array Value))] Q h = law09_act x_d x_r x_image x_a_0 x_a_1 x_a_2 x_a_3 x_a_4 x_a_4L x_a_4C x_a_5 h fun b188 h189 => Q (.bool b188) h189 := by kernel_rfl
theorem law09_act.good : FnGood Try.prog 25 law09_act.W := by
  refine FnGood.of (ann := law09_act.ann) (env := law09_act.env) mixed (EnvGood.cons disk_Disk_Read.good (EnvGood.cons ref09_Read.good (EnvGood.cons disk_Disk_Flush.good (EnvGood.cons ref09_Flush.good (EnvGood.cons disk_Disk_Crash.good (EnvGood.cons ref09_Crash.good (EnvGood.cons law09_bytes.good (EnvGood.cons disk_Disk_Tamper.good (EnvGood.cons ref09_Tamper.good (EnvGood.cons disk_Disk_Image.good (EnvGood.cons ref09_Image.good (EnvGood.cons law09_equal.good (EnvGood.cons disk_Disk_Restore.good (EnvGood.cons ref09_Restore.good (EnvGood.cons disk_Disk_Fail.good (EnvGood.cons ref09_Fail.good (EnvGood.cons disk_Disk_Dead.good (EnvGood.cons disk_Disk_Write.good (EnvGood.cons ref09_Put.good EnvGood.nil))))))))))))))))))) Try.func25 Try.call25 fun args => ?_
  show law09_act.L law09_act args.toList = _ ∨ ∀ Q m, evF Try.prog law09_act.env Try.f25 law09_act.ann args.toList Q m = law09_act.L law09_act args.toList Q m
  generalize args.toList = l
  unfold law09_act.L
  split
  · exact .inr fun Q m => law09_act.eq _ _ _ _ _ _ _ _ _ _ _ Q m
  · exact .inl rfl

def law09_DiskPlays.g (disk_New' : Int → H → (Option Addr → H → Prop) → Prop) (ref09_New' : Int → H → (Option Addr → H → Prop) → Prop) (law09_wakes' : H → (Bool → H → Prop) → Prop) (disk_Disk_Size' : Option Addr → H → (Int → H → Prop) → Prop) (law09_act' : Option Addr → Option Addr → Option Addr → Int → Int → ByteArray → Int → Option Addr → Nat → Nat → Bool → H → (Bool → H → Prop) → Prop) (disk_Disk_Waiting' : Option Addr → H → (Int → H → Prop) → Prop) (disk_Disk_Dead' : Option Addr → H → (Bool → H → Prop) → Prop) (disk_Disk_Image' : Option Addr → H → (Option Addr → Nat → Nat → H → Prop) → Prop) (ref09_Image' : Option Addr → H → (Option Addr → Nat → Nat → H → Prop) → Prop) (law09_equal' : Option Addr → Nat → Nat → Option Addr → Nat → Nat → H → (Bool → H → Prop) → Prop) (x_cells : Int) (x_script : Option Addr) (x_scriptL : Nat) (x_scriptC : Nat) (h : H) (Q : Bool → H → Prop) : Prop :=
disk_New' x_cells h fun p2 h3 =>
ref09_New' x_cells h3 fun p4 h5 =>
M.new h5 (.cells #[(.slice none 0 0)] 22) fun b6 h7 =>
M.join (α := Bool) (fun d18 h19 =>
(bif d18 then
Q false h19
else
M.join (α := Unit) (fun d78 h79 =>
disk_Disk_Image' p2 h79 fun a80 l81 c82 h83 =>
ref09_Image' p4 h83 fun a84 l85 c86 h87 =>
law09_equal' a80 l81 c82 a84 l85 c86 h87 fun b88 h89 =>
Q b88 h89) fun J20 =>
M.sub x_script x_scriptC 6 0 (mn ((x_scriptL : Nat) : Int) (60 : Int)) fun a21 l22 c23 =>
M.loop (α := Int) (fun J24 d25 h26 =>
(bif (decide (d25 < ((l22 : Nat) : Int))) then
M.idx a21 l22 d25 fun a27 j28 =>
M.load h26 ((Addr.add a27 (j28 * 6)).add 0) fun v29 =>
M.int .i64 v29 fun n30 =>
M.load h26 ((Addr.add a27 (j28 * 6)).add 1) fun v31 =>
M.int .i64 v31 fun n32 =>
M.load h26 ((Addr.add a27 (j28 * 6)).add 2) fun v33 =>
M.str v33 fun s34 =>
M.load h26 ((Addr.add a27 (j28 * 6)).add 3) fun v35 =>
M.int .i64 v35 fun n36 =>
M.load h26 ((Addr.add a27 (j28 * 6)).add 4) fun v37 =>
M.slc v37 fun a38 l39 c40 =>
M.load h26 ((Addr.add a27 (j28 * 6)).add 5) fun v41 =>
M.bool v41 fun b42 =>
M.new h26 (.cells (#[(.int .i64 (0 : Int)), (.int .i64 (0 : Int)), (.string (ByteArray.empty)), (.int .i64 (0 : Int)), (.slice none 0 0), (.bool false)] : Array Value) 34) fun b43 h44 =>
M.req (Array.size (#[(.int .i64 n30), (.int .i64 n32), (.string s34), (.int .i64 n36), (.slice a38 l39 c40), (.bool b42)] : Array Value) = 6) (M.puts h44 (⟨b43, 0, none⟩ : Addr) [(.int .i64 n30), (.int .i64 n32), (.string s34), (.int .i64 n36), (.slice a38 l39 c40), (.bool b42)] fun h45 =>
M.join (α := Bool) (fun d75 h76 =>
(bif d75 then
Q false h76
else
M.val (IntKind.wrap .i64 (d25 + (1 : Int))) fun z77 =>
J24 z77 h76)) fun J46 =>
M.load h45 ((⟨b43, 0, none⟩ : Addr).add 0) fun v47 =>
M.int .i64 v47 fun n48 =>
M.load h45 ((⟨b43, 0, none⟩ : Addr).add 1) fun v49 =>
M.int .i64 v49 fun n50 =>
M.load h45 ((⟨b43, 0, none⟩ : Addr).add 2) fun v51 =>
M.str v51 fun s52 =>
M.load h45 ((⟨b43, 0, none⟩ : Addr).add 3) fun v53 =>
M.int .i64 v53 fun n54 =>
M.load h45 ((⟨b43, 0, none⟩ : Addr).add 4) fun v55 =>
M.slc v55 fun a56 l57 c58 =>
M.load h45 ((⟨b43, 0, none⟩ : Addr).add 5) fun v59 =>
M.bool v59 fun b60 =>
law09_act' p2 p4 (some (⟨b6, 0, none⟩ : Addr)) n48 n50 s52 n54 a56 l57 c58 b60 h45 fun b61 h62 =>
(bif (!b61) then
J46 true h62
else
M.nn p4 fun a63 =>
M.load h62 (Addr.add a63 1) fun v64 =>
M.slc v64 fun a65 l66 c67 =>
disk_Disk_Waiting' p2 h62 fun n68 h69 =>
M.still h62 (Addr.add a63 1) 1 h69 (
(bif (n68 != ((l66 : Nat) : Int)) then
J46 true h69
else
M.nn p4 fun a70 =>
M.load h69 (Addr.add a70 2) fun v71 =>
M.bool v71 fun b72 =>
disk_Disk_Dead' p2 h69 fun b73 h74 =>
M.still h69 (Addr.add a70 2) 1 h74 (
J46 (!(b73 == b72)) h74)))))
else
J20 () h26)) (0 : Int) h19)) fun J8 =>
law09_wakes'  h7 fun b9 h10 =>
(bif (!b9) then
J8 true h10
else
M.nn p4 fun a11 =>
M.load h10 (Addr.add a11 0) fun v12 =>
M.slc v12 fun a13 l14 c15 =>
disk_Disk_Size' p2 h10 fun n16 h17 =>
M.still h10 (Addr.add a11 0) 1 h17 (
J8 (n16 != ((l14 : Nat) : Int)) h17))
def law09_DiskPlays (x_cells : Int) (x_script : Option Addr) (x_scriptL : Nat) (x_scriptC : Nat) (h : H) (Q : Bool → H → Prop) : Prop := law09_DiskPlays.g disk_New ref09_New law09_wakes disk_Disk_Size law09_act disk_Disk_Waiting disk_Disk_Dead disk_Disk_Image ref09_Image law09_equal x_cells x_script x_scriptL x_scriptC h Q
def law09_DiskPlays.L (F : Int → Option Addr → Nat → Nat → H → (Bool → H → Prop) → Prop) : List Value → (Value → H → Prop) → H → Prop
  | [.int .i64 x_cells, .slice x_script x_scriptL x_scriptC] => fun Q h => F x_cells x_script x_scriptL x_scriptC h fun b90 h91 => Q (.bool b90) h91
  | _ => fun _ _ => False
def law09_DiskPlays.W : W := fun args => law09_DiskPlays.L law09_DiskPlays args.toList
def law09_DiskPlays.ann : Ann := ⟨lookN [(3, [(25, .bool)]), (8, [(59, .bool)])], lookN [(31, [])], lookN [(250, [(32, .int .i64)])]⟩
def law09_DiskPlays.env : Env := envOf [(13, fun args => disk_New.L disk_New args.toList), (23, fun args => ref09_New.L ref09_New args.toList), (14, fun args => law09_wakes.L law09_wakes args.toList), (24, fun args => disk_Disk_Size.L disk_Disk_Size args.toList), (25, fun args => law09_act.L law09_act args.toList), (20, fun args => disk_Disk_Waiting.L disk_Disk_Waiting args.toList), (26, fun args => disk_Disk_Dead.L disk_Disk_Dead args.toList), (21, fun args => disk_Disk_Image.L disk_Disk_Image args.toList), (27, fun args => ref09_Image.L ref09_Image args.toList), (22, fun args => law09_equal.L law09_equal args.toList)]
theorem law09_DiskPlays.geq (disk_New' : Int → H → (Option Addr → H → Prop) → Prop) (ref09_New' : Int → H → (Option Addr → H → Prop) → Prop) (law09_wakes' : H → (Bool → H → Prop) → Prop) (disk_Disk_Size' : Option Addr → H → (Int → H → Prop) → Prop) (law09_act' : Option Addr → Option Addr → Option Addr → Int → Int → ByteArray → Int → Option Addr → Nat → Nat → Bool → H → (Bool → H → Prop) → Prop) (disk_Disk_Waiting' : Option Addr → H → (Int → H → Prop) → Prop) (disk_Disk_Dead' : Option Addr → H → (Bool → H → Prop) → Prop) (disk_Disk_Image' : Option Addr → H → (Option Addr → Nat → Nat → H → Prop) → Prop) (ref09_Image' : Option Addr → H → (Option Addr → Nat → Nat → H → Prop) → Prop) (law09_equal' : Option Addr → Nat → Nat → Option Addr → Nat → Nat → H → (Bool → H → Prop) → Prop) (x_cells : Int) (x_script : Option Addr) (x_scriptL : Nat) (x_scriptC : Nat) (Q : Value → H → Prop) (h : H) : evF Try.prog (envOf [(13, fun args => disk_New.L disk_New' args.toList), (23, fun args => ref09_New.L ref09_New' args.toList), (14, fun args => law09_wakes.L law09_wakes' args.toList), (24, fun args => disk_Disk_Size.L disk_Disk_Size' args.toList), (25, fun args => law09_act.L law09_act' args.toList), (20, fun args => disk_Disk_Waiting.L disk_Disk_Waiting' args.toList), (26, fun args => disk_Disk_Dead.L disk_Disk_Dead' args.toList), (21, fun args => disk_Disk_Image.L disk_Disk_Image' args.toList), (27, fun args => ref09_Image.L ref09_Image' args.toList), (22, fun args => law09_equal.L law09_equal' args.toList)]) Try.f5 law09_DiskPlays.ann [(.int .i64 x_cells), (.slice x_script x_scriptL x_scriptC)] Q h = law09_DiskPlays.g disk_New' ref09_New' law09_wakes' disk_Disk_Size' law09_act' disk_Disk_Waiting' disk_Disk_Dead' disk_Disk_Image' ref09_Image' law09_equal' x_cells x_script x_scriptL x_scriptC h fun b90 h91 => Q (.bool b90) h91 := by kernel_rfl
theorem law09_DiskPlays.eq (x_cells : Int) (x_script : Option Addr) (x_scriptL : Nat) (x_scriptC : Nat) (Q : Value → H → Prop) (h : H) : evF Try.prog law09_DiskPlays.env Try.f5 law09_DiskPlays.ann [(.int .i64 x_cells), (.slice x_script x_scriptL x_scriptC)] Q h = law09_DiskPlays x_cells x_script x_scriptL x_scriptC h fun b90 h91 => Q (.bool b90) h91 := law09_DiskPlays.geq disk_New ref09_New law09_wakes disk_Disk_Size law09_act disk_Disk_Waiting disk_Disk_Dead disk_Disk_Image ref09_Image law09_equal x_cells x_script x_scriptL x_scriptC Q h
theorem law09_DiskPlays.W_eq (x_cells : Int) (x_script : Option Addr) (x_scriptL : Nat) (x_scriptC : Nat) (Q : Value → H → Prop) (h : H) : law09_DiskPlays.W #[(.int .i64 x_cells), (.slice x_script x_scriptL x_scriptC)] Q h = law09_DiskPlays x_cells x_script x_scriptL x_scriptC h fun b90 h91 => Q (.bool b90) h91 := by kernel_rfl
theorem law09_DiskPlays.good : FnGood Try.prog 5 law09_DiskPlays.W := by
  refine FnGood.of (ann := law09_DiskPlays.ann) (env := law09_DiskPlays.env) mixed (EnvGood.cons disk_New.good (EnvGood.cons ref09_New.good (EnvGood.cons law09_wakes.good (EnvGood.cons disk_Disk_Size.good (EnvGood.cons law09_act.good (EnvGood.cons disk_Disk_Waiting.good (EnvGood.cons disk_Disk_Dead.good (EnvGood.cons disk_Disk_Image.good (EnvGood.cons ref09_Image.good (EnvGood.cons law09_equal.good EnvGood.nil)))))))))) Try.func5 Try.call5 fun args => ?_
  show law09_DiskPlays.L law09_DiskPlays args.toList = _ ∨ ∀ Q m, evF Try.prog law09_DiskPlays.env Try.f5 law09_DiskPlays.ann args.toList Q m = law09_DiskPlays.L law09_DiskPlays args.toList Q m
  generalize args.toList = l
  unfold law09_DiskPlays.L
  split
  · exact .inr fun Q m => law09_DiskPlays.eq _ _ _ _ Q m
  · exact .inl rfl

def law09_DiskRestores.g (disk_New' : Int → H → (Option Addr → H → Prop) → Prop) (ref09_New' : Int → H → (Option Addr → H → Prop) → Prop) (law09_act' : Option Addr → Option Addr → Option Addr → Int → Int → ByteArray → Int → Option Addr → Nat → Nat → Bool → H → (Bool → H → Prop) → Prop) (disk_Disk_Restore' : Option Addr → Option Addr → Nat → Nat → H → (H → Prop) → Prop) (law09_wakes' : H → (Bool → H → Prop) → Prop) (disk_Disk_Waiting' : Option Addr → H → (Int → H → Prop) → Prop) (disk_Disk_Crash' : Option Addr → Option Addr → Nat → Nat → H → (H → Prop) → Prop) (disk_Disk_Read' : Option Addr → Int → H → (ByteArray → Int → H → Prop) → Prop) (x_image : Option Addr) (x_imageL : Nat) (x_imageC : Nat) (x_script : Option Addr) (x_scriptL : Nat) (x_scriptC : Nat) (h : H) (Q : Bool → H → Prop) : Prop :=
M.sub x_image x_imageC 1 0 (mn ((x_imageL : Nat) : Int) (40 : Int)) fun a2 l3 c4 =>
disk_New' (30 : Int) h fun p5 h6 =>
ref09_New' (30 : Int) h6 fun p7 h8 =>
M.new h8 (.cells #[(.slice none 0 0)] 22) fun b9 h10 =>
M.join (α := Unit) (fun d64 h65 =>
disk_Disk_Restore' p5 a2 l3 c4 h65 fun h66 =>
M.join (α := Bool) (fun d72 h73 =>
(bif d72 then
Q false h73
else
disk_Disk_Crash' p5 none 0 0 h73 fun h74 =>
M.loop (α := Int) (fun J75 d76 h77 =>
(bif (decide (d76 < (30 : Int))) then
disk_Disk_Read' p5 d76 h77 fun s78 n79 h80 =>
M.join (α := ByteArray) (fun d93 h94 =>
M.join (α := Bool) (fun d96 h97 =>
(bif d96 then
Q false h97
else
M.val (IntKind.wrap .i64 (d76 + (1 : Int))) fun z98 =>
J75 z98 h97)) fun J95 =>
(bif (n79 != (0 : Int)) then
J95 true h94
else
J95 (!strEq s78 d93) h94)) fun J81 =>
M.join (α := Bool) (fun d87 h88 =>
(bif d87 then
M.idx a2 l3 d76 fun a89 j90 =>
M.load h88 (Addr.add a89 (j90 * 1)) fun v91 =>
M.str v91 fun s92 =>
J81 s92 h88
else
J81 (ByteArray.empty) h88)) fun J82 =>
(bif (decide (d76 < ((l3 : Nat) : Int))) then
M.idx a2 l3 d76 fun a83 j84 =>
M.load h80 (Addr.add a83 (j84 * 1)) fun v85 =>
M.str v85 fun s86 =>
J82 (decide ((ByteArray.size s86 : Int) ≤ (2048 : Int))) h80
else
J82 false h80)
else
Q true h77)) (0 : Int) h74)) fun J67 =>
law09_wakes'  h66 fun b68 h69 =>
(bif (!b68) then
J67 true h69
else
disk_Disk_Waiting' p5 h69 fun n70 h71 =>
J67 (n70 != (0 : Int)) h71)) fun J11 =>
M.sub x_script x_scriptC 6 0 (mn ((x_scriptL : Nat) : Int) (30 : Int)) fun a12 l13 c14 =>
M.loop (α := Int) (fun J15 d16 h17 =>
(bif (decide (d16 < ((l13 : Nat) : Int))) then
M.idx a12 l13 d16 fun a18 j19 =>
M.load h17 ((Addr.add a18 (j19 * 6)).add 0) fun v20 =>
M.int .i64 v20 fun n21 =>
M.load h17 ((Addr.add a18 (j19 * 6)).add 1) fun v22 =>
M.int .i64 v22 fun n23 =>
M.load h17 ((Addr.add a18 (j19 * 6)).add 2) fun v24 =>
M.str v24 fun s25 =>
M.load h17 ((Addr.add a18 (j19 * 6)).add 3) fun v26 =>
M.int .i64 v26 fun n27 =>
M.load h17 ((Addr.add a18 (j19 * 6)).add 4) fun v28 =>
M.slc v28 fun a29 l30 c31 =>
M.load h17 ((Addr.add a18 (j19 * 6)).add 5) fun v32 =>
M.bool v32 fun b33 =>
M.new h17 (.cells (#[(.int .i64 (0 : Int)), (.int .i64 (0 : Int)), (.string (ByteArray.empty)), (.int .i64 (0 : Int)), (.slice none 0 0), (.bool false)] : Array Value) 34) fun b34 h35 =>
M.req (Array.size (#[(.int .i64 n21), (.int .i64 n23), (.string s25), (.int .i64 n27), (.slice a29 l30 c31), (.bool b33)] : Array Value) = 6) (M.puts h35 (⟨b34, 0, none⟩ : Addr) [(.int .i64 n21), (.int .i64 n23), (.string s25), (.int .i64 n27), (.slice a29 l30 c31), (.bool b33)] fun h36 =>
M.join (α := Bool) (fun d44 h45 =>
(bif d44 then
M.load h45 ((⟨b34, 0, none⟩ : Addr).add 0) fun v46 =>
M.int .i64 v46 fun n47 =>
M.load h45 ((⟨b34, 0, none⟩ : Addr).add 1) fun v48 =>
M.int .i64 v48 fun n49 =>
M.load h45 ((⟨b34, 0, none⟩ : Addr).add 2) fun v50 =>
M.str v50 fun s51 =>
M.load h45 ((⟨b34, 0, none⟩ : Addr).add 3) fun v52 =>
M.int .i64 v52 fun n53 =>
M.load h45 ((⟨b34, 0, none⟩ : Addr).add 4) fun v54 =>
M.slc v54 fun a55 l56 c57 =>
M.load h45 ((⟨b34, 0, none⟩ : Addr).add 5) fun v58 =>
M.bool v58 fun b59 =>
law09_act' p5 p7 (some (⟨b9, 0, none⟩ : Addr)) n47 n49 s51 n53 a55 l56 c57 b59 h45 fun b60 h61 =>
M.val (IntKind.wrap .i64 (d16 + (1 : Int))) fun z62 =>
J15 z62 h61
else
M.val (IntKind.wrap .i64 (d16 + (1 : Int))) fun z63 =>
J15 z63 h45)) fun J37 =>
M.load h36 (Addr.add (⟨b34, 0, none⟩ : Addr) 0) fun v38 =>
M.int .i64 v38 fun n39 =>
M.nz (8 : Int) (
M.val (Int.tmod n39 (8 : Int)) fun z40 =>
(bif (z40 != (7 : Int)) then
M.load h36 (Addr.add (⟨b34, 0, none⟩ : Addr) 0) fun v41 =>
M.int .i64 v41 fun n42 =>
M.nz (8 : Int) (
M.val (Int.tmod n42 (8 : Int)) fun z43 =>
J37 (z43 != (-7 : Int)) h36)
else
J37 false h36)))
else
J11 () h17)) (0 : Int) h10
def law09_DiskRestores (x_image : Option Addr) (x_imageL : Nat) (x_imageC : Nat) (x_script : Option Addr) (x_scriptL : Nat) (x_scriptC : Nat) (h : H) (Q : Bool → H → Prop) : Prop := law09_DiskRestores.g disk_New ref09_New law09_act disk_Disk_Restore law09_wakes disk_Disk_Waiting disk_Disk_Crash disk_Disk_Read x_image x_imageL x_imageC x_script x_scriptL x_scriptC h Q
def law09_DiskRestores.L (F : Option Addr → Nat → Nat → Option Addr → Nat → Nat → H → (Bool → H → Prop) → Prop) : List Value → (Value → H → Prop) → H → Prop
  | [.slice x_image x_imageL x_imageC, .slice x_script x_scriptL x_scriptC] => fun Q h => F x_image x_imageL x_imageC x_script x_scriptL x_scriptC h fun b99 h100 => Q (.bool b99) h100
  | _ => fun _ _ => False
def law09_DiskRestores.W : W := fun args => law09_DiskRestores.L law09_DiskRestores args.toList
def law09_DiskRestores.ann : Ann := ⟨lookN [(7, [(40, .bool)]), (11, [(55, .bool)]), (19, [(78, .bool)]), (21, [(89, .bool)])], lookN [(31, []), (1047143, [(13, .str)])], lookN [(250, [(27, .int .i64)]), (4090, [(58, .int .i64)])]⟩
def law09_DiskRestores.env : Env := envOf [(13, fun args => disk_New.L disk_New args.toList), (23, fun args => ref09_New.L ref09_New args.toList), (25, fun args => law09_act.L law09_act args.toList), (28, fun args => disk_Disk_Restore.L disk_Disk_Restore args.toList), (14, fun args => law09_wakes.L law09_wakes args.toList), (20, fun args => disk_Disk_Waiting.L disk_Disk_Waiting args.toList), (18, fun args => disk_Disk_Crash.L disk_Disk_Crash args.toList), (19, fun args => disk_Disk_Read.L disk_Disk_Read args.toList)]
theorem law09_DiskRestores.geq (disk_New' : Int → H → (Option Addr → H → Prop) → Prop) (ref09_New' : Int → H → (Option Addr → H → Prop) → Prop) (law09_act' : Option Addr → Option Addr → Option Addr → Int → Int → ByteArray → Int → Option Addr → Nat → Nat → Bool → H → (Bool → H → Prop) → Prop) (disk_Disk_Restore' : Option Addr → Option Addr → Nat → Nat → H → (H → Prop) → Prop) (law09_wakes' : H → (Bool → H → Prop) → Prop) (disk_Disk_Waiting' : Option Addr → H → (Int → H → Prop) → Prop) (disk_Disk_Crash' : Option Addr → Option Addr → Nat → Nat → H → (H → Prop) → Prop) (disk_Disk_Read' : Option Addr → Int → H → (ByteArray → Int → H → Prop) → Prop) (x_image : Option Addr) (x_imageL : Nat) (x_imageC : Nat) (x_script : Option Addr) (x_scriptL : Nat) (x_scriptC : Nat) (Q : Value → H → Prop) (h : H) : evF Try.prog (envOf [(13, fun args => disk_New.L disk_New' args.toList), (23, fun args => ref09_New.L ref09_New' args.toList), (25, fun args => law09_act.L law09_act' args.toList), (28, fun args => disk_Disk_Restore.L disk_Disk_Restore' args.toList), (14, fun args => law09_wakes.L law09_wakes' args.toList), (20, fun args => disk_Disk_Waiting.L disk_Disk_Waiting' args.toList), (18, fun args => disk_Disk_Crash.L disk_Disk_Crash' args.toList), (19, fun args => disk_Disk_Read.L disk_Disk_Read' args.toList)]) Try.f6 law09_DiskRestores.ann [(.slice x_image x_imageL x_imageC), (.slice x_script x_scriptL x_scriptC)] Q h = law09_DiskRestores.g disk_New' ref09_New' law09_act' disk_Disk_Restore' law09_wakes' disk_Disk_Waiting' disk_Disk_Crash' disk_Disk_Read' x_image x_imageL x_imageC x_script x_scriptL x_scriptC h fun b99 h100 => Q (.bool b99) h100 := by kernel_rfl
theorem law09_DiskRestores.eq (x_image : Option Addr) (x_imageL : Nat) (x_imageC : Nat) (x_script : Option Addr) (x_scriptL : Nat) (x_scriptC : Nat) (Q : Value → H → Prop) (h : H) : evF Try.prog law09_DiskRestores.env Try.f6 law09_DiskRestores.ann [(.slice x_image x_imageL x_imageC), (.slice x_script x_scriptL x_scriptC)] Q h = law09_DiskRestores x_image x_imageL x_imageC x_script x_scriptL x_scriptC h fun b99 h100 => Q (.bool b99) h100 := law09_DiskRestores.geq disk_New ref09_New law09_act disk_Disk_Restore law09_wakes disk_Disk_Waiting disk_Disk_Crash disk_Disk_Read x_image x_imageL x_imageC x_script x_scriptL x_scriptC Q h
theorem law09_DiskRestores.W_eq (x_image : Option Addr) (x_imageL : Nat) (x_imageC : Nat) (x_script : Option Addr) (x_scriptL : Nat) (x_scriptC : Nat) (Q : Value → H → Prop) (h : H) : law09_DiskRestores.W #[(.slice x_image x_imageL x_imageC), (.slice x_script x_scriptL x_scriptC)] Q h = law09_DiskRestores x_image x_imageL x_imageC x_script x_scriptL x_scriptC h fun b99 h100 => Q (.bool b99) h100 := by kernel_rfl
theorem law09_DiskRestores.good : FnGood Try.prog 6 law09_DiskRestores.W := by
  refine FnGood.of (ann := law09_DiskRestores.ann) (env := law09_DiskRestores.env) mixed (EnvGood.cons disk_New.good (EnvGood.cons ref09_New.good (EnvGood.cons law09_act.good (EnvGood.cons disk_Disk_Restore.good (EnvGood.cons law09_wakes.good (EnvGood.cons disk_Disk_Waiting.good (EnvGood.cons disk_Disk_Crash.good (EnvGood.cons disk_Disk_Read.good EnvGood.nil)))))))) Try.func6 Try.call6 fun args => ?_
  show law09_DiskRestores.L law09_DiskRestores args.toList = _ ∨ ∀ Q m, evF Try.prog law09_DiskRestores.env Try.f6 law09_DiskRestores.ann args.toList Q m = law09_DiskRestores.L law09_DiskRestores args.toList Q m
  generalize args.toList = l
  unfold law09_DiskRestores.L
  split
  · exact .inr fun Q m => law09_DiskRestores.eq _ _ _ _ _ _ Q m
  · exact .inl rfl

end Go.Proofs.Ytkfokpkpobjoeaa

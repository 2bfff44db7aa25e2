/- The shallow form, 4: regions, joins, loops, code and functions. -/
import Derived.Test.YtkfokpkpobjoeaaShA2
namespace Go.Sh
open Go.RowKit

/-! ### Shapes carried over a join or a loop -/
abbrev Sh.den1 : Sh → Type
  | .int _ => Int
  | .bool => Bool
  | .str => ByteArray
  | .ptr => Option Addr
  | .adr => Addr
  | .slc => Option Addr × Nat × Nat
  | .map => Option Nat
  | .agg => Array Value
  | .agt _ => Value
  | .raw => Value
def Sh.inj1 : (s : Sh) → s.den1 → Value
  | .int k, n => .int k n
  | .bool, b => .bool b
  | .str, s => .string s
  | .ptr, p => .pointer p
  | .adr, a => .pointer (some a)
  | .slc, d => .slice d.1 d.2.1 d.2.2
  | .map, r => .map r
  | .agg, cs => .agg cs
  | .agt _, v => v
  | .raw, v => v
def Sh.prj1 : (s : Sh) → Value → Option s.den1
  | .int k, .int k' n => bif kEq k k' then some n else none
  | .bool, .bool b => some b
  | .str, .string s => some s
  | .ptr, .pointer p => some p
  | .adr, .pointer p => (match p with | some a => some a | none => none)
  | .slc, .slice a l c => some (a, l, c)
  | .map, .map r => some r
  | .agg, .agg cs => some cs
  | .agt _, v => some v
  | .raw, v => some v
  | _, _ => none
abbrev denS : List Sh → Type
  | [] => Unit
  | [x] => x.den1
  | x :: y :: r => x.den1 × denS (y :: r)
def injS : (l : List Sh) → denS l → List Value
  | [], _ => []
  | [x], d => [x.inj1 d]
  | x :: y :: r, d => x.inj1 d.1 :: injS (y :: r) d.2
def prjS : (l : List Sh) → List Value → Option (denS l)
  | [], [] => some ()
  | [x], [v] => x.prj1 v
  | x :: y :: r, v :: vs => (match x.prj1 v, prjS (y :: r) vs with | some d, some e => some (d, e) | _, _ => none)
  | _, _ => none
/-- A shape: of one cell, or of an aggregate whose cells are known. -/
abbrev Sh.den : Sh → Type
  | .agt l => denS l
  | .int _ => Int
  | .bool => Bool
  | .str => ByteArray
  | .ptr => Option Addr
  | .adr => Addr
  | .slc => Option Addr × Nat × Nat
  | .map => Option Nat
  | .agg => Array Value
  | .raw => Value
def Sh.inj : (s : Sh) → s.den → Value
  | .agt l, d => .agg (injS l d).toArray
  | .int k, n => .int k n
  | .bool, b => .bool b
  | .str, s => .string s
  | .ptr, p => .pointer p
  | .adr, a => .pointer (some a)
  | .slc, d => .slice d.1 d.2.1 d.2.2
  | .map, r => .map r
  | .agg, cs => .agg cs
  | .raw, v => v
def Sh.prj : (s : Sh) → Value → Option s.den
  | .agt l, .agg cs => prjS l cs.toList
  | .int k, .int k' n => bif kEq k k' then some n else none
  | .bool, .bool b => some b
  | .str, .string s => some s
  | .ptr, .pointer p => some p
  | .adr, .pointer p => (match p with | some a => some a | none => none)
  | .slc, .slice a l c => some (a, l, c)
  | .map, .map r => some r
  | .agg, .agg cs => some cs
  | .raw, v => some v
  | _, _ => none
abbrev denL : List (Nat × Sh) → Type
  | [] => Unit
  | [x] => x.2.den
  | x :: y :: r => x.2.den × denL (y :: r)
def setL (t : Tm) : (l : List (Nat × Sh)) → denL l → Tm
  | [], _ => t
  | [x], d => t.put (some x.1) (some (x.2.inj d))
  | x :: y :: r, d => setL (t.put (some x.1) (some (x.2.inj d.1))) (y :: r) d.2
def prjL (t : Tm) : (l : List (Nat × Sh)) → Option (denL l)
  | [] => some ()
  | [x] => match t x.1 with | some v => x.2.prj v | none => none
  | x :: y :: r => match t x.1 with
    | some v => (match x.2.prj v, prjL t (y :: r) with | some d, some e => some (d, e) | _, _ => none)
    | none => none
def memN (i : Nat) : List Nat → Bool
  | [] => false
  | j :: r => bif Nat.beq j i then true else memN i r
def Tm.mask (t : Tm) (ws : List Nat) : Tm := fun i => bif memN i ws then none else t i
def opDsts : List Oper → List Nat
  | [] => []
  | o :: r => match o.dst with | some d => d :: opDsts r | none => opDsts r
def writes : Code → List Nat
  | .region _ ops _ => opDsts ops.toList
  | .seq a b => writes a ++ writes b
  | .cond _ a b => writes a ++ writes b
  | .block _ b => writes b
  | .loop b => writes b
  | .scope b => writes b
  | .rangeFunc _ ps a b => ps.toList ++ writes a ++ writes b
  | _ => []
def subN : List (Nat × Sh) → List Nat → Bool
  | [], _ => true
  | x :: r, ws => bif memN x.1 ws then subN r ws else false

namespace M
def join {α : Type} (J : α → H → Prop) (B : (α → H → Prop) → Prop) : Prop := B J
def iter {α : Type} (step : (α → H → Prop) → α → H → Prop) : Nat → α → H → Prop
  | 0 => fun _ _ => False
  | n + 1 => step (iter step n)
def loop {α : Type} (step : (α → H → Prop) → α → H → Prop) (d : α) (h : H) : Prop := ∃ n, iter step n d h
/-- The cells that a load has read hold what they held. -/
def still (h : H) (a : Addr) (n : Nat) (h' : H) (K : Prop) : Prop := (∀ i, i < n → h'.cell (a.add i) = h.cell (a.add i)) ∧ K
end M
def evJoin (sl : List (Nat × Sh)) (ws : List Nat) (t : Tm) (KK : Tm → H → Prop) (B : (Tm → H → Prop) → Prop) : Prop :=
  bif subN sl ws then
    M.join (α := denL sl) (fun d h => KK (setL (t.mask ws) sl d) h) fun J => B fun t' h' => match prjL t' sl with | some d => J d h' | none => False
  else False

/-! ### Regions -/
inductive Go1 where
  | run | skip | ask (d : Nat) (b want : Bool) | bad
def guardOf (ops : Array Oper) (o : Oper) (t : Tm) : Go1 :=
  match o.guard with
  | none => .run
  | some (j, want) => match (ops.toList[j]?).bind (·.dst) with
    | some d => (match t d with | some (.bool b) => .ask d b want | some (.tuple _) => .skip | _ => .bad)
    | none => .skip
def bEq (a b : Bool) : Bool := bif a then b else !b
/-- Slots are below 'n'. -/
def evPut (n : Nat) (o : Oper) (t : Tm) (K : Tm → H → Prop) (v : Option Value) (h : H) : Prop :=
  match o.dst with
  | none => K t h
  | some d => bif Nat.blt d n then K (t.put (some d) v) h else False
def evOper (P : Program) (env : Env) (n : Nat) (ops : Array Oper) (o : Oper) (t : Tm) (K : Tm → H → Prop) (h : H) : Prop :=
  match guardOf ops o t with
  | .run => evVal P env o.op o.type t (evPut n o t K) h
  | .skip => evPut n o t K (some undef) h
  | .ask d b want =>
    bif b then
      (bif want then evVal P env o.op o.type (t.put (some d) (some (.bool true))) (evPut n o (t.put (some d) (some (.bool true))) K) h
       else evPut n o (t.put (some d) (some (.bool true))) K (some undef) h)
    else
      (bif want then evPut n o (t.put (some d) (some (.bool false))) K (some undef) h
       else evVal P env o.op o.type (t.put (some d) (some (.bool false))) (evPut n o (t.put (some d) (some (.bool false))) K) h)
  | .bad => False
def evList (P : Program) (env : Env) (n : Nat) (ops : Array Oper) : List Oper → Tm → (Tm → H → Prop) → H → Prop
  | [], t, K, h => K t h
  | o :: r, t, K, h => evOper P env n ops o t (fun t' h' => evList P env n ops r t' K h') h

/-- Operations that write nothing and make nothing. -/
def isFree (P : Program) : Op → Bool
  | .move _ | .assign _ | .pick .. | .nilCheck _ | .unOp .. | .fieldAddr .. | .field .. | .indexAddr .. | .index .. | .slice .. | .extract .. | .makeInterface .. | .makeFunc .. | .build .. | .load .. => true
  | .binOp op ty _ _ _ => !isAggEq P op ty
  | .call { callee := .builtin .len, argTypes, .. } => match argTypes.toList with | [ty] => (match P.underlying ty with | some (.map _ _) => false | _ => true) | _ => false
  | .call { callee := .builtin .min, .. } | .call { callee := .builtin .max, .. } => true
  | _ => false
/-- Of a region's operations, those that each waits for: as bits. -/
def bitsOf (acc : List Nat) : List Edge → Nat → Nat
  | [], s => s
  | e :: r, s => bitsOf acc r (bif Region.binds .any e then Nat.lor (Nat.lor s (Nat.shiftLeft 1 e.on)) (acc.getD e.on 0) else s)
def befs : List Oper → List Nat → List Nat
  | [], acc => acc
  | o :: r, acc => befs r (acc ++ [bitsOf acc o.after.toList 0])
structure Held where
  op : Nat
  mem : H
  addr : Addr
  cells : Nat
def heldOk (bs : List Nat) (j : Nat) (h' : H) (K : Prop) : List Held → Prop
  | [] => K
  | x :: r => bif Nat.testBit (bs.getD j 0) x.op then heldOk bs j h' K r else M.still x.mem x.addr x.cells h' (heldOk bs j h' K r)
def heldOf (P : Program) (i : Nat) (o : Oper) (t : Tm) (h : H) (L : List Held) : List Held :=
  match o.op with
  | .load ty x => (match t.get x with | some (.pointer (some a)) => ⟨i, h, a, P.cellsOf ty⟩ :: L | _ => L)
  | _ => L
def allP : List Prop → Prop
  | [] => True
  | [p] => p
  | p :: q :: r => p ∧ allP (q :: r)
def evAny (P : Program) (env : Env) (n : Nat) (ops : Array Oper) (bs : List Nat) : Nat → Array Bool → List Held → Tm → (Tm → H → Prop) → H → Prop
  | 0, listed, _, t, K, h => match Region.ready .any ops listed with | [] => K t h | _ => False
  | f + 1, listed, L, t, K, h =>
    match Region.ready .any ops listed with
    | [] => K t h
    | j :: js =>
      match (j :: js).find? fun i => (match ops.toList[i]? with | some o => isFree P o.op && Region.free .any ops listed i | none => false) with
      | some i => (match ops.toList[i]? with
        | some o => evOper P env n ops o t (fun t' h' => evAny P env n ops bs f (listed.setIfInBounds i true) (heldOf P i o t h L) t' K h') h
        | none => False)
      | none => allP ((j :: js).map fun i => match ops.toList[i]? with
        | some o => evOper P env n ops o t (fun t' h' => heldOk bs i h' (evAny P env n ops bs f (listed.setIfInBounds i true) L t' K h') L) h
        | none => False)
def evReg (P : Program) (env : Env) (n : Nat) (ops : Array Oper) (draw : Bool) (t : Tm) (K : Tm → H → Prop) (h : H) : Prop :=
  bif draw then (bif Region.noSelect ops then evAny P env n ops (befs ops.toList []) ops.size (Array.replicate ops.size false) [] t K h else False)
  else evList P env n ops ops.toList t K h

/-! ### Code -/
/-- What the texts' writer says of joins and loops: by a region's number, by the path to a node. -/
structure Ann where
  reg : Nat → Option (List (Nat × Sh))
  seq : Nat → Option (List (Nat × Sh))
  loop : Nat → Option (List (Nat × Sh))
def lookN {α : Type} : List (Nat × α) → Nat → Option α
  | [], _ => none
  | x :: r, i => bif Nat.beq x.1 i then some x.2 else lookN r i
def evC (P : Program) (env : Env) (n : Nat) (ann : Ann) : Code → Nat → (Exit → Tm → H → Prop) → Tm → H → Prop
  | .skip, _, K, t, h => K .normal t h
  | .label _, _, K, t, h => K .normal t h
  | .region id ops draw, _, K, t, h =>
    match ann.reg id with
    | none => evReg P env n ops draw t (fun t' h' => K .normal t' h') h
    | some sl => evJoin sl (opDsts ops.toList) t (fun t' h' => K .normal t' h') fun K' => evReg P env n ops draw t K' h
  | .seq a b, p, K, t, h =>
    match ann.seq p with
    | none => evC P env n ann a (2 * p) (fun e t' h' => match e with | .normal => evC P env n ann b (2 * p + 1) K t' h' | e => K e t' h') t h
    | some sl => evJoin sl (writes a) t (fun t' h' => evC P env n ann b (2 * p + 1) K t' h') fun K' =>
        evC P env n ann a (2 * p) (fun e t' h' => match e with | .normal => K' t' h' | e => K e t' h') t h
  | .cond c a b, p, K, t, h =>
    match t.get c with
    | some (.bool v) => bif v then evC P env n ann a (2 * p) K t h else evC P env n ann b (2 * p + 1) K t h
    | _ => False
  | .block id b, p, K, t, h =>
    evC P env n ann b (2 * p) (fun e t' h' => match e with | .exit i => (bif Nat.beq i id then K .normal t' h' else K (.exit i) t' h') | e => K e t' h') t h
  | .loop b, p, K, t, h =>
    match ann.loop p with
    | some sl =>
      bif subN sl (writes b) then
        match prjL t sl with
        | some d0 => M.loop (α := denL sl) (fun J d h => evC P env n ann b (2 * p) (fun e t' h' => match e with
            | .normal => (match prjL t' sl with | some d' => J d' h' | none => False)
            | e => K e t' h') (setL (t.mask (writes b)) sl d) h) d0 h
        | none => False
      else False
    | none => False
  | .scope b, p, K, t, h => evC P env n ann b (2 * p) (fun e t' h' => match e with | .goto _ => False | e => K e t' h') t h
  | .exit i, _, K, t, h => K (.exit i) t h
  | .ret, _, K, t, h => K .ret t h
  | _, _, _, _, _ => False

/-! ### A function -/
def evResults (P : Program) (t : Tm) (h : H) : List ResultVar → List Value → (List Value → Prop) → Prop
  | [], acc, K => K acc.reverse
  | .tmp i :: r, acc, K => match t i with | some v => evResults P t h r (v :: acc) K | none => False
  | .cell a ty :: r, acc, K => match t a with
    | some (.pointer (some p)) => evLoad P ty p (fun v => evResults P t h r (v :: acc) K) h
    | _ => False
def oneOf : List Value → Value
  | [v] => v
  | vs => .tuple vs.toArray
def evRet (P : Program) (fn : Func) (Q : Value → H → Prop) : Exit → Tm → H → Prop
  | .normal, t, h | .ret, t, h => evResults P t h fn.results.toList [] fun vs => Q (oneOf vs) h
  | _, _, _ => False
def tm0 (args : List Value) : Tm := fun i => args[i]?
def evF (P : Program) (env : Env) (fn : Func) (ann : Ann) (args : List Value) (Q : Value → H → Prop) (h : H) : Prop :=
  match fn.body with
  | some c => bif Nat.ble args.length fn.ntmps then evC P env fn.ntmps ann c 1 (evRet P fn Q) (tm0 args) h else False
  | none => False
def envOf : List (Nat × W) → Env
  | [] => fun _ _ _ _ => False
  | x :: r => fun f => bif Nat.beq x.1 f then x.2 else envOf r f

end Go.Sh

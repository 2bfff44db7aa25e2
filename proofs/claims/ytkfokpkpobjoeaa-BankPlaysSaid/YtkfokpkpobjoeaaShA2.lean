/- The shallow form, 3: what each operation of the model says of its value. -/
import Derived.Test.YtkfokpkpobjoeaaShA1
namespace Go.Sh
open Go.RowKit

abbrev W := Array Value → (Value → H → Prop) → H → Prop
abbrev Env := FuncId → W
abbrev Tm := Nat → Option Value
def Tm.put (t : Tm) (d : Option Nat) (v : Option Value) : Tm :=
  match d with
  | none => t
  | some d => fun i => bif Nat.beq i d then v else t i
def Tm.get (t : Tm) : Operand → Option Value
  | .tmp i => t i
  | .const v => some v
  | .global g => some (.pointer (some ⟨g, 0, none⟩))
  | .func f => some (.func (.func f) #[] #[])
def Tm.all (t : Tm) : List Operand → Option (List Value)
  | [] => some []
  | x :: r => match t.get x with | some v => (match Tm.all t r with | some l => some (v :: l) | none => none) | none => none
def Tm.val (t : Tm) (x : Operand) : Value := match t.get x with | some v => v | none => undef

def kEq (k k' : IntKind) : Bool := decide (k = k')
def bAnd (k : IntKind) (a b : Int) : Int := k.wrap ((BitVec.ofInt k.bits a &&& BitVec.ofInt k.bits b).toNat)
def bOr (k : IntKind) (a b : Int) : Int := k.wrap ((BitVec.ofInt k.bits a ||| BitVec.ofInt k.bits b).toNat)
def bXor (k : IntKind) (a b : Int) : Int := k.wrap ((BitVec.ofInt k.bits a ^^^ BitVec.ofInt k.bits b).toNat)
def bAndNot (k : IntKind) (a b : Int) : Int := k.wrap ((BitVec.ofInt k.bits a &&& ~~~(BitVec.ofInt k.bits b)).toNat)
def bNot (k : IntKind) (a : Int) : Int := bXor k (if k.signed then -1 else k.max) a
def shl (k : IntKind) (a b : Int) : Int := k.wrap (a * 2 ^ (min b.toNat k.bits))
def shr (k : IntKind) (a b : Int) : Int := a.fdiv (2 ^ (min b.toNat k.bits))
def strEq (x y : ByteArray) : Bool := x.toList == y.toList
def strLt (x y : ByteArray) : Bool := Op.bytesLess x.toList y.toList
def byteAt (s : ByteArray) (i : Nat) : Int := ((s.data.toList.getD i 0).toNat : Int)
def sliceAddr (a : Option Addr) (m l size : Nat) : Option Addr := if m = l then a else a.map (·.add (l * size))
def ofBytes (zs : List Int) : ByteArray := ⟨(zs.map fun z => UInt8.ofNat z.toNat).toArray⟩
def bytesOf (s : ByteArray) : List Value := s.data.toList.map fun b => .int .u8 b.toNat
def zerosOf (zero : List Value) (n : Nat) : List Value := List.flatten (List.replicate n zero)
def mn (x y : Int) : Int := if y < x then y else x
def mx (x y : Int) : Int := if y > x then y else x
def isNilI : Value → Bool | .nilIface => true | _ => false

namespace M
def shr0 (b : Int) (K : Prop) : Prop := 0 ≤ b ∧ K
def nz (b : Int) (K : Prop) : Prop := b ≠ 0 ∧ K
def cat (x y : ByteArray) (K : ByteArray → Prop) : Prop := ((x.size + y.size : Nat) : Int) ≤ IntKind.i64.max ∧ K (x ++ y)
def byte (s : ByteArray) (i : Int) (K : Int → Prop) : Prop := 0 ≤ i ∧ i < s.size ∧ K (byteAt s i.toNat)
def idx (a : Option Addr) (len : Nat) (i : Int) (K : Addr → Nat → Prop) : Prop := ∃ b, a = some b ∧ 0 ≤ i ∧ i < len ∧ K b i.toNat
def aidx (len : Nat) (i : Int) (K : Nat → Prop) : Prop := 0 ≤ i ∧ i < len ∧ K i.toNat
/-- The bounds of a slice expression: from 'l' to 'h', at most 'm'. -/
def bnd (lo : Int) (hi : Int) (m : Nat) (K : Nat → Nat → Prop) : Prop := 0 ≤ lo ∧ lo ≤ hi ∧ hi ≤ m ∧ K lo.toNat hi.toNat
def ssub (s : ByteArray) (lo hi : Int) (K : ByteArray → Prop) : Prop := bnd lo hi s.size fun l h => K (s.extract l h)
def sub (a : Option Addr) (cap : Nat) (size : Nat) (lo hi : Int) (K : Option Addr → Nat → Nat → Prop) : Prop :=
  bnd lo hi cap fun l h => K (sliceAddr a cap l size) (h - l) (cap - l)
def mk (h : H) (e : TypeId) (zero : List Value) (bytes : Nat) (l c : Int) (K : Option Addr → Nat → Nat → H → Prop) : Prop :=
  0 ≤ l ∧ l ≤ c ∧ (bytes : Int) * c ≤ 281474976710656 ∧ c ≤ 9223372036854775807 ∧
    ∀ b, h b = none → K (some ⟨b, 0, none⟩) l.toNat c.toNat (h.upd b (.cells (zerosOf zero c.toNat).toArray e))
def b2s (h : H) (a : Option Addr) (n : Nat) (K : ByteArray → Prop) : Prop :=
  (a = none → K .empty) ∧ ∀ b, a = some b → ∃ zs : List Int, zs.length = n ∧ rowAt h b (zs.map (Value.int .u8)) ∧ K (ofBytes zs)
def s2b (h : H) (e : TypeId) (s : ByteArray) (K : Option Addr → Nat → Nat → H → Prop) : Prop :=
  ∀ c, s.size ≤ c → ∀ b, h b = none → K (some ⟨b, 0, none⟩) s.size c (h.upd b (.cells (bytesOf s ++ List.replicate (c - s.size) (Value.int .u8 0)).toArray e (c, c + 1)))
/-- The cells of the first 'n' (cells) of a slice. -/
def cellsOf (h : H) (a : Option Addr) (n : Nat) (K : List Value → Prop) : Prop :=
  (a = none → K []) ∧ ∀ b, a = some b → row h b n K
def app (h : H) (e : TypeId) (size bytes : Nat) (zero : List Value) (base : Option Addr) (len cap n : Nat) (new : List Value) (K : Option Addr → Nat → Nat → H → Prop) : Prop :=
  (len + n ≤ cap → (base = none → K base (len + n) cap h) ∧ ∀ a, base = some a → puts h (a.add (len * size)) new fun h' => K base (len + n) cap h') ∧
  (cap < len + n → ((len + n : Nat) : Int) ≤ IntKind.i64.max ∧ Builtin.nextslicecap (len + n) cap * bytes ≤ 281474976710656 ∧
    cellsOf h base (len * size) fun old => ∀ c, len + n ≤ c → ∀ b, h b = none → K (some ⟨b, 0, none⟩) (len + n) c (h.upd b (.cells (old ++ new ++ zerosOf zero (c - (len + n))).toArray e)))
def copy (h : H) (dst : Option Addr) (new : List Value) (K : H → Prop) : Prop :=
  (dst = none → K h) ∧ ∀ a, dst = some a → puts h a new K
def mlen (h : H) (r : Option Nat) (K : Int → Prop) : Prop := (r = none → K 0) ∧ ∀ b, r = some b → ∃ es c, h b = some (.map es c) ∧ K es.size
end M

def evInt (op : BinOp) (k : IntKind) (a : Int) (k' : IntKind) (b : Int) (K : Value → Prop) : Prop :=
  match op with
  | .shl => M.shr0 b (M.val (shl k a b) fun z => K (.int k z))
  | .shr => M.shr0 b (M.val (shr k a b) fun z => K (.int k z))
  | op => bif kEq k k' then
      match op with
      | .add => M.val (k.wrap (a + b)) fun z => K (.int k z)
      | .sub => M.val (k.wrap (a - b)) fun z => K (.int k z)
      | .mul => M.val (k.wrap (a * b)) fun z => K (.int k z)
      | .quo => M.nz b (M.val (k.wrap (a.tdiv b)) fun z => K (.int k z))
      | .rem => M.nz b (M.val (a.tmod b) fun z => K (.int k z))
      | .and => M.val (bAnd k a b) fun z => K (.int k z)
      | .or => M.val (bOr k a b) fun z => K (.int k z)
      | .xor => M.val (bXor k a b) fun z => K (.int k z)
      | .andNot => M.val (bAndNot k a b) fun z => K (.int k z)
      | .eql => K (.bool (a == b))
      | .neq => K (.bool (a != b))
      | .lss => K (.bool (decide (a < b)))
      | .leq => K (.bool (decide (a ≤ b)))
      | .gtr => K (.bool (decide (a > b)))
      | .geq => K (.bool (decide (a ≥ b)))
      | _ => False
    else False
def evStr (op : BinOp) (x y : ByteArray) (K : Value → Prop) : Prop :=
  match op with
  | .add => M.cat x y fun s => K (.string s)
  | .eql => K (.bool (strEq x y))
  | .neq => K (.bool (!strEq x y))
  | .lss => K (.bool (strLt x y))
  | .leq => K (.bool (strLt x y || strEq x y))
  | .gtr => K (.bool (!(strLt x y || strEq x y)))
  | .geq => K (.bool (!strLt x y))
  | _ => False
/-- '==' where one side is the literal nil, or both are bools; of two pointers: into one block. -/
def evEq (d : Option TypeDesc) (y : Operand) (a b : Value) (K : Bool → Prop) : Prop :=
  match d with
  | some .bool => match a, b with | .bool p, .bool q => K (p == q) | _, _ => False
  | some (.pointer _) => match y with
    | .const (.pointer none) => (match a with | .pointer p => K p.isNone | _ => False)
    | _ => False
  | some (.slice _) => match y with | .const (.slice none _ _) => (match a with | .slice p _ _ => K p.isNone | _ => False) | _ => False
  | some (.map _ _) => match y with | .const (.map none) => (match a with | .map p => K p.isNone | _ => False) | _ => False
  | _ => False
def evBin (P : Program) (op : BinOp) (ty : TypeId) (y : Operand) (a b : Value) (K : Value → Prop) : Prop :=
  match P.underlying ty with
  | some (.int _) => match a, b with | .int k m, .int k' n => evInt op k m k' n K | _, _ => False
  | some .string => match a, b with | .string s, .string s' => evStr op s s' K | _, _ => False
  | d => match op with
    | .eql => evEq d y a b (fun c => K (.bool c))
    | .neq => evEq d y a b (fun c => K (.bool (!c)))
    | _ => False
def evConv (P : Program) (s d : TypeId) (x : Value) (K : Value → H → Prop) (h : H) : Prop :=
  match P.underlying d with
  | some (.int k) => (match P.underlying s, x with | some _, .int _ n => M.val (k.wrap n) fun z => K (.int k z) h | _, _ => False)
  | some .string => (match P.underlying s with
    | some .string => (match x with | .string _ => K x h | _ => False)
    | some (.slice e) => (match P.underlying e with
      | some (.int .u8) => (match x with | .slice a n _ => M.b2s h a n fun s => K (.string s) h | _ => False)
      | _ => False)
    | _ => False)
  | some (.slice e) => (match P.underlying s with
    | some .string => (match P.underlying e with
      | some (.int .u8) => (match x with | .string s => M.s2b h e s fun a n c h' => K (.slice a n c) h' | _ => False)
      | _ => False)
    | _ => False)
  | _ => False
def intOr (d : Int) : Option Value → Option Int
  | none => some d
  | some (.int _ n) => some n
  | _ => none
def evSlice (P : Program) (t : TypeId) (x : Value) (lo hi : Option Value) (K : Value → Prop) : Prop :=
  match P.underlying t with
  | some .string => (match x with
    | .string s => (match intOr 0 lo, intOr s.size hi with | some l, some u => M.ssub s l u fun r => K (.string r) | _, _ => False)
    | _ => False)
  | some (.slice e) => (match x, P.info? e with
    | .slice a n c, some i => (match intOr 0 lo, intOr n hi with | some l, some u => M.sub a c i.size l u fun a' n' c' => K (.slice a' n' c') | _, _ => False)
    | _, _ => False)
  | some (.array n e) => (match x, P.info? e with
    | .pointer (some a), some i => (match intOr 0 lo, intOr n hi with | some l, some u => M.sub (some a) n i.size l u fun a' n' c' => K (.slice a' n' c') | _, _ => False)
    | _, _ => False)
  | _ => False
def evIndexAddr (P : Program) (t : TypeId) (x i : Value) (K : Value → Prop) : Prop :=
  match i with
  | .int _ i =>
    match P.underlying t with
    | some (.slice e) => (match x, P.info? e with | .slice a n _, some d => M.idx a n i fun b j => K (.pointer (some (b.add (j * d.size)))) | _, _ => False)
    | some (.array n e) => (match x, P.info? e with | .pointer (some a), some d => M.aidx n i fun j => K (.pointer (some (a.add (j * d.size)))) | _, _ => False)
    | _ => False
  | _ => False
def evIndex (P : Program) (t : TypeId) (x i : Value) (K : Value → Prop) : Prop :=
  match i with
  | .int _ i =>
    match P.underlying t with
    | some .string => (match x with | .string s => M.byte s i fun z => K (.int .u8 z) | _ => False)
    | some (.array n e) => (match x with
      | .agg cs => M.aidx n i fun j => evPart P false e cs (j * P.cellsOf e) K
      | _ => False)
    | _ => False
  | _ => False
def evField (P : Program) (t : TypeId) (x : Value) (f : Nat) (K : Value → Prop) : Prop :=
  match P.underlying t with
  | some (.struct fs) => (match fs[f]?, x with
    | some fd, .agg cs => evPart P (Nat.ble (P.cellsOf t) smallAgg) fd.type cs fd.offset K
    | _, _ => False)
  | _ => False
def evFieldAddr (P : Program) (t : TypeId) (x : Value) (f : Nat) (K : Value → Prop) : Prop :=
  match P.underlying t with
  | some (.struct fs) => (match fs[f]? with
    | some fd => bif Nat.beq (P.cellsOf fd.type) 0 then False else (match x with | .pointer (some a) => K (.pointer (some (a.add fd.offset))) | _ => False)
    | none => False)
  | _ => False
def evLen (P : Program) (t : TypeId) (x : Value) (K : Value → H → Prop) (h : H) : Prop :=
  match P.underlying t with
  | some .string => (match x with | .string s => K (.int .i64 s.size) h | _ => False)
  | some (.slice _) => (match x with | .slice _ n _ => K (.int .i64 n) h | _ => False)
  | some (.array n _) => K (.int .i64 n) h
  | some (.pointer a) => (match P.underlying a with | some (.array n _) => K (.int .i64 n) h | _ => False)
  | some (.map _ _) => (match x with | .map r => M.mlen h r fun n => K (.int .i64 n) h | _ => False)
  | _ => False
def foldInt (f : Int → Int → Int) (k : IntKind) : List Value → Int → Option Int
  | [], x => some x
  | .int _ y :: r, x => foldInt f k r (f x y)
  | _ :: _, _ => none
def evMinMax (f : Int → Int → Int) (args : List Value) (K : Value → Prop) : Prop :=
  match args with
  | .int k x :: r => (match foldInt f k r x with | some z => K (.int k z) | none => False)
  | _ => False
def evAppend (P : Program) (ts : Array TypeId) (args : List Value) (K : Value → H → Prop) (h : H) : Prop :=
  match ts.toList, args with
  | [st, xt], [s, x] =>
    match P.underlying st, s with
    | some (.slice e), .slice base len cap =>
      match P.info? e with
      | some i =>
        match i.zero, P.underlying xt with
        | some z, some (.slice _) => (match x with
          | .slice xa n _ => M.cellsOf h xa (n * i.size) fun new => M.app h e i.size i.bytes z.cells.toList base len cap n new fun a l c h' => K (.slice a l c) h'
          | _ => False)
        | some z, some .string => (match x with
          | .string s => M.app h e i.size i.bytes z.cells.toList base len cap s.size (bytesOf s) fun a l c h' => K (.slice a l c) h'
          | _ => False)
        | _, _ => False
      | none => False
    | _, _ => False
  | _, _ => False
def evCopy (P : Program) (ts : Array TypeId) (args : List Value) (K : Value → H → Prop) (h : H) : Prop :=
  match ts.toList, args with
  | [dt, _], [.slice dst dl _, x] =>
    match P.underlying dt with
    | some (.slice e) =>
      match P.info? e with
      | some i => (match x with
        | .slice xa n _ => M.cellsOf h xa (min n dl * i.size) fun new => M.copy h dst new fun h' => K (.int .i64 (min n dl : Nat)) h'
        | .string s => M.copy h dst (bytesOf (s.extract 0 (min s.size dl))) fun h' => K (.int .i64 (min s.size dl : Nat)) h'
        | _ => False)
      | none => False
    | _ => False
  | _, _ => False
def evClear (P : Program) (ts : Array TypeId) (args : List Value) (K : Value → H → Prop) (h : H) : Prop :=
  match ts.toList, args with
  | [t], [.slice a n _] =>
    match P.underlying t with
    | some (.slice e) =>
      match P.info? e with
      | some i => (match i.zero with
        | some z => M.copy h a (zerosOf z.cells.toList n) fun h' => K (.tuple #[]) h'
        | none => False)
      | none => False
    | _ => False
  | _, _ => False
/-- A call of a function value: what it hands back, by its type. -/
def evCallee (env : Env) (f : Value) (args : List Value) (K : Value → H → Prop) (h : H) : Prop :=
  match f with
  | .func (.func g) first captured => env g (first.toList ++ args ++ captured.toList).toArray K h
  | _ => False
def evCallV (env : Env) (f : Value) (args : List Value) (K : Value → H → Prop) (h : H) : Prop :=
  evCallee env f args K h

/-- Where a key stands among a map's entries. -/
def KeyAt (P : Program) (kt : TypeId) (es : Array MapEntry) (k : Value) (r : Option (Nat × Value)) : Prop :=
  (∀ e w, (Instr.checkKey e 10000 kt k).run P w = .ok () w) ∧ ∀ w, (Instr.findKey kt k es.toList).run P w = .ok r w
def MapAt (h : H) (m : Value) (es : Array MapEntry) : Prop := (m = .map none ∧ es = #[]) ∨ ∃ b c, m = .map (some b) ∧ h b = some (.map es c)
def M.lk (P : Program) (ty : TypeId) (m k : Value) (h : H) (K : Value → H → Prop) : Prop :=
  ∃ kt et es r, P.underlying ty = some (.map kt et) ∧ MapAt h m es ∧ KeyAt P kt es k r ∧
    match r with | some (_, v) => K v h | none => ∃ z, (∀ w, (zeroValue et).run P w = .ok z w) ∧ K z h
def M.lk2 (P : Program) (ty : TypeId) (m k : Value) (h : H) (K : Value → Bool → H → Prop) : Prop :=
  ∃ kt et es r, P.underlying ty = some (.map kt et) ∧ MapAt h m es ∧ KeyAt P kt es k r ∧
    match r with | some (_, v) => K v true h | none => ∃ z, (∀ w, (zeroValue et).run P w = .ok z w) ∧ K z false h
def M.mput (P : Program) (ty : TypeId) (m k v : Value) (h : H) (K : H → Prop) : Prop :=
  ∃ kt et b es c r, P.underlying ty = some (.map kt et) ∧ m = .map (some b) ∧ h b = some (.map es c) ∧ KeyAt P kt es k r ∧
    match r with
    | some (i, _) => Instr.sameBits 10000 (((es[i]?).map (·.key)).getD k) k = true ∧ K (h.upd b (.map (es.modify i fun e => { e with key := k, val := v }) c))
    | none => K (h.upd b (.map (es.push { key := k, val := v, born := c }) (c + 1)))
def M.eqv (P : Program) (op : BinOp) (ty : TypeId) (x y : Operand) (a b : Value) (h : H) (K : Bool → H → Prop) : Prop :=
  ∃ c, (∀ w, (do eqGuard op ty x y a b; binOp op ty a b : Sem Value).run P w = .ok (.bool c) w) ∧ K c h
def evLookup (P : Program) (ty : TypeId) (m k : Value) (ok : Bool) (K : Value → H → Prop) (h : H) : Prop :=
  match P.underlying ty with
  | some (.map _ e) => (match lkOf (P.underlying e) with
    | .one s => bif ok then M.lk2 P ty m k h fun v b h' => typ s v fun v' => K (.tuple #[v', .bool b]) h' else M.lk P ty m k h fun v h' => typ s v fun v' => K v' h'
    | _ => False)
  | _ => False
/-- Equality that is not read off at once: of aggregates. -/
def isAggEq (P : Program) (op : BinOp) (ty : TypeId) : Bool :=
  match lkOf (P.underlying ty) with
  | .agg => (match op with | .eql | .neq => true | _ => false)
  | _ => false
/-- One operation: what it leaves in its slot, and the memory behind it. -/
def evVal (P : Program) (env : Env) (op : Op) (_rt : TypeId) (t : Tm) (K : Option Value → H → Prop) (h : H) : Prop :=
  match op with
  | .move x => match t.get x with | some v => K (some v) h | none => K none h
  | .assign x => match t.get x with | some v => K (some v) h | none => K none h
  | .pick c a b => match t.get c with
    | some (.bool p) => bif p then (match t.get a with | some v => K (some v) h | none => K none h) else (match t.get b with | some v => K (some v) h | none => K none h)
    | _ => False
  | .alloc e => match (P.info? e).bind (·.zero) with | some z => M.new h (.cells z.cells e) fun b h' => K (some (.pointer (some ⟨b, 0, none⟩))) h' | none => False
  | .box e x => match t.get x with | some v => M.new h (.cells v.cells e) fun b h' => K (some (.pointer (some ⟨b, 0, none⟩))) h' | none => False
  | .build ty ps => match t.all (ps.toList.map (·.2)) with
    | some _ => (match P.built ty (ps.toList.map fun p => (p.1, t.val p.2)) with | some cs => K (some (.agg cs)) h | none => False)
    | none => False
  | .buildSlice ty len ps => match t.all (ps.toList.map (·.2)), P.underlying ty with
    | some _, some (.slice e) => (match P.info? e with
      | some i => (match i.zero with
        | some z => (match Instr.fill (fun j => some (j * i.size, i.size)) (zerosOf z.cells.toList len).toArray (ps.toList.map fun p => (p.1, t.val p.2)) with
          | some cs => bif Nat.ble (len * i.size) 16777216 && Nat.beq z.cells.size i.size then M.new h (.cells cs e) fun b h' => K (some (.slice (some ⟨b, 0, none⟩) len len)) h' else False
          | none => False)
        | none => False)
      | none => False)
    | _, _ => False
  | .load ty x => match t.get x with | some (.pointer (some a)) => evLoad P ty a (fun v => K (some v) h) h | _ => False
  | .store ty x v => match t.get x, t.get v with | some (.pointer (some a)), some v => evStore P ty a v (fun h' => K (some undef) h') h | _, _ => False
  | .nilCheck x => match t.get x with | some (.pointer p) => M.nn p fun a => K (some (.pointer (some a))) h | _ => False
  | .binOp op ty x y _ => match t.get x, t.get y with
    | some a, some b => bif isAggEq P op ty then M.eqv P op ty x y a b h (fun c h' => K (some (.bool c)) h') else evBin P op ty y a b fun v => K (some v) h
    | _, _ => False
  | .lookup ty m k ok => match t.get m, t.get k with | some a, some b => evLookup P ty a b ok (fun v h' => K (some v) h') h | _, _ => False
  | .mapUpdate ty m k v => match t.get m, t.get k, t.get v with | some a, some b, some c => M.mput P ty a b c h fun h' => K (some undef) h' | _, _, _ => False
  | .insert ty m k v => match t.get m, t.get k, t.get v with | some a, some b, some c => M.mput P ty a b c h fun h' => K (some undef) h' | _, _, _ => False
  | .unOp op _ x => match op, t.get x with
    | .not, some (.bool b) => K (some (.bool (!b))) h
    | .neg, some (.int k n) => M.val (k.wrap (0 - n)) fun z => K (some (.int k z)) h
    | .xor, some (.int k n) => M.val (bNot k n) fun z => K (some (.int k z)) h
    | _, _ => False
  | .convert s d x => match t.get x with | some v => evConv P s d v (fun v h' => K (some v) h') h | none => False
  | .makeInterface ty x => match t.get x, P.underlying ty with | some _, some (.interface _) => False | some v, some _ => K (some (.iface ty v)) h | _, _ => False
  | .makeFunc fn first cap => match t.all first.toList, t.all cap.toList with | some a, some b => K (some (.func fn a.toArray b.toArray)) h | _, _ => False
  | .makeMap _ r => match r with
    | none => M.new h (.map #[] 0) fun b h' => K (some (.map (some b))) h'
    | some _ => False
  | .makeSlice ty l c => match P.underlying ty, t.get l, t.get c with
    | some (.slice e), some (.int _ l), some (.int _ c) => (match P.info? e with
      | some i => (match i.zero with | some z => bif Nat.beq z.cells.size i.size then M.mk h e z.cells.toList i.bytes l c fun a n m h' => K (some (.slice a n m)) h' else False | none => False)
      | none => False)
    | _, _, _ => False
  | .slice ty x lo hi none => match t.get x, t.all lo.toList, t.all hi.toList with
    | some v, some _, some _ => evSlice P ty v (lo.map t.val) (hi.map t.val) fun v => K (some v) h
    | _, _, _ => False
  | .fieldAddr s x f => match t.get x with | some v => evFieldAddr P s v f fun v => K (some v) h | none => False
  | .field s x f => match t.get x with | some v => evField P s v f fun v => K (some v) h | none => False
  | .indexAddr s x i => match t.get x, t.get i with | some v, some j => evIndexAddr P s v j fun v => K (some v) h | _, _ => False
  | .index s x i => match t.get x, t.get i with | some v, some j => evIndex P s v j fun v => K (some v) h | _, _ => False
  | .extract x i => match t.get x with | some (.tuple vs) => (match vs.toList[i]? with | some v => K (some v) h | none => False) | _ => False
  | .call c => match t.all c.args.toList with
    | some args => (match c.callee with
      | .builtin .len => (match c.argTypes.toList, args with | [ty], [x] => evLen P ty x (fun v h' => K (some v) h') h | _, _ => False)
      | .builtin .min => evMinMax mn args fun v => K (some v) h
      | .builtin .max => evMinMax mx args fun v => K (some v) h
      | .builtin .append => evAppend P c.argTypes args (fun v h' => K (some v) h') h
      | .builtin .copy => evCopy P c.argTypes args (fun v h' => K (some v) h') h
      | .builtin .clear => evClear P c.argTypes args (fun v h' => K (some v) h') h
      | .value (.func g) => env g args.toArray (fun v h' => K (some v) h') h
      | .value (.tmp i) => (match t i with | some f => evCallV env f args (fun v h' => K (some v) h') h | none => False)
      | _ => False)
    | none => False
  | _ => False

end Go.Sh

/- The operations that yield a value and leave the world alone. -/
import Derived.Test.YtenhfnadhmjloaaDoorAbsB
set_option linter.all false
namespace Go.Abs
open Go Go.RowKit

inductive AOp where
  | move (x : Operand)
  | pick (c a b : Operand)
  | nilCheck (x : Operand)
  | bin (op : BinOp) (x y : Operand)
  | eqB (neg : Bool) (x y : Operand)
  | eqN (neg : Bool) (kind : Nat) (x y : Operand)
  | un (op : UnOp) (x : Operand)
  | conv (k : IntKind) (x : Operand)
  | convS (x : Operand)
  | toStr (x : Operand)
  | slice (k : Nat) (x : Operand) (lo hi : Option Operand)
  | sliceS (x : Operand) (lo hi : Option Operand)
  | fieldAddr (off : Nat) (x : Operand)
  | field (off : Nat) (n : Option Nat) (x : Operand)
  | indexAddr (k : Nat) (x i : Operand)
  | indexAddrArr (len k : Nat) (x i : Operand)
  | indexS (x i : Operand)
  | indexArr (len k : Nat) (n : Option Nat) (x i : Operand)
  | load (n : Option Nat) (x : Operand)
  | extract (x : Operand) (i : Nat)
  | len (str : Bool) (x : Operand)
  | mkIface (t : TypeId) (x : Operand)
  | mkFunc (f : Fn) (first caps : List Operand)
  | build (zero : List AV) (parts : List (Nat × Nat × Operand))
  | minmax (mx : Bool) (x y : Operand)
  -- those that act
  | take (t : Tmp)
  | box (x : Operand)
  | alloc (zero : List AV)
  | store (n : Nat) (x y : Operand)
  | append (k bytes : Nat) (zero : List AV) (s x : Operand)
  | toBytes (x : Operand)
  | buildSlice (obj : Bool) (k : Nat) (zero : List AV) (len : Nat) (parts : List (Nat × Operand))
  | makeSlice (obj : Bool) (k bytes : Nat) (zero : List AV) (len cap : Operand)
  | call (f : Operand) (args : List (Operand × Bool))
  | panic (x : Operand)
  | conv8 (x : Operand)

def ofCell : Value → AV
  | .slice none 0 0 => .sl .full []
  | v => .lit v

def ofConst : Value → AV
  | .slice none 0 0 => .sl .full []
  | .agg cs => .agg (cs.toList.map ofCell)
  | v => .lit v

/-- What gc's representation of a type is: an aggregate, of how many cells. -/
def aggN (P : Program) (t : TypeId) : Option (Option Nat) :=
  match P.underlying t, P.info? t with
  | some (.struct _), some i | some (.array _ _), some i => some (some i.size)
  | some _, some _ => some none
  | _, _ => none

def isBool (P : Program) (t : TypeId) : Bool := match P.underlying t with | some .bool => true | _ => false
def isString (P : Program) (t : TypeId) : Bool := match P.underlying t with | some .string => true | _ => false
def nilKind (P : Program) (t : TypeId) (c : Bool) : Option Nat := match P.underlying t with
  | some (.pointer _) => some 0
  | some (.func _ _ _) => some 1
  | some (.interface _) => if c then some 2 else none
  | some (.map _ _) => some 3
  | _ => none
def isCon : Operand → Bool | .const _ => true | _ => false
def isIntT (P : Program) (t : TypeId) : Bool := match P.underlying t with | some (.int _) => true | _ => false

def placed (place : Nat → Option (Nat × Nat)) : List (Nat × Operand) → Option (List (Nat × Nat × Operand))
  | [] => some []
  | (i, x) :: rest => match place i, placed place rest with
    | some (off, n), some l => some ((off, n, x) :: l)
    | _, _ => none

def cop (P : Program) : Op → Option AOp
  | .move x | .assign x => some (.move x)
  | .pick c a b => some (.pick c a b)
  | .nilCheck x => some (.nilCheck x)
  | .binOp op t x y _ =>
    if isBool P t then (match op with | .eql => some (.eqB false x y) | .neq => some (.eqB true x y) | _ => none)
    else if isIntT P t || isString P t then some (.bin op x y)
    else match nilKind P t (isCon x || isCon y) with
      | some kind => (match op with | .eql => some (.eqN false kind x y) | .neq => some (.eqN true kind x y) | _ => none)
      | none => none
  | .unOp op _ x => some (.un op x)
  | .convert src dst x => match P.underlying src, P.underlying dst with
    | some (.int _), some (.int k) => some (.conv k x)
    | some .string, some .string => some (.convS x)
    | some (.slice e), some .string => (match P.underlying e with | some (.int .u8) => some (.toStr x) | _ => none)
    | some .string, some (.slice e) => (match P.underlying e with | some (.int .u8) => some (.toBytes x) | _ => none)
    | some (.slice _), some (.slice e) => (match P.underlying e with | some (.int .u8) => if src = dst then some (.conv8 x) else none | _ => none)
    | _, _ => none
  | .slice t x lo hi none => match P.underlying t with
    | some .string => some (.sliceS x lo hi)
    | some (.slice e) => (match P.info? e with | some inf => some (.slice inf.size x lo hi) | none => none)
    | _ => none
  | .fieldAddr s x f => match P.underlying s with
    | some (.struct fields) => (match fields[f]? with
      | some fd => (match P.info? fd.type with | some i => if i.size = 0 then none else some (.fieldAddr fd.offset x) | none => none)
      | none => none)
    | _ => none
  | .field s x f => match P.underlying s with
    | some (.struct fields) => (match fields[f]? with
      | some fd => (match aggN P fd.type with | some n => some (.field fd.offset n x) | none => none)
      | none => none)
    | _ => none
  | .indexAddr t x i => match P.underlying t with
    | some (.slice e) => (match P.info? e with | some inf => some (.indexAddr inf.size x i) | none => none)
    | some (.array len e) => (match P.info? e with | some inf => some (.indexAddrArr len inf.size x i) | none => none)
    | _ => none
  | .index t x i => match P.underlying t with
    | some .string => some (.indexS x i)
    | some (.array len e) => (match P.info? e, aggN P e with | some inf, some n => some (.indexArr len inf.size n x i) | _, _ => none)
    | _ => none
  | .load t x => match aggN P t with | some n => some (.load n x) | none => none
  | .store t x y => match P.info? t with | some i => some (.store i.size x y) | none => none
  | .extract x i => some (.extract x i)
  | .makeInterface t x => match P.underlying t with | some (.interface _) => none | some _ => some (.mkIface t x) | none => none
  | .makeFunc f first caps => some (.mkFunc f first.toList caps.toList)
  | .build t parts => match P.info? t, P.underlying t with
    | some it, some (.array _ e) => (match it.zero, P.info? e with
      | some z, some ie => (match placed (fun i => some (i * ie.size, ie.size)) parts.toList with
        | some l => some (.build (z.cells.toList.map ofCell) l)
        | none => none)
      | _, _ => none)
    | some it, some (.struct fields) => (match it.zero, fields.toList.mapM (fun f => (P.info? f.type).map fun i => (f.offset, i.size)) with
      | some z, some places => (match placed (places.toArray[·]?) parts.toList with
        | some l => some (.build (z.cells.toList.map ofCell) l)
        | none => none)
      | _, _ => none)
    | _, _ => none
  | .box _ x => some (.box x)
  | .alloc t => match P.info? t with
    | some inf => (match inf.zero with | some z => some (.alloc (z.cells.toList.map ofCell)) | none => none)
    | none => none
  | .buildSlice t len parts => match P.underlying t with
    | some (.slice e) => (match P.info? e with
      | some inf => (match inf.zero with | some z => some (.buildSlice false inf.size (z.cells.toList.map ofCell) len parts.toList) | none => none)
      | none => none)
    | _ => none
  | .makeSlice t l c => match P.underlying t with
    | some (.slice e) => (match P.info? e with
      | some inf => (match inf.zero with | some z => some (.makeSlice false inf.size inf.bytes (z.cells.toList.map ofCell) l c) | none => none)
      | none => none)
    | _ => none
  | .panic x => some (.panic x)
  | .call { callee := .builtin .len, args, argTypes } => match args[0]?, argTypes[0]? with
    | some x, some t => (match P.underlying t with | some .string => some (.len true x) | some (.slice _) => some (.len false x) | _ => none)
    | _, _ => none
  | .call { callee := .builtin .append, args, argTypes } => match args.toList, argTypes.toList with
    | [s, x], [t, tx] => (match P.underlying t with
      | some (.slice e) => (match P.info? e, P.underlying tx with
        | some inf, some (.slice _) | some inf, some .string => (match inf.zero with | some z => some (.append inf.size inf.bytes (z.cells.toList.map ofCell) s x) | none => none)
        | _, _ => none)
      | _ => none)
    | _, _ => none
  | .call { callee := .builtin .max, args, .. } => (match args.toList with | [x, y] => some (.minmax true x y) | _ => none)
  | .call { callee := .builtin .min, args, .. } => (match args.toList with | [x, y] => some (.minmax false x y) | _ => none)
  | .call { callee := .value f, args, .. } => some (.call f (args.toList.map fun x => (x, false)))
  | _ => none

def ibits (op : BinOp) (k : IntKind) (x y : Int) : Int :=
  let a := BitVec.ofInt k.bits x
  let b := BitVec.ofInt k.bits y
  match op with
  | .and => k.wrap (a &&& b).toNat
  | .or => k.wrap (a ||| b).toNat
  | .xor => k.wrap (a ^^^ b).toNat
  | _ => k.wrap (a &&& ~~~b).toNat

def sless (a b : ByteArray) : Bool := Op.bytesLess a.toList b.toList

def binW (op : BinOp) (u v : Value) (K : Value → Prop) : Prop :=
  match u, v with
  | .int k a, .int k' b => match op with
    | .shl => 0 ≤ b ∧ K (.int k (k.wrap (a * 2 ^ (min b.toNat k.bits))))
    | .shr => 0 ≤ b ∧ K (.int k (a.fdiv (2 ^ (min b.toNat k.bits))))
    | .add => k = k' ∧ K (.int k (k.wrap (a + b)))
    | .sub => k = k' ∧ K (.int k (k.wrap (a - b)))
    | .mul => k = k' ∧ K (.int k (k.wrap (a * b)))
    | .quo => k = k' ∧ b ≠ 0 ∧ K (.int k (k.wrap (a.tdiv b)))
    | .rem => k = k' ∧ b ≠ 0 ∧ K (.int k (a.tmod b))
    | .and => k = k' ∧ K (.int k (ibits .and k a b))
    | .or => k = k' ∧ K (.int k (ibits .or k a b))
    | .xor => k = k' ∧ K (.int k (ibits .xor k a b))
    | .andNot => k = k' ∧ K (.int k (ibits .andNot k a b))
    | .eql => k = k' ∧ K (.bool (decide (a = b)))
    | .neq => k = k' ∧ K (.bool (!decide (a = b)))
    | .lss => k = k' ∧ K (.bool (decide (a < b)))
    | .leq => k = k' ∧ K (.bool (decide (a ≤ b)))
    | .gtr => k = k' ∧ K (.bool (decide (b < a)))
    | .geq => k = k' ∧ K (.bool (decide (b ≤ a)))
  | .string a, .string b => match op with
    | .add => a.size + b.size < 2 ^ 63 ∧ K (.string (a ++ b))
    | .eql => K (.bool (decide (a = b)))
    | .neq => K (.bool (!decide (a = b)))
    | .lss => K (.bool (sless a b))
    | .leq => K (.bool (sless a b || decide (a = b)))
    | .gtr => K (.bool (!(sless a b || decide (a = b))))
    | .geq => K (.bool (!sless a b))
    | _ => False
  | _, _ => False

/-- What a nil of some kind is, and what surely is none. -/
def nilness : Nat → AV → Option Bool
  | 0, .lit (.pointer none) => some true
  | 0, .ref _ _ | 0, .cp _ => some false
  | 1, .lit .nilFunc => some true
  | 1, .fn _ _ _ => some false
  | 2, .lit .nilIface => some true
  | 2, .ifc _ _ => some false
  | 3, .lit (.map none) => some true
  | _, _ => none

def bitesOf : List AV → Option (List UInt8)
  | [] => some []
  | .lit (.int .u8 n) :: l => (bitesOf l).map (UInt8.ofNat n.toNat :: ·)
  | _ => none

def setMany (cs : List AV) (off : Nat) : List AV → List AV
  | [] => cs
  | v :: l => setMany (cs.set off v) (off + 1) l

def fillA (ev : Operand → AV) (cs : List AV) : List (Nat × Nat × Operand) → Option (List AV)
  | [] => some cs
  | (off, n, x) :: rest =>
    if (ev x).sure = true ∧ (ev x).cells.length = n ∧ off + n ≤ cs.length then fillA ev (setMany cs off (ev x).cells) rest else none

def vop (h : List AObj) (ev : Operand → AV) : AOp → (AV → Prop) → Prop
  | .move x, K => K (ev x)
  | .pick c a b, K => (match ev c with | .lit (.bool t) => K (if t then ev a else ev b) | _ => False)
  | .nilCheck x, K => (match ev x with
    | .ref id off => K (.ref id off)
    | .cp cs => K (.cp cs)
    | .fn (.func f) a b => K (.fn (.func f) a b)
    | .ifc t v => K (.ifc t v)
    | _ => False)
  | .bin op x y, K => (match ev x, ev y with | .lit u, .lit v => binW op u v (fun r => K (.lit r)) | _, _ => False)
  | .eqB neg x y, K => (match ev x, ev y with | .lit (.bool a), .lit (.bool b) => K (.lit (.bool (xor neg (decide (a = b))))) | _, _ => False)
  | .eqN neg kind x y, K => (match nilness kind (ev x), nilness kind (ev y) with
    | some true, some b => K (.lit (.bool (xor neg b)))
    | some false, some true => K (.lit (.bool neg))
    | _, _ => False)
  | .un op x, K => (match op, ev x with
    | .not, .lit (.bool b) => K (.lit (.bool (!b)))
    | .neg, .lit (.int k n) => K (.lit (.int k (k.wrap (0 - n))))
    | .xor, .lit (.int k n) => K (.lit (.int k (ibits .xor k (if k.signed then -1 else k.max) n)))
    | _, _ => False)
  | .conv k x, K => (match ev x with | .lit (.int _ n) => K (.lit (.int k (k.wrap n))) | _ => False)
  | .convS x, K => (match ev x with | .lit (.string s) => K (.lit (.string s)) | _ => False)
  | .toStr x, K => (match ev x with | .sl _ es => (match bitesOf es with | some l => K (.lit (.string ⟨l.toArray⟩)) | none => False) | _ => False)
  | .slice k x lo hi, K => (match ev x with
    | .sl _ es => ∃ l u : Int, (match lo with | none => l = 0 | some y => ∃ k, ev y = .lit (.int k l)) ∧ (match hi with | none => u = es.length | some y => ∃ k, ev y = .lit (.int k u)) ∧
        0 ≤ l ∧ l ≤ u ∧ u ≤ es.length ∧ (l = 0 ∨ ∀ e, e ∈ es → e.sure = true ∧ e.cells.length = k) ∧ K (.sl .unk ((es.take u.toNat).drop l.toNat))
    | _ => False)
  | .sliceS x lo hi, K => (match ev x with
    | .lit (.string s) => ∃ l u : Int, (match lo with | none => l = 0 | some y => ∃ k, ev y = .lit (.int k l)) ∧ (match hi with | none => u = s.size | some y => ∃ k, ev y = .lit (.int k u)) ∧
        0 ≤ l ∧ l ≤ u ∧ u ≤ s.size ∧ K (.lit (.string (s.extract l.toNat u.toNat)))
    | _ => False)
  | .fieldAddr off x, K => (match ev x with
    | .ref id o => K (.ref id (o + off))
    | .cp cs => K (.cp (cs.drop off))
    | _ => False)
  | .field off n x, K => (match ev x with
    | .agg cs => (match n with
      | some n => K (.agg ((cs.drop off).take n))
      | none => (match cs[off]? with | some v => K v.strip | none => False))
    | _ => False)
  | .indexAddr k x i, K => (match ev x, ev i with
    | .sl _ es, .lit (.int _ j) => (0 ≤ j ∧ j < es.length) ∧ ∀ e, es[j.toNat]? = some e → e.sure = true ∧ e.cells.length = k ∧ K (.cp e.cells)
    | .vw id off len _, .lit (.int _ j) => (0 ≤ j ∧ j < len) ∧ K (.ref id (off + j.toNat * k))
    | _, _ => False)
  | .indexAddrArr len k x i, K => (match ev x, ev i with
    | .ref id o, .lit (.int _ j) => (0 ≤ j ∧ j < len) ∧ K (.ref id (o + j.toNat * k))
    | .cp cs, .lit (.int _ j) => (0 ≤ j ∧ j < len) ∧ K (.cp (cs.drop (j.toNat * k)))
    | _, _ => False)
  | .indexS x i, K => (match ev x, ev i with
    | .lit (.string s), .lit (.int _ j) => (0 ≤ j ∧ j < s.size) ∧ ∀ c, s[j.toNat]? = some c → K (.lit (.int .u8 c.toNat))
    | _, _ => False)
  | .indexArr len k n x i, K => (match ev x, ev i with
    | .agg cs, .lit (.int _ j) => (0 ≤ j ∧ j < len) ∧ (match n with
      | some n => K (.agg ((cs.drop (j.toNat * k)).take n))
      | none => ∀ e, cs[j.toNat * k]? = some e → K e.strip) ∧ len * k ≤ cs.length ∧ 0 < k
    | _, _ => False)
  | .load n x, K => (match ev x with
    | .ref id off => (match h[id]? with
      | some (.cells l) => (match n with
        | none => (match l[off]? with | some v => K v.strip | none => False)
        | some n => off + n ≤ l.length ∧ K (.agg (((l.drop off).take n).map AV.strip)))
      | _ => False)
    | .cp cs => (match n with
      | none => (match cs[0]? with | some v => K v.strip | none => False)
      | some n => n ≤ cs.length ∧ K (.agg (cs.take n)))
    | _ => False)
  | .extract x i, K => (match ev x with | .tup vs => (match vs[i]? with | some v => K v.strip | none => False) | _ => False)
  | .len true x, K => (match ev x with
    | .lit (.string s) => K (.lit (.int .i64 s.size))
    | _ => False)
  | .len false x, K => (match ev x with
    | .sl _ es => K (.lit (.int .i64 es.length))
    | .vw _ _ len _ => K (.lit (.int .i64 len))
    | _ => False)
  | .mkIface t x, K => K (.ifc t (ev x))
  | .mkFunc f first caps, K => K (.fn f (first.map ev) (caps.map ev))
  | .build zero parts, K => (match fillA ev zero parts with | some cs => K (.agg cs) | none => False)
  | .minmax mx x y, K => (match ev x, ev y with | .lit (.int k a), .lit (.int _ b) => K (.lit (.int k (if mx then (if b > a then b else a) else (if b < a then b else a)))) | _, _ => False)
  | _, _ => False

end Go.Abs

/-
  AF2: the resolved code (no types, no places) and what it does to abstract states.
-/
import Derived.Test.YtpnjpjibccmkiaaAf1
set_option linter.all false
set_option linter.unusedSimpArgs false
set_option linter.unusedVariables false
set_option linter.unusedSectionVars false
namespace AF
open Go

inductive X where
  | t (n : Nat)
  | c (v : AV)
  deriving Inhabited

inductive NK where
  | ptr | func | iface | slice
  deriving DecidableEq, Inhabited

inductive AK where
  | int | bool | str
  deriving DecidableEq, Inhabited

/-- Resolved operations. -/
inductive R where
  -- these look at their operands alone
  | mv
  | pick
  | bin (op : BinOp)
  | bool (neq : Bool)
  | un (op : UnOp)
  | conv (k : IntKind)
  | isnil (k : NK) (neq : Bool)
  | aeq (ks : List AK) (neq : Bool)
  | fld (off : Nat) (n : Option Nat)
  | ext (i : Nat)
  | build (z : List AV) (parts : List (Nat × Nat))
  | mkfn (f : Fn) (first : Nat)
  | slen
  | sidx
  | sslc (lo hi : Bool)
  | mm (mx : Bool)
  -- these look at the memory too
  | len
  | idxA (sz : Nat)
  | idxArr (n sz : Nat)
  | fldA (off : Nat)
  | load (n : Option Nat)
  | nilchk
  | slc (sz : Nat) (lo hi : Bool)
  -- these change it
  | nilo (j sz : Nat) (ty : TypeId)
  | alloc (j : Nat) (ty : TypeId) (z : List AV)
  | box (j : Nat) (ty : TypeId)
  | store (n : Nat)
  | mkslc (j sz : Nat) (ty : TypeId) (z : List AV) (bytes : Nat)
  | bslc (j sz n : Nat) (ty : TypeId) (z : List AV) (parts : List (Nat × Nat))
  | app (j sz : Nat) (ty : TypeId) (bytes : Nat)
  | apps (j : Nat) (ty : TypeId)
  | call (f : FuncId) (pure : Bool)
  | callv
  deriving Inhabited

structure RO where
  dst : Option Nat
  g : Option (Nat × Bool)
  op : R
  xs : List X
  deriving Inhabited

structure St where
  t : List AV
  h : List AObj

def getA : Nat → List AV → AV
  | _, [] => .undef
  | 0, a :: _ => a
  | n + 1, _ :: r => getA n r

def setA : Nat → List AV → AV → List AV
  | _, [], _ => []
  | 0, _ :: r, v => v :: r
  | n + 1, a :: r, v => a :: setA n r v

def getO (k : Nat) (h : List AObj) : Option AObj := h[k]?
def setO (k : Nat) (h : List AObj) (o : AObj) : List AObj := h.set k o

def AV.strip : AV → AV
  | .gd _ v => v
  | v => v
def AV.flag : AV → Bool
  | .gd g _ => g
  | _ => true

def X.ev (st : St) : X → AV
  | .t n => getA n st.t
  | .c v => v

def St.put (st : St) (d : Option Nat) (v : AV) : St :=
  match d with
  | some d => { st with t := setA d st.t v }
  | none => st

def AV.cells : AV → List AV
  | .agg cs => cs
  | v => [v]
def AV.solid : AV → Bool
  | .undef | .gd .. | .tup _ => false
  | _ => true

def cut (l : List AV) (off : Nat) : Option Nat → AV
  | none => (l[off]?).getD .undef
  | some n => .agg ((l.drop off).take n)

def cutOk (l : List AV) (off : Nat) : Option Nat → Prop
  | none => off < l.length
  | some n => off + n ≤ l.length

def intOf : AV → Int
  | .int _ n => n
  | _ => 0
def boolOf : AV → Bool
  | .bool b => b
  | _ => false

def binV (op : BinOp) (x y : AV) : AV :=
  match x, y with
  | .int k a, .int _ b =>
    match op with
    | .add => .int k (k.wrap (a + b))
    | .sub => .int k (k.wrap (a - b))
    | .mul => .int k (k.wrap (a * b))
    | .quo => .int k (k.wrap (a.tdiv b))
    | .rem => .int k (a.tmod b)
    | .and => .int k (k.wrap (BitVec.ofInt k.bits a &&& BitVec.ofInt k.bits b).toNat)
    | .or => .int k (k.wrap (BitVec.ofInt k.bits a ||| BitVec.ofInt k.bits b).toNat)
    | .xor => .int k (k.wrap (BitVec.ofInt k.bits a ^^^ BitVec.ofInt k.bits b).toNat)
    | .andNot => .int k (k.wrap (BitVec.ofInt k.bits a &&& ~~~ BitVec.ofInt k.bits b).toNat)
    | .shl => .int k (k.wrap (a * 2 ^ (min b.toNat k.bits)))
    | .shr => .int k (a.fdiv (2 ^ (min b.toNat k.bits)))
    | .eql => .bool (decide (a = b))
    | .neq => .bool (!decide (a = b))
    | .lss => .bool (decide (a < b))
    | .leq => .bool (decide (a ≤ b))
    | .gtr => .bool (decide (b < a))
    | .geq => .bool (decide (b ≤ a))
  | .str s, .str u =>
    match op with
    | .add => .str (s ++ u)
    | .eql => .bool (decide (s = u))
    | .neq => .bool (!decide (s = u))
    | .lss => .bool (Op.bytesLess s u)
    | .leq => .bool (Op.bytesLess s u || decide (s = u))
    | .gtr => .bool (!(Op.bytesLess s u || decide (s = u)))
    | .geq => .bool (!Op.bytesLess s u)
    | _ => .undef
  | _, _ => .undef

def binC (op : BinOp) (x y : AV) : Prop :=
  match x, y with
  | .int k _, .int k' b =>
    match op with
    | .quo | .rem => k = k' ∧ b ≠ 0
    | .shl | .shr => 0 ≤ b
    | _ => k = k'
  | .str s, .str u =>
    match op with
    | .add => s.length + u.length ≤ 9223372036854775807
    | .eql | .neq | .lss | .leq | .gtr | .geq => True
    | _ => False
  | _, _ => False

def atomEq : AK → AV → AV → Option Bool
  | .int, .int k a, .int k' b => if k = k' then some (decide (a = b)) else none
  | .bool, .bool a, .bool b => some (a == b)
  | .str, .str a, .str b => some (decide (a = b))
  | _, _, _ => none
def atomsEq : List AK → List AV → List AV → Option Bool
  | [], [], [] => some true
  | k :: l, a :: r, b :: s => match atomEq k a b, atomsEq l r s with
    | some x, some y => some (x && y)
    | _, _ => none
  | _, _, _ => none

def nilTest : NK → AV → Option Bool
  | .ptr, .nilp => some true
  | .ptr, .ip _ => some false
  | .func, .nilfn => some true
  | .func, .fn .. => some false
  | .iface, .nilif => some true
  | .iface, .ifc => some false
  | .slice, .nl => some true
  | _, _ => none

def fillA : List AV → List (Nat × Nat) → List AV → List AV
  | z, (off, n) :: ps, v :: vs => fillA (z.take off ++ v.cells ++ z.drop (off + n)) ps vs
  | z, _, _ => z

def fillOk (len : Nat) : List (Nat × Nat) → List AV → Prop
  | [], [] => True
  | (off, n) :: ps, v :: vs => v.solid = true ∧ v.cells.length = n ∧ off + n ≤ len ∧ fillOk len ps vs
  | _, _ => False

def intC : List AV → Prop
  | [] => True
  | .int _ _ :: r => intC r
  | _ => False

/-- The bounds of a slice expression. -/
def loB (lo : Bool) : List AV → Int
  | .int _ n :: _ => if lo then n else 0
  | _ => 0
def hiB (lo hi : Bool) (len : Int) : List AV → Int
  | [.int _ _, .int _ m] => if lo && hi then m else len
  | [.int _ m] => if hi && !lo then m else len
  | _ => len

/-- What a pure operation gives. -/
def valP : R → List AV → AV
  | .mv, [x] => x
  | .bin op, [x, y] => binV op x y
  | .bool n, [x, y] => .bool (n != (boolOf x == boolOf y))
  | .un .not, [x] => .bool (!boolOf x)
  | .un .neg, [.int k n] => .int k (k.wrap (0 - n))
  | .conv k, [.int _ n] => .int k (k.wrap n)
  | .isnil .slice n, [.sl m _] => if m = 0 then .anyb else .bool (n != false)
  | .isnil k n, [x] => .bool (n != (nilTest k x).getD false)
  | .aeq ks n, [.agg a, .agg b] => .bool (n != (atomsEq ks a b).getD false)
  | .fld off n, [.agg cs] => cut cs off n
  | .ext i, [.tup vs] => (vs[i]?).getD .undef
  | .build z ps, vs => .agg (fillA z ps vs)
  | .mkfn f n, vs => .fn f (vs.take n) (vs.drop n)
  | .slen, [.str s] => .int .i64 s.length
  | .sidx, [.str s, .int _ i] => .int .u8 ((s[i.toNat]?).getD 0).toNat
  | .sslc lo hi, .str s :: bs => .str ((s.drop (loB lo bs).toNat).take ((hiB lo hi s.length bs).toNat - (loB lo bs).toNat))
  | .mm mx, vs => match vs with
    | .int k n :: r => .int k (r.foldl (fun a v => if mx then max a (intOf v) else min a (intOf v)) n)
    | _ => .undef
  | _, _ => .undef

def okP : R → List AV → Prop
  | .mv, [_] => True
  | .bin op, [x, y] => binC op x y
  | .bool _, [.bool _, .bool _] => True
  | .un .not, [.bool _] => True
  | .un .neg, [.int _ _] => True
  | .conv _, [.int _ _] => True
  | .isnil .slice _, [.sl _ _] => True
  | .isnil k _, [x] => (nilTest k x).isSome = true
  | .aeq ks _, [.agg a, .agg b] => (atomsEq ks a b).isSome = true
  | .fld off n, [.agg cs] => cutOk cs off n
  | .ext i, [.tup vs] => i < vs.length
  | .build z ps, vs => fillOk z.length ps vs
  | .mkfn _ n, vs => n ≤ vs.length
  | .slen, [.str _] => True
  | .sidx, [.str s, .int _ i] => 0 ≤ i ∧ i < s.length
  | .sslc lo hi, .str s :: bs => intC bs ∧ bs.length = (if lo then 1 else 0) + (if hi then 1 else 0) ∧ 0 ≤ loB lo bs ∧ loB lo bs ≤ hiB lo hi s.length bs ∧ hiB lo hi s.length bs ≤ s.length
  | .mm _, vs => intC vs ∧ vs ≠ []
  | _, _ => False

/-- The cells of an object, if the handle is its present one. -/
def cellsOf (h : List AObj) (k ver : Nat) : Option (List AV) :=
  match getO k h with
  | some (.mem v _ cs) => if v = ver then some cs else none
  | _ => none
/-- Is a handle to a slice a present one? -/
def liveS (h : List AObj) (k ver : Nat) : Bool :=
  match getO k h with
  | some (.mem v _ _) => v == ver
  | some (.emp v) => v == ver
  | _ => false

def valL (h : List AObj) : R → List AV → AV
  | .len, [.sl n _] => .int .i64 n
  | .len, [.nl] => .int .i64 0
  | .len, [.osl _ _ _ _ n] => .int .i64 n
  | .idxA _, [.sl _ f, .int _ i] => .ip (f i.toNat)
  | .idxA _, [.osl k ver sz off _, .int _ i] => .op k ver (off + i.toNat * sz)
  | .idxArr _ sz, [.ip cs, .int _ i] => .ip ((cs.drop (i.toNat * sz)).take sz)
  | .idxArr _ sz, [.op k ver off, .int _ i] => .op k ver (off + i.toNat * sz)
  | .fldA off, [.ip cs] => .ip (cs.drop off)
  | .fldA off, [.op k ver o] => .op k ver (o + off)
  | .load n, [.ip cs] => cut cs 0 n
  | .load n, [.op k ver off] => cut ((cellsOf h k ver).getD []) off n
  | .nilchk, [x] => x
  | .slc _ lo hi, .sl n f :: bs => .sl ((hiB lo hi n bs).toNat - (loB lo bs).toNat) (fun i => f ((loB lo bs).toNat + i))
  | .slc _ lo hi, .osl k ver sz off n :: bs => .osl k ver sz (off + (loB lo bs).toNat * sz) ((hiB lo hi n bs).toNat - (loB lo bs).toNat)
  | _, _ => .undef

def okL (h : List AObj) : R → List AV → Prop
  | .len, [.sl _ _] => True
  | .len, [.nl] => True
  | .len, [.osl k ver _ _ _] => liveS h k ver = true
  | .idxA sz, [.sl n f, .int _ i] => (0 ≤ i ∧ i < n) ∧ (f i.toNat).length = sz
  | .idxA sz, [.osl k ver sz' _ n, .int _ i] => (0 ≤ i ∧ i < n) ∧ sz' = sz ∧ (cellsOf h k ver).isSome = true
  | .idxArr n sz, [.ip cs, .int _ i] => (0 ≤ i ∧ i < n) ∧ cs.length = n * sz
  | .idxArr n sz, [.op k ver off, .int _ i] => (0 ≤ i ∧ i < n) ∧ (cellsOf h k ver).isSome = true
  | .fldA off, [.ip cs] => off < cs.length
  | .fldA _, [.op k ver _] => (cellsOf h k ver).isSome = true
  | .load n, [.ip cs] => cutOk cs 0 n
  | .load n, [.op k ver off] => (cellsOf h k ver).isSome = true ∧ cutOk ((cellsOf h k ver).getD []) off n
  | .nilchk, [.ip _] => True
  | .nilchk, [.op k ver _] => (cellsOf h k ver).isSome = true
  | .nilchk, [.fn (.func _) _ _] => True
  | .slc sz lo hi, .sl n f :: bs => intC bs ∧ bs.length = (if lo then 1 else 0) + (if hi then 1 else 0) ∧ 0 ≤ loB lo bs ∧ loB lo bs ≤ hiB lo hi n bs ∧ hiB lo hi n bs ≤ n ∧ (0 < n → (f 0).length = sz)
  | .slc sz lo hi, .osl k ver sz' _ n :: bs => intC bs ∧ bs.length = (if lo then 1 else 0) + (if hi then 1 else 0) ∧ 0 ≤ loB lo bs ∧ loB lo bs ≤ hiB lo hi n bs ∧ hiB lo hi n bs ≤ n ∧ sz' = sz ∧ liveS h k ver = true ∧ (loB lo bs = 0 ∨ loB lo bs < n)
  | _, _ => False

end AF

/-
  AF3: from the model's code to resolved code: a program that the kernel runs once for each function.
-/
import Derived.Test.YtpnjpjibccmkiaaAf2
set_option linter.all false
set_option linter.unusedSimpArgs false
set_option linter.unusedVariables false
set_option linter.unusedSectionVars false
namespace AF
open Go

def ofV : Value → Option AV
  | .bool b => some (.bool b)
  | .int k n => some (.int k n)
  | .string s => some (.str s.data.toList)
  | .slice none 0 0 => some .nl
  | .pointer none => some .nilp
  | .nilFunc => some .nilfn
  | .nilIface => some .nilif
  | _ => none

def ofVs : List Value → Option (List AV)
  | [] => some []
  | v :: r => match ofV v, ofVs r with
    | some a, some l => some (a :: l)
    | _, _ => none

def cvX : Operand → Option X
  | .tmp t => some (.t t)
  | .const (.agg cs) => (ofVs cs.toList).map fun l => .c (.agg l)
  | .const (.tuple cs) => if cs.toList.isEmpty then some (.c (.tup [])) else none
  | .const v => (ofV v).map .c
  | .func f => some (.c (.fn (.func f) [] []))
  | .global _ => none

def cvXs : List Operand → Option (List X)
  | [] => some []
  | x :: r => match cvX x, cvXs r with
    | some a, some l => some (a :: l)
    | _, _ => none

def aggD : TypeDesc → Bool
  | .struct _ | .array _ _ => true
  | _ => false

/-- A type of one cell: none; a struct or an array: its number of cells. -/
def aggOf (P : Program) (t : TypeId) : Option (Option Nat) :=
  match P.underlying t, P.info? t with
  | some d, some i => some (if aggD d then some i.size else none)
  | _, _ => none

def sizeA (P : Program) (t : TypeId) : Option Nat := (P.info? t).map (·.size)

def zeroA (P : Program) (t : TypeId) : Option (List AV) :=
  match P.info? t with
  | some i => match i.zero with
    | some z => if z.cells.size = i.size then ofVs z.cells.toList else none
    | none => none
  | none => none

def fieldOf (P : Program) (t : TypeId) (f : Nat) : Option (Nat × Option Nat) :=
  match P.underlying t with
  | some (.struct fs) => match fs[f]? with
    | some x => match aggOf P x.type, P.info? x.type with
      | some a, some i => if i.size = 0 then none else some (x.offset, a)
      | _, _ => none
    | none => none
  | _ => none

def partsOf (P : Program) (t : TypeId) : List Nat → Option (List (Nat × Nat))
  | [] => some []
  | f :: r => match P.underlying t with
    | some (.struct fs) => match fs[f]?, partsOf P t r with
      | some x, some l => (sizeA P x.type).map fun n => (x.offset, n) :: l
      | _, _ => none
    | some (.array _ e) => match sizeA P e, partsOf P t r with
      | some n, some l => some ((f * n, n) :: l)
      | _, _ => none
    | _ => none

def buildT (P : Program) (t : TypeId) : Bool :=
  match P.underlying t with
  | some (.struct fs) => fs.toList.all fun f => (P.info? f.type).isSome
  | some (.array _ e) => (P.info? e).isSome
  | _ => false

def nkOf : TypeDesc → Option NK
  | .pointer _ => some .ptr
  | .func .. => some .func
  | .interface _ => some .iface
  | .slice _ => some .slice
  | _ => none

def isNilC : NK → Operand → Bool
  | .slice, .const (.slice none 0 0) | .ptr, .const (.pointer none) | .func, .const .nilFunc | .iface, .const .nilIface => true
  | _, _ => false

def isnilOp (k : NK) (op : BinOp) (x y : Operand) : Option (R × List Operand) :=
  match op with
  | .eql => if isNilC k y then some (.isnil k false, [x]) else if isNilC k x then some (.isnil k false, [y]) else none
  | .neq => if isNilC k y then some (.isnil k true, [x]) else if isNilC k x then some (.isnil k true, [y]) else none
  | _ => none

def atomT (P : Program) (t : TypeId) : Option AK :=
  match P.underlying t with
  | some .bool => some .bool
  | some (.int _) => some .int
  | some .string => some .str
  | _ => none

def atomsT (P : Program) : Nat → List Field → Option (List AK)
  | _, [] => some []
  | n, f :: r => match atomT P f.type, atomsT P (n + 1) r with
    | some k, some l => if f.offset = n && f.name != "_" then some (k :: l) else none
    | _, _ => none

/-- An element type whose zero value is known: its size is not nothing. -/
def okZ (P : Program) (e : TypeId) : Option TypeInfo :=
  match P.info? e with
  | some i => match i.zero with
    | some z => if z.cells.size = i.size ∧ 0 < i.size then some i else none
    | none => none
  | none => none

/-- Bytes. -/
def okB (P : Program) (e : TypeId) : Bool :=
  match P.info? e with
  | some i => match i.zero with
    | some (.int .u8 0) => decide (i.size = 1 ∧ i.bytes = 1)
    | _ => false
  | none => false

def siteOf (js : List Tmp) (d : Option Tmp) : Option Nat := d.bind fun d => js.idxOf? d

def optX : Option Operand → List Operand
  | some x => [x]
  | none => []

/-- One operation. `js`: the temporaries that own the function's objects; `imp`: the functions whose calls change objects. -/
def cvOp (P : Program) (js : List Tmp) (imp : List FuncId) (o : Oper) : Option (R × List Operand) :=
  match o.op with
  | .assign (.const (.slice none 0 0)) | .move (.const (.slice none 0 0)) =>
    match siteOf js o.dst, P.underlying o.type with
    | some j, some (.slice e) => (sizeA P e).map fun sz => (.nilo j sz e, [])
    | _, _ => some (.mv, [.const (.slice none 0 0)])
  | .move x | .assign x => some (.mv, [x])
  | .pick c a b => some (.pick, [c, a, b])
  | .binOp op t x y _ =>
    match P.underlying t with
    | some (.int _) => some (.bin op, [x, y])
    | some .string => some (.bin op, [x, y])
    | some .bool => match op with
      | .eql => some (.bool false, [x, y])
      | .neq => some (.bool true, [x, y])
      | _ => none
    | some (.struct fs) =>
      match atomsT P 0 fs.toList, !P.stoodInHeld t && !P.eqGuardType P.depth t with
      | some ks, true => match op with
        | .eql => some (.aeq ks false, [x, y])
        | .neq => some (.aeq ks true, [x, y])
        | _ => none
      | _, _ => none
    | some d => match nkOf d with
      | some k => isnilOp k op x y
      | none => none
    | none => none
  | .unOp op _ x => some (.un op, [x])
  | .convert s d x =>
    match P.underlying s, P.underlying d with
    | some (.int _), some (.int k) => some (.conv k, [x])
    | _, _ => none
  | .field t x f => (fieldOf P t f).map fun p => (.fld p.1 p.2, [x])
  | .extract x i => some (.ext i, [x])
  | .build t ps =>
    match zeroA P t, partsOf P t (ps.toList.map (·.1)), buildT P t with
    | some z, some l, true => some (.build z l, ps.toList.map (·.2))
    | _, _, _ => none
  | .makeFunc f first cap => some (.mkfn f first.size, first.toList ++ cap.toList)
  | .index t x i => match P.underlying t with
    | some .string => some (.sidx, [x, i])
    | _ => none
  | .slice t x lo hi none => match P.underlying t with
    | some .string => some (.sslc lo.isSome hi.isSome, x :: (optX lo ++ optX hi))
    | some (.slice e) => (sizeA P e).map fun sz => (.slc sz lo.isSome hi.isSome, x :: (optX lo ++ optX hi))
    | _ => none
  | .indexAddr t x i => match P.underlying t with
    | some (.slice e) => (sizeA P e).map fun sz => (.idxA sz, [x, i])
    | some (.array n e) => (sizeA P e).map fun sz => (.idxArr n sz, [x, i])
    | _ => none
  | .fieldAddr t x f => (fieldOf P t f).map fun p => (.fldA p.1, [x])
  | .load t x => (aggOf P t).map fun n => (.load n, [x])
  | .nilCheck x => some (.nilchk, [x])
  | .alloc t => match siteOf js o.dst, zeroA P t with
    | some j, some z => some (.alloc j t z, [])
    | _, _ => none
  | .box t x => (siteOf js o.dst).map fun j => (.box j t, [x])
  | .store t a x => (sizeA P t).map fun n => (.store n, [a, x])
  | .makeSlice t l c => match siteOf js o.dst, P.underlying t with
    | some j, some (.slice e) => match zeroA P e, P.info? e with
      | some z, some i => some (.mkslc j i.size e z i.bytes, [l, c])
      | _, _ => none
    | _, _ => none
  | .buildSlice t n ps => match siteOf js o.dst, P.underlying t with
    | some j, some (.slice e) => match zeroA P e, P.info? e with
      | some z, some i => if n * i.size ≤ 16777216 then some (.bslc j i.size n e z (ps.toList.map fun p => (p.1 * i.size, i.size)), ps.toList.map (·.2)) else none
      | _, _ => none
    | _, _ => none
  | .call c => match c.callee with
    | .builtin .len => match c.args.toList, c.argTypes.toList with
      | [x], [t] => match P.underlying t with
        | some (.slice _) => some (.len, [x])
        | some .string => some (.slen, [x])
        | _ => none
      | _, _ => none
    | .builtin .max => match c.argTypes.toList with
      | t :: _ => match P.underlying t with
        | some (.int _) => some (.mm true, c.args.toList)
        | _ => none
      | _ => none
    | .builtin .min => match c.argTypes.toList with
      | t :: _ => match P.underlying t with
        | some (.int _) => some (.mm false, c.args.toList)
        | _ => none
      | _ => none
    | .builtin .append => match siteOf js o.dst, c.args.toList, c.argTypes.toList with
      | some j, [x, y], [t, u] => match P.underlying t, P.underlying u with
        | some (.slice e), some (.slice _) => if t = u then (okZ P e).map fun i => (.app j i.size e i.bytes, [x, y]) else none
        | some (.slice e), some .string => if okB P e then some (.apps j e, [x, y]) else none
        | _, _ => none
      | _, _, _ => none
    | .value (.func f) => if (P.funcs[f]?).any (fun fn => fn.body.isSome && fn.name != "runtime.NumGoroutine") then some (.call f (!imp.contains f), c.args.toList) else none
    | .value (.tmp t) => some (.callv, .tmp t :: c.args.toList)
    | _ => none
  | _ => none

def cvRO (P : Program) (js : List Tmp) (imp : List FuncId) (all : Array Oper) (o : Oper) : Option RO :=
  match cvOp P js imp o with
  | some (r, xs) => match cvXs xs with
    | some ys => match o.guard with
      | none => some ⟨o.dst, none, r, ys⟩
      | some (j, want) => match (all[j]?).bind (·.dst) with
        | some d => some ⟨o.dst, some (d, want), r, ys⟩
        | none => none
    | none => none
  | none => none

def cvROs (P : Program) (js : List Tmp) (imp : List FuncId) (all : Array Oper) : List Oper → Option (List RO)
  | [] => some []
  | o :: r => match cvRO P js imp all o, cvROs P js imp all r with
    | some a, some l => some (a :: l)
    | _, _ => none

inductive C where
  | skip
  | ops (l : List RO)
  | seq (a b : C)
  | cond (c : X) (t e : C)
  | block (id : Nat) (c : C)
  | loop (c : C)
  | range (f : X) (ps : List Nat) (asg body : C)
  | exit (id : Nat)
  | ret
  | wk
  | bad
  deriving Inhabited

end AF

/-
  AF4: what the resolved code does to abstract states.
-/
import Derived.Test.YtpnjpjibccmkiaaAf3
set_option linter.all false
set_option linter.unusedSimpArgs false
set_option linter.unusedVariables false
set_option linter.unusedSectionVars false
namespace AF
open Go

/-- The elements' cells of a slice that is appended, or of a string. -/
def sliceCells (h : List AObj) : AV → Option (Nat × List AV)
  | .nl => some (0, [])
  | .sl n f => some (n, (List.range n).flatMap f)
  | .osl k ver sz off n => match getO k h with
    | some (.mem v _ cs) => if v = ver ∧ off + n * sz ≤ cs.length then some (n, (cs.drop off).take (n * sz)) else none
    | some (.emp v) => if v = ver ∧ n = 0 then some (0, []) else none
    | _ => none
  | _ => none

/-- May `y` be appended to `x`: never one part of an object to another part of it. -/
def apartS : AV → AV → Bool
  | .osl k .., .osl k' .. => k != k'
  | _, _ => true

def bytesA (s : List UInt8) : List AV := s.map fun b => .int .u8 b.toNat

def verOf : Option AObj → Nat
  | some (.mem v _ _) => v
  | some (.emp v) => v
  | _ => 0
def tyOk (o : Option AObj) (ty : TypeId) : Bool :=
  match o with
  | some (.mem _ t _) => t == ty
  | _ => true
def tyOf : Option AObj → TypeId
  | some (.mem _ t _) => t
  | _ => 0
def site (h : List AObj) (k : Nat) : Bool :=
  match getO k h with
  | some (.mem ..) | some (.emp _) => true
  | _ => false

def madeA (z : List AV) : Nat → List AV
  | 0 => []
  | n + 1 => z ++ madeA z n

def appO (o : Option AObj) (ty : TypeId) (ver c n : Nat) (cs : List AV) : AObj :=
  match o with
  | some (.mem _ _ ds) => .mem (ver + 1) ty (ds.take c ++ cs)
  | _ => if n = 0 then .emp (ver + 1) else .mem (ver + 1) ty cs

def putA (t : List AV) (d : Option Nat) (v : AV) : List AV :=
  match d with
  | some d => setA d t v
  | none => t

/-- What an operation that changes objects asks, gives and leaves. `b`: where the function's own objects begin. -/
def effE (b : Nat) (h : List AObj) (r : R) (vs : List AV) (t : List AV) (d : Option Nat) (nx : List AV → List AObj → Prop) : Prop :=
  match r, vs with
  | .nilo j sz _, [] => site h (b + j) = true ∧
      nx (putA t d (.osl (b + j) (verOf (getO (b + j) h) + 1) sz 0 0)) (setO (b + j) h (.emp (verOf (getO (b + j) h) + 1)))
  | .alloc j ty z, [] => site h (b + j) = true ∧
      nx (putA t d (.op (b + j) (verOf (getO (b + j) h) + 1) 0)) (setO (b + j) h (.mem (verOf (getO (b + j) h) + 1) ty z))
  | .box j ty, [v] => (site h (b + j) = true ∧ v.solid = true) ∧
      nx (putA t d (.op (b + j) (verOf (getO (b + j) h) + 1) 0)) (setO (b + j) h (.mem (verOf (getO (b + j) h) + 1) ty v.cells))
  | .store n, [.op k ver off, v] => ((cellsOf h k ver).isSome = true ∧ v.solid = true ∧ v.cells.length = n ∧ off + n ≤ ((cellsOf h k ver).getD []).length) ∧
      nx (putA t d (.tup [])) (setO k h (.mem ver (tyOf (getO k h)) (((cellsOf h k ver).getD []).take off ++ v.cells ++ ((cellsOf h k ver).getD []).drop (off + n))))
  | .mkslc j sz ty z bytes, [.int .i64 l, .int .i64 c] => (site h (b + j) = true ∧ z.length = sz ∧ 0 ≤ l ∧ l = c ∧ c * (bytes : Int) ≤ 140737488355328 ∧ c ≤ 140737488355328) ∧
      nx (putA t d (.osl (b + j) (verOf (getO (b + j) h) + 1) sz 0 l.toNat)) (setO (b + j) h (.mem (verOf (getO (b + j) h) + 1) ty (madeA z l.toNat)))
  | .bslc j sz n ty z ps, vs => (site h (b + j) = true ∧ z.length = sz ∧ fillOk (n * sz) ps vs ∧ n ≤ 140737488355328) ∧
      nx (putA t d (.osl (b + j) (verOf (getO (b + j) h) + 1) sz 0 n)) (setO (b + j) h (.mem (verOf (getO (b + j) h) + 1) ty (fillA (madeA z n) ps vs)))
  | .app j sz ty bytes, [.nl, y] => ((sliceCells h y).isSome = true ∧ site h (b + j) = true ∧ ((sliceCells h y).getD (0, [])).2.length = ((sliceCells h y).getD (0, [])).1 * sz ∧
        (((sliceCells h y).getD (0, [])).1 : Int) * bytes ≤ 140737488355328 ∧ (((sliceCells h y).getD (0, [])).1 : Int) ≤ 140737488355328) ∧
      nx (putA t d (.osl (b + j) (verOf (getO (b + j) h) + 1) sz 0 ((sliceCells h y).getD (0, [])).1))
        (setO (b + j) h (if ((sliceCells h y).getD (0, [])).1 = 0 then .emp (verOf (getO (b + j) h) + 1) else .mem (verOf (getO (b + j) h) + 1) ty ((sliceCells h y).getD (0, [])).2))
  | .app _ sz ty bytes, [.osl k ver sz' off m, y] => ((sliceCells h y).isSome = true ∧ liveS h k ver = true ∧ tyOk (getO k h) ty = true ∧ m * sz ≤ ((cellsOf h k ver).getD []).length ∧ apartS (.osl k ver sz' off m) y = true ∧ sz' = sz ∧ off = 0 ∧
        ((sliceCells h y).getD (0, [])).2.length = ((sliceCells h y).getD (0, [])).1 * sz ∧
        ((m + ((sliceCells h y).getD (0, [])).1 : Nat) : Int) * bytes ≤ 140737488355328 ∧ ((m + ((sliceCells h y).getD (0, [])).1 : Nat) : Int) ≤ 140737488355328) ∧
      nx (putA t d (.osl k (ver + 1) sz 0 (m + ((sliceCells h y).getD (0, [])).1)))
        (setO k h (appO (getO k h) ty ver (m * sz) ((sliceCells h y).getD (0, [])).1 ((sliceCells h y).getD (0, [])).2))
  | .apps j ty, [.nl, .str s] => (site h (b + j) = true ∧ (s.length : Int) ≤ 140737488355328) ∧
      nx (putA t d (.osl (b + j) (verOf (getO (b + j) h) + 1) 1 0 s.length))
        (setO (b + j) h (if s.length = 0 then .emp (verOf (getO (b + j) h) + 1) else .mem (verOf (getO (b + j) h) + 1) ty (bytesA s)))
  | .apps _ ty, [.osl k ver sz' off m, .str s] => (liveS h k ver = true ∧ tyOk (getO k h) ty = true ∧ m ≤ ((cellsOf h k ver).getD []).length ∧ sz' = 1 ∧ off = 0 ∧ ((m + s.length : Nat) : Int) ≤ 140737488355328) ∧
      nx (putA t d (.osl k (ver + 1) 1 0 (m + s.length)))
        (setO k h (appO (getO k h) ty ver m s.length (bytesA s)))
  | _, _ => False

/-- A mark that a loop over a function has left among the deferred calls. -/
def markOf (r : Nat) : Deferred := { target := .collected r, args := #[] }

/-- The state of a function's activation. `N`: the memory's size as it began. -/
structure SR (N : Nat) (w : World) (σ : List OB) (t : List AV) (h : List AObj) (a : Act) : Prop where
  hr : HR w σ h
  sz : a.tmps.size = t.length
  tm : ∀ (i : Nat) c x, t[i]? = some c → a.tmps[i]? = some x → VR w σ c x
  df : ∃ rs : List Nat, a.defers = rs.map markOf ∧ rs.Nodup ∧ N ≤ w.heap.size ∧ ∀ r ∈ rs, N ≤ r ∧ r < w.heap.size ∧ ¬ own σ r ∧ w.heap[r]? = some (.deferred (some []))

theorem df_ext {N : Nat} {w w' : World} {σ σ' : List OB} (e : Ext w σ w' σ') {ds : List Deferred} (h : ∃ rs : List Nat, ds = rs.map markOf ∧ rs.Nodup ∧ N ≤ w.heap.size ∧ ∀ r ∈ rs, N ≤ r ∧ r < w.heap.size ∧ ¬ own σ r ∧ w.heap[r]? = some (.deferred (some []))) :
    ∃ rs : List Nat, ds = rs.map markOf ∧ rs.Nodup ∧ N ≤ w'.heap.size ∧ ∀ r ∈ rs, N ≤ r ∧ r < w'.heap.size ∧ ¬ own σ' r ∧ w'.heap[r]? = some (.deferred (some [])) := by
  obtain ⟨rs, h1, h2, hN, h3⟩ := h
  refine ⟨rs, h1, h2, Nat.le_trans hN e.size, fun r hr => ?_⟩
  obtain ⟨g1, g2, g3, g4⟩ := h3 r hr
  have := e.size
  refine ⟨g1, by omega, fun hw => ?_, (e.keep r g2 g3).trans g4⟩
  rcases e.own r hw with h | h
  · exact g3 h
  · omega

/-- The fence of everything, inside a round or not. -/
def FW (ρ : Option Nat) : Fence := { Fence.wide with round := ρ }

def okF (P : Program) (f : FuncId) : Bool := (P.funcs[f]?).any fun fn => fn.body.isSome && fn.name != "runtime.NumGoroutine"

/-- A call: it comes back with this value, and leaves the objects so. -/
def ACalls (P : Program) (f : FuncId) (args : List AV) (h : List AObj) (r : AV) (h' : List AObj) : Prop :=
  okF P f = true ∧ ∀ (w : World) (σ : List OB) (xs : List Value), HR w σ h → VRs w σ args xs →
    CallsIn Fence.wide 0 P f xs.toArray w fun e w' => ∃ v σ', e = .returned v ∧ HR w' σ' h' ∧ VR w' σ' r v ∧ Ext w σ w' σ'

/-- A call of 'yield': what every round gives. -/
def AYield (P : Program) (k : Nat) (args : List AV) (h : List AObj) (Q : AV → List AObj → Prop) : Prop :=
  ∀ (w : World) (σ : List OB) (xs : List Value) (b : Nat), HR w σ h → VRs w σ args xs → (∃ o : OB, σ[k]? = some o ∧ o.ver = 0 ∧ o.blk = some b) →
    ∃ fn tmps assign body, (Instr.yield b xs.toArray).run P w = .ok (.round b fn tmps assign body) w ∧
      RoundIn Fence.wide 0 P b fn tmps assign body w fun e w' => ∃ r σ' h', e = .returned (.bool r) ∧ HR w' σ' h' ∧ Ext w σ w' σ' ∧ Q (.bool r) h'

def guardA (g : AV) (want : Bool) : Bool :=
  match g with
  | .bool b => b == want
  | .gd g (.bool b) => g && (b == want)
  | _ => false
def guardOk : AV → Bool
  | .bool _ | .gd _ (.bool _) => true
  | _ => false

def pickV (c x y : AV) : AV :=
  match x.strip, y.strip with
  | .bool p, .bool q => .bool ((boolOf c.strip && p) || (!boolOf c.strip && q))
  | p, q => if boolOf c.strip then p else q
def pickOk (c x y : AV) : Prop :=
  match c with
  | .bool c => (c = true → x.flag = true) ∧ (c = false → y.flag = true)
  | .gd g (.bool c) => g = true ∧ (c = true → x.flag = true) ∧ (c = false → y.flag = true)
  | _ => False

inductive Kd where
  | pure | mem | eff | call (f : Nat) (pure : Bool) | callv | pick
def R.kd : R → Kd
  | .len | .idxA _ | .idxArr .. | .fldA _ | .load _ | .nilchk | .slc .. => .mem
  | .nilo .. | .alloc .. | .box .. | .store _ | .mkslc .. | .bslc .. | .app .. | .apps .. => .eff
  | .call f p => .call f p
  | .callv => .callv
  | .pick => .pick
  | _ => .pure

def flags : List AV → Prop
  | [] => True
  | v :: r => v.flag = true ∧ flags r

def strips : List AV → List AV
  | [] => []
  | x :: r => x.strip :: strips r
def ev (t : List AV) : X → AV
  | .t n => getA n t
  | .c v => v
def evs (t : List AV) : List X → List AV
  | [] => []
  | x :: r => ev t x :: evs t r

abbrev Nx := List AV → List AObj → Prop

def callA (P : Program) (f : Nat) (p : Bool) (vs : List AV) (d : Option Nat) (nx : Nx) (t : List AV) (h : List AObj) : Prop :=
  flags vs ∧ ∃ v h', ACalls P f (strips vs) h v h' ∧ (p = true → h' = h) ∧ nx (putA t d v) h'
def callG (P : Program) (f : Nat) (p : Bool) (g : Bool) (vs : List AV) (d : Option Nat) (nx : Nx) (t : List AV) (h : List AObj) : Prop :=
  ∃ v h', (g = true → flags vs ∧ ACalls P f (strips vs) h v h' ∧ (p = true → h' = h)) ∧ (g = false → h' = h) ∧ nx (putA t d (.gd g v)) h'
/-- A call of a function's value: a closure, or 'yield'. -/
def callV (P : Program) (vs : List AV) (d : Option Nat) (nx : Nx) (t : List AV) (h : List AObj) : Prop :=
  match vs with
  | .fn (.func f) first cap :: args => ∃ v h', ACalls P f (first ++ args ++ cap) h v h' ∧ nx (putA t d v) h'
  | .yld k :: args => (∃ s ts L, getO k h = some (.lp s ts L)) ∧ AYield P k args h fun v h' => nx (putA t d v) h'
  | _ => False

/-- One operation, its operands' values given. -/
def stepA (P : Program) (b : Nat) (r : R) (k : Kd) (vs : List AV) (d : Option Nat) (nx : Nx) (t : List AV) (h : List AObj) : Prop :=
  match k with
  | .pick => match vs with
    | [c, x, y] => pickOk c x y ∧ nx (putA t d (pickV c x y)) h
    | _ => False
  | .pure => flags vs ∧ okP r (strips vs) ∧ nx (putA t d (valP r (strips vs))) h
  | .mem => flags vs ∧ okL h r (strips vs) ∧ nx (putA t d (valL h r (strips vs))) h
  | .eff => flags vs ∧ effE b h r (strips vs) t d nx
  | .call f p => callA P f p vs d nx t h
  | .callv => flags vs ∧ callV P (strips vs) d nx t h

/-- One guarded operation. -/
def stepB (P : Program) (b : Nat) (r : R) (k : Kd) (g : Bool) (vs : List AV) (d : Option Nat) (nx : Nx) (t : List AV) (h : List AObj) : Prop :=
  match k with
  | .pick => match vs with
    | [c, x, y] => (g = true → pickOk c x y) ∧ nx (putA t d (.gd g (pickV c x y))) h
    | _ => False
  | .pure => (g = true → flags vs ∧ okP r (strips vs)) ∧ nx (putA t d (.gd g (valP r (strips vs)))) h
  | .mem => (g = true → flags vs ∧ okL h r (strips vs)) ∧ nx (putA t d (.gd g (valL h r (strips vs)))) h
  | .eff => (g = true → flags vs ∧ effE b h r (strips vs) t d nx) ∧ (g = false → nx (putA t d .undef) h)
  | .call f p => callG P f p g vs d nx t h
  | .callv => (g = true → flags vs ∧ callV P (strips vs) d nx t h) ∧ (g = false → nx (putA t d .undef) h)

def stepO (P : Program) (b : Nat) (o : RO) (nx : Nx) (t : List AV) (h : List AObj) : Prop :=
  match o.g with
  | none => stepA P b o.op o.op.kd (evs t o.xs) o.dst nx t h
  | some (j, want) => guardOk (getA j t) = true ∧ stepB P b o.op o.op.kd (guardA (getA j t) want) (evs t o.xs) o.dst nx t h

def opsA (P : Program) (b : Nat) : List RO → Nx → Nx
  | [], K, t, h => K t h
  | o :: r, K, t, h => stepO P b o (opsA P b r K) t h

inductive Ex where
  | normal
  | exit (id : Nat)
  | ret

def Ex.andThen (K : Nx) (Q : Ex → Nx) : Ex → Nx
  | .normal, t, h => K t h
  | e, t, h => Q e t h
def Ex.inBlock (id : Nat) (Q : Ex → Nx) : Ex → Nx
  | .exit i, t, h => if i = id then Q .normal t h else Q (.exit i) t h
  | e, t, h => Q e t h

def condA (v : AV) (A B : Nx) (t : List AV) (h : List AObj) : Prop :=
  match v with
  | .bool c => (c = true → A t h) ∧ (c = false → B t h)
  | .anyb => A t h ∧ B t h
  | _ => False

/-- One abstract state says no more than another one: some knowledge is given up. -/
def Wk (t : List AV) (h : List AObj) (t' : List AV) (h' : List AObj) : Prop :=
  ∀ (N : Nat) (w : World) (σ : List OB) (a : Act), SR N w σ t h a → ∃ σ', SR N w σ' t' h' a ∧ Ext w σ w σ'

def loopA (A : Nx → Nx) (t : List AV) (h : List AObj) : Prop :=
  ∃ (I : Nat → Nx), (∃ n t0 h0, Wk t h t0 h0 ∧ I n t0 h0) ∧ ∀ n t' h', I n t' h' → A (fun t'' h'' => ∃ n' t0 h0, n' < n ∧ Wk t'' h'' t0 h0 ∧ I n' t0 h0) t' h'

/-- A call that comes back with one of these values, and leaves the objects in one of these ways. -/
def ACallsQ (P : Program) (f : FuncId) (args : List AV) (h : List AObj) (R : AV → List AObj → Prop) : Prop :=
  okF P f = true ∧ ∀ (w : World) (σ : List OB) (xs : List Value), HR w σ h → VRs w σ args xs →
    CallsIn Fence.wide 0 P f xs.toArray w fun e w' => ∃ v σ' r h', R r h' ∧ e = .returned v ∧ HR w' σ' h' ∧ VR w' σ' r v ∧ Ext w σ w' σ'

def setsA : List AV → List Nat → List AV → List AV
  | t, p :: ps, v :: vs => setsA (setA p t v) ps vs
  | t, _, _ => t

/-- Has the value no handles to objects from n on? -/
def lowV (n : Nat) : AV → Bool
  | .osl k .. => decide (k < n)
  | .op k .. => decide (k < n)
  | .yld k => decide (k < n)
  | .agg cs => lowVs n cs
  | .tup cs => lowVs n cs
  | .fn _ a b => lowVs n a && lowVs n b
  | .gd g v => !g || lowV n v
  | _ => true
where lowVs (n : Nat) : List AV → Bool
  | [] => true
  | v :: r => lowV n v && lowVs n r

def lowO (n : Nat) : AObj → Prop
  | .mem _ _ cs => ∀ c ∈ cs, lowV n c = true
  | .lp _ ts _ => ∀ c ∈ ts, lowV n c = true
  | .emp _ => True

def rangeEnd (h0 : List AObj) (t : List AV) (Q : Ex → Nx) (h : List AObj) : Prop :=
  ∃ hh s ts L, h = hh ++ [.lp s ts L] ∧ hh.length = h0.length ∧ (∀ o ∈ hh, o ∈ h0 ∨ lowO h0.length o) ∧
    match s with
    | .ready => Q .normal t hh
    | .ret => Q .ret t hh
    | .exit id => Q (.exit id) t hh
    | .busy => False

/-- A range over a function: the rounds are walked where the function calls 'yield'. -/
def rangeA (P : Program) (u : AV) (ps : List Nat) (A B : (Ex → Nx) → Nx) (Q : Ex → Nx) (t : List AV) (h : List AObj) : Prop :=
  ∀ L : LInfo, (∀ (k : Nat) (ts args : List AV) (h1 : List AObj) (R : AV → List AObj → Prop),
      getO k h1 = some (.lp .ready ts L) → args.length = ps.length →
      A (fun e t2 h2 => e = .normal ∧ (∃ ts', getO k h2 = some (.lp .ready ts' L)) ∧ ∀ ts', getO k h2 = some (.lp .ready ts' L) →
        B (fun e t3 h3 => ∃ ts3, getO k h3 = some (.lp .busy ts3 L) ∧
          match e with
          | .normal => R (.bool true) (setO k h3 (.lp .ready ts3 L))
          | .ret => R (.bool false) (setO k h3 (.lp .ret ts3 L))
          | .exit id => R (.bool false) (setO k h3 (.lp (.exit id) ts3 L))) t2 (setO k h2 (.lp .busy ts' L))) (setsA ts ps args) h1 →
      AYield P k args h1 R) →
    match u with
    | .fn (.func f) first cap => ACallsQ P f (first ++ [.yld h.length] ++ cap) (h ++ [.lp .ready t L]) fun _ h' => rangeEnd h t Q h'
    | _ => False

def codeA (P : Program) (b : Nat) : C → (Ex → Nx) → Nx
  | .skip, Q, t, h => Q .normal t h
  | .ops l, Q, t, h => opsA P b l (Q .normal) t h
  | .seq x y, Q, t, h => codeA P b x (Ex.andThen (codeA P b y Q) Q) t h
  | .cond c x y, Q, t, h => condA (ev t c) (codeA P b x Q) (codeA P b y Q) t h
  | .block id x, Q, t, h => codeA P b x (Ex.inBlock id Q) t h
  | .loop x, Q, t, h => loopA (fun K => codeA P b x (Ex.andThen K Q)) t h
  | .exit id, Q, t, h => Q (.exit id) t h
  | .ret, Q, t, h => Q .ret t h
  | .range u ps x y, Q, t, h => rangeA P (ev t u) ps (codeA P b x) (codeA P b y) Q t h
  | .bad, _, _, _ => False
  | .wk, Q, t, h => ∃ t' h', Wk t h t' h' ∧ Q .normal t' h'

end AF

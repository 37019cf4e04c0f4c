/-
  PgS: what the functions of chapter 48 compute, in plain words of Lean.
-/
set_option linter.all false
set_option linter.unusedSimpArgs false
set_option linter.unusedVariables false
set_option linter.unusedSectionVars false
namespace P48
structure Item where
  kind : Int
  width : Int
  stretch : Int
  shrink : Int
  penalty : Int
  text : List UInt8
  deriving DecidableEq, Inhabited

def it (l : List Item) (i : Nat) : Item := l.getD i default
theorem it_eq {l : List Item} {i : Nat} (h : i < l.length) : it l i = l[i] := by simp [it, h]
theorem drop_it {l : List Item} {i : Nat} (h : i < l.length) : l.drop i = it l i :: l.drop (i + 1) := by
  rw [it_eq h]; exact List.drop_eq_getElem_cons h
theorem it_mem {l : List Item} {i : Nat} (h : i < l.length) : it l i ∈ l := by rw [it_eq h]; exact List.getElem_mem h

def isLen (n : Int) : Bool := decide (0 ≤ n) && decide (n ≤ 1073741824)

def checkItem (x : Item) : Int :=
  if x.kind < 1 ∨ 3 < x.kind then 8
  else if ¬ (isLen x.width = true ∧ isLen x.stretch = true ∧ isLen x.shrink = true) then 2
  else if x.penalty ≠ -10000 ∧ (x.penalty < 0 ∨ 10000 < x.penalty) then 2
  else if (x.kind ≠ 2 ∧ (x.stretch ≠ 0 ∨ x.shrink ≠ 0)) ∨ (x.kind ≠ 3 ∧ x.penalty ≠ 0) ∨ (x.kind = 2 ∧ x.text ≠ []) then 1
  else 0

def checkGo : List Item → Int → Int
  | [], s => if 1073741824 < s then 4 else 0
  | x :: r, s => if checkItem x = 0 then checkGo r (s + x.width + x.stretch + x.shrink) else checkItem x
def check (l : List Item) : Int := if 4096 < l.length then 4 else checkGo l 0
def checkW (l : List Item) (width : Int) : Int := if check l = 0 then (if isLen width then 0 else 2) else 1

def great (l : List Item) : Bool := l.any (fun x => decide (20 < x.text.length)) || decide (14 < l.length)
def fine (l : List Item) (width : Int) : Bool := !great l && decide (check l = 0) && isLen width

def forced (l : List Item) (i : Nat) : Bool := decide (i < l.length) && (decide ((it l i).kind = 3) && decide ((it l i).penalty = -10000))
def ends (l : List Item) (i : Nat) : Bool :=
  decide (i = l.length) || (decide ((it l i).kind = 2) && (decide (0 < i) && decide ((it l (i - 1)).kind = 1))) || (decide ((it l i).kind = 3) && decide ((it l i).penalty ≠ 10000))

def badness (change total : Int) : Int :=
  if change = 0 then 0 else if total ≤ 0 then 10000 else
    min 10000 (100 * (min (max change (-change)) 1073741824) ^ 3 / (min total 1073741824) ^ 3)

def atBreak (l : List Item) (to : Nat) : Bool := decide (to < l.length) && decide ((it l to).kind = 3)
def fit (l : List Item) (width n st sh : Int) (to : Nat) : Int × Int × Bool :=
  let change := width - (if atBreak l to then n + (it l to).width else n)
  if 0 ≤ change then (if to = l.length ∨ forced l to = true then (0, 0, true) else (badness change st, change, true))
  else if -change ≤ sh then (badness (-change) sh, change, true) else (0, 0, false)

def penalty (l : List Item) (to : Nat) : Int := if atBreak l to && !forced l to then (it l to).penalty else 0

def beginGo (l : List Item) : Nat → Nat → Nat
  | 0, i => i
  | k + 1, i => if (it l i).kind = 2 then beginGo l k (i + 1) else i
def begin_ (l : List Item) (frm to : Nat) : Nat := beginGo l (to - frm) frm

/-- The sum of a field over the items from one index to another one. -/
def sumGo (f : Item → Int) (l : List Item) : Nat → Nat → Int
  | 0, _ => 0
  | k + 1, i => (if (it l i).kind = 3 then 0 else f (it l i)) + sumGo f l k (i + 1)
def sumOf (f : Item → Int) (l : List Item) (a b : Nat) : Int := sumGo f l (b - a) a

def lineOf (l : List Item) (width : Int) (frm to : Nat) : Int × Int × Bool :=
  fit l width (sumOf Item.width l (begin_ l frm to) to) (sumOf Item.stretch l (begin_ l frm to) to) (sumOf Item.shrink l (begin_ l frm to) to) to

def free (l : List Item) (frm to : Nat) : Bool := (List.range' frm (to - frm)).all fun i => !forced l i
def cost (l : List Item) (width : Int) (frm to : Nat) : Option Int :=
  if (lineOf l width frm to).2.2 then some ((lineOf l width frm to).1 + penalty l to) else none
def arc (l : List Item) (width : Int) (frm to : Nat) : Option Int := if ends l to && free l frm to then cost l width frm to else none

/-- The lines from an index on. -/
def arcs (l : List Item) (width : Int) (frm : Nat) : List (Nat × Int) :=
  (List.range' frm (l.length + 1 - frm)).filterMap fun to => (arc l width frm to).map fun c => (to, c)

def behind (n : Nat) (p : List Int) (to : Nat) : Int := if to = n then 0 else p.getD (to + 1) 0
def least (n : Nat) (p : List Int) (a : List (Nat × Int)) : Int :=
  a.foldl (fun m x => if 0 ≤ behind n p x.1 ∧ (m < 0 ∨ x.2 + behind n p x.1 < m) then x.2 + behind n p x.1 else m) (-1)

/-- The table as it stands after the last k indices have been done. -/
def potsGo (l : List Item) (width : Int) : Nat → List Int
  | 0 => List.replicate (l.length + 1) 0
  | k + 1 => (potsGo l width k).set (l.length - k) (least l.length (potsGo l width k) (arcs l width (l.length - k)))
def pots (l : List Item) (width : Int) : List Int := potsGo l width (l.length + 1)

def pick (l : List Item) (p : List Int) (frm : Nat) (a : List (Nat × Int)) : Option Nat :=
  (a.find? fun x => decide (0 ≤ behind l.length p x.1 ∧ x.2 + behind l.length p x.1 = p.getD frm 0)).map (·.1)
def brkGo (l : List Item) (width : Int) (p : List Int) : Nat → Nat → List Nat
  | 0, _ => []
  | k + 1, frm => match pick l p frm (arcs l width frm) with
    | none => []
    | some to => if to < l.length then to :: brkGo l width p k (to + 1) else [to]
def brk (l : List Item) (width : Int) : List Nat := brkGo l width (pots l width) (l.length + 1) 0
end P48

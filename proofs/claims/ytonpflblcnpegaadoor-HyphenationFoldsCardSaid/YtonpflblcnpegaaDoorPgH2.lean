/-
  PgH2: patterns, in plain words of Lean.
-/
import Derived.Test.YtonpflblcnpegaaDoorPgH
set_option linter.all false
set_option linter.unusedSimpArgs false
set_option linter.unusedVariables false
set_option linter.unusedSectionVars false
namespace HY
structure Pat where
  letters : List UInt8
  levels : List Int
  deriving DecidableEq, Inhabited
def hasPre (s p : List UInt8) : Bool := decide (s.take p.length = p)
def hasSuf (s p : List UInt8) : Bool := decide (s.drop (s.length - p.length) = p)
def trimPre (s p : List UInt8) : List UInt8 := if hasPre s p = true then s.drop p.length else s
def trimSuf (s p : List UInt8) : List UInt8 := if hasSuf s p = true then s.take (s.length - p.length) else s
def inner (s : List UInt8) : List UInt8 := trimSuf (trimPre s [46]) [46]
def onlyC (c : UInt8) : Bool := decide (kind c = 1) || decide (kind c = 2) || decide (kind c = 4)
def badLev (n : Int) : Bool := decide (n < 0) || decide (9 < n)
def checkPat (p : Pat) : Int :=
  if 64 < p.letters.length then 4
  else if (inner p.letters).any (fun c => !onlyC c) = true then 11
  else if checkC (inner p.letters) ≠ 0 then 11
  else if inner p.letters = [] then 5
  else if p.levels.length ≠ (clus p.letters).length + 1 then 9
  else if p.levels.any badLev = true ∨ (hasPre p.letters [46] = true ∧ p.levels.getD 0 0 ≠ 0) ∨ (hasSuf p.letters [46] = true ∧ p.levels.getD (p.levels.length - 1) 0 ≠ 0) then 2
  else 0
theorem hasPre_dot (s : List UInt8) : hasPre s [46] = (decide (0 < s.length) && decide (ch s 0 = 46)) := by
  unfold hasPre
  cases s with
  | nil => rfl
  | cons c r => simp [ch]
theorem hasSuf_dot (s : List UInt8) : hasSuf s [46] = (decide (0 < s.length) && decide (ch s (s.length - 1) = 46)) := by
  unfold hasSuf
  by_cases h : 0 < s.length
  · have e : s.drop (s.length - 1) = [ch s (s.length - 1)] := by
      rw [List.drop_eq_getElem_cons (by omega), show s.length - 1 + 1 = s.length by omega, List.drop_length]
      simp [ch, show s.length - 1 < s.length by omega]
    simp [e, h]
  · have : s = [] := List.eq_nil_of_length_eq_zero (by omega)
    subst this; rfl
/-- The check of the inner letters is that of the letters. -/
def badAt (s : List UInt8) (i : Nat) : Bool := decide (kind (ch s i) = 0) || (decide (kind (ch s i) = 2) && !rightAt s i)
theorem kind_dot : kind 46 = 5 := by decide
theorem ch_cons (c : UInt8) (s : List UInt8) (i : Nat) : ch (c :: s) (i + 1) = ch s i := rfl
theorem right_dot (s : List UInt8) : ∀ i, rightAt (46 :: s) (i + 1) = rightAt s i := by
  intro i
  induction i with
  | zero => simp [rightAt, ch, kind_dot]
  | succ i ih =>
    rw [show rightAt (46 :: s) (i + 1 + 1) = (decide (kind (ch (46 :: s) (i + 1 + 1)) = 2) && (decide (kind (ch (46 :: s) (i + 1)) = 1) || rightAt (46 :: s) (i + 1))) from rfl, ih, ch_cons, ch_cons]
    rfl
theorem ch_app {s : List UInt8} {c : UInt8} {i : Nat} (h : i < s.length) : ch (s ++ [c]) i = ch s i := by simp [ch, List.getD_eq_getElem?_getD, List.getElem?_append_left h]
theorem ch_last (s : List UInt8) (c : UInt8) : ch (s ++ [c]) s.length = c := by simp [ch]
theorem right_app {s : List UInt8} {c : UInt8} : ∀ {i : Nat}, i < s.length → rightAt (s ++ [c]) i = rightAt s i := by
  intro i
  induction i with
  | zero => intro _; rfl
  | succ i ih => intro h; simp only [rightAt, ih (by omega), ch_app h, ch_app (show i < s.length by omega)]
theorem bad_dot (s : List UInt8) : (List.range (46 :: s).length).any (badAt (46 :: s)) = (List.range s.length).any (badAt s) := by
  rw [List.length_cons, List.range_succ_eq_map, List.any_cons, List.any_map]
  have e0 : badAt (46 :: s) 0 = false := by simp [badAt, ch, kind_dot]
  rw [e0, Bool.false_or]
  congr 1
  funext i
  simp only [Function.comp, badAt, Nat.succ_eq_add_one, right_dot, ch_cons]
  rfl
theorem bad_app (s : List UInt8) : (List.range (s ++ [46]).length).any (badAt (s ++ [46])) = (List.range s.length).any (badAt s) := by
  rw [List.length_append, List.length_singleton, List.range_succ, List.any_append]
  have e0 : badAt (s ++ [46]) s.length = false := by simp [badAt, ch_last, kind_dot]
  simp only [List.any_cons, List.any_nil, e0, Bool.or_false]
  rw [Bool.eq_iff_iff, List.any_eq_true, List.any_eq_true]
  constructor
  · rintro ⟨i, hi, h⟩
    refine ⟨i, hi, ?_⟩
    simp at hi
    simpa [badAt, right_app hi, ch_app hi] using h
  · rintro ⟨i, hi, h⟩
    refine ⟨i, hi, ?_⟩
    simp at hi
    simpa [badAt, right_app hi, ch_app hi] using h
theorem bad_inner (s : List UInt8) : (List.range (inner s).length).any (badAt (inner s)) = (List.range s.length).any (badAt s) := by
  have h1 : (List.range (trimPre s [46]).length).any (badAt (trimPre s [46])) = (List.range s.length).any (badAt s) := by
    unfold trimPre
    split
    · rename_i h
      rw [hasPre_dot] at h
      cases s with
      | nil => rfl
      | cons c r =>
        simp [ch] at h
        subst h
        exact (bad_dot r).symm
    · rfl
  rw [← h1]
  unfold inner
  generalize trimPre s [46] = t
  unfold trimSuf
  split
  · rename_i h
    rw [hasSuf_dot] at h
    simp only [Bool.and_eq_true, decide_eq_true_eq] at h
    have e : t = t.take (t.length - 1) ++ [46] := by
      have := (List.take_append_drop (t.length - 1) t).symm
      rw [List.drop_eq_getElem_cons (by omega), show t.length - 1 + 1 = t.length by omega, List.drop_length] at this
      have e2 : t[t.length - 1] = 46 := by simpa [ch, show t.length - 1 < t.length by omega] using h.2
      rwa [e2] at this
    conv => rhs; rw [e]
    exact (bad_app _).symm
  · rfl
end HY

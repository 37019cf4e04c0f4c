/-
  PgM3: lists of breaks: the two ways to say what they are; lines.
-/
import Derived.Test.YtpnjpjibccmkiaaPgM2
set_option linter.all false
set_option linter.unusedSimpArgs false
set_option linter.unusedVariables false
set_option linter.unusedSectionVars false
namespace P48

def asc (l : List Item) : Int → List Int → Bool
  | _, [] => true
  | p, k :: r => (decide (0 ≤ k) && (decide (k ≤ l.length) && (decide (p < k) && ends l k.toNat))) && asc l k r
def allForced (l : List Item) (bs : List Int) : Bool := (List.range l.length).all fun i => !forced l i || bs.contains (i : Int)
def lastIs (l : List Item) (bs : List Int) : Bool := decide (bs.getLast? = some (l.length : Int))
def brokenS (l : List Item) (bs : List Int) : Bool := lastIs l bs && (asc l (-1) bs && allForced l bs)

def listGo (l : List Item) : Nat → List Int → Bool
  | _, [] => true
  | frm, b :: r => (decide ((frm : Int) ≤ b) && (decide (b ≤ l.length) && (ends l b.toNat && free l frm b.toNat))) && listGo l (b.toNat + 1) r
def listS (l : List Item) (bs : List Int) : Bool := listGo l 0 bs && lastIs l bs

structure Line where
  frm : Int
  to : Int
  badness : Int
  change : Int
  text : List UInt8
  deriving DecidableEq, Inhabited

/-- The text of the items from an index on. -/
def textGo (l : List Item) : Nat → Nat → List UInt8
  | 0, _ => []
  | k + 1, i => (if (it l i).kind = 1 then (it l i).text else if (it l i).kind = 2 then [32] else []) ++ textGo l k (i + 1)
def textOf (l : List Item) (a b : Nat) : List UInt8 := textGo l (b - a) a ++ (if atBreak l b then (it l b).text else [])
def mkLine (l : List Item) (width : Int) (frm to : Nat) : Line :=
  ⟨begin_ l frm to, to, (lineOf l width frm to).1, (lineOf l width frm to).2.1, textOf l (begin_ l frm to) to⟩
def linesGo (l : List Item) (width : Int) : Nat → List Nat → Option (List Line)
  | _, [] => some []
  | frm, b :: r => if (lineOf l width frm b).2.2 then (linesGo l width (b + 1) r).map (mkLine l width frm b :: ·) else none
def natsOf (bs : List Int) : List Nat := bs.map Int.toNat
def linesS (l : List Item) (width : Int) (bs : List Int) : List Line × Int :=
  if checkW l width = 0 then (if brokenS l bs then (match linesGo l width 0 (natsOf bs) with
    | some ls => (ls, 0)
    | none => ([], 21)) else ([], 23)) else ([], checkW l width)
def sumCost (l : List Item) : List Line → Int
  | [] => 0
  | x :: r => x.badness + penalty l x.to.toNat + sumCost l r
def costS (l : List Item) (width : Int) (bs : List Int) : Int × Int :=
  if (linesS l width bs).2 = 0 then (sumCost l (linesS l width bs).1, 0) else (0, (linesS l width bs).2)

theorem asc_gt {l : List Item} : ∀ {bs : List Int} {p : Int}, asc l p bs = true → ∀ b ∈ bs, p < b ∧ 0 ≤ b ∧ b ≤ l.length := by
  intro bs
  induction bs with
  | nil => intro p _ b hb; simp at hb
  | cons k r ih =>
    intro p h b hb
    simp only [asc, Bool.and_eq_true, decide_eq_true_eq] at h
    rcases List.mem_cons.1 hb with rfl | hb
    · omega
    · have := ih h.2 b hb
      omega

theorem free_iff {l : List Item} {a b : Nat} : free l a b = true ↔ ∀ i, a ≤ i → i < b → forced l i = false := by
  unfold free
  simp only [List.all_eq_true, List.mem_range'_1, Bool.not_eq_true']
  constructor
  · intro h i h1 h2; exact h i ⟨h1, by omega⟩
  · intro h i hi; exact h i hi.1 (by omega)

theorem list_asc {l : List Item} : ∀ {bs : List Int} {frm : Nat}, (asc l ((frm : Int) - 1) bs = true ∧ lastIs l bs = true ∧ (∀ i, frm ≤ i → i < l.length → forced l i = true → (i : Int) ∈ bs)) ↔ (listGo l frm bs = true ∧ lastIs l bs = true) := by
  intro bs
  induction bs with
  | nil => intro frm; simp [lastIs]
  | cons b r ih =>
    intro frm
    have last : r ≠ [] → lastIs l (b :: r) = lastIs l r := by
      intro hr
      cases r with
      | nil => exact absurd rfl hr
      | cons c r => simp [lastIs]
    simp only [asc, listGo, Bool.and_eq_true, decide_eq_true_eq]
    constructor
    · rintro ⟨⟨⟨h1, h2, h3, h4⟩, h5⟩, h6, h7⟩
      have hb : ((b.toNat : Nat) : Int) = b := Int.toNat_of_nonneg h1
      have hf : free l frm b.toNat = true := by
        rw [free_iff]
        intro i i1 i2
        cases hfi : forced l i with
        | false => rfl
        | true =>
          have hlt : i < l.length := by unfold forced at hfi; simp only [Bool.and_eq_true, decide_eq_true_eq] at hfi; exact hfi.1
          rcases List.mem_cons.1 (h7 i i1 hlt hfi) with e | hm
          · omega
          · have := asc_gt h5 _ hm; omega
      refine ⟨⟨⟨by omega, h2, h4, hf⟩, ?_⟩, h6⟩
      by_cases hr : r = []
      · subst hr; rfl
      · refine (ih.1 ⟨by rw [show ((b.toNat + 1 : Nat) : Int) - 1 = b by omega]; exact h5, by rw [← last hr]; exact h6, fun i i1 i2 i3 => ?_⟩).1
        rcases List.mem_cons.1 (h7 i (by omega) i2 i3) with e | hm
        · omega
        · exact hm
    · rintro ⟨⟨⟨h1, h2, h4, hf⟩, h5⟩, h6⟩
      have hb : ((b.toNat : Nat) : Int) = b := Int.toNat_of_nonneg (by omega)
      rw [free_iff] at hf
      by_cases hr : r = []
      · subst hr
        have e : b = l.length := by simpa [lastIs] using h6
        refine ⟨⟨⟨by omega, h2, by omega, h4⟩, rfl⟩, h6, fun i i1 i2 i3 => ?_⟩
        have := hf i i1 (by omega)
        rw [i3] at this
        cases this
      · have := ih.2 ⟨h5, by rw [← last hr]; exact h6⟩
        rw [show ((b.toNat + 1 : Nat) : Int) - 1 = b by omega] at this
        refine ⟨⟨⟨by omega, h2, by omega, h4⟩, this.1⟩, h6, fun i i1 i2 i3 => ?_⟩
        rcases Nat.lt_trichotomy i b.toNat with h | h | h
        · have := hf i i1 h
          rw [i3] at this
          cases this
        · rw [h, hb]; exact List.mem_cons_self
        · exact List.mem_cons_of_mem _ (this.2.2 i (by omega) i2 i3)

theorem broken_list (l : List Item) (bs : List Int) : brokenS l bs = listS l bs := by
  rw [Bool.eq_iff_iff]
  unfold brokenS listS
  simp only [Bool.and_eq_true]
  have := @list_asc l bs 0
  simp only [Int.natCast_zero, Int.zero_sub] at this
  rw [← this]
  unfold allForced
  simp only [List.all_eq_true, List.mem_range, Bool.or_eq_true, Bool.not_eq_true', List.contains_iff_mem]
  constructor
  · rintro ⟨h1, h2, h3⟩
    refine ⟨h2, h1, fun i _ i1 i2 => ?_⟩
    rcases h3 i i1 with h | h
    · rw [i2] at h; cases h
    · exact h
  · rintro ⟨h1, h2, h3⟩
    refine ⟨h2, h1, fun i i1 => ?_⟩
    cases hf : forced l i with
    | false => exact .inl rfl
    | true => exact .inr (h3 i (by omega) i1 hf)

/-- The cost of breaks, found by the lines. -/
theorem path_lines {l : List Item} {width : Int} : ∀ {bs : List Nat} {frm : Nat} {c : Int}, path l width frm bs = some c ↔
    (listGo l frm (bs.map Int.ofNat) = true ∧ lastIs l (bs.map Int.ofNat) = true ∧ ∃ ls, linesGo l width frm bs = some ls ∧ sumCost l ls = c) := by
  intro bs
  induction bs with
  | nil => intro frm c; simp [path, lastIs]
  | cons b r ih =>
    intro frm c
    have last : r ≠ [] → lastIs l ((b :: r).map Int.ofNat) = lastIs l (r.map Int.ofNat) := by
      intro hr
      cases r with
      | nil => exact absurd rfl hr
      | cons c r => simp [lastIs]
    simp only [List.map_cons, listGo, linesGo, path, Bool.and_eq_true, decide_eq_true_eq, Int.ofNat_eq_natCast, Int.toNat_natCast]
    by_cases hr : r = []
    · subst hr
      simp only [List.map_nil, listGo, linesGo, Option.map_some, lastIs, List.getLast?_singleton, Option.some.injEq, decide_eq_true_eq, true_and, and_true]
      by_cases e : b = l.length
      · subst e
        rw [if_pos rfl]
        by_cases hfb : frm ≤ l.length
        · rw [if_pos hfb]
          unfold arc cost
          have e1 : ends l l.length = true := by simp [ends]
          simp only [e1, Bool.true_and, true_and]
          by_cases h1 : free l frm l.length = true
          · rw [if_pos h1]
            by_cases h2 : (lineOf l width frm l.length).2.2 = true
            · rw [if_pos h2, if_pos h2]
              constructor
              · intro h; cases h; exact ⟨⟨by omega, by omega, h1⟩, _, rfl, by simp [sumCost, mkLine]⟩
              · rintro ⟨_, ls, h3, h4⟩; cases h3; simp [sumCost, mkLine] at h4; rw [h4]
            · rw [if_neg h2, if_neg h2]
              simp
          · rw [if_neg h1]
            constructor
            · intro h; cases h
            · rintro ⟨h, _⟩; exact absurd h.2.2 h1
        · rw [if_neg hfb]
          constructor
          · intro h; cases h
          · rintro ⟨h, _⟩; omega
      · rw [if_neg e]
        constructor
        · intro h
          split at h
          · simp [path] at h
          · cases h
        · rintro ⟨_, h, _⟩; exact absurd (by omega) e
    · have hlast := last hr
      simp only [List.map_cons, Int.ofNat_eq_natCast] at hlast
      rw [hlast]
      by_cases e : b = l.length
      · subst e
        rw [if_pos rfl, if_neg (fun h => hr h.1)]
        constructor
        · intro h; cases h
        · rintro ⟨⟨_, h⟩, h1, ls, h2, _⟩
          obtain ⟨a, r', rfl⟩ := List.exists_cons_of_ne_nil hr
          simp only [List.map_cons, listGo, Bool.and_eq_true, decide_eq_true_eq, Int.ofNat_eq_natCast] at h
          omega
      · rw [if_neg e]
        by_cases hc : frm ≤ b ∧ b < l.length
        · rw [if_pos hc]
          unfold arc cost
          simp only [Bool.and_eq_true]
          by_cases h1 : ends l b = true ∧ free l frm b = true
          · rw [if_pos h1]
            by_cases h2 : (lineOf l width frm b).2.2 = true
            · rw [if_pos h2, if_pos h2]
              simp only [Option.bind_some, Option.map_eq_some_iff]
              constructor
              · rintro ⟨c2, h3, h4⟩
                obtain ⟨g1, g2, ls, g3, g4⟩ := ih.1 h3
                exact ⟨⟨⟨by omega, by omega, h1.1, h1.2⟩, g1⟩, g2, _, ⟨ls, g3, rfl⟩, by simp [sumCost, mkLine, g4]; omega⟩
              · rintro ⟨⟨_, g1⟩, g2, ls, ⟨ls', g3, rfl⟩, g4⟩
                refine ⟨_, ih.2 ⟨g1, g2, ls', g3, rfl⟩, ?_⟩
                simp [sumCost, mkLine] at g4; omega
            · rw [if_neg h2, if_neg h2]
              simp
          · rw [if_neg h1]
            simp only [Option.bind_none]
            constructor
            · intro h; cases h
            · rintro ⟨⟨h, _⟩, _⟩; exact absurd ⟨h.2.2.1, h.2.2.2⟩ h1
        · rw [if_neg hc]
          constructor
          · intro h; cases h
          · rintro ⟨⟨h, _⟩, _⟩; omega

theorem natsOf_map (bs : List Nat) : natsOf (bs.map Int.ofNat) = bs := by simp [natsOf, Function.comp_def]

/-- The cost of breaks by the function Cost. -/
theorem cost_path {l : List Item} {width : Int} (hc : checkW l width = 0) (bs : List Nat) {c : Int} : path l width 0 bs = some c ↔ costS l width (bs.map Int.ofNat) = (c, 0) := by
  unfold costS linesS
  rw [if_pos hc, broken_list, path_lines, natsOf_map]
  unfold listS
  simp only [Bool.and_eq_true]
  cases hl : linesGo l width 0 bs with
  | none =>
    simp only [reduceCtorEq, false_and, exists_false, and_false, false_iff]
    intro h
    by_cases hh : listGo l 0 (bs.map Int.ofNat) = true ∧ lastIs l (bs.map Int.ofNat) = true
    · rw [if_pos hh] at h
      simp at h
    · rw [if_neg hh] at h
      simp at h
  | some ls =>
    by_cases hh : listGo l 0 (bs.map Int.ofNat) = true ∧ lastIs l (bs.map Int.ofNat) = true
    · rw [if_pos hh]
      simp [hh.1, hh.2]
    · rw [if_neg hh]
      simp
      intro h1 h2
      exact absurd ⟨h1, h2⟩ hh

theorem cost_err {l : List Item} {width : Int} (hc : checkW l width = 0) (bs : List Nat) (h : path l width 0 bs = none) : (costS l width (bs.map Int.ofNat)).2 ≠ 0 := by
  intro h2
  have : costS l width (bs.map Int.ofNat) = ((costS l width (bs.map Int.ofNat)).1, 0) := by rw [← h2]
  rw [← cost_path hc] at this
  rw [h] at this
  cases this
end P48

/-
  PgM4: where a line begins; the sums of a line.
-/
import Derived.Test.YtpnjpjibccmkiaaPgM3
set_option linter.all false
set_option linter.unusedSimpArgs false
set_option linter.unusedVariables false
set_option linter.unusedSectionVars false
namespace P48
theorem beginGo_le (l : List Item) (k i : Nat) : i ≤ beginGo l k i ∧ beginGo l k i ≤ i + k := by
  induction k generalizing i with
  | zero => simp [beginGo]
  | succ k ih =>
    unfold beginGo
    split
    · have := ih (i + 1); omega
    · omega
theorem beginGo_min (l : List Item) (k m i : Nat) : beginGo l k i = min (beginGo l (k + m) i) (i + k) := by
  induction k generalizing i with
  | zero => have := beginGo_le l (0 + m) i; simp only [beginGo]; omega
  | succ k ih =>
    rw [show k + 1 + m = k + m + 1 by omega]
    unfold beginGo
    split
    · rw [ih (i + 1)]; omega
    · omega
theorem begin_min (l : List Item) {a b n : Nat} (h1 : a ≤ b) (h2 : b ≤ n) : begin_ l a b = min (begin_ l a n) b := by
  unfold begin_
  have := beginGo_min l (b - a) (n - b) a
  rw [show b - a + (n - b) = n - a by omega] at this
  omega
theorem begin_le (l : List Item) {a b : Nat} (h : a ≤ b) : a ≤ begin_ l a b ∧ begin_ l a b ≤ b := by
  unfold begin_
  have := beginGo_le l (b - a) a
  omega
theorem sumGo_snoc (f : Item → Int) (l : List Item) (k i : Nat) : sumGo f l (k + 1) i = sumGo f l k i + (if (it l (i + k)).kind = 3 then 0 else f (it l (i + k))) := by
  induction k generalizing i with
  | zero => simp [sumGo]
  | succ k ih =>
    rw [sumGo, ih (i + 1), show i + 1 + k = i + (k + 1) by omega]
    conv => rhs; rw [sumGo]
    omega
theorem sumOf_snoc (f : Item → Int) (l : List Item) {a b : Nat} (h : a ≤ b) : sumOf f l a (b + 1) = sumOf f l a b + (if (it l b).kind = 3 then 0 else f (it l b)) := by
  unfold sumOf
  rw [show b + 1 - a = b - a + 1 by omega, sumGo_snoc, show a + (b - a) = b by omega]
theorem sumOf_self (f : Item → Int) (l : List Item) (a : Nat) : sumOf f l a a = 0 := by unfold sumOf; simp [sumGo]
theorem sumGo_bound (f : Item → Int) (l : List Item) (hf : ∀ i, 0 ≤ f (it l i) ∧ f (it l i) ≤ 1073741824) (k i : Nat) : 0 ≤ sumGo f l k i ∧ sumGo f l k i ≤ k * 1073741824 := by
  induction k generalizing i with
  | zero => simp [sumGo]
  | succ k ih =>
    have h1 := ih (i + 1)
    have h2 := hf i
    unfold sumGo
    split <;> omega
theorem sumOf_bound (f : Item → Int) (l : List Item) (hf : ∀ i, 0 ≤ f (it l i) ∧ f (it l i) ≤ 1073741824) (a b : Nat) (h : b ≤ 300) : 0 ≤ sumOf f l a b ∧ sumOf f l a b ≤ 400000000000 := by
  have := sumGo_bound f l hf (b - a) a
  unfold sumOf
  omega
end P48
namespace P48
theorem least_bound {n : Nat} {p : List Int} {a : List (Nat × Int)} {B : Int} (ha : ∀ x ∈ a, 0 ≤ x.2) (hB : -1 ≤ B) (hb : ∀ x ∈ a, x.2 + behind n p x.1 ≤ B) : -1 ≤ least n p a ∧ least n p a ≤ B := by
  rcases least_spec n p a ha with ⟨h1, _⟩ | ⟨h1, ⟨x, h2, h3, h4⟩, _⟩
  · omega
  · have := hb x h2; omega
theorem arc_bound {l : List Item} {width : Int} (hv : ∀ i, i < l.length → ItemOk (it l i)) {a b : Nat} {c : Int} (hc : arc l width a b = some c) : 0 ≤ c ∧ c ≤ 20000 := by
  have h2 : 0 ≤ penalty l b ∧ penalty l b ≤ 10000 := by
    unfold penalty atBreak forced
    split
    · rename_i hc
      simp only [Bool.and_eq_true, decide_eq_true_eq, Bool.not_eq_true', Bool.and_eq_false_iff, decide_eq_false_iff_not] at hc
      have := (hv b hc.1.1).p
      omega
    · omega
  unfold arc cost at hc
  split at hc
  · split at hc
    · cases hc
      have h1 := fit_nonneg l width (sumOf Item.width l (begin_ l a b) b) (sumOf Item.stretch l (begin_ l a b) b) (sumOf Item.shrink l (begin_ l a b) b) b
      unfold lineOf
      omega
    · cases hc
  · cases hc
theorem behind_bound {n : Nat} {p : List Int} {B : Int} (h : ∀ j, -1 ≤ p.getD j 0 ∧ p.getD j 0 ≤ B) (hB : 0 ≤ B) (to : Nat) : -1 ≤ behind n p to ∧ behind n p to ≤ B := by
  unfold behind
  split
  · omega
  · exact h _
theorem potsGo_bound {l : List Item} (hv : ∀ i, i < l.length → ItemOk (it l i)) (width : Int) (k : Nat) : ∀ j, -1 ≤ (potsGo l width k).getD j 0 ∧ (potsGo l width k).getD j 0 ≤ 20000 * k := by
  induction k with
  | zero =>
    intro j
    simp only [potsGo, List.getD_eq_getElem?_getD, List.getElem?_replicate]
    split <;> simp
  | succ k ih =>
    intro j
    simp only [potsGo, List.getD_eq_getElem?_getD, List.getElem?_set]
    split
    · split
      · simp only [Option.getD_some]
        refine least_bound (fun x hx => ?_) (by omega) (fun x hx => ?_)
        · obtain ⟨to, c⟩ := x
          exact (arc_bound hv (mem_arcs.1 hx).2.2).1
        · obtain ⟨to, c⟩ := x
          have h1 := (arc_bound hv (mem_arcs.1 hx).2.2).2
          have h2 := (behind_bound (n := l.length) ih (by omega) to).2
          simp only
          omega
      · simp; omega
    · have := ih j
      simp only [List.getD_eq_getElem?_getD] at this
      omega
end P48

/-
  PgM1: greater penalties (law 1).
-/
import Derived.Test.YtpnjpjibccmkiaaPgM
set_option linter.all false
set_option linter.unusedSimpArgs false
set_option linter.unusedVariables false
set_option linter.unusedSectionVars false
namespace P48

def dearer (d : Int) (x : Item) : Bool := decide (x.kind = 3) && (decide (0 ≤ x.penalty) && decide (x.penalty + d < 10000))
def dear1 (d : Int) (x : Item) : Item := if dearer d x then { x with penalty := x.penalty + d } else x
def dear (d : Int) (l : List Item) : List Item := l.map (dear1 d)
def cnt (d : Int) (l : List Item) (i : Nat) : Int := ((l.drop i).filter (dearer d)).length

theorem dear_len (d : Int) (l : List Item) : (dear d l).length = l.length := by simp [dear]
theorem dear_it (d : Int) {l : List Item} {i : Nat} (h : i < l.length) : it (dear d l) i = dear1 d (it l i) := by
  rw [it_eq (by simpa [dear] using h), it_eq h]; simp [dear]
theorem dear_out (d : Int) {l : List Item} {i : Nat} (h : l.length ≤ i) : it (dear d l) i = it l i := by
  unfold it; rw [List.getD_eq_getElem?_getD, List.getD_eq_getElem?_getD, List.getElem?_eq_none (by simpa [dear] using h), List.getElem?_eq_none h]

section
variable {d : Int} {l : List Item} {i : Nat}
theorem dear_kind : (it (dear d l) i).kind = (it l i).kind := by
  by_cases h : i < l.length
  · rw [dear_it d h]; unfold dear1; split <;> rfl
  · rw [dear_out d (by omega)]
theorem dear_width : (it (dear d l) i).width = (it l i).width := by
  by_cases h : i < l.length
  · rw [dear_it d h]; unfold dear1; split <;> rfl
  · rw [dear_out d (by omega)]
theorem dear_stretch : (it (dear d l) i).stretch = (it l i).stretch := by
  by_cases h : i < l.length
  · rw [dear_it d h]; unfold dear1; split <;> rfl
  · rw [dear_out d (by omega)]
theorem dear_shrink : (it (dear d l) i).shrink = (it l i).shrink := by
  by_cases h : i < l.length
  · rw [dear_it d h]; unfold dear1; split <;> rfl
  · rw [dear_out d (by omega)]
theorem dear_forced (hd : 0 ≤ d) : forced (dear d l) i = forced l i := by
  unfold forced
  rw [dear_kind, dear_len]
  by_cases h : i < l.length
  · rw [dear_it d h]
    unfold dear1 dearer
    split
    · rename_i hc
      simp only [Bool.and_eq_true, decide_eq_true_eq] at hc
      have e1 : ¬ ((it l i).penalty + d = -10000) := by omega
      have e2 : ¬ ((it l i).penalty = -10000) := by omega
      simp [e1, e2]
    · rfl
  · simp [h]
theorem dear_ends (hd : 0 ≤ d) : ends (dear d l) i = ends l i := by
  unfold ends
  rw [dear_kind, dear_len, dear_kind]
  by_cases h : i < l.length
  · rw [dear_it d h]
    unfold dear1 dearer
    split
    · rename_i hc
      simp only [Bool.and_eq_true, decide_eq_true_eq] at hc
      have e1 : ¬ ((it l i).penalty + d = 10000) := by omega
      have e2 : ¬ ((it l i).penalty = 10000) := by omega
      simp [e1, e2]
    · rfl
  · rw [dear_out d (by omega)]
theorem dear_atBreak : atBreak (dear d l) i = atBreak l i := by unfold atBreak; rw [dear_kind, dear_len]
theorem dear_beginGo (k : Nat) : beginGo (dear d l) k i = beginGo l k i := by
  induction k generalizing i with
  | zero => rfl
  | succ k ih => simp only [beginGo, dear_kind, ih]
theorem dear_sumGo (f : Item → Int) (hf : ∀ j, f (it (dear d l) j) = f (it l j)) (k : Nat) : sumGo f (dear d l) k i = sumGo f l k i := by
  induction k generalizing i with
  | zero => rfl
  | succ k ih => simp only [sumGo, dear_kind, hf, ih]
theorem dear_fit (hd : 0 ≤ d) (width n st sh : Int) : fit (dear d l) width n st sh i = fit l width n st sh i := by
  unfold fit; rw [dear_atBreak, dear_width, dear_len, dear_forced hd]
theorem dear_line (hd : 0 ≤ d) (width : Int) (a : Nat) : lineOf (dear d l) width a i = lineOf l width a i := by
  unfold lineOf
  rw [dear_fit hd]
  unfold sumOf begin_
  rw [dear_beginGo, dear_sumGo _ (fun _ => dear_width), dear_sumGo _ (fun _ => dear_stretch), dear_sumGo _ (fun _ => dear_shrink)]
theorem dear_free (hd : 0 ≤ d) (a : Nat) : free (dear d l) a i = free l a i := by
  unfold free
  congr 1
  funext j
  rw [dear_forced hd]

def chg (d : Int) (l : List Item) (i : Nat) : Int := if decide (i < l.length) && dearer d (it l i) then d else 0
theorem dear_penalty (hd : 0 ≤ d) : penalty (dear d l) i = penalty l i + chg d l i := by
  unfold penalty chg
  rw [dear_atBreak, dear_forced hd]
  by_cases h : i < l.length
  · rw [dear_it d h]
    unfold dear1
    by_cases hc : dearer d (it l i) = true
    · simp only [hc, if_true, h, decide_true, Bool.and_true]
      unfold dearer at hc
      simp only [Bool.and_eq_true, decide_eq_true_eq] at hc
      have e1 : atBreak l i = true := by simp [atBreak, h, hc.1]
      have e2 : forced l i = false := by
        have : ¬ ((it l i).penalty = -10000) := by omega
        simp [forced, this]
      simp [e1, e2]
    · simp only [Bool.not_eq_true] at hc
      simp [hc]
  · have e1 : atBreak l i = false := by simp [atBreak]; omega
    simp [e1, h]

theorem dear_arc (hd : 0 ≤ d) (width : Int) (a : Nat) : arc (dear d l) width a i = (arc l width a i).map (· + chg d l i) := by
  unfold arc cost
  rw [dear_ends hd, dear_free hd, dear_line hd, dear_penalty hd]
  split
  · split
    · simp; omega
    · rfl
  · rfl
end

theorem dear_check {d : Int} (hd : 0 ≤ d) {l : List Item} (h : check l = 0) : check (dear d l) = 0 := by
  unfold check at *
  rw [dear_len]
  split at h
  · omega
  · rename_i hn
    rw [if_neg hn]
    unfold dear
    have key : ∀ (l : List Item) (s : Int), checkGo l s = 0 → checkGo (l.map (dear1 d)) s = 0 := by
      intro l
      induction l with
      | nil => intro s h; exact h
      | cons x l ih =>
        intro s h
        simp only [List.map_cons, checkGo] at h ⊢
        split at h
        · rename_i hx
          have hx' : checkItem (dear1 d x) = 0 := by
            rw [checkItem_iff] at hx ⊢
            unfold dear1
            split
            · rename_i hc
              unfold dearer at hc
              simp only [Bool.and_eq_true, decide_eq_true_eq] at hc
              obtain ⟨a1, a2, a3, a4, a5, a6, a7, a8, a9, b1, b2, b3⟩ := hx
              exact ⟨a1, a2, a3, a4, a5, a6, a7, a8, .inr ⟨by simp only; omega, by simp only; omega⟩, b1, fun h => absurd hc.1 h, b3⟩
            · exact hx
          rw [if_pos hx']
          have e1 : (dear1 d x).width = x.width := by unfold dear1; split <;> rfl
          have e2 : (dear1 d x).stretch = x.stretch := by unfold dear1; split <;> rfl
          have e3 : (dear1 d x).shrink = x.shrink := by unfold dear1; split <;> rfl
          rw [e1, e2, e3]
          exact ih _ h
        · contradiction
    exact key l _ h

theorem cnt_succ (d : Int) {l : List Item} {i : Nat} (h : i < l.length) : cnt d l i = (if dearer d (it l i) then 1 else 0) + cnt d l (i + 1) := by
  unfold cnt
  rw [drop_it h, List.filter_cons]
  split <;> simp; omega
theorem cnt_nonneg (d : Int) (l : List Item) (i : Nat) : 0 ≤ cnt d l i := by unfold cnt; omega
theorem cnt_anti (d : Int) (l : List Item) {i j : Nat} (h : i ≤ j) : cnt d l j ≤ cnt d l i := by
  induction h with
  | refl => exact Int.le_refl _
  | @step m h ih =>
    show cnt d l (m + 1) ≤ cnt d l i
    by_cases hm : m < l.length
    · have := cnt_succ d hm
      split at this <;> omega
    · have e : cnt d l (m + 1) = 0 := by unfold cnt; rw [List.drop_of_length_le (by omega)]; rfl
      have := cnt_nonneg d l i
      omega

/-- Where there is a cost for the one list, there is one for the other: not less, and not greater than by the difference for each dearer item. -/
theorem dear_pots {d : Int} (hd : 0 ≤ d) {l : List Item} {width : Int} (h : check l = 0) : ∀ (k i : Nat), l.length - i = k → i ≤ l.length →
    let a := (pots l width).getD i 0
    let b := (pots (dear d l) width).getD i 0
    (a = -1 ∧ b = -1) ∨ (0 ≤ a ∧ a ≤ b ∧ b ≤ a + d * cnt d l i) := by
  intro k
  induction k using Nat.strongRecOn with
  | _ k ih =>
    intro i hk hi
    have h' := dear_check hd h
    have pa := pots_at (width := width) h i hi
    have pb := pots_at (width := width) h' i (by rw [dear_len]; exact hi)
    rw [dear_len] at pb
    generalize (pots l width).getD i 0 = a at pa ⊢
    generalize (pots (dear d l) width).getD i 0 = b at pb ⊢
    simp only
    -- the rests
    have rest : ∀ to, i ≤ to → to ≤ l.length →
        (behind l.length (pots l width) to < 0 ∧ behind l.length (pots (dear d l) width) to < 0) ∨
        (0 ≤ behind l.length (pots l width) to ∧ behind l.length (pots l width) to ≤ behind l.length (pots (dear d l) width) to ∧
          behind l.length (pots (dear d l) width) to ≤ behind l.length (pots l width) to + d * cnt d l (to + 1)) := by
      intro to h1 h2
      unfold behind
      by_cases e : to = l.length
      · simp only [e, if_true]
        right
        have := Int.mul_nonneg hd (cnt_nonneg d l (l.length + 1))
        omega
      · simp only [e, if_false]
        rcases ih (l.length - (to + 1)) (by omega) (to + 1) rfl (by omega) with ⟨e1, e2⟩ | e1
        · left; omega
        · right; exact e1
    have chg_le : ∀ to, i ≤ to → 0 ≤ chg d l to ∧ chg d l to + d * cnt d l (to + 1) ≤ d * cnt d l i := by
      intro to h1
      unfold chg
      by_cases hl : to < l.length
      · have c1 := cnt_succ d hl
        have c2 := Int.mul_le_mul_of_nonneg_left (cnt_anti d l h1) hd
        by_cases hx : dearer d (it l to) = true
        · rw [if_pos hx] at c1
          simp only [hl, hx, decide_true, Bool.and_true, if_true]
          rw [c1, Int.mul_add, Int.mul_one] at c2
          omega
        · rw [if_neg hx] at c1
          simp only [Bool.not_eq_true] at hx
          simp only [hx, Bool.and_false, Bool.false_eq_true, if_false]
          rw [c1, Int.zero_add] at c2
          omega
      · simp only [hl, decide_false, Bool.false_and, Bool.false_eq_true, if_false]
        have c2 := Int.mul_le_mul_of_nonneg_left (cnt_anti d l (show i ≤ to + 1 by omega)) hd
        omega
    -- a line of the one is one of the other
    have fwd : ∀ x ∈ arcs l width i, (x.1, x.2 + chg d l x.1) ∈ arcs (dear d l) width i := by
      rintro ⟨to, c⟩ hx
      obtain ⟨h1, h2, h3⟩ := mem_arcs.1 hx
      exact mem_arcs.2 ⟨h1, by rw [dear_len]; exact h2, by rw [dear_arc hd, h3]; rfl⟩
    have bwd : ∀ x ∈ arcs (dear d l) width i, i ≤ x.1 ∧ x.1 ≤ l.length ∧ (x.1, x.2 - chg d l x.1) ∈ arcs l width i := by
      rintro ⟨to, c⟩ hx
      obtain ⟨h1, h2, h3⟩ := mem_arcs.1 hx
      rw [dear_len] at h2
      rw [dear_arc hd, Option.map_eq_some_iff] at h3
      obtain ⟨c', h3, h4⟩ := h3
      refine ⟨h1, h2, mem_arcs.2 ⟨h1, h2, ?_⟩⟩
      simp only at h4 ⊢
      rw [h3]
      congr 1
      omega
    rcases pa with ⟨a1, a2⟩ | ⟨a1, ⟨⟨to, c⟩, a2, a3, a4⟩, a5⟩
    · left
      refine ⟨a1, ?_⟩
      rcases pb with ⟨b1, _⟩ | ⟨_, ⟨x, b2, b3, _⟩, _⟩
      · exact b1
      · obtain ⟨h1, h2, h3⟩ := bwd x b2
        have := a2 _ h3
        simp only at this
        rcases rest x.1 h1 h2 with r | r <;> omega
    · obtain ⟨h1, h2, _⟩ := mem_arcs.1 a2
      have f1 := fwd _ a2
      simp only at a3 a4 f1
      have r1 : behind l.length (pots l width) to ≤ behind l.length (pots (dear d l) width) to ∧
          behind l.length (pots (dear d l) width) to ≤ behind l.length (pots l width) to + d * cnt d l (to + 1) := by
        rcases rest to h1 h2 with r | r <;> omega
      have cl := chg_le to h1
      right
      rcases pb with ⟨_, b2⟩ | ⟨b1, ⟨x, b2, b3, b4⟩, b5⟩
      · have := b2 _ f1
        simp only at this
        omega
      · have u1 := b5 _ f1 (by simp only; omega)
        simp only at u1
        obtain ⟨g1, g2, g3⟩ := bwd x b2
        have cx := chg_le x.1 g1
        have r2 : 0 ≤ behind l.length (pots l width) x.1 ∧ behind l.length (pots l width) x.1 ≤ behind l.length (pots (dear d l) width) x.1 := by
          rcases rest x.1 g1 g2 with r | r <;> omega
        have u2 := a5 _ g3 r2.1
        simp only at u2
        omega
end P48

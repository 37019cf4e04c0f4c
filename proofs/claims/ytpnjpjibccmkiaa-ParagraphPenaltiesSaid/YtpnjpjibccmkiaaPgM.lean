/-
  PgM: the potentials: what they are.
-/
import Derived.Test.YtpnjpjibccmkiaaPgS
set_option linter.all false
set_option linter.unusedSimpArgs false
set_option linter.unusedVariables false
set_option linter.unusedSectionVars false
namespace P48

/-- What there is to know of a table of potentials. -/
def PotAt (n : Nat) (p : List Int) (a : List (Nat × Int)) (m : Int) : Prop :=
  (m = -1 ∧ ∀ x ∈ a, behind n p x.1 < 0) ∨ (0 ≤ m ∧ (∃ x ∈ a, 0 ≤ behind n p x.1 ∧ m = x.2 + behind n p x.1) ∧ ∀ x ∈ a, 0 ≤ behind n p x.1 → m ≤ x.2 + behind n p x.1)

theorem least_go (n : Nat) (p : List Int) : ∀ (a : List (Nat × Int)) (m : Int), (∀ x ∈ a, 0 ≤ x.2) → (m = -1 ∨ 0 ≤ m) →
    let r := a.foldl (fun m x => if 0 ≤ behind n p x.1 ∧ (m < 0 ∨ x.2 + behind n p x.1 < m) then x.2 + behind n p x.1 else m) m
    (r = -1 ∧ m = -1 ∧ ∀ x ∈ a, behind n p x.1 < 0) ∨ (0 ≤ r ∧ (r = m ∨ ∃ x ∈ a, 0 ≤ behind n p x.1 ∧ r = x.2 + behind n p x.1) ∧ (0 ≤ m → r ≤ m) ∧ ∀ x ∈ a, 0 ≤ behind n p x.1 → r ≤ x.2 + behind n p x.1) := by
  intro a
  induction a with
  | nil =>
    intro m _ hm
    rcases hm with rfl | hm
    · left; simp
    · right; simp [hm]
  | cons y a ih =>
    intro m ha hm
    have hy : 0 ≤ y.2 := ha y (by simp)
    simp only [List.foldl_cons]
    split
    · rename_i hc
      obtain ⟨hc1, hc2⟩ := hc
      have := ih (y.2 + behind n p y.1) (fun x hx => ha x (by simp [hx])) (.inr (by omega))
      rcases this with ⟨h1, h2, h3⟩ | ⟨h1, h2, h3, h4⟩
      · omega
      · right
        have h3' := h3 (by omega)
        refine ⟨h1, .inr ?_, fun hm0 => by rcases hc2 with h | h <;> omega, fun x hx hb => ?_⟩
        · rcases h2 with h2 | ⟨x, hx, hb, he⟩
          · exact ⟨y, by simp, hc1, h2⟩
          · exact ⟨x, by simp [hx], hb, he⟩
        · rcases List.mem_cons.1 hx with rfl | hx
          · exact h3'
          · exact h4 x hx hb
    · rename_i hc
      have := ih m (fun x hx => ha x (by simp [hx])) hm
      rcases this with ⟨h1, h2, h3⟩ | ⟨h1, h2, h3, h4⟩
      · left
        refine ⟨h1, h2, fun x hx => ?_⟩
        rcases List.mem_cons.1 hx with rfl | hx
        · exact Int.not_le.1 fun hb => hc ⟨hb, .inl (by omega)⟩
        · exact h3 x hx
      · right
        refine ⟨h1, ?_, h3, fun x hx hb => ?_⟩
        · rcases h2 with h2 | ⟨x, hx, hb, he⟩
          · exact .inl h2
          · exact .inr ⟨x, by simp [hx], hb, he⟩
        · rcases List.mem_cons.1 hx with rfl | hx
          · have : ¬ (m < 0 ∨ x.2 + behind n p x.1 < m) := fun h => hc ⟨hb, h⟩
            have hm0 : 0 ≤ m := by omega
            have := h3 hm0
            omega
          · exact h4 x hx hb

theorem least_spec (n : Nat) (p : List Int) (a : List (Nat × Int)) (ha : ∀ x ∈ a, 0 ≤ x.2) : PotAt n p a (least n p a) := by
  have := least_go n p a (-1) ha (.inl rfl)
  rcases this with ⟨h1, _, h3⟩ | ⟨h1, h2, _, h4⟩
  · exact .inl ⟨h1, h3⟩
  · refine .inr ⟨h1, ?_, h4⟩
    rcases h2 with h2 | h2
    · omega
    · exact h2

theorem least_congr {n : Nat} {p q : List Int} {a : List (Nat × Int)} (h : ∀ x ∈ a, behind n p x.1 = behind n q x.1) : least n p a = least n q a := by
  unfold least
  generalize (-1 : Int) = m
  induction a generalizing m with
  | nil => rfl
  | cons y a ih =>
    simp only [List.foldl_cons]
    rw [h y (by simp)]
    exact ih (fun x hx => h x (by simp [hx])) _

theorem mem_arcs {l : List Item} {width : Int} {frm to : Nat} {c : Int} : (to, c) ∈ arcs l width frm ↔ frm ≤ to ∧ to ≤ l.length ∧ arc l width frm to = some c := by
  unfold arcs
  simp only [List.mem_filterMap, List.mem_range'_1, Option.map_eq_some_iff]
  constructor
  · rintro ⟨a, ⟨h1, h2⟩, c', h3, h4⟩
    cases h4
    exact ⟨h1, by omega, h3⟩
  · rintro ⟨h1, h2, h3⟩
    exact ⟨to, ⟨h1, by omega⟩, c, h3, rfl⟩

theorem potsGo_len (l : List Item) (width : Int) (k : Nat) : (potsGo l width k).length = l.length + 1 := by
  induction k with
  | zero => simp [potsGo]
  | succ k ih => simp [potsGo, ih]

theorem potsGo_get (l : List Item) (width : Int) (k : Nat) (hk : k ≤ l.length + 1) : ∀ j, l.length + 1 - k ≤ j → j ≤ l.length → (potsGo l width k).getD j 0 = least l.length (potsGo l width k) (arcs l width j) := by
  induction k with
  | zero => intro j h1 h2; omega
  | succ k ih =>
    intro j h1 h2
    have hl := potsGo_len l width k
    have same : ∀ i, l.length - k < i → (potsGo l width (k + 1)).getD i 0 = (potsGo l width k).getD i 0 := by
      intro i hi
      simp only [potsGo, List.getD_eq_getElem?_getD]
      rw [List.getElem?_set_ne (by omega)]
    have hb : ∀ x ∈ arcs l width j, behind l.length (potsGo l width (k + 1)) x.1 = behind l.length (potsGo l width k) x.1 := by
      rintro ⟨to, c⟩ hx
      obtain ⟨h3, h4, _⟩ := mem_arcs.1 hx
      simp only [behind]
      split
      · rfl
      · exact same _ (by omega)
    rw [least_congr hb]
    by_cases e : j = l.length - k
    · subst e
      simp only [potsGo, List.getD_eq_getElem?_getD]
      rw [List.getElem?_set_self (by omega)]
      rfl
    · rw [same j (by omega)]
      exact ih (by omega) j (by omega) h2

theorem pots_len (l : List Item) (width : Int) : (pots l width).length = l.length + 1 := potsGo_len l width _
theorem pots_get (l : List Item) (width : Int) (j : Nat) (hj : j ≤ l.length) : (pots l width).getD j 0 = least l.length (pots l width) (arcs l width j) :=
  potsGo_get l width _ (Nat.le_refl _) j (by omega) hj

theorem checkGo_ok : ∀ {l : List Item} {s : Int}, checkGo l s = 0 → ∀ x ∈ l, checkItem x = 0 := by
  intro l
  induction l with
  | nil => intro s _ x hx; simp at hx
  | cons y l ih =>
    intro s h x hx
    simp only [checkGo] at h
    split at h
    · rcases List.mem_cons.1 hx with rfl | hx
      · assumption
      · exact ih h x hx
    · contradiction
theorem check_ok {l : List Item} (h : check l = 0) : ∀ x ∈ l, checkItem x = 0 := by
  unfold check at h
  split at h
  · omega
  · exact checkGo_ok h

structure ItemOk (x : Item) : Prop where
  k1 : 1 ≤ x.kind
  k3 : x.kind ≤ 3
  w0 : 0 ≤ x.width
  w1 : x.width ≤ 1073741824
  s0 : 0 ≤ x.stretch
  s1 : x.stretch ≤ 1073741824
  h0 : 0 ≤ x.shrink
  h1 : x.shrink ≤ 1073741824
  p : x.penalty = -10000 ∨ (0 ≤ x.penalty ∧ x.penalty ≤ 10000)
  sz : x.kind ≠ 2 → x.stretch = 0 ∧ x.shrink = 0
  pz : x.kind ≠ 3 → x.penalty = 0
  tz : x.kind = 2 → x.text = []

theorem checkItem_iff {x : Item} : checkItem x = 0 ↔ ItemOk x := by
  unfold checkItem isLen
  constructor
  · intro h
    split at h
    · omega
    · split at h
      · omega
      · split at h
        · omega
        · split at h
          · omega
          · rename_i h1 h2 h3 h4
            simp only [Bool.and_eq_true, decide_eq_true_eq, Decidable.not_not] at h2
            simp only [not_or, not_and, Decidable.not_not] at h4
            refine ⟨by omega, by omega, by omega, by omega, by omega, by omega, by omega, by omega, by omega, fun h => ?_, fun h => h4.2.1 h, fun h => h4.2.2 h⟩
            have := h4.1 h
            omega
  · intro h
    obtain ⟨a1, a2, a3, a4, a5, a6, a7, a8, a9, b1, b2, b3⟩ := h
    rw [if_neg (by omega), if_neg (by simp only [Bool.and_eq_true, decide_eq_true_eq]; omega), if_neg (by omega), if_neg]
    rintro (⟨h, h'⟩ | ⟨h, h'⟩ | ⟨h, h'⟩)
    · have := b1 h; omega
    · exact h' (b2 h)
    · exact h' (b3 h)

theorem items_ok {l : List Item} (h : check l = 0) {i : Nat} (hi : i < l.length) : ItemOk (it l i) := checkItem_iff.1 (check_ok h _ (it_mem hi))

theorem badness_nonneg (c t : Int) : 0 ≤ badness c t ∧ badness c t ≤ 10000 := by
  unfold badness
  split
  · omega
  · split
    · omega
    · refine ⟨?_, Int.min_le_left _ _⟩
      rename_i h1 h2
      have h3 : 0 ≤ min (max c (-c)) 1073741824 := by omega
      have h4 : 0 ≤ min t 1073741824 := by omega
      have := Int.ediv_nonneg (Int.mul_nonneg (by omega : (0:Int) ≤ 100) (@Int.pow_nonneg _ 3 h3)) (@Int.pow_nonneg _ 3 h4)
      omega

theorem fit_nonneg (l : List Item) (width n st sh : Int) (to : Nat) : 0 ≤ (fit l width n st sh to).1 ∧ (fit l width n st sh to).1 ≤ 10000 := by
  unfold fit
  simp only
  generalize (width - (if atBreak l to then n + (it l to).width else n)) = d
  have h1 := badness_nonneg d st
  have h2 := badness_nonneg (-d) sh
  by_cases c1 : 0 ≤ d
  · rw [if_pos c1]
    split
    · simp
    · exact h1
  · rw [if_neg c1]
    split
    · exact h2
    · simp

theorem penalty_nonneg {l : List Item} (h : check l = 0) (to : Nat) : 0 ≤ penalty l to ∧ penalty l to ≤ 10000 := by
  unfold penalty atBreak forced
  split
  · rename_i hc
    simp only [Bool.and_eq_true, decide_eq_true_eq, Bool.not_eq_true', Bool.and_eq_false_iff, decide_eq_false_iff_not] at hc
    have := (items_ok h hc.1.1).p
    omega
  · omega

theorem arc_nonneg {l : List Item} {width : Int} (h : check l = 0) {a b : Nat} {c : Int} (hc : arc l width a b = some c) : 0 ≤ c ∧ c ≤ 20000 := by
  unfold arc cost at hc
  split at hc
  · split at hc
    · cases hc
      have h1 := fit_nonneg l width (sumOf Item.width l (begin_ l a b) b) (sumOf Item.stretch l (begin_ l a b) b) (sumOf Item.shrink l (begin_ l a b) b) b
      have h2 := penalty_nonneg h b
      unfold lineOf
      omega
    · cases hc
  · cases hc

theorem arcs_nonneg {l : List Item} {width : Int} (h : check l = 0) (j : Nat) : ∀ x ∈ arcs l width j, 0 ≤ x.2 := by
  rintro ⟨to, c⟩ hx
  exact (arc_nonneg h (mem_arcs.1 hx).2.2).1

theorem pots_at {l : List Item} {width : Int} (h : check l = 0) (j : Nat) (hj : j ≤ l.length) : PotAt l.length (pots l width) (arcs l width j) ((pots l width).getD j 0) := by
  rw [pots_get l width j hj]
  exact least_spec _ _ _ (arcs_nonneg h j)
end P48

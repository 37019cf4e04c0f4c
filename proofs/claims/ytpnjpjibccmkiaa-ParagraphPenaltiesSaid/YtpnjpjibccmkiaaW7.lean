import Derived.Test.YtpnjpjibccmkiaaW6
import Derived.Test.YtpnjpjibccmkiaaAfM
set_option linter.all false
set_option linter.unusedSimpArgs false
set_option linter.unusedVariables false
set_option linter.unusedSectionVars false
open Go Go.Proofs AF P48
set_option maxRecDepth 100000

theorem chunk {f : Nat → List AV} {sz : Nat} : ∀ {n i : Nat}, (∀ j, j < n → (f j).length = sz) → i < n → (((List.range n).flatMap f).drop (i * sz)).take sz = f i := by
  intro n
  induction n with
  | zero => intro i _ h; omega
  | succ n ih =>
    intro i h hi
    have hl : ∀ m, m ≤ n + 1 → ((List.range m).flatMap f).length = m * sz := by
      intro m
      induction m with
      | zero => simp
      | succ m ihm => intro hm; rw [List.range_succ, List.flatMap_append, List.length_append, ihm (by omega)]; simp [h m (by omega), Nat.succ_mul]
    rw [List.range_succ, List.flatMap_append]
    by_cases e : i = n
    · subst e
      rw [List.drop_append_of_le_length (by rw [hl i (by omega)]; exact Nat.le_refl _), ← hl i (by omega), List.drop_length]
      simp [List.take_of_length_le (Nat.le_of_eq (h i (by omega)))]
    · have hle : i * sz + sz ≤ ((List.range n).flatMap f).length := by
        rw [hl n (by omega), ← Nat.succ_mul]
        exact Nat.mul_le_mul_right sz (by omega)
      rw [List.drop_append_of_le_length (by omega), List.take_append_of_le_length (by rw [List.length_drop]; omega)]
      exact ih (fun j hj => h j (by omega)) (by omega)
def cellsIt (l : List It) : List AV := l.flatMap itemC
theorem cellsIt_range (l : List It) : (List.range l.length).flatMap (fun i => itemC (it l i)) = cellsIt l := by
  have : l = (List.range l.length).map (it l) := by
    apply List.ext_getElem
    · simp
    · intro i h1 h2; simp [it_eq h1]
  unfold cellsIt
  conv => rhs; rw [this]
  rw [List.flatMap_map]
theorem cellsIt_len (l : List It) : (cellsIt l).length = l.length * 6 := by
  induction l with
  | nil => rfl
  | cons x l ih => unfold cellsIt at *; rw [List.flatMap_cons, List.length_append, ih, len_itemC, List.length_cons]; omega
theorem cellsIt_low (l : List It) (n : Nat) : ∀ c ∈ cellsIt l, lowV n c = true := by
  intro c hc
  unfold cellsIt at hc
  rw [List.mem_flatMap] at hc
  obtain ⟨x, _, hx⟩ := hc
  unfold itemC at hx
  simp at hx
  rcases hx with rfl | rfl | rfl | rfl | rfl | rfl <;> rfl
theorem t12 (l : List It) (h : List AObj) (k : Nat) (hk : site h k = true) (h0 : l.length ≠ 0) (hl : l.length ≤ 1000000) :
    ACalls Try.prog 12 [items l] h (.osl k (verOf (getO k h) + 1) 6 0 l.length) (setO k h (.mem (verOf (getO k h) + 1) 28 (cellsIt l))) := by
  refine acallsM fn12 k (by simp) ?_
  simp only [List.length_cons, List.length_nil, Nat.reduceAdd, Nat.reduceSub, List.replicate, List.cons_append, List.nil_append, List.append_nil]
  simp (disch := omega) only [c12, items, h0, madeA, cellsIt_range, cellsIt_len, go_sem, wrap64_id, Int.tdiv_eq_ediv_of_nonneg, Int.tmod_eq_emod_of_nonneg]
  exact ⟨by repeat' (first | rfl | omega | (with_reducible refine And.intro ?_ ?_)), h.length + 1, 2, 6, 0, l.length, 28, cellsIt l, [AObj.emp 1, AObj.mem 2 28 (cellsIt l), AObj.emp 0], ⟨trivial, trivial⟩, rfl, rfl, by omega, by simp only [go_sem], cellsIt_low l _, hk, rfl, rfl⟩
theorem items_nil {f : Nat → List AV} : VLe (.sl 0 f) (items []) := VLe_sl0
theorem t12e (h : List AObj) : ACalls Try.prog 12 [items []] h (items []) h := by
  refine acalls_of fn12 (by simp) ?_
  simp only [List.length_cons, List.length_nil, Nat.reduceAdd, Nat.reduceSub, List.replicate, List.cons_append, List.nil_append, List.append_nil]
  simp (disch := omega) only [c12, items, madeA, List.range_zero, List.flatMap_nil, go_sem, wrap64_id, Int.tdiv_eq_ediv_of_nonneg, Int.tmod_eq_emod_of_nonneg]
  repeat' first
    | (with_reducible refine And.intro ?_ ?_)
    | (with_reducible intro _)
  all_goals first
    | omega
    | rfl
    | skip
  · refine fnQ_pure1 ⟨trivial, trivial⟩ ?_
    simp only [go_sem]
    exact VLe_nl
  · refine fnQ_pure1 ⟨trivial, trivial⟩ ?_
    simp only [go_sem]
    exact VLe_sl0
theorem t28 (a b : List Int) (h : List AObj) (hl : a.length ≤ 1000000) : ACalls Try.prog 28 [ints a, ints b] h (.bool (decide (a = b))) h := by
  refine acalls_of fn28 (by simp) ?_
  simp only [List.length_cons, List.length_nil, Nat.reduceAdd, Nat.reduceSub, List.replicate, List.cons_append, List.nil_append, List.append_nil]
  simp (disch := omega) only [c28, ints, go_sem, wrap64_id, Int.tdiv_eq_ediv_of_nonneg, Int.tmod_eq_emod_of_nonneg]
  repeat' first
    | (with_reducible refine And.intro ?_ ?_)
    | (with_reducible intro _)
  all_goals first
    | omega
    | skip
  · rename_i h1
    repeat' first
      | ((first | refine fnQ_pure1 (by first | exact ⟨trivial, trivial⟩ | exact ⟨trivial, trivial, trivial⟩ | exact ⟨trivial, trivial, trivial, trivial⟩ | simp [go_sem]) ?_ | refine fnQ_pure0 (by first | exact ⟨trivial, trivial⟩ | exact ⟨trivial, trivial, trivial⟩ | exact ⟨trivial, trivial, trivial, trivial⟩ | simp [go_sem]) ?_); simp only [go_sem]; (first | exact VLe.refl _ | refine VLe_int ?_ | refine VLe_bool ?_ | refine VLe_str ?_ | skip))
      | (with_reducible refine And.intro ?_ ?_)
      | with_reducible intro _
    have : a ≠ b := by rintro rfl; exact h1 rfl
    simp [this]
  · rename_i h1
    refine loop_of (T := fun i : Nat => spar 26 [(0, ints a), (1, ints b), (12, .int .i64 a.length), (13, .int .i64 i)]) (H := fun _ => h)
      (inv := fun i => i ≤ a.length ∧ a.take i = b.take i) (m := fun i => a.length - i) 0 ⟨by omega, by simp⟩ (Wk.temps ?_) ?_
    · simp only [ints, spar, List.foldl, List.replicate, go_sem, VLes_nil, VLes_cons, VLe_undef_iff, VLe_self]
      try (repeat' first | (with_reducible refine And.intro ?_ ?_) | (refine VLe_int ?_; omega) | (refine VLe_bool ?_; rfl))
    · rintro i ⟨i1, i2⟩ K hK
      by_cases hi : i < a.length
      · simp (disch := omega) only [spar, ints, List.foldl, List.replicate, go_sem, wrap64_id, Int.tdiv_eq_ediv_of_nonneg, Int.tmod_eq_emod_of_nonneg]
        repeat' first
          | ((first | refine fnQ_pure1 (by first | exact ⟨trivial, trivial⟩ | exact ⟨trivial, trivial, trivial⟩ | exact ⟨trivial, trivial, trivial, trivial⟩ | simp [go_sem]) ?_ | refine fnQ_pure0 (by first | exact ⟨trivial, trivial⟩ | exact ⟨trivial, trivial, trivial⟩ | exact ⟨trivial, trivial, trivial, trivial⟩ | simp [go_sem]) ?_); simp only [go_sem]; (first | exact VLe.refl _ | refine VLe_int ?_ | refine VLe_bool ?_ | refine VLe_str ?_ | skip))
          | (with_reducible refine And.intro ?_ ?_)
          | with_reducible intro _
        all_goals first
          | omega
          | skip
        · rename_i h2 h3
          have : a ≠ b := by rintro rfl; exact h3 rfl
          simp [this]
        · rename_i h2 h3
          refine hK _ _ (i + 1) ⟨by omega, ?_⟩ (by omega) (Wk.temps ?_)
          · have e1 : a[i]? = b[i]? := by
              have hb : i < b.length := by omega
              simp [hi, hb] at h3
              simp [hi, hb, h3]
            rw [List.take_add_one, List.take_add_one, i2, e1]
          · simp only [ints, spar, List.foldl, List.replicate, go_sem, VLes_nil, VLes_cons, VLe_undef_iff, VLe_self]
            try (repeat' first | (with_reducible refine And.intro ?_ ?_) | (refine VLe_int ?_; omega) | (refine VLe_bool ?_; rfl))
      · have e : i = a.length := by omega
        subst e
        simp (disch := omega) only [spar, ints, List.foldl, List.replicate, go_sem, wrap64_id, Int.tdiv_eq_ediv_of_nonneg, Int.tmod_eq_emod_of_nonneg]
        repeat' first
          | ((first | refine fnQ_pure1 (by first | exact ⟨trivial, trivial⟩ | exact ⟨trivial, trivial, trivial⟩ | exact ⟨trivial, trivial, trivial, trivial⟩ | simp [go_sem]) ?_ | refine fnQ_pure0 (by first | exact ⟨trivial, trivial⟩ | exact ⟨trivial, trivial, trivial⟩ | exact ⟨trivial, trivial, trivial, trivial⟩ | simp [go_sem]) ?_); simp only [go_sem]; (first | exact VLe.refl _ | refine VLe_int ?_ | refine VLe_bool ?_ | refine VLe_str ?_ | skip))
          | (with_reducible refine And.intro ?_ ?_)
          | with_reducible intro _
        all_goals first
          | omega
          | skip
        rw [List.take_length, List.take_of_length_le (by omega)] at i2
        simp [i2]
def threeS : List It := [⟨1, 30, 0, 0, 0, [97, 98, 99]⟩, ⟨2, 10, 5, 3, 0, []⟩, ⟨1, 30, 0, 0, 0, [97, 98, 99]⟩, ⟨2, 10, 5, 3, 0, []⟩, ⟨1, 30, 0, 0, 0, [97, 98, 99]⟩]
theorem t37 (h : List AObj) : ACalls Try.prog 37 [] h (items threeS) h := by
  refine acalls_of fn37 (by simp) ?_
  simp only [List.length_cons, List.length_nil, Nat.reduceAdd, Nat.reduceSub, List.replicate, List.cons_append, List.nil_append, List.append_nil]
  simp (disch := omega) only [c37, madeA, go_sem, wrap64_id, Int.tdiv_eq_ediv_of_nonneg, Int.tmod_eq_emod_of_nonneg]
  repeat' first
    | (with_reducible refine And.intro ?_ ?_)
    | (with_reducible intro _)
  all_goals first
    | omega
    | rfl
    | skip
  refine fnQ_pure1 ⟨trivial, trivial⟩ ?_
  simp only [go_sem]
  refine VLe_sl rfl (fun i hi => ?_)
  have : i = 0 ∨ i = 1 ∨ i = 2 ∨ i = 3 ∨ i = 4 := by have : i < 5 := hi; omega
  rcases this with rfl | rfl | rfl | rfl | rfl <;> rfl

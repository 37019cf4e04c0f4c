import Derived.Test.YtbccfgnihmfgmaaH5
import Derived.Test.YtbccfgnihmfgmaaG2
set_option linter.all false
set_option linter.unusedSimpArgs false
set_option linter.unusedVariables false
set_option linter.unusedSectionVars false
section
/-! the text W6 -/
open Go Go.Proofs AF P48
set_option maxRecDepth 100000

theorem t73 (x : It) (h : List AObj) : ACalls Try.prog 73 [.agg (itemC x)] h (.int .i64 (checkItem x)) h := by
  refine acalls_of fn73 (by simp) ?_
  simp only [List.length_cons, List.length_nil, Nat.reduceAdd, Nat.reduceSub, List.replicate, List.cons_append, List.nil_append, List.append_nil]
  simp (disch := omega) only [c73, itemC, go_sem, wrap64_id, Int.tdiv_eq_ediv_of_nonneg, Int.tmod_eq_emod_of_nonneg]
  repeat' first
    | ((first | refine callA_pure (t68 _ _) ?_ ?_); (next => repeat' first | exact flags_n | refine flags_c (by first | rfl | assumption) ?_); simp (disch := omega) only [go_sem, wrap64_id, Int.tdiv_eq_ediv_of_nonneg, Int.tmod_eq_emod_of_nonneg])
    | ((first | refine callG_pure (fun e => ⟨?_, t68 _ _⟩) ?_); (next => repeat' first | exact flags_n | refine flags_c (by first | rfl | assumption) ?_); simp (disch := omega) only [go_sem, wrap64_id, Int.tdiv_eq_ediv_of_nonneg, Int.tmod_eq_emod_of_nonneg])
    | ((first | refine fnQ_pure1 ?_ ?_ | refine fnQ_pure0 ?_ ?_); (next => repeat' first | exact rvs_n | refine rvs_t ?_ | (simp [go_sem]; done)); simp only [go_sem]; (first | exact VLe.refl _ | refine VLe_int ?_ | refine VLe_bool ?_ | refine VLe_str ?_ | skip))
    | (with_reducible refine And.intro ?_ ?_)
    | with_reducible intro _
  all_goals first
    | omega
    | grind [checkItem]

theorem t35 (l : List It) (h : List AObj) (hl : l.length ≤ 9223372036854775807) : ACalls Try.prog 35 [items l] h (.int .i64 (check l)) h := by
  refine acalls_of fn35 (by simp) ?_
  simp only [List.length_cons, List.length_nil, Nat.reduceAdd, Nat.reduceSub, List.replicate, List.cons_append, List.nil_append, List.append_nil]
  simp (disch := omega) only [c35, items, itemC, go_sem, wrap64_id, Int.tdiv_eq_ediv_of_nonneg, Int.tmod_eq_emod_of_nonneg]
  repeat' first
    | (with_reducible refine And.intro ?_ ?_)
    | (with_reducible intro _)
  all_goals first
    | omega
    | skip
  · repeat' first
      | ((first | refine fnQ_pure1 ?_ ?_ | refine fnQ_pure0 ?_ ?_); (next => repeat' first | exact rvs_n | refine rvs_t ?_ | (simp [go_sem]; done)); simp only [go_sem]; (first | exact VLe.refl _ | refine VLe_int ?_ | refine VLe_bool ?_ | refine VLe_str ?_ | skip))
      | (with_reducible refine And.intro ?_ ?_)
      | with_reducible intro _
    simp [check]; omega
  · rename_i hlen
    refine loop_of (T := fun i : Nat × Int × AObj => spar 34 [(3, .int .i64 i.2.1), (10, items l), (11, .int .i64 l.length), (12, .int .i64 i.1)]) (H := fun i => h ++ [i.2.2])
      (inv := fun i => i.1 ≤ l.length ∧ site [i.2.2] 0 = true ∧ checkGo (l.drop i.1) i.2.1 = check l ∧ 0 ≤ i.2.1 ∧ i.2.1 ≤ 4000000000 * i.1) (m := fun i => l.length - i.1) (0, 0, .emp 0)
      ⟨by simp only; omega, rfl, by simp only [check, List.drop_zero]; rw [if_neg (by omega)], by simp only; omega, by simp only; omega⟩ (Wk.temps ?_) ?_
    · simp only [items, itemC, spar, List.foldl, List.replicate, go_sem, VLes_nil, VLes_cons, VLe_undef_iff, VLe_self]
      try (repeat' first | (with_reducible refine And.intro ?_ ?_) | (refine VLe_int ?_; omega) | (refine VLe_bool ?_; rfl))
    · rintro ⟨i, s, O⟩ ⟨i1, i2, i3, i4, i5⟩ K hK
      simp only at i1 i2 i3 i4 i5 hK
      by_cases hi : i < l.length
      · rw [drop_it hi, checkGo] at i3
        by_cases hx : checkItem (it l i) = 0
        · rw [if_pos hx] at i3
          obtain ⟨a1, a2, a3, a4, a5, a6, a7, a8, a9, b1, b2, b3⟩ := checkItem_iff.1 hx
          simp (disch := omega) only [spar, items, itemC, List.foldl, List.replicate, i2, go_sem, wrap64_id, Int.tdiv_eq_ediv_of_nonneg, Int.tmod_eq_emod_of_nonneg]
          repeat' first
            | ((first | refine callA_pure (t72 (it l i) _) ?_ ?_); (next => repeat' first | exact flags_n | refine flags_c (by first | rfl | assumption) ?_); simp (disch := omega) only [go_sem, wrap64_id, Int.tdiv_eq_ediv_of_nonneg, Int.tmod_eq_emod_of_nonneg])
            | ((first | refine callG_pure (fun e => ⟨?_, t72 (it l i) _⟩) ?_); (next => repeat' first | exact flags_n | refine flags_c (by first | rfl | assumption) ?_); simp (disch := omega) only [go_sem, wrap64_id, Int.tdiv_eq_ediv_of_nonneg, Int.tmod_eq_emod_of_nonneg])
            | ((first | refine fnQ_pure1 ?_ ?_ | refine fnQ_pure0 ?_ ?_); (next => repeat' first | exact rvs_n | refine rvs_t ?_ | (simp [go_sem]; done)); simp only [go_sem]; (first | exact VLe.refl _ | refine VLe_int ?_ | refine VLe_bool ?_ | refine VLe_str ?_ | skip))
            | (with_reducible refine And.intro ?_ ?_)
            | with_reducible intro _
          all_goals first
            | omega
            | skip
          refine hK _ _ (i + 1, s + (it l i).width + (it l i).stretch + (it l i).shrink, .mem (verOf (some O) + 1) 28 (itemC (it l i))) ⟨by simp only; omega, rfl, i3, by simp only; omega, by simp only; omega⟩ (by simp only; omega) (Wk.temps ?_)
          simp only [items, itemC, spar, List.foldl, List.replicate, go_sem, VLes_nil, VLes_cons, VLe_undef_iff, VLe_self]
          try (repeat' first | (with_reducible refine And.intro ?_ ?_) | (refine VLe_int ?_; omega) | (refine VLe_bool ?_; rfl))
        · rw [if_neg hx] at i3
          simp (disch := omega) only [spar, items, itemC, List.foldl, List.replicate, i2, go_sem, wrap64_id, Int.tdiv_eq_ediv_of_nonneg, Int.tmod_eq_emod_of_nonneg]
          repeat' first
            | ((first | refine callA_pure (t72 (it l i) _) ?_ ?_); (next => repeat' first | exact flags_n | refine flags_c (by first | rfl | assumption) ?_); simp (disch := omega) only [go_sem, wrap64_id, Int.tdiv_eq_ediv_of_nonneg, Int.tmod_eq_emod_of_nonneg])
            | ((first | refine callG_pure (fun e => ⟨?_, t72 (it l i) _⟩) ?_); (next => repeat' first | exact flags_n | refine flags_c (by first | rfl | assumption) ?_); simp (disch := omega) only [go_sem, wrap64_id, Int.tdiv_eq_ediv_of_nonneg, Int.tmod_eq_emod_of_nonneg])
            | ((first | refine fnQ_pure1 ?_ ?_ | refine fnQ_pure0 ?_ ?_); (next => repeat' first | exact rvs_n | refine rvs_t ?_ | (simp [go_sem]; done)); simp only [go_sem]; (first | exact VLe.refl _ | refine VLe_int ?_ | refine VLe_bool ?_ | refine VLe_str ?_ | skip))
            | (with_reducible refine And.intro ?_ ?_)
            | with_reducible intro _
          all_goals first
            | omega
            | exact i3
      · have e : i = l.length := by omega
        subst e
        rw [List.drop_length, checkGo] at i3
        simp (disch := omega) only [spar, items, itemC, List.foldl, List.replicate, i2, go_sem, wrap64_id, Int.tdiv_eq_ediv_of_nonneg, Int.tmod_eq_emod_of_nonneg]
        repeat' first
          | ((first | refine fnQ_pure1 ?_ ?_ | refine fnQ_pure0 ?_ ?_); (next => repeat' first | exact rvs_n | refine rvs_t ?_ | (simp [go_sem]; done)); simp only [go_sem]; (first | exact VLe.refl _ | refine VLe_int ?_ | refine VLe_bool ?_ | refine VLe_str ?_ | skip))
          | (with_reducible refine And.intro ?_ ?_)
          | with_reducible intro _
        all_goals first
          | omega
          | grind

theorem check_first {l : List It} (i : Nat) (hi : i < l.length) (h : ∀ j, j < i → checkItem (it l j) = 0) (hx : ¬ checkItem (it l i) = 0) : checkGo l 0 = checkItem (it l i) := by
  generalize (0 : Int) = s
  induction l generalizing i s with
  | nil => simp at hi
  | cons x l ih =>
    cases i with
    | zero => simp only [checkGo]; rw [if_neg (by simpa [it] using hx)]; rfl
    | succ i =>
      have h0 := h 0 (by omega)
      simp only [checkGo]
      rw [if_pos (by simpa [it] using h0)]
      have := ih i (by simpa using hi) (fun j hj => by have := h (j + 1) (by omega); simpa [it] using this) (by simpa [it] using hx) (s + x.width + x.stretch + x.shrink)
      simpa [it] using this
theorem checkGo_big : ∀ (l : List It) (s : Int), (∀ x ∈ l, checkItem x = 0) → 1073741824 < s → checkGo l s = 4 := by
  intro l
  induction l with
  | nil => intro s _ h; simp [checkGo, h]
  | cons x l ih =>
    intro s hx h
    have := checkItem_iff.1 (hx x (by simp))
    obtain ⟨a1, a2, a3, a4, a5, a6, a7, a8, a9, b1, b2, b3⟩ := this
    simp only [checkGo]
    rw [if_pos (hx x (by simp))]
    exact ih _ (fun y hy => hx y (by simp [hy])) (by omega)
theorem i2' {l : List It} (h : ∀ j, j < l.length → checkItem (it l j) = 0) : ∀ x ∈ l, checkItem x = 0 := by
  intro x hx
  obtain ⟨j, hj, rfl⟩ := List.getElem_of_mem hx
  rw [← it_eq hj]
  exact h j hj
theorem t38 (l : List It) (width : Int) (h : List AObj) (hl : l.length ≤ 9223372036854775807) : ACalls Try.prog 38 [items l, .int .i64 width] h (.int .i64 (checkW l width)) h := by
  refine acalls_of fn38 (by simp) ?_
  simp only [List.length_cons, List.length_nil, Nat.reduceAdd, Nat.reduceSub, List.replicate, List.cons_append, List.nil_append, List.append_nil]
  simp (disch := omega) only [c38, go_sem, wrap64_id, Int.tdiv_eq_ediv_of_nonneg, Int.tmod_eq_emod_of_nonneg]
  repeat' first
    | ((first | refine callA_pure (t35 l _ hl) ?_ ?_ | refine callA_pure (t63 _ _) ?_ ?_); (next => repeat' first | exact flags_n | refine flags_c (by first | rfl | assumption) ?_); simp (disch := omega) only [go_sem, wrap64_id, Int.tdiv_eq_ediv_of_nonneg, Int.tmod_eq_emod_of_nonneg])
    | ((first | refine callG_pure (fun e => ⟨?_, t35 l _ hl⟩) ?_ | refine callG_pure (fun e => ⟨?_, t63 _ _⟩) ?_); (next => repeat' first | exact flags_n | refine flags_c (by first | rfl | assumption) ?_); simp (disch := omega) only [go_sem, wrap64_id, Int.tdiv_eq_ediv_of_nonneg, Int.tmod_eq_emod_of_nonneg])
    | ((first | refine fnQ_pure1 ?_ ?_ | refine fnQ_pure0 ?_ ?_); (next => repeat' first | exact rvs_n | refine rvs_t ?_ | (simp [go_sem]; done)); simp only [go_sem]; (first | exact VLe.refl _ | refine VLe_int ?_ | refine VLe_bool ?_ | refine VLe_str ?_ | skip))
    | (with_reducible refine And.intro ?_ ?_)
    | with_reducible intro _
  all_goals first
    | omega
    | grind [checkW]
theorem t22 (l : List It) (h : List AObj) (hl : l.length ≤ 9223372036854775807) : ACalls Try.prog 22 [items l] h (.bool (great l)) h := by
  refine acalls_of fn22 (by simp) ?_
  simp only [List.length_cons, List.length_nil, Nat.reduceAdd, Nat.reduceSub, List.replicate, List.cons_append, List.nil_append, List.append_nil]
  simp (disch := omega) only [c22, items, itemC, go_sem, wrap64_id, Int.tdiv_eq_ediv_of_nonneg, Int.tmod_eq_emod_of_nonneg]
  refine loop_of (T := fun i : Nat => spar 20 [(0, items l), (3, .int .i64 i)]) (H := fun _ => h)
      (inv := fun i => i ≤ l.length ∧ ((l.drop i).any (fun x => decide (20 < x.text.length)) || decide (14 < l.length)) = great l) (m := fun i => l.length - i) 0
      ⟨by omega, rfl⟩ (Wk.temps ?_) ?_
  · simp only [items, itemC, spar, List.foldl, List.replicate, go_sem, VLes_nil, VLes_cons, VLe_undef_iff, VLe_self]
    try (repeat' first | (with_reducible refine And.intro ?_ ?_) | (refine VLe_int ?_; omega) | (refine VLe_bool ?_; rfl))
  · rintro i ⟨i1, i2⟩ K hK
    by_cases hi : i < l.length
    · rw [drop_it hi, List.any_cons] at i2
      simp (disch := omega) only [spar, items, itemC, List.foldl, List.replicate, go_sem, wrap64_id, Int.tdiv_eq_ediv_of_nonneg, Int.tmod_eq_emod_of_nonneg]
      repeat' first
        | ((first | refine fnQ_pure1 ?_ ?_ | refine fnQ_pure0 ?_ ?_); (next => repeat' first | exact rvs_n | refine rvs_t ?_ | (simp [go_sem]; done)); simp only [go_sem]; (first | exact VLe.refl _ | refine VLe_int ?_ | refine VLe_bool ?_ | refine VLe_str ?_ | skip))
        | (with_reducible refine And.intro ?_ ?_)
        | with_reducible intro _
      all_goals first
        | omega
        | skip
      · rename_i h1 h2
        simpa [show 20 < (it l i).text.length by omega] using i2
      · rename_i h1 h2
        refine hK _ _ (i + 1) ⟨by omega, ?_⟩ (by omega) (Wk.temps ?_)
        · simpa [show ¬ 20 < (it l i).text.length by omega] using i2
        · simp only [items, itemC, spar, List.foldl, List.replicate, go_sem, VLes_nil, VLes_cons, VLe_undef_iff, VLe_self]
          try (repeat' first | (with_reducible refine And.intro ?_ ?_) | (refine VLe_int ?_; omega) | (refine VLe_bool ?_; rfl))
    · have e : i = l.length := by omega
      subst e
      simp (disch := omega) only [spar, items, itemC, List.foldl, List.replicate, go_sem, wrap64_id, Int.tdiv_eq_ediv_of_nonneg, Int.tmod_eq_emod_of_nonneg]
      repeat' first
        | ((first | refine fnQ_pure1 ?_ ?_ | refine fnQ_pure0 ?_ ?_); (next => repeat' first | exact rvs_n | refine rvs_t ?_ | (simp [go_sem]; done)); simp only [go_sem]; (first | exact VLe.refl _ | refine VLe_int ?_ | refine VLe_bool ?_ | refine VLe_str ?_ | skip))
        | (with_reducible refine And.intro ?_ ?_)
        | with_reducible intro _
      all_goals first
        | omega
        | skip
      rw [← i2, List.drop_length]
      simp
      omega
theorem t36 (l : List It) (h : List AObj) (hl : l.length ≤ 9223372036854775807) : ACalls Try.prog 36 [items l] h (.int .i64 (check l)) h := by
  refine acalls_of fn36 (by simp) ?_
  simp only [List.length_cons, List.length_nil, Nat.reduceAdd, Nat.reduceSub, List.replicate, List.cons_append, List.nil_append, List.append_nil]
  simp (disch := omega) only [c36, items, itemC, go_sem, wrap64_id, Int.tdiv_eq_ediv_of_nonneg, Int.tmod_eq_emod_of_nonneg]
  repeat' first
    | (with_reducible refine And.intro ?_ ?_)
    | (with_reducible intro _)
  all_goals first
    | omega
    | skip
  · repeat' first
      | ((first | refine fnQ_pure1 ?_ ?_ | refine fnQ_pure0 ?_ ?_); (next => repeat' first | exact rvs_n | refine rvs_t ?_ | (simp [go_sem]; done)); simp only [go_sem]; (first | exact VLe.refl _ | refine VLe_int ?_ | refine VLe_bool ?_ | refine VLe_str ?_ | skip))
      | (with_reducible refine And.intro ?_ ?_)
      | with_reducible intro _
    simp [check]; omega
  · rename_i hlen
    have ec : check l = checkGo l 0 := by unfold check; rw [if_neg (by omega)]
    rw [ec]
    refine loop_of (T := fun i : Nat => spar 51 [(0, items l), (3, .int .i64 i)]) (H := fun _ => h)
      (inv := fun i => i ≤ l.length ∧ (∀ j, j < i → checkItem (it l j) = 0)) (m := fun i => l.length - i) 0
      ⟨by omega, by omega⟩ (Wk.temps ?_) ?_
    · simp only [items, itemC, spar, List.foldl, List.replicate, go_sem, VLes_nil, VLes_cons, VLe_undef_iff, VLe_self]
      try (repeat' first | (with_reducible refine And.intro ?_ ?_) | (refine VLe_int ?_; omega) | (refine VLe_bool ?_; rfl))
    · rintro i ⟨i1, i2⟩ K hK
      by_cases hi : i < l.length
      · simp (disch := omega) only [spar, items, itemC, List.foldl, List.replicate, go_sem, wrap64_id, Int.tdiv_eq_ediv_of_nonneg, Int.tmod_eq_emod_of_nonneg]
        repeat' first
          | ((first | refine callA_pure (t73 (it l i) _) ?_ ?_); (next => repeat' first | exact flags_n | refine flags_c (by first | rfl | assumption) ?_); simp (disch := omega) only [go_sem, wrap64_id, Int.tdiv_eq_ediv_of_nonneg, Int.tmod_eq_emod_of_nonneg])
          | ((first | refine callG_pure (fun e => ⟨?_, t73 (it l i) _⟩) ?_); (next => repeat' first | exact flags_n | refine flags_c (by first | rfl | assumption) ?_); simp (disch := omega) only [go_sem, wrap64_id, Int.tdiv_eq_ediv_of_nonneg, Int.tmod_eq_emod_of_nonneg])
          | ((first | refine fnQ_pure1 ?_ ?_ | refine fnQ_pure0 ?_ ?_); (next => repeat' first | exact rvs_n | refine rvs_t ?_ | (simp [go_sem]; done)); simp only [go_sem]; (first | exact VLe.refl _ | refine VLe_int ?_ | refine VLe_bool ?_ | refine VLe_str ?_ | skip))
          | (with_reducible refine And.intro ?_ ?_)
          | with_reducible intro _
        all_goals first
          | omega
          | skip
        · rename_i h1 h2
          exact (check_first i hi i2 h2).symm
        · rename_i h1 h2
          refine hK _ _ (i + 1) ⟨by omega, fun j hj => ?_⟩ (by omega) (Wk.temps ?_)
          · rcases Nat.lt_succ_iff_lt_or_eq.1 hj with h3 | rfl
            · exact i2 j h3
            · exact h2
          · simp only [items, itemC, spar, List.foldl, List.replicate, go_sem, VLes_nil, VLes_cons, VLe_undef_iff, VLe_self]
            try (repeat' first | (with_reducible refine And.intro ?_ ?_) | (refine VLe_int ?_; omega) | (refine VLe_bool ?_; rfl))
      · have e : i = l.length := by omega
        subst e
        simp (disch := omega) only [spar, items, itemC, List.foldl, List.replicate, go_sem, wrap64_id, Int.tdiv_eq_ediv_of_nonneg, Int.tmod_eq_emod_of_nonneg]
        refine ⟨fun hc => absurd hc (by omega), fun _ => ?_⟩
        refine loop_of (T := fun i : Nat × Int => spar 51 [(0, items l), (5, .int .i64 i.2), (6, .int .i64 i.1)]) (H := fun _ => h)
          (inv := fun i => i.1 ≤ l.length ∧ checkGo (l.drop i.1) i.2 = checkGo l 0 ∧ 0 ≤ i.2 ∧ i.2 ≤ 1073741824) (m := fun i => l.length - i.1) (0, 0)
          ⟨by simp only; omega, rfl, by simp only; omega, by simp only; omega⟩ (Wk.temps ?_) ?_
        · simp only [items, itemC, spar, List.foldl, List.replicate, go_sem, VLes_nil, VLes_cons, VLe_undef_iff, VLe_self]
          try (repeat' first | (with_reducible refine And.intro ?_ ?_) | (refine VLe_int ?_; omega) | (refine VLe_bool ?_; rfl))
        · rintro ⟨i, s⟩ ⟨j1, j2, j3, j4⟩ K hK
          simp only at j1 j2 j3 j4 hK
          by_cases hi : i < l.length
          · rw [drop_it hi, checkGo, if_pos (i2 i hi)] at j2
            obtain ⟨a1, a2, a3, a4, a5, a6, a7, a8, a9, b1, b2, b3⟩ := checkItem_iff.1 (i2 i hi)
            simp (disch := omega) only [spar, items, itemC, List.foldl, List.replicate, go_sem, wrap64_id, Int.tdiv_eq_ediv_of_nonneg, Int.tmod_eq_emod_of_nonneg]
            repeat' first
              | ((first | refine fnQ_pure1 ?_ ?_ | refine fnQ_pure0 ?_ ?_); (next => repeat' first | exact rvs_n | refine rvs_t ?_ | (simp [go_sem]; done)); simp only [go_sem]; (first | exact VLe.refl _ | refine VLe_int ?_ | refine VLe_bool ?_ | refine VLe_str ?_ | skip))
              | (with_reducible refine And.intro ?_ ?_)
              | with_reducible intro _
            all_goals first
              | omega
              | skip
            · rename_i h1 h2
              rw [← j2]
              exact (checkGo_big _ _ (fun x hx => i2' i2 x (List.mem_of_mem_drop hx)) h2).symm
            · rename_i h1 h2
              refine hK _ _ (i + 1, s + (it l i).width + (it l i).stretch + (it l i).shrink) ⟨by simp only; omega, j2, by simp only; omega, by simp only; omega⟩ (by simp only; omega) (Wk.temps ?_)
              simp only [items, itemC, spar, List.foldl, List.replicate, go_sem, VLes_nil, VLes_cons, VLe_undef_iff, VLe_self]
              try (repeat' first | (with_reducible refine And.intro ?_ ?_) | (refine VLe_int ?_; omega) | (refine VLe_bool ?_; rfl))
          · have e : i = l.length := by omega
            subst e
            rw [List.drop_length, checkGo, if_neg (by omega)] at j2
            simp (disch := omega) only [spar, items, itemC, List.foldl, List.replicate, go_sem, wrap64_id, Int.tdiv_eq_ediv_of_nonneg, Int.tmod_eq_emod_of_nonneg]
            repeat' first
              | ((first | refine fnQ_pure1 ?_ ?_ | refine fnQ_pure0 ?_ ?_); (next => repeat' first | exact rvs_n | refine rvs_t ?_ | (simp [go_sem]; done)); simp only [go_sem]; (first | exact VLe.refl _ | refine VLe_int ?_ | refine VLe_bool ?_ | refine VLe_str ?_ | skip))
              | (with_reducible refine And.intro ?_ ?_)
              | with_reducible intro _
            all_goals first
              | omega
              | exact j2
theorem t10 (l : List It) (width : Int) (h : List AObj) (hl : l.length ≤ 9223372036854775807) : ACalls Try.prog 10 [items l, .int .i64 width] h (.bool (fine l width)) h := by
  refine acalls_of fn10 (by simp) ?_
  simp only [List.length_cons, List.length_nil, Nat.reduceAdd, Nat.reduceSub, List.replicate, List.cons_append, List.nil_append, List.append_nil]
  simp (disch := omega) only [c10, go_sem, wrap64_id, Int.tdiv_eq_ediv_of_nonneg, Int.tmod_eq_emod_of_nonneg]
  repeat' first
    | ((first | refine callA_pure (t22 l _ hl) ?_ ?_ | refine callA_pure (t36 l _ hl) ?_ ?_); (next => repeat' first | exact flags_n | refine flags_c (by first | rfl | assumption) ?_); simp (disch := omega) only [go_sem, wrap64_id, Int.tdiv_eq_ediv_of_nonneg, Int.tmod_eq_emod_of_nonneg])
    | ((first | refine callG_pure (fun e => ⟨?_, t22 l _ hl⟩) ?_ | refine callG_pure (fun e => ⟨?_, t36 l _ hl⟩) ?_); (next => repeat' first | exact flags_n | refine flags_c (by first | rfl | assumption) ?_); simp (disch := omega) only [go_sem, wrap64_id, Int.tdiv_eq_ediv_of_nonneg, Int.tmod_eq_emod_of_nonneg])
    | ((first | refine fnQ_pure1 ?_ ?_ | refine fnQ_pure0 ?_ ?_); (next => repeat' first | exact rvs_n | refine rvs_t ?_ | (simp [go_sem]; done)); simp only [go_sem]; (first | exact VLe.refl _ | refine VLe_int ?_ | refine VLe_bool ?_ | refine VLe_str ?_ | skip))
    | (with_reducible refine And.intro ?_ ?_)
    | with_reducible intro _
  all_goals first
    | omega
    | skip
  unfold fine isLen
  grind
end

section
/-! the text W7 -/
open Go Go.Proofs AF P48
set_option maxRecDepth 100000

theorem chunk {f : Nat → List AV} {sz : Nat} : ∀ {n i : Nat}, (∀ j, j < n → (f j).length = sz) → i < n → (((List.range n).flatMap f).drop (i * sz)).take sz = f i := by
  intro n
  induction n with
  | zero => intro i _ h; omega
  | succ n ih =>
    intro i h hi
    have hl : ∀ m, m ≤ n + 1 → ((List.range m).flatMap f).length = m * sz := by
      intro m
      induction m with
      | zero => simp
      | succ m ihm => intro hm; rw [List.range_succ, List.flatMap_append, List.length_append, ihm (by omega)]; simp [h m (by omega), Nat.succ_mul]
    rw [List.range_succ, List.flatMap_append]
    by_cases e : i = n
    · subst e
      rw [List.drop_append_of_le_length (by rw [hl i (by omega)]; exact Nat.le_refl _), ← hl i (by omega), List.drop_length]
      simp [List.take_of_length_le (Nat.le_of_eq (h i (by omega)))]
    · have hle : i * sz + sz ≤ ((List.range n).flatMap f).length := by
        rw [hl n (by omega), ← Nat.succ_mul]
        exact Nat.mul_le_mul_right sz (by omega)
      rw [List.drop_append_of_le_length (by omega), List.take_append_of_le_length (by rw [List.length_drop]; omega)]
      exact ih (fun j hj => h j (by omega)) (by omega)
def cellsIt (l : List It) : List AV := l.flatMap itemC
theorem cellsIt_range (l : List It) : (List.range l.length).flatMap (fun i => itemC (it l i)) = cellsIt l := by
  have : l = (List.range l.length).map (it l) := by
    apply List.ext_getElem
    · simp
    · intro i h1 h2; simp [it_eq h1]
  unfold cellsIt
  conv => rhs; rw [this]
  rw [List.flatMap_map]
theorem cellsIt_len (l : List It) : (cellsIt l).length = l.length * 6 := by
  induction l with
  | nil => rfl
  | cons x l ih => unfold cellsIt at *; rw [List.flatMap_cons, List.length_append, ih, len_itemC, List.length_cons]; omega
theorem cellsIt_low (l : List It) (n : Nat) : ∀ c ∈ cellsIt l, lowV n c = true := by
  intro c hc
  unfold cellsIt at hc
  rw [List.mem_flatMap] at hc
  obtain ⟨x, _, hx⟩ := hc
  unfold itemC at hx
  simp at hx
  rcases hx with rfl | rfl | rfl | rfl | rfl | rfl <;> rfl
theorem t12 (l : List It) (h : List AObj) (k : Nat) (hk : site h k = true) (h0 : l.length ≠ 0) (hl : l.length ≤ 1000000) :
    ACalls Try.prog 12 [items l] h (.osl k (verOf (getO k h) + 1) 6 0 l.length) (setO k h (.mem (verOf (getO k h) + 1) 28 (cellsIt l))) := by
  refine acallsM fn12 k (by simp) ?_
  simp only [List.length_cons, List.length_nil, Nat.reduceAdd, Nat.reduceSub, List.replicate, List.cons_append, List.nil_append, List.append_nil]
  simp (disch := omega) only [c12, items, h0, madeA, cellsIt_range, cellsIt_len, go_sem, wrap64_id, Int.tdiv_eq_ediv_of_nonneg, Int.tmod_eq_emod_of_nonneg]
  exact ⟨by repeat' (first | rfl | omega | (with_reducible refine And.intro ?_ ?_)), h.length + 1, 2, 6, 0, l.length, 28, cellsIt l, [AObj.emp 1, AObj.mem 2 28 (cellsIt l), AObj.emp 0], ⟨trivial, trivial⟩, rfl, rfl, by omega, by simp only [go_sem], cellsIt_low l _, hk, rfl, rfl⟩
theorem items_nil {f : Nat → List AV} : VLe (.sl 0 f) (items []) := VLe_sl0
theorem t12e (h : List AObj) : ACalls Try.prog 12 [items []] h (items []) h := by
  refine acalls_of fn12 (by simp) ?_
  simp only [List.length_cons, List.length_nil, Nat.reduceAdd, Nat.reduceSub, List.replicate, List.cons_append, List.nil_append, List.append_nil]
  simp (disch := omega) only [c12, items, madeA, List.range_zero, List.flatMap_nil, go_sem, wrap64_id, Int.tdiv_eq_ediv_of_nonneg, Int.tmod_eq_emod_of_nonneg]
  repeat' first
    | (with_reducible refine And.intro ?_ ?_)
    | (with_reducible intro _)
  all_goals first
    | omega
    | rfl
    | skip
  · refine fnQ_pure1 ⟨trivial, trivial⟩ ?_
    simp only [go_sem]
    exact VLe_nl
  · refine fnQ_pure1 ⟨trivial, trivial⟩ ?_
    simp only [go_sem]
    exact VLe_sl0
theorem t28 (a b : List Int) (h : List AObj) (hl : a.length ≤ 1000000) : ACalls Try.prog 28 [ints a, ints b] h (.bool (decide (a = b))) h := by
  refine acalls_of fn28 (by simp) ?_
  simp only [List.length_cons, List.length_nil, Nat.reduceAdd, Nat.reduceSub, List.replicate, List.cons_append, List.nil_append, List.append_nil]
  simp (disch := omega) only [c28, ints, go_sem, wrap64_id, Int.tdiv_eq_ediv_of_nonneg, Int.tmod_eq_emod_of_nonneg]
  repeat' first
    | (with_reducible refine And.intro ?_ ?_)
    | (with_reducible intro _)
  all_goals first
    | omega
    | skip
  · rename_i h1
    repeat' first
      | ((first | refine fnQ_pure1 ?_ ?_ | refine fnQ_pure0 ?_ ?_); (next => repeat' first | exact rvs_n | refine rvs_t ?_ | (simp [go_sem]; done)); simp only [go_sem]; (first | exact VLe.refl _ | refine VLe_int ?_ | refine VLe_bool ?_ | refine VLe_str ?_ | skip))
      | (with_reducible refine And.intro ?_ ?_)
      | with_reducible intro _
    have : a ≠ b := by rintro rfl; exact h1 rfl
    simp [this]
  · rename_i h1
    refine loop_of (T := fun i : Nat => spar 26 [(0, ints a), (1, ints b), (12, .int .i64 a.length), (13, .int .i64 i)]) (H := fun _ => h)
      (inv := fun i => i ≤ a.length ∧ a.take i = b.take i) (m := fun i => a.length - i) 0 ⟨by omega, by simp⟩ (Wk.temps ?_) ?_
    · simp only [ints, spar, List.foldl, List.replicate, go_sem, VLes_nil, VLes_cons, VLe_undef_iff, VLe_self]
      try (repeat' first | (with_reducible refine And.intro ?_ ?_) | (refine VLe_int ?_; omega) | (refine VLe_bool ?_; rfl))
    · rintro i ⟨i1, i2⟩ K hK
      by_cases hi : i < a.length
      · simp (disch := omega) only [spar, ints, List.foldl, List.replicate, go_sem, wrap64_id, Int.tdiv_eq_ediv_of_nonneg, Int.tmod_eq_emod_of_nonneg]
        repeat' first
          | ((first | refine fnQ_pure1 ?_ ?_ | refine fnQ_pure0 ?_ ?_); (next => repeat' first | exact rvs_n | refine rvs_t ?_ | (simp [go_sem]; done)); simp only [go_sem]; (first | exact VLe.refl _ | refine VLe_int ?_ | refine VLe_bool ?_ | refine VLe_str ?_ | skip))
          | (with_reducible refine And.intro ?_ ?_)
          | with_reducible intro _
        all_goals first
          | omega
          | skip
        · rename_i h2 h3
          have : a ≠ b := by rintro rfl; exact h3 rfl
          simp [this]
        · rename_i h2 h3
          refine hK _ _ (i + 1) ⟨by omega, ?_⟩ (by omega) (Wk.temps ?_)
          · have e1 : a[i]? = b[i]? := by
              have hb : i < b.length := by omega
              simp [hi, hb] at h3
              simp [hi, hb, h3]
            rw [List.take_add_one, List.take_add_one, i2, e1]
          · simp only [ints, spar, List.foldl, List.replicate, go_sem, VLes_nil, VLes_cons, VLe_undef_iff, VLe_self]
            try (repeat' first | (with_reducible refine And.intro ?_ ?_) | (refine VLe_int ?_; omega) | (refine VLe_bool ?_; rfl))
      · have e : i = a.length := by omega
        subst e
        simp (disch := omega) only [spar, ints, List.foldl, List.replicate, go_sem, wrap64_id, Int.tdiv_eq_ediv_of_nonneg, Int.tmod_eq_emod_of_nonneg]
        repeat' first
          | ((first | refine fnQ_pure1 ?_ ?_ | refine fnQ_pure0 ?_ ?_); (next => repeat' first | exact rvs_n | refine rvs_t ?_ | (simp [go_sem]; done)); simp only [go_sem]; (first | exact VLe.refl _ | refine VLe_int ?_ | refine VLe_bool ?_ | refine VLe_str ?_ | skip))
          | (with_reducible refine And.intro ?_ ?_)
          | with_reducible intro _
        all_goals first
          | omega
          | skip
        rw [List.take_length, List.take_of_length_le (by omega)] at i2
        simp [i2]
def threeS : List It := [⟨1, 30, 0, 0, 0, [97, 98, 99]⟩, ⟨2, 10, 5, 3, 0, []⟩, ⟨1, 30, 0, 0, 0, [97, 98, 99]⟩, ⟨2, 10, 5, 3, 0, []⟩, ⟨1, 30, 0, 0, 0, [97, 98, 99]⟩]
theorem t37 (h : List AObj) : ACalls Try.prog 37 [] h (items threeS) h := by
  refine acalls_of fn37 (by simp) ?_
  simp only [List.length_cons, List.length_nil, Nat.reduceAdd, Nat.reduceSub, List.replicate, List.cons_append, List.nil_append, List.append_nil]
  simp (disch := omega) only [c37, madeA, go_sem, wrap64_id, Int.tdiv_eq_ediv_of_nonneg, Int.tmod_eq_emod_of_nonneg]
  repeat' first
    | (with_reducible refine And.intro ?_ ?_)
    | (with_reducible intro _)
  all_goals first
    | omega
    | rfl
    | skip
  refine fnQ_pure1 ⟨trivial, trivial⟩ ?_
  simp only [go_sem]
  refine VLe_sl rfl (fun i hi => ?_)
  have : i = 0 ∨ i = 1 ∨ i = 2 ∨ i = 3 ∨ i = 4 := by have : i < 5 := hi; omega
  rcases this with rfl | rfl | rfl | rfl | rfl <;> rfl
end

section
/-! the text W8 -/
open Go Go.Proofs AF P48
set_option maxRecDepth 100000
def hit (n : Nat) (p : List Int) (frm : Nat) (x : Nat × Int) : Bool := decide (0 ≤ behind n p x.1 ∧ x.2 + behind n p x.1 = p.getD frm 0)
theorem arcs_split (l : List It) (width : Int) {frm to : Nat} {c : Int} (h1 : frm ≤ to) (h2 : to ≤ l.length) (h3 : arc l width frm to = some c) : ∃ r, arcs l width frm = arcsTo l width frm to ++ (to, c) :: r := by
  refine ⟨(List.range' (to + 1) (l.length - to)).filterMap fun to => (arc l width frm to).map fun c => (to, c), ?_⟩
  unfold arcs arcsTo
  rw [show l.length + 1 - frm = (to - frm) + (1 + (l.length - to)) by omega, ← List.range'_append_1, ← List.range'_append_1, List.filterMap_append, List.filterMap_append]
  rw [show frm + (to - frm) = to by omega]
  congr 1
  simp [h3]
theorem pick_of (l : List It) (width : Int) (p : List Int) {frm to : Nat} {c : Int} (h1 : frm ≤ to) (h2 : to ≤ l.length) (h3 : arc l width frm to = some c) (h4 : (arcsTo l width frm to).find? (hit l.length p frm) = none) (h5 : hit l.length p frm (to, c) = true) :
    pick l p frm (arcs l width frm) = some to := by
  obtain ⟨r, hr⟩ := arcs_split l width h1 h2 h3
  unfold pick
  rw [hr]
  show ((arcsTo l width frm to ++ (to, c) :: r).find? (hit l.length p frm)).map _ = _
  rw [List.find?_append, h4, List.find?_cons_of_pos h5]
  rfl
theorem pick_ge {l : List It} {width : Int} {p : List Int} {frm to : Nat} (h : pick l p frm (arcs l width frm) = some to) : frm ≤ to ∧ to ≤ l.length := by
  unfold pick at h
  rw [Option.map_eq_some_iff] at h
  obtain ⟨⟨t, c⟩, h1, rfl⟩ := h
  have := mem_arcs.1 (List.mem_of_find?_eq_some h1)
  exact ⟨this.1, this.2.1⟩
theorem brkGo_fuel {l : List It} {width : Int} {p : List Int} : ∀ (k k' frm : Nat), l.length + 1 - frm ≤ k → l.length + 1 - frm ≤ k' → brkGo l width p k frm = brkGo l width p k' frm := by
  intro k
  induction k with
  | zero =>
    intro k' frm h1 h2
    cases k' with
    | zero => rfl
    | succ k' =>
      simp only [brkGo]
      cases hp : pick l p frm (arcs l width frm) with
      | none => rfl
      | some to => have := pick_ge hp; omega
  | succ k ih =>
    intro k' frm h1 h2
    cases k' with
    | zero =>
      simp only [brkGo]
      cases hp : pick l p frm (arcs l width frm) with
      | none => rfl
      | some to => have := pick_ge hp; omega
    | succ k' =>
      simp only [brkGo]
      cases hp : pick l p frm (arcs l width frm) with
      | none => rfl
      | some to =>
        have := pick_ge hp
        simp only
        split
        · rw [ih k' (to + 1) (by omega) (by omega)]
        · rfl
theorem brk_step {l : List It} {width : Int} {p : List Int} {frm to : Nat} (hf : frm ≤ l.length) (h : pick l p frm (arcs l width frm) = some to) :
    brkGo l width p (l.length + 1 - frm) frm = if to < l.length then to :: brkGo l width p (l.length + 1 - (to + 1)) (to + 1) else [to] := by
  have hg := pick_ge h
  rw [show l.length + 1 - frm = (l.length - frm) + 1 by omega]
  rw [brkGo, h]
  simp only
  split
  · rw [brkGo_fuel (l.length - frm) (l.length + 1 - (to + 1)) (to + 1) (by omega) (by omega)]
  · rfl
def outA (b v : Nat) (bs : List Nat) : AV := if bs = [] then .nl else .osl b v 1 0 bs.length
def outO (v : Nat) (bs : List Nat) : AObj := if bs = [] then .emp 0 else .mem v 3 (cellsI (bs.map Int.ofNat))
theorem Low.of {h a b : List AObj} (e : b.length = a.length) (hb : ∀ o ∈ b, o ∈ a ∨ (lowO (h.length + a.length) o ∧ lowO (h.length + a.length + 1) o)) : Low (h ++ a) (h ++ b) := by
  refine ⟨by simp [e], fun o ho => ?_⟩
  rw [List.length_append]
  rcases List.mem_append.1 ho with ho | ho
  · exact .inl (List.mem_append_left _ ho)
  · rcases hb o ho with h1 | h1
    · exact .inl (List.mem_append_right _ h1)
    · exact .inr h1
theorem low_cells {bs : List Nat} {to n : Nat} {c : AV} (h : c ∈ cellsI (bs.map Int.ofNat) ++ [.int .i64 to]) : lowV n c = true := by
  unfold cellsI at h
  simp at h
  rcases h with ⟨a, _, rfl⟩ | rfl <;> rfl
theorem outA_nil (b v : Nat) : outA b v [] = .nl := rfl
theorem outO_nil (v : Nat) : outO v [] = .emp 0 := rfl
theorem outA_ne {bs : List Nat} (h : bs ≠ []) (b v : Nat) : outA b v bs = .osl b v 1 0 bs.length := if_neg h
theorem outO_ne {bs : List Nat} (h : bs ≠ []) (v : Nat) : outO v bs = .mem v 3 (cellsI (bs.map Int.ofNat)) := if_neg h
def breakAV (l : List It) (width : Int) : AV :=
  if checkW l width = 0 then (if (pots l width).getD 0 0 < 0 then .tup [ints [], .int .i64 0, .int .i64 23] else .tup [ints ((brk l width).map Int.ofNat), .int .i64 ((pots l width).getD 0 0), .int .i64 0])
  else .tup [ints [], .int .i64 0, .int .i64 (checkW l width)]
theorem ints_nil {f : Nat → List AV} : VLe (.sl 0 f) (ints []) := VLe_sl0
theorem ints_nl : VLe .nl (ints []) := VLe_nl
theorem checkW_range (l : List It) (width : Int) (h : checkW l width = 0) : check l = 0 ∧ 0 ≤ width ∧ width ≤ 1073741824 := by
  unfold checkW isLen at h
  grind

set_option maxHeartbeats 4000000 in
theorem t13 (l : List It) (width : Int) (h : List AObj) (hl : l.length ≤ 300) : ACalls Try.prog 13 [items l, .int .i64 width] h (breakAV l width) h := by
  by_cases hw : checkW l width = 0
  · obtain ⟨hc, w0, w1⟩ := checkW_range l width hw
    have hv := Valid.of hl hc
    have plen := pots_len l width
    obtain ⟨p, hp⟩ : ∃ p, p = pots l width := ⟨_, rfl⟩
    by_cases hneg : (pots l width).getD 0 0 < 0
    · refine acalls_of fn13 (by simp) ?_
      simp only [List.length_cons, List.length_nil, Nat.reduceAdd, Nat.reduceSub, List.replicate, List.cons_append, List.nil_append, List.append_nil]
      simp (disch := omega) only [c13, go_sem, wrap64_id, Int.tdiv_eq_ediv_of_nonneg, Int.tmod_eq_emod_of_nonneg]
      repeat' first
        | ((first | refine callA_pure (t38 l width _ (by omega)) ?_ ?_ | refine callA_pure (t39 l width hv w0 w1 _) ?_ ?_); (next => repeat' first | exact flags_n | refine flags_c (by first | rfl | assumption) ?_); simp (disch := omega) only [ints, hw, hneg, go_sem, wrap64_id, Int.tdiv_eq_ediv_of_nonneg, Int.tmod_eq_emod_of_nonneg])
        | ((first | refine callG_pure (fun e => ⟨?_, t38 l width _ (by omega)⟩) ?_ | refine callG_pure (fun e => ⟨?_, t39 l width hv w0 w1 _⟩) ?_); (next => repeat' first | exact flags_n | refine flags_c (by first | rfl | assumption) ?_); simp (disch := omega) only [ints, hw, hneg, go_sem, wrap64_id, Int.tdiv_eq_ediv_of_nonneg, Int.tmod_eq_emod_of_nonneg])
        | ((first | refine fnQ_pure1 ?_ ?_ | refine fnQ_pure0 ?_ ?_); (next => repeat' first | exact rvs_n | refine rvs_t ?_ | (simp [go_sem]; done)); simp only [go_sem]; (first | exact VLe.refl _ | refine VLe_int ?_ | refine VLe_bool ?_ | refine VLe_str ?_ | skip))
        | (with_reducible refine And.intro ?_ ?_)
        | with_reducible intro _
      all_goals first
        | omega
        | skip
      simp only [breakAV, hw, hneg, if_true]
      exact VLe_tup (VLes2 ints_nl (VLes2 (VLe.refl _) (VLes2 (VLe.refl _) VLes.nil)))
    · have hfin := brk_path hc (width := width) (l.length + 1) 0 (by omega) (by omega) (by omega)
      refine acalls_of fn13 (by simp) ?_
      simp only [List.length_cons, List.length_nil, Nat.reduceAdd, Nat.reduceSub, List.replicate, List.cons_append, List.nil_append, List.append_nil]
      simp (disch := omega) only [c13, go_sem, wrap64_id, Int.tdiv_eq_ediv_of_nonneg, Int.tmod_eq_emod_of_nonneg]
      repeat' first
        | ((first | refine callA_pure (t38 l width _ (by omega)) ?_ ?_ | refine callA_pure (t39 l width hv w0 w1 _) ?_ ?_); (next => repeat' first | exact flags_n | refine flags_c (by first | rfl | assumption) ?_); simp (disch := omega) only [ints, hw, hneg, go_sem, wrap64_id, Int.tdiv_eq_ediv_of_nonneg, Int.tmod_eq_emod_of_nonneg])
        | ((first | refine callG_pure (fun e => ⟨?_, t38 l width _ (by omega)⟩) ?_ | refine callG_pure (fun e => ⟨?_, t39 l width hv w0 w1 _⟩) ?_); (next => repeat' first | exact flags_n | refine flags_c (by first | rfl | assumption) ?_); simp (disch := omega) only [ints, hw, hneg, go_sem, wrap64_id, Int.tdiv_eq_ediv_of_nonneg, Int.tmod_eq_emod_of_nonneg])
        | ((first | refine fnQ_pure1 ?_ ?_ | refine fnQ_pure0 ?_ ?_); (next => repeat' first | exact rvs_n | refine rvs_t ?_ | (simp [go_sem]; done)); simp only [go_sem]; (first | exact VLe.refl _ | refine VLe_int ?_ | refine VLe_bool ?_ | refine VLe_str ?_ | skip))
        | (with_reducible refine And.intro ?_ ?_)
        | with_reducible intro _
      all_goals first
        | omega
        | skip
      refine loop_of (T := fun i : List Nat × Nat × Nat × AObj × Nat => spar 73 [(0, items l), (1, .int .i64 width), (8, .op (h.length + 1) 1 0), (9, .op (h.length + 2) 1 0), (10, .op (h.length + 3) i.2.2.1 0)])
        (H := fun i => h ++ [.emp 1, .mem 1 29 [ints (pots l width)], .mem 1 29 [outA (h.length + 5) i.2.2.2.2 i.1], .mem i.2.2.1 3 [.int .i64 i.2.1], i.2.2.2.1, outO i.2.2.2.2 i.1])
        (inv := fun i => site [i.2.2.2.1] 0 = true ∧ ((i.2.1 ≤ l.length ∧ 0 ≤ (pots l width).getD i.2.1 0 ∧ i.1 ++ brkGo l width (pots l width) (l.length + 1 - i.2.1) i.2.1 = brk l width ∧ (i.1 = [] ∨ (i.1 ≠ [] ∧ i.1[i.1.length - 1]? = some (i.2.1 - 1) ∧ 0 < i.2.1 ∧ i.1.length ≤ i.2.1))) ∨
          (i.2.1 = l.length + 1 ∧ i.1 = brk l width ∧ i.1 ≠ [] ∧ i.1[i.1.length - 1]? = some l.length ∧ i.1.length ≤ i.2.1))) (m := fun i => l.length + 1 - i.2.1) ([], 0, 1, .emp 0, 0)
        ⟨rfl, .inl ⟨by simp only; omega, by simp only; omega, rfl, .inl rfl⟩⟩ (Wk.temps ?_) ?_
      · simp only [spar, List.foldl, List.replicate, go_sem, VLes_nil, VLes_cons, VLe_undef_iff, VLe_self]
        try (repeat' first | (with_reducible refine And.intro ?_ ?_) | (refine VLe_int ?_; omega) | (refine VLe_bool ?_; rfl))
      · rintro ⟨bs, frm, V, O, v⟩ ⟨i0, i1⟩ K hK
        simp only at i0 i1 hK
        rcases i1 with ⟨j1, j2, j3, rfl | ⟨hne, hlast, hpos, hlen⟩⟩ | ⟨rfl, rfl, hne, hlast, hlen⟩
        · have hpk := pick_some hc (width := width) j1 j2
          obtain ⟨p, hp⟩ : ∃ p, p = pots l width := ⟨_, rfl⟩
          rw [← hp] at hpk j2 j3 plen
          have hbp : ∀ j, -1 ≤ p.getD j 0 ∧ p.getD j 0 ≤ 20000 * (l.length + 1 : Nat) := by rw [hp]; exact potsGo_bound hv.ok width (l.length + 1)
          have hbf := hbp frm
          have i0' : ∀ m, site (O :: m) 0 = true := fun _ => i0
          simp only [← hp]
          simp (disch := omega) only [spar, List.foldl, List.replicate, items, ints, outA_nil, outO_nil, i0', go_sem, wrap64_id, Int.tdiv_eq_ediv_of_nonneg, Int.tmod_eq_emod_of_nonneg]
          repeat' first
            | ((first | refine callA_pure (t40 l width frm _) ?_ ?_); (next => repeat' first | exact flags_n | refine flags_c (by first | rfl | assumption) ?_); simp (disch := omega) only [ints, go_sem, wrap64_id, Int.tdiv_eq_ediv_of_nonneg, Int.tmod_eq_emod_of_nonneg])
            | ((first | refine callG_pure (fun e => ⟨?_, t40 l width frm _⟩) ?_); (next => repeat' first | exact flags_n | refine flags_c (by first | rfl | assumption) ?_); simp (disch := omega) only [ints, go_sem, wrap64_id, Int.tdiv_eq_ediv_of_nonneg, Int.tmod_eq_emod_of_nonneg])
            | ((first | refine fnQ_pure1 ?_ ?_ | refine fnQ_pure0 ?_ ?_); (next => repeat' first | exact rvs_n | refine rvs_t ?_ | (simp [go_sem]; done)); simp only [go_sem]; (first | exact VLe.refl _ | refine VLe_int ?_ | refine VLe_bool ?_ | refine VLe_str ?_ | skip))
            | (with_reducible refine And.intro ?_ ?_)
            | with_reducible intro _
          all_goals first
            | omega
            | skip
          refine range_lines hv w0 w1 j1 (S := fun to hh => hh = h ++ [.emp 1, .mem 1 29 [.sl p.length fun i => [.int .i64 (p.getD i 0)]], .mem 1 29 [.nl], .mem V 3 [.int .i64 frm], O, .emp 0] ∧ (arcsTo l width frm to).find? (hit l.length p frm) = none)
            (E := fun e hh => ∃ to c, e = .exit 2 ∧ frm ≤ to ∧ to ≤ l.length ∧ pick l p frm (arcs l width frm) = some to ∧ arc l width frm to = some c ∧ hit l.length p frm (to, c) = true ∧ hh = h ++ [.emp 1, .mem 1 29 [.sl p.length fun i => [.int .i64 (p.getD i 0)]], .mem 1 29 [.osl (h.length + 5) 1 1 0 1], .mem V 3 [.int .i64 ((to : Int) + 1)], .mem (verOf (some O) + 1) 3 [.int .i64 to], .mem 1 3 [.int .i64 to]]) ?_ ?_ ?_ ?_ ?_ ?_ ?_ ?_
          · rintro to hh ⟨rfl, _⟩
            exact ⟨rfl, fun o ho => .inl ho⟩
          · rintro e hh ⟨to, c, rfl, h1, h2, h3, h4, h5, rfl⟩
            refine Low.of rfl (fun o ho => ?_)
            simp only [List.mem_cons, List.not_mem_nil, or_false] at ho
            rcases ho with rfl | rfl | rfl | rfl | rfl | rfl <;> first | (left; simp; done) | (right; constructor <;> (intro c hc; simp at hc; subst hc; simp [lowV]))
          · rintro to hh h1 h2 h3 ⟨rfl, h4⟩
            refine ⟨rfl, ?_⟩
            rw [arcsTo_succ l width h1, h3, List.append_nil]
            exact h4
          · exact ⟨rfl, by rw [arcsTo_self]; rfl⟩
          · simp [lowV, lowV.lowVs, linesF, items]
          · rintro to c hh tl L h1 h2 h3 ⟨rfl, h4⟩ hlen
            simp only [setsA]
            have hcb := arc_bound hv.ok h3
            have hbd := behind_bound (n := l.length) hbp (by omega) to
            simp (disch := omega) only [List.append_assoc, eq_self, go_sem, wrap64_id, Int.tdiv_eq_ediv_of_nonneg, Int.tmod_eq_emod_of_nonneg]
            repeat' first
              | ((first | refine callA_pure (t41 l.length p to _ plen h2 (by omega)) ?_ ?_); (next => repeat' first | exact flags_n | refine flags_c (by first | rfl | assumption) ?_); simp (disch := omega) only [List.append_assoc, madeA, i0', go_sem, wrap64_id, Int.tdiv_eq_ediv_of_nonneg, Int.tmod_eq_emod_of_nonneg])
              | ((first | refine callG_pure (fun e => ⟨?_, t41 l.length p to _ plen h2 (by omega)⟩) ?_); (next => repeat' first | exact flags_n | refine flags_c (by first | rfl | assumption) ?_); simp (disch := omega) only [List.append_assoc, madeA, i0', go_sem, wrap64_id, Int.tdiv_eq_ediv_of_nonneg, Int.tmod_eq_emod_of_nonneg])
              | ((first | refine fnQ_pure1 ?_ ?_ | refine fnQ_pure0 ?_ ?_); (next => repeat' first | exact rvs_n | refine rvs_t ?_ | (simp [go_sem]; done)); simp only [go_sem]; (first | exact VLe.refl _ | refine VLe_int ?_ | refine VLe_bool ?_ | refine VLe_str ?_ | skip))
              | (with_reducible refine And.intro ?_ ?_)
              | with_reducible intro _
            all_goals first
              | omega
              | skip
            · rename_i h5
              refine ⟨h ++ [.emp 1, .mem 1 29 [.sl p.length fun i => [.int .i64 (p.getD i 0)]], .mem 1 29 [.osl (h.length + 5) 1 1 0 1], .mem V 3 [.int .i64 ((to : Int) + 1)], .mem (verOf (some O) + 1) 3 [.int .i64 to], .mem 1 3 [.int .i64 to]], by simp, by simp, ?_⟩
              have hh5 : hit l.length p frm (to, c) = true := by unfold hit; simpa using h5
              exact ⟨to, c, h1, h2, pick_of l width p h1 h2 h3 h4 hh5, h3, hh5, rfl⟩
            · rename_i h5
              refine ⟨h ++ [.emp 1, .mem 1 29 [.sl p.length fun i => [.int .i64 (p.getD i 0)]], .mem 1 29 [.nl], .mem V 3 [.int .i64 frm], O, .emp 0], by simp, by simp, rfl, ?_⟩
              have hh5 : hit l.length p frm (to, c) = false := by unfold hit; simpa using h5
              rw [arcsTo_succ l width h1, h3, List.find?_append, h4]
              simp [hh5]
          · rintro hh ⟨_, h4⟩
            obtain ⟨to, c, h5, _⟩ := hpk
            unfold pick at h5
            rw [arcsTo_all] at h4
            unfold hit at h4
            rw [h4] at h5
            cases h5
          · rintro e hh ⟨to, c, rfl, h1, h2, h3, h4, h5, rfl⟩
            show Ex.inBlock 2 _ (.exit 2) _ _
            simp (disch := omega) only [i0', go_sem, wrap64_id, Int.tdiv_eq_ediv_of_nonneg, Int.tmod_eq_emod_of_nonneg]
            repeat' first
              | (with_reducible refine And.intro ?_ ?_)
              | (with_reducible intro _)
            all_goals first
              | omega
              | skip
            have hst := brk_step (width := width) (p := p) j1 h3
            rw [hst] at j3
            unfold hit at h5
            simp only [decide_eq_true_eq] at h5
            refine hK _ _ ([to], to + 1, V + 1, .mem (verOf (some O) + 1) 3 [.int .i64 to], 1) ⟨rfl, ?_⟩ (by simp only; omega) ?_
            · simp only
              by_cases hlt : to < l.length
              · left
                rw [if_pos hlt] at j3
                refine ⟨hlt, ?_, by rw [← hp]; simpa using j3, .inr ⟨by simp, by simp, by omega, by simp⟩⟩
                have : behind l.length p to = p.getD (to + 1) 0 := by unfold behind; rw [if_neg (by omega)]
                rw [← hp]
                omega
              · right
                rw [if_neg hlt] at j3
                exact ⟨by omega, by simpa using j3, by simp, by simp; omega, by simp⟩
            · rw [outA_ne (by simp), outO_ne (by simp)]
              simp only [← hp]
              refine Wk.temps ?_
              simp only [items, ints, spar, List.foldl, List.replicate, go_sem, VLes_nil, VLes_cons, VLe_undef_iff, VLe_self]
              try (repeat' first | (with_reducible refine And.intro ?_ ?_) | (refine VLe_int ?_; omega) | (refine VLe_bool ?_; rfl))
        · have hpk := pick_some hc (width := width) j1 j2
          obtain ⟨p, hp⟩ : ∃ p, p = pots l width := ⟨_, rfl⟩
          rw [← hp] at hpk j2 j3 plen
          have hbp : ∀ j, -1 ≤ p.getD j 0 ∧ p.getD j 0 ≤ 20000 * (l.length + 1 : Nat) := by rw [hp]; exact potsGo_bound hv.ok width (l.length + 1)
          have hbf := hbp frm
          have eA := outA_ne hne (h.length + 5) v
          have eO := outO_ne hne v
          have hbl : (cellsI (bs.map Int.ofNat)).length = bs.length := by rw [cellsI_len, List.length_map]
          have hb0 : 0 < bs.length := List.length_pos_iff.2 hne
          have eL : (cellsI (bs.map Int.ofNat))[bs.length - 1]? = some (.int .i64 ((frm - 1 : Nat) : Int)) := by simp [cellsI, hlast]
          have eT : ((bs.length : Int) - 1).toNat = bs.length - 1 := by omega
          have i0' : ∀ m, site (O :: m) 0 = true := fun _ => i0
          simp only [← hp]
          simp (disch := omega) only [spar, List.foldl, List.replicate, items, ints, eA, eO, i0', hbl, eL, eT, go_sem, wrap64_id, Int.tdiv_eq_ediv_of_nonneg, Int.tmod_eq_emod_of_nonneg]
          repeat' first
            | ((first | refine callA_pure (t40 l width frm _) ?_ ?_); (next => repeat' first | exact flags_n | refine flags_c (by first | rfl | assumption) ?_); simp (disch := omega) only [ints, go_sem, wrap64_id, Int.tdiv_eq_ediv_of_nonneg, Int.tmod_eq_emod_of_nonneg])
            | ((first | refine callG_pure (fun e => ⟨?_, t40 l width frm _⟩) ?_); (next => repeat' first | exact flags_n | refine flags_c (by first | rfl | assumption) ?_); simp (disch := omega) only [ints, go_sem, wrap64_id, Int.tdiv_eq_ediv_of_nonneg, Int.tmod_eq_emod_of_nonneg])
            | ((first | refine fnQ_pure1 ?_ ?_ | refine fnQ_pure0 ?_ ?_); (next => repeat' first | exact rvs_n | refine rvs_t ?_ | (simp [go_sem]; done)); simp only [go_sem]; (first | exact VLe.refl _ | refine VLe_int ?_ | refine VLe_bool ?_ | refine VLe_str ?_ | skip))
            | (with_reducible refine And.intro ?_ ?_)
            | with_reducible intro _
          all_goals first
            | omega
            | skip
          refine range_lines hv w0 w1 j1 (S := fun to hh => hh = h ++ [.emp 1, .mem 1 29 [.sl p.length fun i => [.int .i64 (p.getD i 0)]], .mem 1 29 [.osl (h.length + 5) v 1 0 bs.length], .mem V 3 [.int .i64 frm], O, .mem v 3 (cellsI (bs.map Int.ofNat))] ∧ (arcsTo l width frm to).find? (hit l.length p frm) = none)
            (E := fun e hh => ∃ to c, e = .exit 2 ∧ frm ≤ to ∧ to ≤ l.length ∧ pick l p frm (arcs l width frm) = some to ∧ arc l width frm to = some c ∧ hit l.length p frm (to, c) = true ∧ hh = h ++ [.emp 1, .mem 1 29 [.sl p.length fun i => [.int .i64 (p.getD i 0)]], .mem 1 29 [.osl (h.length + 5) (v + 1) 1 0 (bs.length + 1)], .mem V 3 [.int .i64 ((to : Int) + 1)], .mem (verOf (some O) + 1) 3 [.int .i64 to], .mem (v + 1) 3 (cellsI (bs.map Int.ofNat) ++ [.int .i64 to])]) ?_ ?_ ?_ ?_ ?_ ?_ ?_ ?_
          · rintro to hh ⟨rfl, _⟩
            exact ⟨rfl, fun o ho => .inl ho⟩
          · rintro e hh ⟨to, c, rfl, h1, h2, h3, h4, h5, rfl⟩
            refine Low.of rfl (fun o ho => ?_)
            simp only [List.mem_cons, List.not_mem_nil, or_false] at ho
            rcases ho with rfl | rfl | rfl | rfl | rfl | rfl <;> first | (left; simp; done) | (right; constructor <;> (intro c hc; first | (simp at hc; subst hc; simp [lowV]; done) | exact low_cells hc))
          · rintro to hh h1 h2 h3 ⟨rfl, h4⟩
            refine ⟨rfl, ?_⟩
            rw [arcsTo_succ l width h1, h3, List.append_nil]
            exact h4
          · exact ⟨rfl, by rw [arcsTo_self]; rfl⟩
          · simp [lowV, lowV.lowVs, linesF, items]
          · rintro to c hh tl L h1 h2 h3 ⟨rfl, h4⟩ hlen
            simp only [setsA]
            have hcb := arc_bound hv.ok h3
            have hbd := behind_bound (n := l.length) hbp (by omega) to
            simp (disch := omega) only [List.append_assoc, eq_self, go_sem, wrap64_id, Int.tdiv_eq_ediv_of_nonneg, Int.tmod_eq_emod_of_nonneg]
            repeat' first
              | ((first | refine callA_pure (t41 l.length p to _ plen h2 (by omega)) ?_ ?_); (next => repeat' first | exact flags_n | refine flags_c (by first | rfl | assumption) ?_); simp (disch := omega) only [List.append_assoc, madeA, i0', hbl, go_sem, wrap64_id, Int.tdiv_eq_ediv_of_nonneg, Int.tmod_eq_emod_of_nonneg])
              | ((first | refine callG_pure (fun e => ⟨?_, t41 l.length p to _ plen h2 (by omega)⟩) ?_); (next => repeat' first | exact flags_n | refine flags_c (by first | rfl | assumption) ?_); simp (disch := omega) only [List.append_assoc, madeA, i0', hbl, go_sem, wrap64_id, Int.tdiv_eq_ediv_of_nonneg, Int.tmod_eq_emod_of_nonneg])
              | ((first | refine fnQ_pure1 ?_ ?_ | refine fnQ_pure0 ?_ ?_); (next => repeat' first | exact rvs_n | refine rvs_t ?_ | (simp [go_sem]; done)); simp only [go_sem]; (first | exact VLe.refl _ | refine VLe_int ?_ | refine VLe_bool ?_ | refine VLe_str ?_ | skip))
              | (with_reducible refine And.intro ?_ ?_)
              | with_reducible intro _
            all_goals first
              | omega
              | (rw [bne_iff_ne]; omega)
              | skip
            · rename_i h5
              refine ⟨h ++ [.emp 1, .mem 1 29 [.sl p.length fun i => [.int .i64 (p.getD i 0)]], .mem 1 29 [.osl (h.length + 5) (v + 1) 1 0 (bs.length + 1)], .mem V 3 [.int .i64 ((to : Int) + 1)], .mem (verOf (some O) + 1) 3 [.int .i64 to], .mem (v + 1) 3 (cellsI (bs.map Int.ofNat) ++ [.int .i64 to])], by simp [List.take_of_length_le (Nat.le_of_eq hbl)], by simp, ?_⟩
              have hh5 : hit l.length p frm (to, c) = true := by unfold hit; simpa using h5
              exact ⟨to, c, h1, h2, pick_of l width p h1 h2 h3 h4 hh5, h3, hh5, rfl⟩
            · rename_i h5
              refine ⟨h ++ [.emp 1, .mem 1 29 [.sl p.length fun i => [.int .i64 (p.getD i 0)]], .mem 1 29 [.osl (h.length + 5) v 1 0 bs.length], .mem V 3 [.int .i64 frm], O, .mem v 3 (cellsI (bs.map Int.ofNat))], by simp, by simp, rfl, ?_⟩
              have hh5 : hit l.length p frm (to, c) = false := by unfold hit; simpa using h5
              rw [arcsTo_succ l width h1, h3, List.find?_append, h4]
              simp [hh5]
          · rintro hh ⟨_, h4⟩
            obtain ⟨to, c, h5, _⟩ := hpk
            unfold pick at h5
            rw [arcsTo_all] at h4
            unfold hit at h4
            rw [h4] at h5
            cases h5
          · rintro e hh ⟨to, c, rfl, h1, h2, h3, h4, h5, rfl⟩
            show Ex.inBlock 2 _ (.exit 2) _ _
            simp (disch := omega) only [i0', go_sem, wrap64_id, Int.tdiv_eq_ediv_of_nonneg, Int.tmod_eq_emod_of_nonneg]
            repeat' first
              | (with_reducible refine And.intro ?_ ?_)
              | (with_reducible intro _)
            all_goals first
              | omega
              | skip
            have hst := brk_step (width := width) (p := p) j1 h3
            rw [hst] at j3
            unfold hit at h5
            simp only [decide_eq_true_eq] at h5
            refine hK _ _ (bs ++ [to], to + 1, V + 1, .mem (verOf (some O) + 1) 3 [.int .i64 to], v + 1) ⟨rfl, ?_⟩ (by simp only; omega) ?_
            · simp only
              by_cases hlt : to < l.length
              · left
                rw [if_pos hlt] at j3
                refine ⟨hlt, ?_, by rw [← hp]; simpa using j3, .inr ⟨by simp, by simp, by omega, by simp; omega⟩⟩
                have : behind l.length p to = p.getD (to + 1) 0 := by unfold behind; rw [if_neg (by omega)]
                rw [← hp]
                omega
              · right
                rw [if_neg hlt] at j3
                exact ⟨by omega, by simpa using j3, by simp, by simp; omega, by simp; omega⟩
            · rw [outA_ne (by simp), outO_ne (by simp)]
              have e1 : cellsI ((bs ++ [to]).map Int.ofNat) = cellsI (bs.map Int.ofNat) ++ [.int .i64 to] := by simp [cellsI]
              simp only [← hp, e1, List.length_append, List.length_singleton]
              refine Wk.temps ?_
              simp only [items, ints, spar, List.foldl, List.replicate, go_sem, VLes_nil, VLes_cons, VLe_undef_iff, VLe_self]
              try (repeat' first | (with_reducible refine And.intro ?_ ?_) | (refine VLe_int ?_; omega) | (refine VLe_bool ?_; rfl))
        · have hbl : (cellsI ((brk l width).map Int.ofNat)).length = (brk l width).length := by rw [cellsI_len, List.length_map]
          have eA := outA_ne hne (h.length + 5) v
          have eO := outO_ne hne v
          have hb0 : 0 < (brk l width).length := List.length_pos_iff.2 hne
          have eL : (cellsI ((brk l width).map Int.ofNat))[(brk l width).length - 1]? = some (.int .i64 (l.length : Int)) := by simp [cellsI, hlast]
          have eT : (((brk l width).length : Int) - 1).toNat = (brk l width).length - 1 := by omega
          simp (disch := omega) only [spar, List.foldl, List.replicate, items, ints, eA, eO, hbl, eL, eT, go_sem, wrap64_id, Int.tdiv_eq_ediv_of_nonneg, Int.tmod_eq_emod_of_nonneg]
          repeat' first
            | ((first | refine fnQ_pure1 ?_ ?_ | refine fnQ_pure0 ?_ ?_); (next => repeat' first | exact rvs_n | refine rvs_t ?_ | (simp [go_sem]; done)); simp only [go_sem]; (first | exact VLe.refl _ | refine VLe_int ?_ | refine VLe_bool ?_ | refine VLe_str ?_ | skip))
            | (with_reducible refine And.intro ?_ ?_)
            | with_reducible intro _
          all_goals first
            | omega
            | skip
          rw [if_pos (by rw [hbl]; exact Nat.le_refl _)]
          unfold breakAV
          rw [if_pos hw, if_neg hneg]
          exact VLe_tup (VLes2 (ints_of (by rw [List.length_map])) (VLes2 (VLe.refl _) (VLes2 (VLe.refl _) VLes.nil)))
  · refine acalls_of fn13 (by simp) ?_
    simp only [List.length_cons, List.length_nil, Nat.reduceAdd, Nat.reduceSub, List.replicate, List.cons_append, List.nil_append, List.append_nil]
    simp (disch := omega) only [c13, go_sem, wrap64_id, Int.tdiv_eq_ediv_of_nonneg, Int.tmod_eq_emod_of_nonneg]
    repeat' first
      | ((first | refine callA_pure (t38 l width _ (by omega)) ?_ ?_); (next => repeat' first | exact flags_n | refine flags_c (by first | rfl | assumption) ?_); simp (disch := omega) only [hw, go_sem, wrap64_id, Int.tdiv_eq_ediv_of_nonneg, Int.tmod_eq_emod_of_nonneg])
      | ((first | refine callG_pure (fun e => ⟨?_, t38 l width _ (by omega)⟩) ?_); (next => repeat' first | exact flags_n | refine flags_c (by first | rfl | assumption) ?_); simp (disch := omega) only [hw, go_sem, wrap64_id, Int.tdiv_eq_ediv_of_nonneg, Int.tmod_eq_emod_of_nonneg])
      | ((first | refine fnQ_pure1 ?_ ?_ | refine fnQ_pure0 ?_ ?_); (next => repeat' first | exact rvs_n | refine rvs_t ?_ | (simp [go_sem]; done)); simp only [go_sem]; (first | exact VLe.refl _ | refine VLe_int ?_ | refine VLe_bool ?_ | refine VLe_str ?_ | skip))
      | (with_reducible refine And.intro ?_ ?_)
      | with_reducible intro _
    all_goals first
      | omega
      | skip
    simp only [breakAV, hw, if_false]
    exact VLe_tup (VLes2 ints_nl (VLes2 (VLe.refl _) (VLes2 (VLe.refl _) VLes.nil)))
end

section
/-! the text W9 -/
open Go Go.Proofs AF P48
set_option maxRecDepth 100000
def tri (a : List Int) (n e : Int) : AV := .tup [ints a, .int .i64 n, .int .i64 e]
theorem b70 : breakAV threeS 70 = tri [3, 5] 0 0 := by
  have e1 : checkW threeS 70 = 0 := by decide +kernel
  have e2 : (pots threeS 70).getD 0 0 = 0 := by decide +kernel
  have e3 : brk threeS 70 = [3, 5] := by decide +kernel
  unfold breakAV tri
  rw [if_pos e1, e2, if_neg (by omega), e3]
  rfl
theorem b72 : breakAV threeS 72 = tri [3, 5] 6 0 := by
  have e1 : checkW threeS 72 = 0 := by decide +kernel
  have e2 : (pots threeS 72).getD 0 0 = 6 := by decide +kernel
  have e3 : brk threeS 72 = [3, 5] := by decide +kernel
  unfold breakAV tri
  rw [if_pos e1, e2, if_neg (by omega), e3]
  rfl
theorem b5 : breakAV [] 5 = tri [0] 0 0 := by
  have e1 : checkW [] 5 = 0 := by decide +kernel
  have e2 : (pots [] 5).getD 0 0 = 0 := by decide +kernel
  have e3 : brk [] 5 = [0] := by decide +kernel
  unfold breakAV tri
  rw [if_pos e1, e2, if_neg (by omega), e3]
  rfl
theorem t13a (h : List AObj) : ACalls Try.prog 13 [items threeS, .int .i64 70] h (tri [3, 5] 0 0) h := by rw [← b70]; exact t13 _ _ _ (by decide)
theorem t13b (h : List AObj) : ACalls Try.prog 13 [items threeS, .int .i64 72] h (tri [3, 5] 6 0) h := by rw [← b72]; exact t13 _ _ _ (by decide)
theorem t13c (h : List AObj) : ACalls Try.prog 13 [.nl, .int .i64 5] h (tri [0] 0 0) h := by
  rw [← b5]
  exact (t13 [] 5 h (by decide)).le (VLes2 VLe_nl (VLes.refl _)) (VLe.refl _)
theorem t28b (a b : List Int) (k v : Nat) (ty : TypeId) (n : Nat) (h : List AObj) (hk : getO k h = some (.mem v ty (cellsI b))) (hn : b.length = n) (ha : a.length ≤ 1000000) :
    ACalls Try.prog 28 [ints a, .osl k v 1 0 n] h (.bool (decide (a = b))) h := by
  refine ACalls.borrow ?_ rfl
  refine ACalls.le (t28 a b [] ha) ?_ (VLe.refl _)
  simp only [List.map_cons, List.map_nil, rei_osl, if_true, hk, slOf]
  rw [if_pos ⟨by trivial, by rw [cellsI_len]; omega⟩]
  simp only [Nat.zero_add, Nat.mul_one]
  exact VLes2 (VLe.refl _) (VLes2 (ints_of hn) VLes.nil)
theorem t11 (h : List AObj) : ACalls Try.prog 11 [] h (.bool true) h := by
  have c35 : ([AV.int .i64 3, .int .i64 5] : List AV) = cellsI [3, 5] := rfl
  have c0 : ([AV.int .i64 0] : List AV) = cellsI [0] := rfl
  have hm : max (max (0 : Int) 0) 0 = 0 := by decide
  refine acalls_of fn11 (by simp) ?_
  simp only [List.length_cons, List.length_nil, Nat.reduceAdd, Nat.reduceSub, List.replicate, List.cons_append, List.nil_append, List.append_nil]
  simp (disch := omega) only [c11, tri, madeA, hm, go_sem, wrap64_id, Int.tdiv_eq_ediv_of_nonneg, Int.tmod_eq_emod_of_nonneg]
  repeat' first
    | ((first | refine callA_pure (t37 _) ?_ ?_ | refine callA_pure (t13a _) ?_ ?_ | refine callA_pure (t13b _) ?_ ?_ | refine callA_pure (t13c _) ?_ ?_ | refine callA_pure (t28b [3, 5] [3, 5] _ 1 3 2 _ (by simp only [go_sem]; rfl) rfl (by decide)) ?_ ?_ | refine callA_pure (t28b [0] [0] _ 1 3 1 _ (by simp only [go_sem]; rfl) rfl (by decide)) ?_ ?_); (next => repeat' first | exact flags_n | refine flags_c (by first | rfl | assumption) ?_); simp (disch := omega) only [tri, madeA, hm, eq_self, go_sem, wrap64_id, Int.tdiv_eq_ediv_of_nonneg, Int.tmod_eq_emod_of_nonneg])
    | ((first | refine callG_pure (fun e => ⟨?_, t37 _⟩) ?_ | refine callG_pure (fun e => ⟨?_, t13a _⟩) ?_ | refine callG_pure (fun e => ⟨?_, t13b _⟩) ?_ | refine callG_pure (fun e => ⟨?_, t13c _⟩) ?_ | refine callG_pure (fun e => ⟨?_, t28b [3, 5] [3, 5] _ 1 3 2 _ (by simp only [go_sem]; rfl) rfl (by decide)⟩) ?_ | refine callG_pure (fun e => ⟨?_, t28b [0] [0] _ 1 3 1 _ (by simp only [go_sem]; rfl) rfl (by decide)⟩) ?_); (next => repeat' first | exact flags_n | refine flags_c (by first | rfl | assumption) ?_); simp (disch := omega) only [tri, madeA, hm, eq_self, go_sem, wrap64_id, Int.tdiv_eq_ediv_of_nonneg, Int.tmod_eq_emod_of_nonneg])
    | ((first | refine fnQ_pure1 ?_ ?_ | refine fnQ_pure0 ?_ ?_); (next => repeat' first | exact rvs_n | refine rvs_t ?_ | (simp [go_sem]; done)); simp only [go_sem]; (first | exact VLe.refl _ | refine VLe_int ?_ | refine VLe_bool ?_ | refine VLe_str ?_ | skip))
    | (with_reducible refine And.intro ?_ ?_)
    | with_reducible intro _
  all_goals first
    | omega
    | trace_state
end

import Derived.Test.YtonpflblcnpegaaDoorE26
set_option linter.all false
set_option linter.unusedSimpArgs false
set_option linter.unusedVariables false
set_option linter.unusedSectionVars false
open Go Go.Proofs AF HY
namespace HY
set_option maxRecDepth 100000
theorem pat_ext {x y : Pat} (h1 : x.letters = y.letters) (h2 : x.levels = y.levels) : x = y := by
  obtain ⟨a, b⟩ := x
  obtain ⟨c, d⟩ := y
  simp only at h1 h2
  rw [h1, h2]
theorem u27 (a b : List Pat) (h : List AObj) (hl : okPats a) : ACalls Tryd.prog 27 [patsV a, patsV b] h (.bool (decide (a = b))) h := by
  obtain ⟨hl1, hl2⟩ := hl
  by_cases g0 : a.length = b.length
  · have k0 : ((a.length : Int) = b.length) = True := eq_true (by omega)
    refine acalls_of fn27d (by simp) ?_
    simp only [List.length_cons, List.length_nil, Nat.reduceAdd, Nat.reduceSub, List.replicate, List.cons_append, List.nil_append, List.append_nil]
    simp (disch := omega) only [c27d, patsV, k0, go_sem, wrap64_id, Int.tdiv_eq_ediv_of_nonneg, Int.tmod_eq_emod_of_nonneg]
    repeat' first
      | ((first | refine fnQ_pure1 ?_ ?_ | refine fnQ_pure0 ?_ ?_); (next => repeat' first | exact rvs_n | refine rvs_t ?_ | (simp [go_sem]; done)); simp only [go_sem]; (first | exact VLe.refl _ | refine VLe_int ?_ | refine VLe_bool ?_ | refine VLe_str ?_ | skip))
      | (with_reducible refine And.intro ?_ ?_)
      | with_reducible intro _
    all_goals first
      | omega
      | (rename_i hx; revert hx; simp; done)
      | (simp; done)
      | skip
    refine loop_of (T := fun i : Nat => spar 42 [(0, patsV a), (1, patsV b), (5, .int .i64 i)]) (H := fun _ => h) (inv := fun i => i ≤ a.length ∧ ∀ j, j < i → a.getD j default = b.getD j default) (m := fun i => a.length - i) 0 ⟨by omega, by omega⟩ (Wk.temps ?_) ?_
    · (simp only [patsV, spar, List.foldl, List.replicate, go_sem, VLes_nil, VLes_cons, VLe_undef_iff, VLe_self]; try (repeat' first | (with_reducible refine And.intro ?_ ?_) | (refine VLe_int ?_; omega) | (refine VLe_bool ?_; rfl) | exact VLe.refl _))
    rintro i ⟨i1, i2⟩ K hK
    by_cases hi : i < a.length
    · obtain ⟨q1, q2⟩ := hl2 i hi
      obtain ⟨p, hp⟩ : ∃ p, p = a.getD i default := ⟨_, rfl⟩
      obtain ⟨q, hq⟩ : ∃ q, q = b.getD i default := ⟨_, rfl⟩
      have ep := hp.symm
      have eq := hq.symm
      rw [ep] at q1 q2
      have c56 := fun h => u56 p.levels q.levels h q2
      by_cases hb1 : p.letters = q.letters
      · have k1 : (p.letters = q.letters) = True := eq_true hb1
        by_cases hb2 : p.levels = q.levels
        · rw [decide_eq_true hb2] at c56
          simp (disch := omega) only [spar, List.foldl, List.replicate, patsV, patC, ep, eq, k1, go_sem, wrap64_id, Int.tdiv_eq_ediv_of_nonneg, Int.tmod_eq_emod_of_nonneg]
          repeat' first
            | ((first | refine callA_pure (c56 _) ?_ ?_); (next => repeat' first | exact flags_n | refine flags_c (by first | rfl | assumption) ?_); simp (disch := omega) only [patsV, patC, ep, eq, k1, go_sem, wrap64_id, Int.tdiv_eq_ediv_of_nonneg, Int.tmod_eq_emod_of_nonneg])
            | ((first | refine callG_pure (fun e => ⟨?_, c56 _⟩) ?_); (next => repeat' first | exact flags_n | refine flags_c (by first | rfl | assumption) ?_); simp (disch := omega) only [patsV, patC, ep, eq, k1, go_sem, wrap64_id, Int.tdiv_eq_ediv_of_nonneg, Int.tmod_eq_emod_of_nonneg])
            | ((first | refine fnQ_pure1 ?_ ?_ | refine fnQ_pure0 ?_ ?_); (next => repeat' first | exact rvs_n | refine rvs_t ?_ | (simp [go_sem]; done)); simp only [go_sem]; (first | exact VLe.refl _ | refine VLe_int ?_ | refine VLe_bool ?_ | refine VLe_str ?_ | skip))
            | (with_reducible refine And.intro ?_ ?_)
            | with_reducible intro _
          all_goals first
            | omega
            | (rename_i hx; revert hx; simp; done)
            | (simp; done)
            | skip
          refine hK _ _ (i + 1) ⟨by omega, fun j hj => ?_⟩ (by omega) (Wk.temps ?_)
          · by_cases e : j = i
            · subst e; rw [ep, eq]; exact pat_ext hb1 hb2
            · exact i2 j (by omega)
          · (simp only [patsV, patC, spar, List.foldl, List.replicate, go_sem, VLes_nil, VLes_cons, VLe_undef_iff, VLe_self]; try (repeat' first | (with_reducible refine And.intro ?_ ?_) | (refine VLe_int ?_; omega) | (refine VLe_bool ?_; rfl) | exact VLe.refl _))
        · rw [decide_eq_false hb2] at c56
          have hne : ¬ a = b := by rintro rfl; exact hb2 (by rw [hp, hq])
          rw [decide_eq_false hne]
          simp (disch := omega) only [spar, List.foldl, List.replicate, patsV, patC, ep, eq, k1, go_sem, wrap64_id, Int.tdiv_eq_ediv_of_nonneg, Int.tmod_eq_emod_of_nonneg]
          repeat' first
            | ((first | refine callA_pure (c56 _) ?_ ?_); (next => repeat' first | exact flags_n | refine flags_c (by first | rfl | assumption) ?_); simp (disch := omega) only [patsV, patC, ep, eq, k1, go_sem, wrap64_id, Int.tdiv_eq_ediv_of_nonneg, Int.tmod_eq_emod_of_nonneg])
            | ((first | refine callG_pure (fun e => ⟨?_, c56 _⟩) ?_); (next => repeat' first | exact flags_n | refine flags_c (by first | rfl | assumption) ?_); simp (disch := omega) only [patsV, patC, ep, eq, k1, go_sem, wrap64_id, Int.tdiv_eq_ediv_of_nonneg, Int.tmod_eq_emod_of_nonneg])
            | ((first | refine fnQ_pure1 ?_ ?_ | refine fnQ_pure0 ?_ ?_); (next => repeat' first | exact rvs_n | refine rvs_t ?_ | (simp [go_sem]; done)); simp only [go_sem]; (first | exact VLe.refl _ | refine VLe_int ?_ | refine VLe_bool ?_ | refine VLe_str ?_ | skip))
            | (with_reducible refine And.intro ?_ ?_)
            | with_reducible intro _
          all_goals first
            | omega
            | (rename_i hx; revert hx; simp; done)
            | (simp; done)
            | skip
      · have k1 : (p.letters = q.letters) = False := eq_false hb1
        have hne : ¬ a = b := by rintro rfl; exact hb1 (by rw [hp, hq])
        rw [decide_eq_false hne]
        simp (disch := omega) only [spar, List.foldl, List.replicate, patsV, patC, ep, eq, k1, go_sem, wrap64_id, Int.tdiv_eq_ediv_of_nonneg, Int.tmod_eq_emod_of_nonneg]
        repeat' first
          | (refine callG_false ((.bool false)) ?_; simp (disch := omega) only [patsV, patC, ep, eq, k1, go_sem, wrap64_id, Int.tdiv_eq_ediv_of_nonneg, Int.tmod_eq_emod_of_nonneg])
          | ((first | refine fnQ_pure1 ?_ ?_ | refine fnQ_pure0 ?_ ?_); (next => repeat' first | exact rvs_n | refine rvs_t ?_ | (simp [go_sem]; done)); simp only [go_sem]; (first | exact VLe.refl _ | refine VLe_int ?_ | refine VLe_bool ?_ | refine VLe_str ?_ | skip))
          | (with_reducible refine And.intro ?_ ?_)
          | with_reducible intro _
        all_goals first
          | omega
          | (rename_i hx; revert hx; simp; done)
          | (simp; done)
          | skip
    · have e : i = a.length := by omega
      subst e
      have heq : a = b := by
        apply List.ext_getElem g0
        intro j h1 h2
        have := i2 j h1
        rwa [List.getD_eq_getElem?_getD, List.getD_eq_getElem?_getD, List.getElem?_eq_getElem h1, List.getElem?_eq_getElem h2] at this
      rw [decide_eq_true heq]
      simp (disch := omega) only [spar, List.foldl, List.replicate, patsV, go_sem, wrap64_id, Int.tdiv_eq_ediv_of_nonneg, Int.tmod_eq_emod_of_nonneg]
      repeat' first
        | ((first | refine fnQ_pure1 ?_ ?_ | refine fnQ_pure0 ?_ ?_); (next => repeat' first | exact rvs_n | refine rvs_t ?_ | (simp [go_sem]; done)); simp only [go_sem]; (first | exact VLe.refl _ | refine VLe_int ?_ | refine VLe_bool ?_ | refine VLe_str ?_ | skip))
        | (with_reducible refine And.intro ?_ ?_)
        | with_reducible intro _
      all_goals first
        | omega
        | (rename_i hx; revert hx; simp; done)
        | (simp; done)
        | skip
  · have k0 : ((a.length : Int) = b.length) = False := eq_false (by omega)
    have hne : ¬ a = b := by rintro rfl; exact g0 rfl
    rw [decide_eq_false hne]
    refine acalls_of fn27d (by simp) ?_
    simp only [List.length_cons, List.length_nil, Nat.reduceAdd, Nat.reduceSub, List.replicate, List.cons_append, List.nil_append, List.append_nil]
    simp (disch := omega) only [c27d, patsV, k0, go_sem, wrap64_id, Int.tdiv_eq_ediv_of_nonneg, Int.tmod_eq_emod_of_nonneg]
    repeat' first
      | ((first | refine fnQ_pure1 ?_ ?_ | refine fnQ_pure0 ?_ ?_); (next => repeat' first | exact rvs_n | refine rvs_t ?_ | (simp [go_sem]; done)); simp only [go_sem]; (first | exact VLe.refl _ | refine VLe_int ?_ | refine VLe_bool ?_ | refine VLe_str ?_ | skip))
      | (with_reducible refine And.intro ?_ ?_)
      | with_reducible intro _
    all_goals first
      | omega
      | (rename_i hx; revert hx; simp; done)
      | (simp; done)
      | skip
end HY

import Derived.Test.YtbccfgnihmfgmaaHC
set_option linter.all false
set_option linter.unusedSimpArgs false
set_option linter.unusedVariables false
set_option linter.unusedSectionVars false
section
/-! the text D30 -/
open Go Go.Proofs AF HY P48
namespace HY
set_option maxRecDepth 100000
theorem itemsR_len (s : Sty) (ps : List Pat) (ws : List Wd) : (itemsR s ps ws).length ≤ 200 * ws.length := by
  unfold itemsR
  split
  · rename_i h
    unfold itemsE at h
    split at h
    · cases h
    · split at h
      · cases h
      · rename_i h2
        have hb : ws.any badWd = false := by
          cases hc : ws.any badWd with
          | false => rfl
          | true => exact absurd (.inr hc) h2
        exact wordsI_len s ps ws (fun i hi => good_wd hb hi) ws.length (Nat.le_refl _)
  · simp
theorem okPats_of {ps : List Pat} {ws : List Wd} (h : greatS ps ws = false) : okPats ps ∧ ps.length ≤ 5 ∧ ws.length ≤ 6 := by
  unfold greatS at h
  simp only [Bool.or_eq_false_iff, decide_eq_false_iff_not] at h
  obtain ⟨h1, h2, h3, h4⟩ := h
  refine ⟨⟨by omega, fun i hi => ?_⟩, by omega, by omega⟩
  rw [List.any_eq_false] at h4
  have := h4 _ (List.getElem_mem hi)
  unfold bigPat at this
  simp at this
  rw [List.getD_eq_getElem?_getD, List.getElem?_eq_getElem hi]
  simp
  omega
set_option maxHeartbeats 4000000 in
theorem law9 (s : Sty) (x : List AV) (ps : List Pat) (ws : List Wd) (l : List It) (h : List AObj) (hps : ps.length ≤ 9223372036854775807) (hws : ws.length ≤ 9223372036854775807) (hl : l.length ≤ 9223372036854775807) :
    ACalls Try.prog 9 [.agg (styC s x ++ [patsV ps, wordsV ws]), items l] h (.bool true) h := by
  have c31 := fun h => t31 s x ps ws h hps hws
  have c22 := fun h => t22 l h hl
  cases g1 : greatS ps ws with
  | true =>
    rw [g1] at c31
    refine acalls_of fn9 (by simp) ?_
    simp only [List.length_cons, List.length_nil, Nat.reduceAdd, Nat.reduceSub, List.replicate, List.cons_append, List.nil_append, List.append_nil]
    simp (disch := omega) only [c9, styC, go_sem, wrap64_id, Int.tdiv_eq_ediv_of_nonneg, Int.tmod_eq_emod_of_nonneg]
    repeat' first
      | (refine callG_false ((.bool false)) ?_; simp (disch := omega) only [styC, go_sem, wrap64_id, Int.tdiv_eq_ediv_of_nonneg, Int.tmod_eq_emod_of_nonneg])
      | ((first | refine callA_pure (c31 _) ?_ ?_ | refine callA_pure (t11 _) ?_ ?_); (next => repeat' first | exact flags_n | refine flags_c (by first | rfl | assumption) ?_); simp (disch := omega) only [styC, go_sem, wrap64_id, Int.tdiv_eq_ediv_of_nonneg, Int.tmod_eq_emod_of_nonneg])
      | ((first | refine callG_pure (fun e => ⟨?_, c31 _⟩) ?_ | refine callG_pure (fun e => ⟨?_, t11 _⟩) ?_); (next => repeat' first | exact flags_n | refine flags_c (by first | rfl | assumption) ?_); simp (disch := omega) only [styC, go_sem, wrap64_id, Int.tdiv_eq_ediv_of_nonneg, Int.tmod_eq_emod_of_nonneg])
      | ((first | refine fnQ_pure1 ?_ ?_ | refine fnQ_pure0 ?_ ?_); (next => repeat' first | exact rvs_n | refine rvs_t ?_ | (simp [go_sem]; done)); simp only [go_sem]; (first | exact VLe.refl _ | refine VLe_int ?_ | refine VLe_bool ?_ | refine VLe_str ?_ | skip))
      | (with_reducible refine And.intro ?_ ?_)
      | with_reducible intro _
    all_goals first
      | omega
      | (rename_i hx; revert hx; simp; done)
      | (simp; done)
      | skip
    all_goals trace_state
  | false =>
    rw [g1] at c31
    cases g2 : great l with
    | true =>
      rw [g2] at c22
      refine acalls_of fn9 (by simp) ?_
      simp only [List.length_cons, List.length_nil, Nat.reduceAdd, Nat.reduceSub, List.replicate, List.cons_append, List.nil_append, List.append_nil]
      simp (disch := omega) only [c9, styC, go_sem, wrap64_id, Int.tdiv_eq_ediv_of_nonneg, Int.tmod_eq_emod_of_nonneg]
      repeat' first
        | ((first | refine callA_pure (c31 _) ?_ ?_ | refine callA_pure (c22 _) ?_ ?_ | refine callA_pure (t11 _) ?_ ?_); (next => repeat' first | exact flags_n | refine flags_c (by first | rfl | assumption) ?_); simp (disch := omega) only [styC, go_sem, wrap64_id, Int.tdiv_eq_ediv_of_nonneg, Int.tmod_eq_emod_of_nonneg])
        | ((first | refine callG_pure (fun e => ⟨?_, c31 _⟩) ?_ | refine callG_pure (fun e => ⟨?_, c22 _⟩) ?_ | refine callG_pure (fun e => ⟨?_, t11 _⟩) ?_); (next => repeat' first | exact flags_n | refine flags_c (by first | rfl | assumption) ?_); simp (disch := omega) only [styC, go_sem, wrap64_id, Int.tdiv_eq_ediv_of_nonneg, Int.tmod_eq_emod_of_nonneg])
        | ((first | refine fnQ_pure1 ?_ ?_ | refine fnQ_pure0 ?_ ?_); (next => repeat' first | exact rvs_n | refine rvs_t ?_ | (simp [go_sem]; done)); simp only [go_sem]; (first | exact VLe.refl _ | refine VLe_int ?_ | refine VLe_bool ?_ | refine VLe_str ?_ | skip))
        | (with_reducible refine And.intro ?_ ?_)
        | with_reducible intro _
      all_goals first
        | omega
        | (rename_i hx; revert hx; simp; done)
        | (simp; done)
        | skip
      all_goals trace_state
    | false =>
      rw [g2] at c22
      obtain ⟨ho, h5, h6⟩ := okPats_of g1
      have c32 := fun h => t32 s x ps ws h ho (by omega)
      have c33 := fun h => t33 s x ps ws h ho (by omega)
      have hR := itemsR_len s ps ws
      obtain ⟨R, hRe⟩ : ∃ R, R = itemsR s ps ws := ⟨_, rfl⟩
      obtain ⟨E, hE⟩ : ∃ E, E = itemsE s ps ws := ⟨_, rfl⟩
      rw [← hRe] at hR c32 c33
      rw [← hE] at c32 c33
      have c34 := fun h => t34 R R h (by omega)
      simp only [decide_true] at c34
      have c35 := fun h => t35 l h hl
      have c36 := fun h => t36 l h hl
      refine acalls_of fn9 (by simp) ?_
      simp only [List.length_cons, List.length_nil, Nat.reduceAdd, Nat.reduceSub, List.replicate, List.cons_append, List.nil_append, List.append_nil]
      simp (disch := omega) only [c9, styC, go_sem, wrap64_id, Int.tdiv_eq_ediv_of_nonneg, Int.tmod_eq_emod_of_nonneg]
      repeat' first
        | ((first | refine callA_pure (c31 _) ?_ ?_ | refine callA_pure (c22 _) ?_ ?_ | refine callA_pure (c32 _) ?_ ?_ | refine callA_pure (c33 _) ?_ ?_ | refine callA_pure (c34 _) ?_ ?_ | refine callA_pure (c35 _) ?_ ?_ | refine callA_pure (c36 _) ?_ ?_ | refine callA_pure (t11 _) ?_ ?_); (next => repeat' first | exact flags_n | refine flags_c (by first | rfl | assumption) ?_); simp (disch := omega) only [styC, tupE, eq_self, go_sem, wrap64_id, Int.tdiv_eq_ediv_of_nonneg, Int.tmod_eq_emod_of_nonneg])
        | ((first | refine callG_pure (fun e => ⟨?_, c31 _⟩) ?_ | refine callG_pure (fun e => ⟨?_, c22 _⟩) ?_ | refine callG_pure (fun e => ⟨?_, c32 _⟩) ?_ | refine callG_pure (fun e => ⟨?_, c33 _⟩) ?_ | refine callG_pure (fun e => ⟨?_, c34 _⟩) ?_ | refine callG_pure (fun e => ⟨?_, c35 _⟩) ?_ | refine callG_pure (fun e => ⟨?_, c36 _⟩) ?_ | refine callG_pure (fun e => ⟨?_, t11 _⟩) ?_); (next => repeat' first | exact flags_n | refine flags_c (by first | rfl | assumption) ?_); simp (disch := omega) only [styC, tupE, eq_self, go_sem, wrap64_id, Int.tdiv_eq_ediv_of_nonneg, Int.tmod_eq_emod_of_nonneg])
        | ((first | refine fnQ_pure1 ?_ ?_ | refine fnQ_pure0 ?_ ?_); (next => repeat' first | exact rvs_n | refine rvs_t ?_ | (simp [go_sem]; done)); simp only [go_sem]; (first | exact VLe.refl _ | refine VLe_int ?_ | refine VLe_bool ?_ | refine VLe_str ?_ | skip))
        | (with_reducible refine And.intro ?_ ?_)
        | with_reducible intro _
      all_goals first
        | omega
        | (rename_i hx; revert hx; simp; done)
        | (simp; done)
        | skip
      all_goals trace_state
end HY
end

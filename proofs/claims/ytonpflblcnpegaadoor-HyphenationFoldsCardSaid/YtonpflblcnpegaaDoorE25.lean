import Derived.Test.YtonpflblcnpegaaDoorE24
set_option linter.all false
set_option linter.unusedSimpArgs false
set_option linter.unusedVariables false
set_option linter.unusedSectionVars false
open Go Go.Proofs AF HY
namespace HY
set_option maxRecDepth 100000
theorem src_pats (h : List AObj) (ps : List Pat) : Src h (patsV ps) ps.length (patsC ps) := by
  refine ⟨by simp only [patsV, go_sem], rfl, fun X => ?_, fun X => ?_, fun X => ?_, fun k v z p m hk => rfl⟩
  · simp only [patsV, go_sem]
  · simp only [patsV, go_sem]
  · show sliceCells _ (.sl _ _) = _
    rw [sliceCells_sl, patsC_range]
theorem u15z (h : List AObj) (k v : Nat) (hk : getO k h = some (.mem v 22 [patsV [], patsV []])) : ACalls Tryd.prog 15 [.osl k v 1 0 2] h (patsV []) h := by
  have hkl : k < h.length := getO_lt hk
  have hL : ∀ X, liveS (h ++ X) k v = true := fun X => by rw [liveS_left hkl]; unfold liveS; rw [hk]; simp
  have hC : ∀ X, cellsOf (h ++ X) k v = some [patsV [], patsV []] := fun X => by rw [cellsOf_left hkl]; exact cellsOf_of hk
  refine acalls_of fn15e (by simp) ?_
  simp only [List.length_cons, List.length_nil, Nat.reduceAdd, Nat.reduceSub, List.replicate, List.cons_append, List.nil_append, List.append_nil]
  simp (disch := omega) only [c15e, hL, hC, go_sem, wrap64_id, Int.tdiv_eq_ediv_of_nonneg, Int.tmod_eq_emod_of_nonneg]
  repeat' first
    | ((first | refine fnQ_pure1 ?_ ?_ | refine fnQ_pure0 ?_ ?_); (next => repeat' first | exact rvs_n | refine rvs_t ?_ | (simp [go_sem]; done)); simp only [go_sem]; (first | exact VLe.refl _ | refine VLe_int ?_ | refine VLe_bool ?_ | refine VLe_str ?_ | skip))
    | (with_reducible refine And.intro ?_ ?_)
    | with_reducible intro _
  all_goals first
    | omega
    | (rename_i hx; revert hx; simp; done)
    | (simp; done)
    | skip
  refine loop_of (T := fun i : Nat => spar 36 [(0, .osl k v 1 0 2), (3, .int .i64 0), (9, .osl k v 1 0 2), (10, .int .i64 2), (11, .int .i64 i)]) (H := fun i => h ++ [.emp 1, .emp 0, .emp 0])
    (inv := fun i => i ≤ 2) (m := fun i => 2 - i) 0 (by omega) (Wk.temps ?_) ?_
  · (simp only [spar, List.foldl, List.replicate, go_sem, VLes_nil, VLes_cons, VLe_undef_iff, VLe_self]; try (repeat' first | (with_reducible refine And.intro ?_ ?_) | (refine VLe_int ?_; omega) | (refine VLe_bool ?_; rfl) | exact VLe.refl _))
  rintro i i1 K hK
  by_cases hi : i < 2
  · have hc : [patsV [], patsV []][i]? = some (patsV []) := by
      obtain rfl | rfl : i = 0 ∨ i = 1 := by omega
      all_goals rfl
    obtain ⟨cs, hcs⟩ : ∃ cs, cs = [patsV [], patsV []] := ⟨_, rfl⟩
    have hcl : cs.length = 2 := by rw [hcs]; rfl
    rw [← hcs] at hc hC
    obtain ⟨s1, s2, s3, s4, s5, s6⟩ := src_pats h []
    simp (disch := omega) only [spar, List.foldl, List.replicate, hL, hC, hc, hcl, s1, s2, s3, s4, go_sem, wrap64_id, Int.tdiv_eq_ediv_of_nonneg, Int.tmod_eq_emod_of_nonneg]
    repeat' first
      | ((first | refine fnQ_pure1 ?_ ?_ | refine fnQ_pure0 ?_ ?_); (next => repeat' first | exact rvs_n | refine rvs_t ?_ | (simp [go_sem]; done)); simp only [go_sem]; (first | exact VLe.refl _ | refine VLe_int ?_ | refine VLe_bool ?_ | refine VLe_str ?_ | skip))
      | (with_reducible refine And.intro ?_ ?_)
      | with_reducible intro _
    all_goals first
      | omega
      | (rename_i hx; revert hx; simp; done)
      | (simp; done)
      | skip
    refine hK _ _ (i + 1) (by omega) (by omega) (Wk.temps ?_)
    (simp only [spar, List.foldl, List.replicate, go_sem, VLes_nil, VLes_cons, VLe_undef_iff, VLe_self]; try (repeat' first | (with_reducible refine And.intro ?_ ?_) | (refine VLe_int ?_; omega) | (refine VLe_bool ?_; rfl) | exact VLe.refl _))
  have e : i = 2 := by omega
  subst e
  simp (disch := omega) only [spar, List.foldl, List.replicate, hL, hC, go_sem, wrap64_id, Int.tdiv_eq_ediv_of_nonneg, Int.tmod_eq_emod_of_nonneg]
  refine ⟨fun hf => absurd hf (by omega), fun _ => ?_⟩
  refine callA_eff (u42z _) ⟨rfl, rfl, trivial⟩ ?_
  simp (disch := omega) only [hL, hC, go_sem, wrap64_id, Int.tdiv_eq_ediv_of_nonneg, Int.tmod_eq_emod_of_nonneg]
  repeat' first
    | ((first | refine fnQ_pure1 ?_ ?_ | refine fnQ_pure0 ?_ ?_); (next => repeat' first | exact rvs_n | refine rvs_t ?_ | (simp [go_sem]; done)); simp only [go_sem]; (first | exact VLe.refl _ | refine VLe_int ?_ | refine VLe_bool ?_ | refine VLe_str ?_ | skip))
    | (with_reducible refine And.intro ?_ ?_)
    | with_reducible intro _
  all_goals first
    | omega
    | (rename_i hx; revert hx; simp; done)
    | (simp; done)
    | skip
  refine loop_of (T := fun i : Nat => spar 36 [(6, if i = 0 then .nl else .osl (h.length + 1) i 2 0 0), (25, .osl k v 1 0 2), (26, .int .i64 2), (27, .int .i64 i)]) (H := fun i => h ++ [.emp 1, .emp i, .emp 0])
    (inv := fun i => i ≤ 2) (m := fun i => 2 - i) 0 (by omega) (Wk.temps ?_) ?_
  · (simp only [spar, List.foldl, List.replicate, go_sem, VLes_nil, VLes_cons, VLe_undef_iff, VLe_self]; try (repeat' first | (with_reducible refine And.intro ?_ ?_) | (refine VLe_int ?_; omega) | (refine VLe_bool ?_; rfl) | exact VLe.refl _))
  rintro i i1 K hK
  obtain ⟨s1, s2, s3, s4, s5, s6⟩ := src_pats h []
  have s5 : ∀ X, sliceCells (h ++ X) (patsV []) = some (0, []) := s5
  obtain rfl | rfl | rfl : i = 0 ∨ i = 1 ∨ i = 2 := by omega
  · simp (disch := omega) only [spar, List.foldl, List.replicate, hL, hC, s2, s3, s4, s5, s6, go_sem, wrap64_id, Int.tdiv_eq_ediv_of_nonneg, Int.tmod_eq_emod_of_nonneg]
    repeat' first
      | ((first | refine fnQ_pure1 ?_ ?_ | refine fnQ_pure0 ?_ ?_); (next => repeat' first | exact rvs_n | refine rvs_t ?_ | (simp [go_sem]; done)); simp only [go_sem]; (first | exact VLe.refl _ | refine VLe_int ?_ | refine VLe_bool ?_ | refine VLe_str ?_ | skip))
      | (with_reducible refine And.intro ?_ ?_)
      | with_reducible intro _
    all_goals first
      | omega
      | (rename_i hx; revert hx; simp; done)
      | (simp; done)
      | skip
    refine hK _ _ 1 (by omega) (by omega) (Wk.temps ?_)
    (simp only [spar, List.foldl, List.replicate, go_sem, VLes_nil, VLes_cons, VLe_undef_iff, VLe_self]; try (repeat' first | (with_reducible refine And.intro ?_ ?_) | (refine VLe_int ?_; omega) | (refine VLe_bool ?_; rfl) | exact VLe.refl _))
  · simp (disch := omega) only [spar, List.foldl, List.replicate, hL, hC, s2, s3, s4, s5, s6, go_sem, wrap64_id, Int.tdiv_eq_ediv_of_nonneg, Int.tmod_eq_emod_of_nonneg]
    repeat' first
      | ((first | refine fnQ_pure1 ?_ ?_ | refine fnQ_pure0 ?_ ?_); (next => repeat' first | exact rvs_n | refine rvs_t ?_ | (simp [go_sem]; done)); simp only [go_sem]; (first | exact VLe.refl _ | refine VLe_int ?_ | refine VLe_bool ?_ | refine VLe_str ?_ | skip))
      | (with_reducible refine And.intro ?_ ?_)
      | with_reducible intro _
    all_goals first
      | omega
      | (rename_i hx; revert hx; simp; done)
      | (simp; done)
      | skip
    refine hK _ _ 2 (by omega) (by omega) (Wk.temps ?_)
    (simp only [spar, List.foldl, List.replicate, go_sem, VLes_nil, VLes_cons, VLe_undef_iff, VLe_self]; try (repeat' first | (with_reducible refine And.intro ?_ ?_) | (refine VLe_int ?_; omega) | (refine VLe_bool ?_; rfl) | exact VLe.refl _))
  · simp (disch := omega) only [spar, List.foldl, List.replicate, hL, hC, go_sem, wrap64_id, Int.tdiv_eq_ediv_of_nonneg, Int.tmod_eq_emod_of_nonneg]
    repeat' first
      | ((first | refine fnQ_pure1 ?_ ?_ | refine fnQ_pure0 ?_ ?_); (next => repeat' first | exact rvs_n | refine rvs_t ?_ | (simp [go_sem]; done)); simp only [go_sem]; (first | exact VLe.refl _ | refine VLe_int ?_ | refine VLe_bool ?_ | refine VLe_str ?_ | skip))
      | (with_reducible refine And.intro ?_ ?_)
      | with_reducible intro _
    all_goals first
      | omega
      | (rename_i hx; revert hx; simp; done)
      | (simp; done)
      | skip
    exact VLe_nl
/-- Two lists of patterns, one behind the other. -/
theorem u15c (ps qs : List Pat) (h : List AObj) (k v : Nat) (hk : getO k h = some (.mem v 22 [patsV ps, patsV qs])) (hl : ps.length + qs.length ≤ 1000000000) : ACalls Tryd.prog 15 [.osl k v 1 0 2] h (patsV (ps ++ qs)) h := by
  by_cases h0 : 0 < ps.length + qs.length
  · have := u15 [ps, qs] (fun i => if i = 0 then patsV ps else patsV qs) h k v _ hk rfl (fun i hi => by
      obtain rfl | rfl : i = 0 ∨ i = 1 := by simp at hi; omega
      · exact ⟨rfl, src_pats h ps⟩
      · exact ⟨rfl, src_pats h qs⟩) (by simpa using h0) (by simpa using hl) (by simp) (by simp)
    simpa using this
  · obtain ⟨rfl⟩ : ps = [] := List.eq_nil_of_length_eq_zero (by omega)
    obtain ⟨rfl⟩ : qs = [] := List.eq_nil_of_length_eq_zero (by omega)
    exact u15z h k v hk
end HY

import Derived.Test.YtonpflblcnpegaaDoorK9
set_option linter.all false
set_option linter.unusedSimpArgs false
set_option linter.unusedVariables false
set_option linter.unusedSectionVars false
open Go Go.Proofs AF HY
namespace HY
set_option maxRecDepth 100000
theorem parseR_ok (s : List UInt8) (h : s.length ≤ 65536) : okPats (parseR s) := by
  unfold parseR
  split
  · exact parseB_ok s h
  · exact ⟨by simp, fun i hi => by simp at hi⟩
set_option maxHeartbeats 8000000 in
theorem v5 (p : List Pat) (s : List UInt8) (h : List AObj) (hp : p.length ≤ 9223372036854775807) : ACalls Tryd.prog 5 [patsV p, .str s] h (.bool true) h := by
  have c20 := fun h => u20 p h hp
  cases hg : greatH p with
  | true =>
    rw [hg] at c20
    refine acalls_of fn5d (by simp) ?_
    simp only [List.length_cons, List.length_nil, Nat.reduceAdd, Nat.reduceSub, List.replicate, List.cons_append, List.nil_append, List.append_nil]
    simp (disch := omega) only [c5d, go_sem, wrap64_id, Int.tdiv_eq_ediv_of_nonneg, Int.tmod_eq_emod_of_nonneg]
    repeat' first
      | ((first | refine callA_pure (c20 _) ?_ ?_ | refine callA_pure (u13 _) ?_ ?_); (next => repeat' first | exact flags_n | refine flags_c (by first | rfl | assumption) ?_); simp (disch := omega) only [go_sem, wrap64_id, Int.tdiv_eq_ediv_of_nonneg, Int.tmod_eq_emod_of_nonneg])
      | ((first | refine callG_pure (fun e => ⟨?_, c20 _⟩) ?_ | refine callG_pure (fun e => ⟨?_, u13 _⟩) ?_); (next => repeat' first | exact flags_n | refine flags_c (by first | rfl | assumption) ?_); simp (disch := omega) only [go_sem, wrap64_id, Int.tdiv_eq_ediv_of_nonneg, Int.tmod_eq_emod_of_nonneg])
      | ((first | refine fnQ_pure1 ?_ ?_ | refine fnQ_pure0 ?_ ?_); (next => repeat' first | exact rvs_n | refine rvs_t ?_ | (simp [go_sem]; done)); simp only [go_sem]; (first | exact VLe.refl _ | refine VLe_int ?_ | refine VLe_bool ?_ | refine VLe_str ?_ | skip))
      | (with_reducible refine And.intro ?_ ?_)
      | with_reducible intro _
    all_goals first
      | omega
      | (rename_i hx; revert hx; simp; done)
      | (simp; done)
      | skip
  | false =>
  rw [hg] at c20
  by_cases hs : 60 < s.length
  · have k1 : (60 < (s.length : Int)) = True := eq_true (by omega)
    refine acalls_of fn5d (by simp) ?_
    simp only [List.length_cons, List.length_nil, Nat.reduceAdd, Nat.reduceSub, List.replicate, List.cons_append, List.nil_append, List.append_nil]
    simp (disch := omega) only [c5d, k1, go_sem, wrap64_id, Int.tdiv_eq_ediv_of_nonneg, Int.tmod_eq_emod_of_nonneg]
    repeat' first
      | ((first | refine callA_pure (c20 _) ?_ ?_ | refine callA_pure (u13 _) ?_ ?_); (next => repeat' first | exact flags_n | refine flags_c (by first | rfl | assumption) ?_); simp (disch := omega) only [k1, go_sem, wrap64_id, Int.tdiv_eq_ediv_of_nonneg, Int.tmod_eq_emod_of_nonneg])
      | ((first | refine callG_pure (fun e => ⟨?_, c20 _⟩) ?_ | refine callG_pure (fun e => ⟨?_, u13 _⟩) ?_); (next => repeat' first | exact flags_n | refine flags_c (by first | rfl | assumption) ?_); simp (disch := omega) only [k1, go_sem, wrap64_id, Int.tdiv_eq_ediv_of_nonneg, Int.tmod_eq_emod_of_nonneg])
      | ((first | refine fnQ_pure1 ?_ ?_ | refine fnQ_pure0 ?_ ?_); (next => repeat' first | exact rvs_n | refine rvs_t ?_ | (simp [go_sem]; done)); simp only [go_sem]; (first | exact VLe.refl _ | refine VLe_int ?_ | refine VLe_bool ?_ | refine VLe_str ?_ | skip))
      | (with_reducible refine And.intro ?_ ?_)
      | with_reducible intro _
    all_goals first
      | omega
      | (rename_i hx; revert hx; simp; done)
      | (simp; done)
      | skip
  have k1 : (60 < (s.length : Int)) = False := eq_false (by omega)
  have hok := ok_great hg
  have hsm := small_print hg
  have c21 := fun h => v21 s h
  have c22 := fun h => v22 s h
  have c23 := fun h => v23 p h hok (by
    by_cases hc : checkPats p = 0
    · have := hsm hc; omega
    · have h1 := printGo_size (ps := p) (B := 100) (fun i hi => by
        obtain ⟨g1, g2, g3⟩ := greatP_false ((great_any hg).2 i hi)
        have := patT_size (p.getD i default)
        omega) p.length (Nat.le_refl _)
      have h2 := (great_any hg).1
      have h3 : p.length * (100 + 1) ≤ 4098 * 101 := Nat.mul_le_mul_right _ (by omega)
      have h4 : (printT p).length = (printGo p p.length).length := rfl
      omega)
  have c24 := fun h => v24 p h hok hsm
  have c25 := fun h => t64 p h hok
  have c26 := fun h => t69 p h hok
  have c27 := fun h => u27 (parseR s) (parseR s) h (parseR_ok s (by omega))
  rw [decide_eq_true rfl] at c27
  obtain ⟨A, hA⟩ : ∃ A, A = parseR s := ⟨_, rfl⟩
  obtain ⟨e, he⟩ : ∃ e, e = parseE s := ⟨_, rfl⟩
  obtain ⟨X, hX⟩ : ∃ X, X = printR p := ⟨_, rfl⟩
  obtain ⟨g, hgg⟩ : ∃ g, g = printE p := ⟨_, rfl⟩
  obtain ⟨c, hc⟩ : ∃ c, c = checkPats p := ⟨_, rfl⟩
  rw [← hA] at c21 c22 c27
  rw [← he] at c21 c22
  rw [← hX, ← hgg] at c23 c24
  rw [← hc] at c25 c26
  have k2 : (c = c) = True := eq_true rfl
  have k3 : (e = e) = True := eq_true rfl
  have k4 : (X = X) = True := eq_true rfl
  have k5 : (g = g) = True := eq_true rfl
  refine acalls_of fn5d (by simp) ?_
  simp only [List.length_cons, List.length_nil, Nat.reduceAdd, Nat.reduceSub, List.replicate, List.cons_append, List.nil_append, List.append_nil]
  simp (disch := omega) only [c5d, k1, k2, k3, k4, k5, go_sem, wrap64_id, Int.tdiv_eq_ediv_of_nonneg, Int.tmod_eq_emod_of_nonneg]
  repeat' first
    | ((first | refine callA_pure (c20 _) ?_ ?_ | refine callA_pure (c21 _) ?_ ?_ | refine callA_pure (c22 _) ?_ ?_ | refine callA_pure (c23 _) ?_ ?_ | refine callA_pure (c24 _) ?_ ?_ | refine callA_pure (c25 _) ?_ ?_ | refine callA_pure (c26 _) ?_ ?_ | refine callA_pure (c27 _) ?_ ?_ | refine callA_pure (u13 _) ?_ ?_); (next => repeat' first | exact flags_n | refine flags_c (by first | rfl | assumption) ?_); simp (disch := omega) only [k1, k2, k3, k4, k5, go_sem, wrap64_id, Int.tdiv_eq_ediv_of_nonneg, Int.tmod_eq_emod_of_nonneg])
    | ((first | refine callG_pure (fun e => ⟨?_, c20 _⟩) ?_ | refine callG_pure (fun e => ⟨?_, c21 _⟩) ?_ | refine callG_pure (fun e => ⟨?_, c22 _⟩) ?_ | refine callG_pure (fun e => ⟨?_, c23 _⟩) ?_ | refine callG_pure (fun e => ⟨?_, c24 _⟩) ?_ | refine callG_pure (fun e => ⟨?_, c25 _⟩) ?_ | refine callG_pure (fun e => ⟨?_, c26 _⟩) ?_ | refine callG_pure (fun e => ⟨?_, c27 _⟩) ?_ | refine callG_pure (fun e => ⟨?_, u13 _⟩) ?_); (next => repeat' first | exact flags_n | refine flags_c (by first | rfl | assumption) ?_); simp (disch := omega) only [k1, k2, k3, k4, k5, go_sem, wrap64_id, Int.tdiv_eq_ediv_of_nonneg, Int.tmod_eq_emod_of_nonneg])
    | ((first | refine fnQ_pure1 ?_ ?_ | refine fnQ_pure0 ?_ ?_); (next => repeat' first | exact rvs_n | refine rvs_t ?_ | (simp [go_sem]; done)); simp only [go_sem]; (first | exact VLe.refl _ | refine VLe_int ?_ | refine VLe_bool ?_ | refine VLe_str ?_ | skip))
    | (with_reducible refine And.intro ?_ ?_)
    | with_reducible intro _
  all_goals first
    | omega
    | (rename_i hx; revert hx; simp; done)
    | (simp; done)
    | skip
end HY

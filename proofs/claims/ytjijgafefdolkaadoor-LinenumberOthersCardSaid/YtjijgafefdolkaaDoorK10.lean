import Derived.Test.YtjijgafefdolkaaDoorK9
set_option linter.all false
set_option linter.unusedSimpArgs false
set_option linter.unusedVariables false
set_option linter.unusedSectionVars false
section
open Go Go.Proofs AF HY P48
namespace LN
set_option maxRecDepth 100000
set_option maxHeartbeats 8000000 in
theorem t5 (ts L : List (List UInt8)) (V : List Int) (h : List AObj) (hp : Pins PowG h) (hl : ts.length ≤ 9223372036854775807) : ACalls Tryd.prog 5 [strs ts, strs L, intsV V] h (.bool true) h := by
  have c10 := fun h => t10 h
  by_cases g1 : 8 < ts.length
  · have k1 : (8 < (ts.length : Int)) = True := eq_true (by omega)
    refine acalls_of fn5m (by simp) ?_
    simp only [List.length_cons, List.length_nil, Nat.reduceAdd, Nat.reduceSub, List.replicate, List.cons_append, List.nil_append, List.append_nil]
    simp (disch := omega) only [c5m, strs, intsV, k1, go_sem, wrap64_id, Int.tdiv_eq_ediv_of_nonneg, Int.tmod_eq_emod_of_nonneg]
    repeat' first
      | (refine callG_false ((.bool false)) ?_; simp (disch := omega) only [strs, intsV, k1, go_sem, wrap64_id, Int.tdiv_eq_ediv_of_nonneg, Int.tmod_eq_emod_of_nonneg])
      | ((first | refine callA_pure (c10 _) ?_ ?_); (next => repeat' first | exact flags_n | refine flags_c (by first | rfl | assumption) ?_); simp (disch := omega) only [strs, intsV, k1, go_sem, wrap64_id, Int.tdiv_eq_ediv_of_nonneg, Int.tmod_eq_emod_of_nonneg])
      | ((first | refine callU_of (fun _ => c10 _) ?_ ?_); (next => repeat' first | exact flags_n | refine flags_c (by first | rfl | assumption) ?_); simp (disch := omega) only [strs, intsV, k1, go_sem, wrap64_id, Int.tdiv_eq_ediv_of_nonneg, Int.tmod_eq_emod_of_nonneg])
      | ((first | refine callG_pure (fun e => ⟨?_, c10 _⟩) ?_); (next => repeat' first | exact flags_n | refine flags_c (by first | rfl | assumption) ?_); simp (disch := omega) only [strs, intsV, k1, go_sem, wrap64_id, Int.tdiv_eq_ediv_of_nonneg, Int.tmod_eq_emod_of_nonneg])
      | ((first | refine fnQ_pure1 ?_ ?_ | refine fnQ_pure0 ?_ ?_); (next => repeat' first | exact rvs_n | refine rvs_t ?_ | (simp [go_sem]; done)); simp only [go_sem]; (first | exact VLe.refl _ | refine VLe_int ?_ | refine VLe_bool ?_ | refine VLe_str ?_ | skip))
      | (with_reducible refine And.intro ?_ ?_)
      | with_reducible intro _
    all_goals first
      | omega
      | (rename_i hx; revert hx; simp; done)
      | (simp; done)
      | skip
  have k1 : (8 < (ts.length : Int)) = False := eq_false (by omega)
  by_cases g2 : 8 < L.length
  · have k2 : (8 < (L.length : Int)) = True := eq_true (by omega)
    refine acalls_of fn5m (by simp) ?_
    simp only [List.length_cons, List.length_nil, Nat.reduceAdd, Nat.reduceSub, List.replicate, List.cons_append, List.nil_append, List.append_nil]
    simp (disch := omega) only [c5m, strs, intsV, k1, k2, go_sem, wrap64_id, Int.tdiv_eq_ediv_of_nonneg, Int.tmod_eq_emod_of_nonneg]
    repeat' first
      | (refine callG_false ((.bool false)) ?_; simp (disch := omega) only [strs, intsV, k1, k2, go_sem, wrap64_id, Int.tdiv_eq_ediv_of_nonneg, Int.tmod_eq_emod_of_nonneg])
      | ((first | refine callA_pure (c10 _) ?_ ?_); (next => repeat' first | exact flags_n | refine flags_c (by first | rfl | assumption) ?_); simp (disch := omega) only [strs, intsV, k1, k2, go_sem, wrap64_id, Int.tdiv_eq_ediv_of_nonneg, Int.tmod_eq_emod_of_nonneg])
      | ((first | refine callU_of (fun _ => c10 _) ?_ ?_); (next => repeat' first | exact flags_n | refine flags_c (by first | rfl | assumption) ?_); simp (disch := omega) only [strs, intsV, k1, k2, go_sem, wrap64_id, Int.tdiv_eq_ediv_of_nonneg, Int.tmod_eq_emod_of_nonneg])
      | ((first | refine callG_pure (fun e => ⟨?_, c10 _⟩) ?_); (next => repeat' first | exact flags_n | refine flags_c (by first | rfl | assumption) ?_); simp (disch := omega) only [strs, intsV, k1, k2, go_sem, wrap64_id, Int.tdiv_eq_ediv_of_nonneg, Int.tmod_eq_emod_of_nonneg])
      | ((first | refine fnQ_pure1 ?_ ?_ | refine fnQ_pure0 ?_ ?_); (next => repeat' first | exact rvs_n | refine rvs_t ?_ | (simp [go_sem]; done)); simp only [go_sem]; (first | exact VLe.refl _ | refine VLe_int ?_ | refine VLe_bool ?_ | refine VLe_str ?_ | skip))
      | (with_reducible refine And.intro ?_ ?_)
      | with_reducible intro _
    all_goals first
      | omega
      | (rename_i hx; revert hx; simp; done)
      | (simp; done)
      | skip
  have k2 : (8 < (L.length : Int)) = False := eq_false (by omega)
  by_cases g3 : 8 < V.length
  · have k3 : (8 < (V.length : Int)) = True := eq_true (by omega)
    refine acalls_of fn5m (by simp) ?_
    simp only [List.length_cons, List.length_nil, Nat.reduceAdd, Nat.reduceSub, List.replicate, List.cons_append, List.nil_append, List.append_nil]
    simp (disch := omega) only [c5m, strs, intsV, k1, k2, k3, go_sem, wrap64_id, Int.tdiv_eq_ediv_of_nonneg, Int.tmod_eq_emod_of_nonneg]
    repeat' first
      | (refine callG_false ((.bool false)) ?_; simp (disch := omega) only [strs, intsV, k1, k2, k3, go_sem, wrap64_id, Int.tdiv_eq_ediv_of_nonneg, Int.tmod_eq_emod_of_nonneg])
      | ((first | refine callA_pure (c10 _) ?_ ?_); (next => repeat' first | exact flags_n | refine flags_c (by first | rfl | assumption) ?_); simp (disch := omega) only [strs, intsV, k1, k2, k3, go_sem, wrap64_id, Int.tdiv_eq_ediv_of_nonneg, Int.tmod_eq_emod_of_nonneg])
      | ((first | refine callU_of (fun _ => c10 _) ?_ ?_); (next => repeat' first | exact flags_n | refine flags_c (by first | rfl | assumption) ?_); simp (disch := omega) only [strs, intsV, k1, k2, k3, go_sem, wrap64_id, Int.tdiv_eq_ediv_of_nonneg, Int.tmod_eq_emod_of_nonneg])
      | ((first | refine callG_pure (fun e => ⟨?_, c10 _⟩) ?_); (next => repeat' first | exact flags_n | refine flags_c (by first | rfl | assumption) ?_); simp (disch := omega) only [strs, intsV, k1, k2, k3, go_sem, wrap64_id, Int.tdiv_eq_ediv_of_nonneg, Int.tmod_eq_emod_of_nonneg])
      | ((first | refine fnQ_pure1 ?_ ?_ | refine fnQ_pure0 ?_ ?_); (next => repeat' first | exact rvs_n | refine rvs_t ?_ | (simp [go_sem]; done)); simp only [go_sem]; (first | exact VLe.refl _ | refine VLe_int ?_ | refine VLe_bool ?_ | refine VLe_str ?_ | skip))
      | (with_reducible refine And.intro ?_ ?_)
      | with_reducible intro _
    all_goals first
      | omega
      | (rename_i hx; revert hx; simp; done)
      | (simp; done)
      | skip
  have k3 : (8 < (V.length : Int)) = False := eq_false (by omega)
  have ca := fun h => t20 ts (fun w => decide (80 < w.length)) 19 h (by omega) t19
  have cb := fun h => t20 L (fun w => decide (80 < w.length)) 19 h (by omega) t19
  by_cases g4 : ts.any (fun w => decide (80 < w.length)) = true
  · rw [g4] at ca
    unfold strs at ca cb
    refine acalls_of fn5m (by simp) ?_
    simp only [List.length_cons, List.length_nil, Nat.reduceAdd, Nat.reduceSub, List.replicate, List.cons_append, List.nil_append, List.append_nil]
    simp (disch := omega) only [c5m, strs, intsV, k1, k2, k3, go_sem, wrap64_id, Int.tdiv_eq_ediv_of_nonneg, Int.tmod_eq_emod_of_nonneg]
    repeat' first
      | (refine callG_false ((.bool false)) ?_; simp (disch := omega) only [strs, intsV, k1, k2, k3, go_sem, wrap64_id, Int.tdiv_eq_ediv_of_nonneg, Int.tmod_eq_emod_of_nonneg])
      | ((first | refine callA_pure (ca _) ?_ ?_ | refine callA_pure (c10 _) ?_ ?_); (next => repeat' first | exact flags_n | refine flags_c (by first | rfl | assumption) ?_); simp (disch := omega) only [strs, intsV, k1, k2, k3, go_sem, wrap64_id, Int.tdiv_eq_ediv_of_nonneg, Int.tmod_eq_emod_of_nonneg])
      | ((first | refine callU_of (fun _ => ca _) ?_ ?_ | refine callU_of (fun _ => c10 _) ?_ ?_); (next => repeat' first | exact flags_n | refine flags_c (by first | rfl | assumption) ?_); simp (disch := omega) only [strs, intsV, k1, k2, k3, go_sem, wrap64_id, Int.tdiv_eq_ediv_of_nonneg, Int.tmod_eq_emod_of_nonneg])
      | ((first | refine callG_pure (fun e => ⟨?_, ca _⟩) ?_ | refine callG_pure (fun e => ⟨?_, c10 _⟩) ?_); (next => repeat' first | exact flags_n | refine flags_c (by first | rfl | assumption) ?_); simp (disch := omega) only [strs, intsV, k1, k2, k3, go_sem, wrap64_id, Int.tdiv_eq_ediv_of_nonneg, Int.tmod_eq_emod_of_nonneg])
      | ((first | refine fnQ_pure1 ?_ ?_ | refine fnQ_pure0 ?_ ?_); (next => repeat' first | exact rvs_n | refine rvs_t ?_ | (simp [go_sem]; done)); simp only [go_sem]; (first | exact VLe.refl _ | refine VLe_int ?_ | refine VLe_bool ?_ | refine VLe_str ?_ | skip))
      | (with_reducible refine And.intro ?_ ?_)
      | with_reducible intro _
    all_goals first
      | omega
      | (rename_i hx; revert hx; simp; done)
      | (simp; done)
      | skip
  have g4' : ts.any (fun w => decide (80 < w.length)) = false := by simpa using g4
  rw [g4'] at ca
  by_cases g5 : L.any (fun w => decide (80 < w.length)) = true
  · rw [g5] at cb
    unfold strs at ca cb
    refine acalls_of fn5m (by simp) ?_
    simp only [List.length_cons, List.length_nil, Nat.reduceAdd, Nat.reduceSub, List.replicate, List.cons_append, List.nil_append, List.append_nil]
    simp (disch := omega) only [c5m, strs, intsV, k1, k2, k3, go_sem, wrap64_id, Int.tdiv_eq_ediv_of_nonneg, Int.tmod_eq_emod_of_nonneg]
    repeat' first
      | ((first | refine callA_pure (ca _) ?_ ?_ | refine callA_pure (cb _) ?_ ?_ | refine callA_pure (c10 _) ?_ ?_); (next => repeat' first | exact flags_n | refine flags_c (by first | rfl | assumption) ?_); simp (disch := omega) only [strs, intsV, k1, k2, k3, go_sem, wrap64_id, Int.tdiv_eq_ediv_of_nonneg, Int.tmod_eq_emod_of_nonneg])
      | ((first | refine callU_of (fun _ => ca _) ?_ ?_ | refine callU_of (fun _ => cb _) ?_ ?_ | refine callU_of (fun _ => c10 _) ?_ ?_); (next => repeat' first | exact flags_n | refine flags_c (by first | rfl | assumption) ?_); simp (disch := omega) only [strs, intsV, k1, k2, k3, go_sem, wrap64_id, Int.tdiv_eq_ediv_of_nonneg, Int.tmod_eq_emod_of_nonneg])
      | ((first | refine callG_pure (fun e => ⟨?_, ca _⟩) ?_ | refine callG_pure (fun e => ⟨?_, cb _⟩) ?_ | refine callG_pure (fun e => ⟨?_, c10 _⟩) ?_); (next => repeat' first | exact flags_n | refine flags_c (by first | rfl | assumption) ?_); simp (disch := omega) only [strs, intsV, k1, k2, k3, go_sem, wrap64_id, Int.tdiv_eq_ediv_of_nonneg, Int.tmod_eq_emod_of_nonneg])
      | ((first | refine fnQ_pure1 ?_ ?_ | refine fnQ_pure0 ?_ ?_); (next => repeat' first | exact rvs_n | refine rvs_t ?_ | (simp [go_sem]; done)); simp only [go_sem]; (first | exact VLe.refl _ | refine VLe_int ?_ | refine VLe_bool ?_ | refine VLe_str ?_ | skip))
      | (with_reducible refine And.intro ?_ ?_)
      | with_reducible intro _
    all_goals first
      | omega
      | (rename_i hx; revert hx; simp; done)
      | (simp; done)
      | skip
  have g5' : L.any (fun w => decide (80 < w.length)) = false := by simpa using g5
  rw [g5'] at cb
  have h4 : ∀ i, i < ts.length → (ts.getD i []).length ≤ 80 := fun i hi => by
    apply Classical.byContradiction
    intro hc
    apply g4
    rw [List.any_eq_true]
    refine ⟨ts.getD i [], ?_, decide_eq_true (by omega)⟩
    rw [List.getD_eq_getElem?_getD, List.getElem?_eq_getElem hi]
    exact List.getElem_mem hi
  have h5 : ∀ i, i < L.length → (L.getD i []).length ≤ 80 := fun i hi => by
    apply Classical.byContradiction
    intro hc
    apply g5
    rw [List.any_eq_true]
    refine ⟨L.getD i [], ?_, decide_eq_true (by omega)⟩
    rw [List.getD_eq_getElem?_getD, List.getElem?_eq_getElem hi]
    exact List.getElem_mem hi
  have c21 : ∀ (us : List (List UInt8)) (l : List AObj), us.length ≤ 1000000000 → (∀ i, i < us.length → (us.getD i []).length ≤ 80) → ACalls Tryd.prog 21 [strs us, strs L, intsV V] (h ++ l) (.tup [strs (resO Lib.itoa us L V).2, .int .i64 (resO Lib.itoa us L V).1]) (h ++ l) := fun us l hu1 hu2 =>
    t21 Lib.itoa us L V (h ++ l) hu1 (by omega) (by omega) (fun i hi => by have := hu2 i hi; omega) (fun i hi => by have := h5 i hi; omega)
      (fun n _ n1 n2 => ⟨(itoa_ok n n1 n2).1, fun l2 => t48 n _ ((hp.app l).app l2) (by omega) (by omega)⟩)
  have cT := fun l => c21 ts l (by omega) h4
  have cN : ∀ l, ACalls Tryd.prog 21 [.nl, strs L, intsV V] (h ++ l) (.tup [strs (resO Lib.itoa [] L V).2, .int .i64 (resO Lib.itoa [] L V).1]) (h ++ l) := fun l =>
    (c21 [] l (by simp) (fun i hi => absurd hi (by simp))).le (VLes2 nl_strs (VLes.refl _)) (VLe.refl _)
  obtain ⟨r1, r2⟩ := res_cases Lib.itoa itoa_ok ts L V (by omega) h4
  obtain ⟨f, hf⟩ : ∃ f, f = (resO Lib.itoa [] L V).1 := ⟨_, rfl⟩
  rw [r1, ← hf] at cN
  rw [← hf] at r2
  rcases r2 with ⟨f1, f2⟩ | ⟨rfl, r3⟩
  · have q1 : (f = 0) = False := eq_false f1
    rw [f2] at cT
    unfold strs at ca cb
    refine acalls_of fn5m (by simp) ?_
    simp only [List.length_cons, List.length_nil, Nat.reduceAdd, Nat.reduceSub, List.replicate, List.cons_append, List.nil_append, List.append_nil]
    simp (disch := omega) only [c5m, strs, intsV, k1, k2, k3, go_sem, wrap64_id, Int.tdiv_eq_ediv_of_nonneg, Int.tmod_eq_emod_of_nonneg]
    repeat' first
      | ((first | refine callA_pure (ca _) ?_ ?_ | refine callA_pure (cb _) ?_ ?_); (next => repeat' first | exact flags_n | refine flags_c (by first | rfl | assumption) ?_); simp (disch := omega) only [strs, intsV, k1, k2, k3, go_sem, wrap64_id, Int.tdiv_eq_ediv_of_nonneg, Int.tmod_eq_emod_of_nonneg])
      | ((first | refine callU_of (fun _ => ca _) ?_ ?_ | refine callU_of (fun _ => cb _) ?_ ?_); (next => repeat' first | exact flags_n | refine flags_c (by first | rfl | assumption) ?_); simp (disch := omega) only [strs, intsV, k1, k2, k3, go_sem, wrap64_id, Int.tdiv_eq_ediv_of_nonneg, Int.tmod_eq_emod_of_nonneg])
      | ((first | refine callG_pure (fun e => ⟨?_, ca _⟩) ?_ | refine callG_pure (fun e => ⟨?_, cb _⟩) ?_); (next => repeat' first | exact flags_n | refine flags_c (by first | rfl | assumption) ?_); simp (disch := omega) only [strs, intsV, k1, k2, k3, go_sem, wrap64_id, Int.tdiv_eq_ediv_of_nonneg, Int.tmod_eq_emod_of_nonneg])
      | ((first | refine fnQ_pure1 ?_ ?_ | refine fnQ_pure0 ?_ ?_); (next => repeat' first | exact rvs_n | refine rvs_t ?_ | (simp [go_sem]; done)); simp only [go_sem]; (first | exact VLe.refl _ | refine VLe_int ?_ | refine VLe_bool ?_ | refine VLe_str ?_ | skip))
      | (with_reducible refine And.intro ?_ ?_)
      | with_reducible intro _
    all_goals first
      | omega
      | (rename_i hx; revert hx; simp; done)
      | (simp; done)
      | skip
    refine callA_eff (cT _) ⟨rfl, rfl, rfl, trivial⟩ ?_
    simp (disch := omega) only [strs, intsV, go_sem, wrap64_id, Int.tdiv_eq_ediv_of_nonneg, Int.tmod_eq_emod_of_nonneg]
    repeat' first
      | ((first | refine fnQ_pure1 ?_ ?_ | refine fnQ_pure0 ?_ ?_); (next => repeat' first | exact rvs_n | refine rvs_t ?_ | (simp [go_sem]; done)); simp only [go_sem]; (first | exact VLe.refl _ | refine VLe_int ?_ | refine VLe_bool ?_ | refine VLe_str ?_ | skip))
      | (with_reducible refine And.intro ?_ ?_)
      | with_reducible intro _
    all_goals first
      | omega
      | (rename_i hx; revert hx; simp; done)
      | (simp; done)
      | skip
    refine callA_eff (cN _) ⟨rfl, rfl, rfl, trivial⟩ ?_
    simp (disch := omega) only [strs, intsV, q1, go_sem, wrap64_id, Int.tdiv_eq_ediv_of_nonneg, Int.tmod_eq_emod_of_nonneg]
    repeat' first
      | ((first | refine callA_pure (c10 _) ?_ ?_); (next => repeat' first | exact flags_n | refine flags_c (by first | rfl | assumption) ?_); simp (disch := omega) only [strs, intsV, q1, go_sem, wrap64_id, Int.tdiv_eq_ediv_of_nonneg, Int.tmod_eq_emod_of_nonneg])
      | ((first | refine callU_of (fun _ => c10 _) ?_ ?_); (next => repeat' first | exact flags_n | refine flags_c (by first | rfl | assumption) ?_); simp (disch := omega) only [strs, intsV, q1, go_sem, wrap64_id, Int.tdiv_eq_ediv_of_nonneg, Int.tmod_eq_emod_of_nonneg])
      | ((first | refine callG_pure (fun e => ⟨?_, c10 _⟩) ?_); (next => repeat' first | exact flags_n | refine flags_c (by first | rfl | assumption) ?_); simp (disch := omega) only [strs, intsV, q1, go_sem, wrap64_id, Int.tdiv_eq_ediv_of_nonneg, Int.tmod_eq_emod_of_nonneg])
      | ((first | refine fnQ_pure1 ?_ ?_ | refine fnQ_pure0 ?_ ?_); (next => repeat' first | exact rvs_n | refine rvs_t ?_ | (simp [go_sem]; done)); simp only [go_sem]; (first | exact VLe.refl _ | refine VLe_int ?_ | refine VLe_bool ?_ | refine VLe_str ?_ | skip))
      | (with_reducible refine And.intro ?_ ?_)
      | with_reducible intro _
    all_goals first
      | omega
      | (rename_i hx; revert hx; simp; done)
      | (simp; done)
      | skip
  rcases r3 with ⟨e1, e2⟩ | ⟨e1, e2, e3⟩
  · obtain ⟨R, hR⟩ : ∃ R, R = (resO Lib.itoa ts L V).2 := ⟨_, rfl⟩
    rw [e1, ← hR] at cT
    have cd := fun h => t20 ts (fun w => decide (0 < w.count 64)) 22 h (by omega) t22
    rw [e2] at cd
    unfold strs at ca cb cd
    refine acalls_of fn5m (by simp) ?_
    simp only [List.length_cons, List.length_nil, Nat.reduceAdd, Nat.reduceSub, List.replicate, List.cons_append, List.nil_append, List.append_nil]
    simp (disch := omega) only [c5m, strs, intsV, k1, k2, k3, go_sem, wrap64_id, Int.tdiv_eq_ediv_of_nonneg, Int.tmod_eq_emod_of_nonneg]
    repeat' first
      | ((first | refine callA_pure (ca _) ?_ ?_ | refine callA_pure (cb _) ?_ ?_); (next => repeat' first | exact flags_n | refine flags_c (by first | rfl | assumption) ?_); simp (disch := omega) only [strs, intsV, k1, k2, k3, go_sem, wrap64_id, Int.tdiv_eq_ediv_of_nonneg, Int.tmod_eq_emod_of_nonneg])
      | ((first | refine callU_of (fun _ => ca _) ?_ ?_ | refine callU_of (fun _ => cb _) ?_ ?_); (next => repeat' first | exact flags_n | refine flags_c (by first | rfl | assumption) ?_); simp (disch := omega) only [strs, intsV, k1, k2, k3, go_sem, wrap64_id, Int.tdiv_eq_ediv_of_nonneg, Int.tmod_eq_emod_of_nonneg])
      | ((first | refine callG_pure (fun e => ⟨?_, ca _⟩) ?_ | refine callG_pure (fun e => ⟨?_, cb _⟩) ?_); (next => repeat' first | exact flags_n | refine flags_c (by first | rfl | assumption) ?_); simp (disch := omega) only [strs, intsV, k1, k2, k3, go_sem, wrap64_id, Int.tdiv_eq_ediv_of_nonneg, Int.tmod_eq_emod_of_nonneg])
      | ((first | refine fnQ_pure1 ?_ ?_ | refine fnQ_pure0 ?_ ?_); (next => repeat' first | exact rvs_n | refine rvs_t ?_ | (simp [go_sem]; done)); simp only [go_sem]; (first | exact VLe.refl _ | refine VLe_int ?_ | refine VLe_bool ?_ | refine VLe_str ?_ | skip))
      | (with_reducible refine And.intro ?_ ?_)
      | with_reducible intro _
    all_goals first
      | omega
      | (rename_i hx; revert hx; simp; done)
      | (simp; done)
      | skip
    refine callA_eff (cT _) ⟨rfl, rfl, rfl, trivial⟩ ?_
    simp (disch := omega) only [strs, intsV, go_sem, wrap64_id, Int.tdiv_eq_ediv_of_nonneg, Int.tmod_eq_emod_of_nonneg]
    repeat' first
      | ((first | refine fnQ_pure1 ?_ ?_ | refine fnQ_pure0 ?_ ?_); (next => repeat' first | exact rvs_n | refine rvs_t ?_ | (simp [go_sem]; done)); simp only [go_sem]; (first | exact VLe.refl _ | refine VLe_int ?_ | refine VLe_bool ?_ | refine VLe_str ?_ | skip))
      | (with_reducible refine And.intro ?_ ?_)
      | with_reducible intro _
    all_goals first
      | omega
      | (rename_i hx; revert hx; simp; done)
      | (simp; done)
      | skip
    refine callA_eff (cN _) ⟨rfl, rfl, rfl, trivial⟩ ?_
    simp (disch := omega) only [strs, intsV, go_sem, wrap64_id, Int.tdiv_eq_ediv_of_nonneg, Int.tmod_eq_emod_of_nonneg]
    repeat' first
      | ((first | refine callA_pure (cd _) ?_ ?_ | refine callA_pure (c10 _) ?_ ?_); (next => repeat' first | exact flags_n | refine flags_c (by first | rfl | assumption) ?_); simp (disch := omega) only [strs, intsV, go_sem, wrap64_id, Int.tdiv_eq_ediv_of_nonneg, Int.tmod_eq_emod_of_nonneg])
      | ((first | refine callU_of (fun _ => cd _) ?_ ?_ | refine callU_of (fun _ => c10 _) ?_ ?_); (next => repeat' first | exact flags_n | refine flags_c (by first | rfl | assumption) ?_); simp (disch := omega) only [strs, intsV, go_sem, wrap64_id, Int.tdiv_eq_ediv_of_nonneg, Int.tmod_eq_emod_of_nonneg])
      | ((first | refine callG_pure (fun e => ⟨?_, cd _⟩) ?_ | refine callG_pure (fun e => ⟨?_, c10 _⟩) ?_); (next => repeat' first | exact flags_n | refine flags_c (by first | rfl | assumption) ?_); simp (disch := omega) only [strs, intsV, go_sem, wrap64_id, Int.tdiv_eq_ediv_of_nonneg, Int.tmod_eq_emod_of_nonneg])
      | ((first | refine fnQ_pure1 ?_ ?_ | refine fnQ_pure0 ?_ ?_); (next => repeat' first | exact rvs_n | refine rvs_t ?_ | (simp [go_sem]; done)); simp only [go_sem]; (first | exact VLe.refl _ | refine VLe_int ?_ | refine VLe_bool ?_ | refine VLe_str ?_ | skip))
      | (with_reducible refine And.intro ?_ ?_)
      | with_reducible intro _
    all_goals first
      | omega
      | (rename_i hx; revert hx; simp; done)
      | (simp; done)
      | skip
  · obtain ⟨R, hR⟩ : ∃ R, R = (resO Lib.itoa ts L V).2 := ⟨_, rfl⟩
    rw [e1, ← hR] at cT
    rw [← hR] at e2 e3
    have kl : ((R.length : Int) = ts.length) = True := eq_true (by omega)
    unfold strs at ca cb
    refine acalls_of fn5m (by simp) ?_
    simp only [List.length_cons, List.length_nil, Nat.reduceAdd, Nat.reduceSub, List.replicate, List.cons_append, List.nil_append, List.append_nil]
    simp (disch := omega) only [c5m, strs, intsV, k1, k2, k3, go_sem, wrap64_id, Int.tdiv_eq_ediv_of_nonneg, Int.tmod_eq_emod_of_nonneg]
    repeat' first
      | ((first | refine callA_pure (ca _) ?_ ?_ | refine callA_pure (cb _) ?_ ?_); (next => repeat' first | exact flags_n | refine flags_c (by first | rfl | assumption) ?_); simp (disch := omega) only [strs, intsV, k1, k2, k3, go_sem, wrap64_id, Int.tdiv_eq_ediv_of_nonneg, Int.tmod_eq_emod_of_nonneg])
      | ((first | refine callU_of (fun _ => ca _) ?_ ?_ | refine callU_of (fun _ => cb _) ?_ ?_); (next => repeat' first | exact flags_n | refine flags_c (by first | rfl | assumption) ?_); simp (disch := omega) only [strs, intsV, k1, k2, k3, go_sem, wrap64_id, Int.tdiv_eq_ediv_of_nonneg, Int.tmod_eq_emod_of_nonneg])
      | ((first | refine callG_pure (fun e => ⟨?_, ca _⟩) ?_ | refine callG_pure (fun e => ⟨?_, cb _⟩) ?_); (next => repeat' first | exact flags_n | refine flags_c (by first | rfl | assumption) ?_); simp (disch := omega) only [strs, intsV, k1, k2, k3, go_sem, wrap64_id, Int.tdiv_eq_ediv_of_nonneg, Int.tmod_eq_emod_of_nonneg])
      | ((first | refine fnQ_pure1 ?_ ?_ | refine fnQ_pure0 ?_ ?_); (next => repeat' first | exact rvs_n | refine rvs_t ?_ | (simp [go_sem]; done)); simp only [go_sem]; (first | exact VLe.refl _ | refine VLe_int ?_ | refine VLe_bool ?_ | refine VLe_str ?_ | skip))
      | (with_reducible refine And.intro ?_ ?_)
      | with_reducible intro _
    all_goals first
      | omega
      | (rename_i hx; revert hx; simp; done)
      | (simp; done)
      | skip
    refine callA_eff (cT _) ⟨rfl, rfl, rfl, trivial⟩ ?_
    simp (disch := omega) only [strs, intsV, go_sem, wrap64_id, Int.tdiv_eq_ediv_of_nonneg, Int.tmod_eq_emod_of_nonneg]
    repeat' first
      | ((first | refine fnQ_pure1 ?_ ?_ | refine fnQ_pure0 ?_ ?_); (next => repeat' first | exact rvs_n | refine rvs_t ?_ | (simp [go_sem]; done)); simp only [go_sem]; (first | exact VLe.refl _ | refine VLe_int ?_ | refine VLe_bool ?_ | refine VLe_str ?_ | skip))
      | (with_reducible refine And.intro ?_ ?_)
      | with_reducible intro _
    all_goals first
      | omega
      | (rename_i hx; revert hx; simp; done)
      | (simp; done)
      | skip
    refine callA_eff (cN _) ⟨rfl, rfl, rfl, trivial⟩ ?_
    simp (disch := omega) only [strs, intsV, kl, go_sem, wrap64_id, Int.tdiv_eq_ediv_of_nonneg, Int.tmod_eq_emod_of_nonneg]
    repeat' first
      | ((first | refine fnQ_pure1 ?_ ?_ | refine fnQ_pure0 ?_ ?_); (next => repeat' first | exact rvs_n | refine rvs_t ?_ | (simp [go_sem]; done)); simp only [go_sem]; (first | exact VLe.refl _ | refine VLe_int ?_ | refine VLe_bool ?_ | refine VLe_str ?_ | skip))
      | (with_reducible refine And.intro ?_ ?_)
      | with_reducible intro _
    all_goals first
      | omega
      | (rename_i hx; revert hx; simp; done)
      | (simp; done)
      | skip
    refine loop_of (T := fun i : Nat × AObj => spar 136 [(1, strs L), (2, intsV V), (8, strs R), (82, strs ts), (83, .int .i64 ts.length), (84, .int .i64 i.1)]) (H := fun i => h ++ [i.2]) (inv := fun i => i.1 ≤ ts.length ∧ site [i.2] 0 = true) (m := fun i => ts.length - i.1) (0, .emp 0) ⟨Nat.zero_le _, rfl⟩ (Wk.temps ?_) ?_
    · (simp only [strs, intsV, spar, List.foldl, List.replicate, go_sem, VLes_nil, VLes_cons, VLe_undef_iff, VLe_self]; try (repeat' first | (with_reducible refine And.intro ?_ ?_) | (refine VLe_int ?_; omega) | (refine VLe_bool ?_; rfl) | exact VLe.refl _))
    rintro ⟨i, O⟩ ⟨i1, i2⟩ K hK
    simp only at i1 i2 hK
    have i2' : ∀ m, site (O :: m) 0 = true := fun _ => i2
    by_cases hi : i < ts.length
    · obtain ⟨w1, w2, w3⟩ := e3 i hi
      have hsl := h4 i hi
      obtain ⟨s, hs⟩ : ∃ s, s = ts.getD i [] := ⟨_, rfl⟩
      obtain ⟨u, hu⟩ : ∃ u, u = R.getD i [] := ⟨_, rfl⟩
      have es := hs.symm
      have eu := hu.symm
      rw [es] at w1 w3 hsl
      rw [eu] at w1 w2 w3
      have q0 : ((i : Int) < ts.length) = True := eq_true (by omega)
      have q1 : ((i : Int) < R.length) = True := eq_true (by omega)
      have q2 : (i < R.length) = True := eq_true (by omega)
      have c1 := fun l => c21 [s] l (by simp) (fun j hj => by
        obtain rfl : j = 0 := by simpa using hj
        exact hsl)
      rw [w1] at c1
      have hk1 : ∀ v cs, killO [h.length] (h ++ [.mem v 9 cs]) = h ++ [.emp (v + 1)] := fun v cs => by simp only [killO, go_sem]
      have c1' : ∀ v cs, ACalls Tryd.prog 21 [strs [s], strs L, intsV V] (killO [h.length] (h ++ [.mem v 9 cs])) (.tup [strs [u], .int .i64 0]) (h ++ [.emp (v + 1)]) := fun v cs => by rw [hk1]; exact c1 _
      have cu := fun h => t23 u 64 h
      rw [decide_eq_false (show ¬ 0 < u.count 64 by omega)] at cu
      have cs := fun h => t23 s 64 h
      have one0 : ([u] : List (List UInt8)).getD 0 [] = u := rfl
      simp (disch := omega) only [spar, List.foldl, List.replicate, strs, intsV, es, eu, q0, q1, q2, i2', go_sem, wrap64_id, Int.tdiv_eq_ediv_of_nonneg, Int.tmod_eq_emod_of_nonneg]
      repeat' first
        | ((first | refine fnQ_pure1 ?_ ?_ | refine fnQ_pure0 ?_ ?_); (next => repeat' first | exact rvs_n | refine rvs_t ?_ | (simp [go_sem]; done)); simp only [go_sem]; (first | exact VLe.refl _ | refine VLe_int ?_ | refine VLe_bool ?_ | refine VLe_str ?_ | skip))
        | (with_reducible refine And.intro ?_ ?_)
        | with_reducible intro _
      all_goals first
        | omega
        | (rename_i hx; revert hx; simp; done)
        | (simp; done)
        | skip
      refine callA_eff (give [h.length] (by simp only [sitesOk, go_sem]) (ACalls.le (c1' _ _) ?_ (VLe.refl _))) ⟨rfl, rfl, rfl, trivial⟩ ?_
      · have m0 : [h.length].contains h.length = true := by simp
        simp only [strips_cons, List.map, go_sem]
        rw [if_pos m0, if_pos m0]
        refine VLes2 (VLe.sl_eq rfl (fun j hj => ?_)) (VLes.refl _)
        obtain rfl : j = 0 := by omega
        rfl
      · by_cases hc : s.count 64 = 0
        · have e5 := w3 hc
          subst e5
          rw [decide_eq_false (show ¬ 0 < u.count 64 by omega)] at cs
          simp (disch := omega) only [strs, intsV, es, eu, q0, q1, q2, one0, go_sem, wrap64_id, Int.tdiv_eq_ediv_of_nonneg, Int.tmod_eq_emod_of_nonneg]
          repeat' first
            | ((first | refine callA_pure (cu _) ?_ ?_ | refine callA_pure (cs _) ?_ ?_); (next => repeat' first | exact flags_n | refine flags_c (by first | rfl | assumption) ?_); simp (disch := omega) only [strs, intsV, es, eu, q0, q1, q2, one0, go_sem, wrap64_id, Int.tdiv_eq_ediv_of_nonneg, Int.tmod_eq_emod_of_nonneg])
            | ((first | refine callU_of (fun _ => cu _) ?_ ?_ | refine callU_of (fun _ => cs _) ?_ ?_); (next => repeat' first | exact flags_n | refine flags_c (by first | rfl | assumption) ?_); simp (disch := omega) only [strs, intsV, es, eu, q0, q1, q2, one0, go_sem, wrap64_id, Int.tdiv_eq_ediv_of_nonneg, Int.tmod_eq_emod_of_nonneg])
            | ((first | refine callG_pure (fun e => ⟨?_, cu _⟩) ?_ | refine callG_pure (fun e => ⟨?_, cs _⟩) ?_); (next => repeat' first | exact flags_n | refine flags_c (by first | rfl | assumption) ?_); simp (disch := omega) only [strs, intsV, es, eu, q0, q1, q2, one0, go_sem, wrap64_id, Int.tdiv_eq_ediv_of_nonneg, Int.tmod_eq_emod_of_nonneg])
            | ((first | refine fnQ_pure1 ?_ ?_ | refine fnQ_pure0 ?_ ?_); (next => repeat' first | exact rvs_n | refine rvs_t ?_ | (simp [go_sem]; done)); simp only [go_sem]; (first | exact VLe.refl _ | refine VLe_int ?_ | refine VLe_bool ?_ | refine VLe_str ?_ | skip))
            | (with_reducible refine And.intro ?_ ?_)
            | with_reducible intro _
          all_goals first
            | omega
            | (rename_i hx; revert hx; simp; done)
            | (simp; done)
            | skip
          refine hK _ _ (i + 1, .emp (verOf (some O) + 1 + 1)) ⟨hi, rfl⟩ (by simp only; omega) (Wk.temps ?_)
          (simp only [strs, intsV, spar, List.foldl, List.replicate, go_sem, VLes_nil, VLes_cons, VLe_undef_iff, VLe_self]; try (repeat' first | (with_reducible refine And.intro ?_ ?_) | (refine VLe_int ?_; omega) | (refine VLe_bool ?_; rfl) | exact VLe.refl _))
        · rw [decide_eq_true (show 0 < s.count 64 by omega)] at cs
          simp (disch := omega) only [strs, intsV, es, eu, q0, q1, q2, one0, go_sem, wrap64_id, Int.tdiv_eq_ediv_of_nonneg, Int.tmod_eq_emod_of_nonneg]
          repeat' first
            | (refine callG_false ((.bool false)) ?_; simp (disch := omega) only [strs, intsV, es, eu, q0, q1, q2, one0, go_sem, wrap64_id, Int.tdiv_eq_ediv_of_nonneg, Int.tmod_eq_emod_of_nonneg])
            | ((first | refine callA_pure (cu _) ?_ ?_ | refine callA_pure (cs _) ?_ ?_); (next => repeat' first | exact flags_n | refine flags_c (by first | rfl | assumption) ?_); simp (disch := omega) only [strs, intsV, es, eu, q0, q1, q2, one0, go_sem, wrap64_id, Int.tdiv_eq_ediv_of_nonneg, Int.tmod_eq_emod_of_nonneg])
            | ((first | refine callU_of (fun _ => cu _) ?_ ?_ | refine callU_of (fun _ => cs _) ?_ ?_); (next => repeat' first | exact flags_n | refine flags_c (by first | rfl | assumption) ?_); simp (disch := omega) only [strs, intsV, es, eu, q0, q1, q2, one0, go_sem, wrap64_id, Int.tdiv_eq_ediv_of_nonneg, Int.tmod_eq_emod_of_nonneg])
            | ((first | refine callG_pure (fun e => ⟨?_, cu _⟩) ?_ | refine callG_pure (fun e => ⟨?_, cs _⟩) ?_); (next => repeat' first | exact flags_n | refine flags_c (by first | rfl | assumption) ?_); simp (disch := omega) only [strs, intsV, es, eu, q0, q1, q2, one0, go_sem, wrap64_id, Int.tdiv_eq_ediv_of_nonneg, Int.tmod_eq_emod_of_nonneg])
            | ((first | refine fnQ_pure1 ?_ ?_ | refine fnQ_pure0 ?_ ?_); (next => repeat' first | exact rvs_n | refine rvs_t ?_ | (simp [go_sem]; done)); simp only [go_sem]; (first | exact VLe.refl _ | refine VLe_int ?_ | refine VLe_bool ?_ | refine VLe_str ?_ | skip))
            | (with_reducible refine And.intro ?_ ?_)
            | with_reducible intro _
          all_goals first
            | omega
            | (rename_i hx; revert hx; simp; done)
            | (simp; done)
            | skip
          refine hK _ _ (i + 1, .emp (verOf (some O) + 1 + 1)) ⟨hi, rfl⟩ (by simp only; omega) (Wk.temps ?_)
          (simp only [strs, intsV, spar, List.foldl, List.replicate, go_sem, VLes_nil, VLes_cons, VLe_undef_iff, VLe_self]; try (repeat' first | (with_reducible refine And.intro ?_ ?_) | (refine VLe_int ?_; omega) | (refine VLe_bool ?_; rfl) | exact VLe.refl _))
    · have e : i = ts.length := by omega
      subst e
      simp (disch := omega) only [spar, List.foldl, List.replicate, strs, intsV, go_sem, wrap64_id, Int.tdiv_eq_ediv_of_nonneg, Int.tmod_eq_emod_of_nonneg]
      repeat' first
        | ((first | refine callA_pure (c10 _) ?_ ?_); (next => repeat' first | exact flags_n | refine flags_c (by first | rfl | assumption) ?_); simp (disch := omega) only [strs, intsV, go_sem, wrap64_id, Int.tdiv_eq_ediv_of_nonneg, Int.tmod_eq_emod_of_nonneg])
        | ((first | refine callU_of (fun _ => c10 _) ?_ ?_); (next => repeat' first | exact flags_n | refine flags_c (by first | rfl | assumption) ?_); simp (disch := omega) only [strs, intsV, go_sem, wrap64_id, Int.tdiv_eq_ediv_of_nonneg, Int.tmod_eq_emod_of_nonneg])
        | ((first | refine callG_pure (fun e => ⟨?_, c10 _⟩) ?_); (next => repeat' first | exact flags_n | refine flags_c (by first | rfl | assumption) ?_); simp (disch := omega) only [strs, intsV, go_sem, wrap64_id, Int.tdiv_eq_ediv_of_nonneg, Int.tmod_eq_emod_of_nonneg])
        | ((first | refine fnQ_pure1 ?_ ?_ | refine fnQ_pure0 ?_ ?_); (next => repeat' first | exact rvs_n | refine rvs_t ?_ | (simp [go_sem]; done)); simp only [go_sem]; (first | exact VLe.refl _ | refine VLe_int ?_ | refine VLe_bool ?_ | refine VLe_str ?_ | skip))
        | (with_reducible refine And.intro ?_ ?_)
        | with_reducible intro _
      all_goals first
        | omega
        | (rename_i hx; revert hx; simp; done)
        | (simp; done)
        | skip
end LN
end

section
open Go Go.Proofs AF HY P48
namespace LN
set_option maxRecDepth 100000
theorem t77 (s : List UInt8) (h : List AObj) (hs : s.length ≤ 1000000000) : ACalls Tryd.prog 77 [.str s] h (.int .i64 ((s.countP ld : Nat) : Int)) h := by
  refine acalls_of fn77l (by simp) ?_
  simp only [List.length_cons, List.length_nil, Nat.reduceAdd, Nat.reduceSub, List.replicate, List.cons_append, List.nil_append, List.append_nil]
  simp (disch := omega) only [c77l, go_sem, wrap64_id, Int.tdiv_eq_ediv_of_nonneg, Int.tmod_eq_emod_of_nonneg]
  repeat' first
    | ((first | refine fnQ_pure1 ?_ ?_ | refine fnQ_pure0 ?_ ?_); (next => repeat' first | exact rvs_n | refine rvs_t ?_ | (simp [go_sem]; done)); simp only [go_sem]; (first | exact VLe.refl _ | refine VLe_int ?_ | refine VLe_bool ?_ | refine VLe_str ?_ | skip))
    | (with_reducible refine And.intro ?_ ?_)
    | with_reducible intro _
  all_goals first
    | omega
    | (rename_i hx; revert hx; simp; done)
    | (simp; done)
    | skip
  refine loop_of (T := fun i : Nat => spar 25 [(0, .str s), (3, .int .i64 (((s.take i).countP ld : Nat) : Int)), (4, .int .i64 i)]) (H := fun _ => h) (inv := fun i => i ≤ s.length) (m := fun i => s.length - i) 0 (by omega) (Wk.temps ?_) ?_
  · (simp only [spar, List.foldl, List.replicate, go_sem, VLes_nil, VLes_cons, VLe_undef_iff, VLe_self]; try (repeat' first | (with_reducible refine And.intro ?_ ?_) | (refine VLe_int ?_; omega) | (refine VLe_bool ?_; rfl) | exact VLe.refl _))
  · rintro i i1 K hK
    by_cases hi : i < s.length
    · obtain ⟨c, hc⟩ : ∃ c, c = s.getD i 0 := ⟨_, rfl⟩
      have e1 : (s[i]?).getD 0 = c := by rw [hc, List.getD_eq_getElem?_getD]
      have e2 : s.take (i + 1) = s.take i ++ [c] := by rw [List.take_add_one, hc, List.getD_eq_getElem?_getD, List.getElem?_eq_getElem hi]; rfl
      have c55 := fun h => t117 (c.toNat : Int) h
      have hn : (s.take i).countP ld ≤ s.length := Nat.le_trans List.countP_le_length (by simp; omega)
      obtain ⟨n, hN⟩ : ∃ n, n = (s.take i).countP ld := ⟨_, rfl⟩
      rw [← hN] at hn ⊢
      obtain ⟨k, hk⟩ : ∃ k, k = kindI (c.toNat : Int) := ⟨_, rfl⟩
      have hk' : k = kind c := hk
      rw [← hk] at c55
      have e3 : (s.take (i + 1)).countP ld = n + if ld c = true then 1 else 0 := by
        rw [e2, List.countP_append, ← hN]
        simp [List.countP_cons]
      have q0 : ((i : Int) < s.length) = True := eq_true (by omega)
      by_cases g1 : k = 1
      · have k1 : (k = 1) = True := eq_true g1
        have g : ld c = true := by unfold ld; rw [← hk', g1]; rfl
        rw [if_pos g] at e3
        simp (disch := omega) only [spar, List.foldl, List.replicate, e1, k1, q0, go_sem, wrap64_id, Int.tdiv_eq_ediv_of_nonneg, Int.tmod_eq_emod_of_nonneg]
        repeat' first
          | ((first | refine callA_pure (c55 _) ?_ ?_); (next => repeat' first | exact flags_n | refine flags_c (by first | rfl | assumption) ?_); simp (disch := omega) only [e1, k1, q0, go_sem, wrap64_id, Int.tdiv_eq_ediv_of_nonneg, Int.tmod_eq_emod_of_nonneg])
          | ((first | refine callU_of (fun _ => c55 _) ?_ ?_); (next => repeat' first | exact flags_n | refine flags_c (by first | rfl | assumption) ?_); simp (disch := omega) only [e1, k1, q0, go_sem, wrap64_id, Int.tdiv_eq_ediv_of_nonneg, Int.tmod_eq_emod_of_nonneg])
          | ((first | refine callG_pure (fun e => ⟨?_, c55 _⟩) ?_); (next => repeat' first | exact flags_n | refine flags_c (by first | rfl | assumption) ?_); simp (disch := omega) only [e1, k1, q0, go_sem, wrap64_id, Int.tdiv_eq_ediv_of_nonneg, Int.tmod_eq_emod_of_nonneg])
          | ((first | refine fnQ_pure1 ?_ ?_ | refine fnQ_pure0 ?_ ?_); (next => repeat' first | exact rvs_n | refine rvs_t ?_ | (simp [go_sem]; done)); simp only [go_sem]; (first | exact VLe.refl _ | refine VLe_int ?_ | refine VLe_bool ?_ | refine VLe_str ?_ | skip))
          | (with_reducible refine And.intro ?_ ?_)
          | with_reducible intro _
        all_goals first
          | omega
          | (rename_i hx; revert hx; simp; done)
          | (simp; done)
          | skip
        refine hK _ _ (i + 1) (by omega) (by omega) (Wk.temps ?_)
        rw [e3]
        (simp only [spar, List.foldl, List.replicate, go_sem, VLes_nil, VLes_cons, VLe_undef_iff, VLe_self]; try (repeat' first | (with_reducible refine And.intro ?_ ?_) | (refine VLe_int ?_; omega) | (refine VLe_bool ?_; rfl) | exact VLe.refl _))
      · have k1 : (k = 1) = False := eq_false g1
        by_cases g2 : k = 3
        · have k2 : (k = 3) = True := eq_true g2
          have g : ld c = true := by unfold ld; rw [← hk', g2]; rfl
          rw [if_pos g] at e3
          simp (disch := omega) only [spar, List.foldl, List.replicate, e1, k1, k2, q0, go_sem, wrap64_id, Int.tdiv_eq_ediv_of_nonneg, Int.tmod_eq_emod_of_nonneg]
          repeat' first
            | ((first | refine callA_pure (c55 _) ?_ ?_); (next => repeat' first | exact flags_n | refine flags_c (by first | rfl | assumption) ?_); simp (disch := omega) only [e1, k1, k2, q0, go_sem, wrap64_id, Int.tdiv_eq_ediv_of_nonneg, Int.tmod_eq_emod_of_nonneg])
            | ((first | refine callU_of (fun _ => c55 _) ?_ ?_); (next => repeat' first | exact flags_n | refine flags_c (by first | rfl | assumption) ?_); simp (disch := omega) only [e1, k1, k2, q0, go_sem, wrap64_id, Int.tdiv_eq_ediv_of_nonneg, Int.tmod_eq_emod_of_nonneg])
            | ((first | refine callG_pure (fun e => ⟨?_, c55 _⟩) ?_); (next => repeat' first | exact flags_n | refine flags_c (by first | rfl | assumption) ?_); simp (disch := omega) only [e1, k1, k2, q0, go_sem, wrap64_id, Int.tdiv_eq_ediv_of_nonneg, Int.tmod_eq_emod_of_nonneg])
            | ((first | refine fnQ_pure1 ?_ ?_ | refine fnQ_pure0 ?_ ?_); (next => repeat' first | exact rvs_n | refine rvs_t ?_ | (simp [go_sem]; done)); simp only [go_sem]; (first | exact VLe.refl _ | refine VLe_int ?_ | refine VLe_bool ?_ | refine VLe_str ?_ | skip))
            | (with_reducible refine And.intro ?_ ?_)
            | with_reducible intro _
          all_goals first
            | omega
            | (rename_i hx; revert hx; simp; done)
            | (simp; done)
            | skip
          refine hK _ _ (i + 1) (by omega) (by omega) (Wk.temps ?_)
          rw [e3]
          (simp only [spar, List.foldl, List.replicate, go_sem, VLes_nil, VLes_cons, VLe_undef_iff, VLe_self]; try (repeat' first | (with_reducible refine And.intro ?_ ?_) | (refine VLe_int ?_; omega) | (refine VLe_bool ?_; rfl) | exact VLe.refl _))
        · have k2 : (k = 3) = False := eq_false g2
          have g : ld c = false := by unfold ld; rw [← hk', decide_eq_false g1, decide_eq_false g2]; rfl
          rw [if_neg (by rw [g]; simp)] at e3
          simp (disch := omega) only [spar, List.foldl, List.replicate, e1, k1, k2, q0, go_sem, wrap64_id, Int.tdiv_eq_ediv_of_nonneg, Int.tmod_eq_emod_of_nonneg]
          repeat' first
            | ((first | refine callA_pure (c55 _) ?_ ?_); (next => repeat' first | exact flags_n | refine flags_c (by first | rfl | assumption) ?_); simp (disch := omega) only [e1, k1, k2, q0, go_sem, wrap64_id, Int.tdiv_eq_ediv_of_nonneg, Int.tmod_eq_emod_of_nonneg])
            | ((first | refine callU_of (fun _ => c55 _) ?_ ?_); (next => repeat' first | exact flags_n | refine flags_c (by first | rfl | assumption) ?_); simp (disch := omega) only [e1, k1, k2, q0, go_sem, wrap64_id, Int.tdiv_eq_ediv_of_nonneg, Int.tmod_eq_emod_of_nonneg])
            | ((first | refine callG_pure (fun e => ⟨?_, c55 _⟩) ?_); (next => repeat' first | exact flags_n | refine flags_c (by first | rfl | assumption) ?_); simp (disch := omega) only [e1, k1, k2, q0, go_sem, wrap64_id, Int.tdiv_eq_ediv_of_nonneg, Int.tmod_eq_emod_of_nonneg])
            | ((first | refine fnQ_pure1 ?_ ?_ | refine fnQ_pure0 ?_ ?_); (next => repeat' first | exact rvs_n | refine rvs_t ?_ | (simp [go_sem]; done)); simp only [go_sem]; (first | exact VLe.refl _ | refine VLe_int ?_ | refine VLe_bool ?_ | refine VLe_str ?_ | skip))
            | (with_reducible refine And.intro ?_ ?_)
            | with_reducible intro _
          all_goals first
            | omega
            | (rename_i hx; revert hx; simp; done)
            | (simp; done)
            | skip
          refine hK _ _ (i + 1) (by omega) (by omega) (Wk.temps ?_)
          rw [e3]
          (simp only [spar, List.foldl, List.replicate, go_sem, VLes_nil, VLes_cons, VLe_undef_iff, VLe_self]; try (repeat' first | (with_reducible refine And.intro ?_ ?_) | (refine VLe_int ?_; omega) | (refine VLe_bool ?_; rfl) | exact VLe.refl _))
    · have e : i = s.length := by omega
      subst e
      rw [List.take_length]
      have q0 : ((s.length : Int) < s.length) = False := eq_false (by omega)
      simp (disch := omega) only [spar, List.foldl, List.replicate, q0, go_sem, wrap64_id, Int.tdiv_eq_ediv_of_nonneg, Int.tmod_eq_emod_of_nonneg]
      repeat' first
        | ((first | refine fnQ_pure1 ?_ ?_ | refine fnQ_pure0 ?_ ?_); (next => repeat' first | exact rvs_n | refine rvs_t ?_ | (simp [go_sem]; done)); simp only [go_sem]; (first | exact VLe.refl _ | refine VLe_int ?_ | refine VLe_bool ?_ | refine VLe_str ?_ | skip))
        | (with_reducible refine And.intro ?_ ?_)
        | with_reducible intro _
      all_goals first
        | omega
        | (rename_i hx; revert hx; simp; done)
        | (simp; done)
        | skip
theorem name_word {s : List UInt8} (h1 : s ≠ []) (h2 : s.length ≤ 16) (h3 : s.countP ld = s.length) : isWord s = true := by
  have hall : ∀ c ∈ s, ld c = true := List.countP_eq_length.1 h3
  have hch : ∀ i, i < s.length → kind (ch s i) = 1 ∨ kind (ch s i) = 3 := by
    intro i hi
    have hm : ch s i ∈ s := by
      have e : ch s i = s[i] := by simp [ch, hi]
      rw [e]; exact List.getElem_mem hi
    have := hall _ hm
    unfold ld at this
    simpa using this
  have hp : 0 < s.length := List.length_pos_iff.2 h1
  have hc : checkC s = 0 := by
    rw [checkC_eq, if_neg (by omega), if_neg]
    rw [List.any_eq_true]
    rintro ⟨i, hi, hb⟩
    have := hch i (List.mem_range.1 hi)
    unfold badAt at hb
    rcases this with h | h <;> rw [h] at hb <;> simp at hb
  rw [isWord_eq, decide_eq_true hp, decide_eq_true (show s.length ≤ 64 by omega), decide_eq_true hc]
  have h0 := hch 0 hp
  have e0 : (decide (kind (ch s 0) = 1) || decide (kind (ch s 0) = 3)) = true := by simpa using h0
  rw [e0]
  have ea : ((List.range s.length).any fun i => spc (ch s i)) = false := by
    rw [List.any_eq_false]
    intro i hi
    have := hch i (List.mem_range.1 hi)
    unfold spc
    rcases this with h | h <;> rw [h] <;> decide
  rw [ea]
  rfl
theorem t53 (s : List UInt8) (h : List AObj) (hs : s.length ≤ 1000000000) : ACalls Tryd.prog 53 [.str s] h (.bool (isName s)) h := by
  have c76 := fun h => t93 s h hs
  have c77 := fun h => t77 s h hs
  unfold isName
  by_cases g2 : s.length ≤ 16
  · have k2 : ((s.length : Int) ≤ 16) = True := eq_true (by omega)
    rw [decide_eq_true g2, Bool.true_and]
    by_cases g3 : s.countP ld = s.length
    · have k3 : ((s.countP ld : Int) = s.length) = True := eq_true (by omega)
      rw [decide_eq_true g3, Bool.and_true]
      by_cases g1 : s = []
      · rw [decide_eq_false (fun hc => hc g1)]
        have hw : isWord s = false := by subst g1; rw [isWord_eq]; rfl
        rw [hw] at c76
        refine acalls_of fn53l (by simp) ?_
        simp only [List.length_cons, List.length_nil, Nat.reduceAdd, Nat.reduceSub, List.replicate, List.cons_append, List.nil_append, List.append_nil]
        simp (disch := omega) only [c53l, k2, k3, go_sem, wrap64_id, Int.tdiv_eq_ediv_of_nonneg, Int.tmod_eq_emod_of_nonneg]
        repeat' first
          | (refine callG_false ((.int .i64 0)) ?_; simp (disch := omega) only [k2, k3, go_sem, wrap64_id, Int.tdiv_eq_ediv_of_nonneg, Int.tmod_eq_emod_of_nonneg])
          | ((first | refine callA_pure (c76 _) ?_ ?_); (next => repeat' first | exact flags_n | refine flags_c (by first | rfl | assumption) ?_); simp (disch := omega) only [k2, k3, go_sem, wrap64_id, Int.tdiv_eq_ediv_of_nonneg, Int.tmod_eq_emod_of_nonneg])
          | ((first | refine callU_of (fun _ => c76 _) ?_ ?_); (next => repeat' first | exact flags_n | refine flags_c (by first | rfl | assumption) ?_); simp (disch := omega) only [k2, k3, go_sem, wrap64_id, Int.tdiv_eq_ediv_of_nonneg, Int.tmod_eq_emod_of_nonneg])
          | ((first | refine callG_pure (fun e => ⟨?_, c76 _⟩) ?_); (next => repeat' first | exact flags_n | refine flags_c (by first | rfl | assumption) ?_); simp (disch := omega) only [k2, k3, go_sem, wrap64_id, Int.tdiv_eq_ediv_of_nonneg, Int.tmod_eq_emod_of_nonneg])
          | ((first | refine fnQ_pure1 ?_ ?_ | refine fnQ_pure0 ?_ ?_); (next => repeat' first | exact rvs_n | refine rvs_t ?_ | (simp [go_sem]; done)); simp only [go_sem]; (first | exact VLe.refl _ | refine VLe_int ?_ | refine VLe_bool ?_ | refine VLe_str ?_ | skip))
          | (with_reducible refine And.intro ?_ ?_)
          | with_reducible intro _
        all_goals first
          | omega
          | (rename_i hx; revert hx; simp; done)
          | (simp; done)
          | skip
      · rw [decide_eq_true g1]
        rw [name_word g1 g2 g3] at c76
        refine acalls_of fn53l (by simp) ?_
        simp only [List.length_cons, List.length_nil, Nat.reduceAdd, Nat.reduceSub, List.replicate, List.cons_append, List.nil_append, List.append_nil]
        simp (disch := omega) only [c53l, k2, k3, go_sem, wrap64_id, Int.tdiv_eq_ediv_of_nonneg, Int.tmod_eq_emod_of_nonneg]
        repeat' first
          | ((first | refine callA_pure (c76 _) ?_ ?_ | refine callA_pure (c77 _) ?_ ?_); (next => repeat' first | exact flags_n | refine flags_c (by first | rfl | assumption) ?_); simp (disch := omega) only [k2, k3, go_sem, wrap64_id, Int.tdiv_eq_ediv_of_nonneg, Int.tmod_eq_emod_of_nonneg])
          | ((first | refine callU_of (fun _ => c76 _) ?_ ?_ | refine callU_of (fun _ => c77 _) ?_ ?_); (next => repeat' first | exact flags_n | refine flags_c (by first | rfl | assumption) ?_); simp (disch := omega) only [k2, k3, go_sem, wrap64_id, Int.tdiv_eq_ediv_of_nonneg, Int.tmod_eq_emod_of_nonneg])
          | ((first | refine callG_pure (fun e => ⟨?_, c76 _⟩) ?_ | refine callG_pure (fun e => ⟨?_, c77 _⟩) ?_); (next => repeat' first | exact flags_n | refine flags_c (by first | rfl | assumption) ?_); simp (disch := omega) only [k2, k3, go_sem, wrap64_id, Int.tdiv_eq_ediv_of_nonneg, Int.tmod_eq_emod_of_nonneg])
          | ((first | refine fnQ_pure1 ?_ ?_ | refine fnQ_pure0 ?_ ?_); (next => repeat' first | exact rvs_n | refine rvs_t ?_ | (simp [go_sem]; done)); simp only [go_sem]; (first | exact VLe.refl _ | refine VLe_int ?_ | refine VLe_bool ?_ | refine VLe_str ?_ | skip))
          | (with_reducible refine And.intro ?_ ?_)
          | with_reducible intro _
        all_goals first
          | omega
          | (rename_i hx; revert hx; simp; done)
          | (simp; done)
          | skip
    · have k3 : ((s.countP ld : Int) = s.length) = False := eq_false (by omega)
      rw [decide_eq_false g3, Bool.and_false]
      cases hw : isWord s with
      | false =>
        rw [hw] at c76
        refine acalls_of fn53l (by simp) ?_
        simp only [List.length_cons, List.length_nil, Nat.reduceAdd, Nat.reduceSub, List.replicate, List.cons_append, List.nil_append, List.append_nil]
        simp (disch := omega) only [c53l, k2, k3, go_sem, wrap64_id, Int.tdiv_eq_ediv_of_nonneg, Int.tmod_eq_emod_of_nonneg]
        repeat' first
          | (refine callG_false ((.int .i64 0)) ?_; simp (disch := omega) only [k2, k3, go_sem, wrap64_id, Int.tdiv_eq_ediv_of_nonneg, Int.tmod_eq_emod_of_nonneg])
          | ((first | refine callA_pure (c76 _) ?_ ?_); (next => repeat' first | exact flags_n | refine flags_c (by first | rfl | assumption) ?_); simp (disch := omega) only [k2, k3, go_sem, wrap64_id, Int.tdiv_eq_ediv_of_nonneg, Int.tmod_eq_emod_of_nonneg])
          | ((first | refine callU_of (fun _ => c76 _) ?_ ?_); (next => repeat' first | exact flags_n | refine flags_c (by first | rfl | assumption) ?_); simp (disch := omega) only [k2, k3, go_sem, wrap64_id, Int.tdiv_eq_ediv_of_nonneg, Int.tmod_eq_emod_of_nonneg])
          | ((first | refine callG_pure (fun e => ⟨?_, c76 _⟩) ?_); (next => repeat' first | exact flags_n | refine flags_c (by first | rfl | assumption) ?_); simp (disch := omega) only [k2, k3, go_sem, wrap64_id, Int.tdiv_eq_ediv_of_nonneg, Int.tmod_eq_emod_of_nonneg])
          | ((first | refine fnQ_pure1 ?_ ?_ | refine fnQ_pure0 ?_ ?_); (next => repeat' first | exact rvs_n | refine rvs_t ?_ | (simp [go_sem]; done)); simp only [go_sem]; (first | exact VLe.refl _ | refine VLe_int ?_ | refine VLe_bool ?_ | refine VLe_str ?_ | skip))
          | (with_reducible refine And.intro ?_ ?_)
          | with_reducible intro _
        all_goals first
          | omega
          | (rename_i hx; revert hx; simp; done)
          | (simp; done)
          | skip
      | true =>
        rw [hw] at c76
        refine acalls_of fn53l (by simp) ?_
        simp only [List.length_cons, List.length_nil, Nat.reduceAdd, Nat.reduceSub, List.replicate, List.cons_append, List.nil_append, List.append_nil]
        simp (disch := omega) only [c53l, k2, k3, go_sem, wrap64_id, Int.tdiv_eq_ediv_of_nonneg, Int.tmod_eq_emod_of_nonneg]
        repeat' first
          | ((first | refine callA_pure (c76 _) ?_ ?_ | refine callA_pure (c77 _) ?_ ?_); (next => repeat' first | exact flags_n | refine flags_c (by first | rfl | assumption) ?_); simp (disch := omega) only [k2, k3, go_sem, wrap64_id, Int.tdiv_eq_ediv_of_nonneg, Int.tmod_eq_emod_of_nonneg])
          | ((first | refine callU_of (fun _ => c76 _) ?_ ?_ | refine callU_of (fun _ => c77 _) ?_ ?_); (next => repeat' first | exact flags_n | refine flags_c (by first | rfl | assumption) ?_); simp (disch := omega) only [k2, k3, go_sem, wrap64_id, Int.tdiv_eq_ediv_of_nonneg, Int.tmod_eq_emod_of_nonneg])
          | ((first | refine callG_pure (fun e => ⟨?_, c76 _⟩) ?_ | refine callG_pure (fun e => ⟨?_, c77 _⟩) ?_); (next => repeat' first | exact flags_n | refine flags_c (by first | rfl | assumption) ?_); simp (disch := omega) only [k2, k3, go_sem, wrap64_id, Int.tdiv_eq_ediv_of_nonneg, Int.tmod_eq_emod_of_nonneg])
          | ((first | refine fnQ_pure1 ?_ ?_ | refine fnQ_pure0 ?_ ?_); (next => repeat' first | exact rvs_n | refine rvs_t ?_ | (simp [go_sem]; done)); simp only [go_sem]; (first | exact VLe.refl _ | refine VLe_int ?_ | refine VLe_bool ?_ | refine VLe_str ?_ | skip))
          | (with_reducible refine And.intro ?_ ?_)
          | with_reducible intro _
        all_goals first
          | omega
          | (rename_i hx; revert hx; simp; done)
          | (simp; done)
          | skip
  · have k2 : ((s.length : Int) ≤ 16) = False := eq_false (by omega)
    rw [decide_eq_false g2, Bool.false_and, Bool.and_false]
    refine acalls_of fn53l (by simp) ?_
    simp only [List.length_cons, List.length_nil, Nat.reduceAdd, Nat.reduceSub, List.replicate, List.cons_append, List.nil_append, List.append_nil]
    simp (disch := omega) only [c53l, k2, go_sem, wrap64_id, Int.tdiv_eq_ediv_of_nonneg, Int.tmod_eq_emod_of_nonneg]
    repeat' first
      | (refine callG_false ((.bool false)) ?_; simp (disch := omega) only [k2, go_sem, wrap64_id, Int.tdiv_eq_ediv_of_nonneg, Int.tmod_eq_emod_of_nonneg])
      | (refine callG_false ((.int .i64 0)) ?_; simp (disch := omega) only [k2, go_sem, wrap64_id, Int.tdiv_eq_ediv_of_nonneg, Int.tmod_eq_emod_of_nonneg])
      | ((first | refine fnQ_pure1 ?_ ?_ | refine fnQ_pure0 ?_ ?_); (next => repeat' first | exact rvs_n | refine rvs_t ?_ | (simp [go_sem]; done)); simp only [go_sem]; (first | exact VLe.refl _ | refine VLe_int ?_ | refine VLe_bool ?_ | refine VLe_str ?_ | skip))
      | (with_reducible refine And.intro ?_ ?_)
      | with_reducible intro _
    all_goals first
      | omega
      | (rename_i hx; revert hx; simp; done)
      | (simp; done)
      | skip
def placeGo (w : List UInt8) : List (List UInt8) → Nat → Int
  | [], _ => -1
  | l :: r, i => if l = w then i else placeGo w r (i + 1)
theorem drop_str {L : List (List UInt8)} {i : Nat} (hi : i < L.length) : L.drop i = L.getD i [] :: L.drop (i + 1) := by
  rw [List.drop_eq_getElem_cons hi]; simp [List.getD_eq_getElem?_getD, hi]
theorem t54 (L : List (List UInt8)) (w : List UInt8) (h : List AObj) (hl : L.length ≤ 1000000000) : ACalls Tryd.prog 54 [strs L, .str w] h (.int .i64 (placeGo w L 0)) h := by
  refine acalls_of fn54l (by simp) ?_
  simp only [List.length_cons, List.length_nil, Nat.reduceAdd, Nat.reduceSub, List.replicate, List.cons_append, List.nil_append, List.append_nil]
  simp (disch := omega) only [c54l, strs, go_sem, wrap64_id, Int.tdiv_eq_ediv_of_nonneg, Int.tmod_eq_emod_of_nonneg]
  repeat' first
    | ((first | refine fnQ_pure1 ?_ ?_ | refine fnQ_pure0 ?_ ?_); (next => repeat' first | exact rvs_n | refine rvs_t ?_ | (simp [go_sem]; done)); simp only [go_sem]; (first | exact VLe.refl _ | refine VLe_int ?_ | refine VLe_bool ?_ | refine VLe_str ?_ | skip))
    | (with_reducible refine And.intro ?_ ?_)
    | with_reducible intro _
  all_goals first
    | omega
    | (rename_i hx; revert hx; simp; done)
    | (simp; done)
    | skip
  refine loop_of (T := fun i : Nat => spar 19 [(0, strs L), (1, .str w), (5, .int .i64 i)]) (H := fun _ => h) (inv := fun i => i ≤ L.length ∧ placeGo w L 0 = placeGo w (L.drop i) i) (m := fun i => L.length - i) 0 ⟨by omega, by simp⟩ (Wk.temps ?_) ?_
  · (simp only [strs, spar, List.foldl, List.replicate, go_sem, VLes_nil, VLes_cons, VLe_undef_iff, VLe_self]; try (repeat' first | (with_reducible refine And.intro ?_ ?_) | (refine VLe_int ?_; omega) | (refine VLe_bool ?_; rfl) | exact VLe.refl _))
  · rintro i ⟨i1, i2⟩ K hK
    rw [i2]
    by_cases hi : i < L.length
    · have q0 : ((i : Int) < L.length) = True := eq_true (by omega)
      obtain ⟨c, hc⟩ : ∃ c, c = L.getD i [] := ⟨_, rfl⟩
      have ec := hc.symm
      rw [drop_str hi, ec, placeGo] at i2 ⊢
      by_cases g : c = w
      · have k1 : (c = w) = True := eq_true g
        rw [if_pos g]
        simp (disch := omega) only [spar, List.foldl, List.replicate, strs, q0, ec, k1, go_sem, wrap64_id, Int.tdiv_eq_ediv_of_nonneg, Int.tmod_eq_emod_of_nonneg]
        repeat' first
          | ((first | refine fnQ_pure1 ?_ ?_ | refine fnQ_pure0 ?_ ?_); (next => repeat' first | exact rvs_n | refine rvs_t ?_ | (simp [go_sem]; done)); simp only [go_sem]; (first | exact VLe.refl _ | refine VLe_int ?_ | refine VLe_bool ?_ | refine VLe_str ?_ | skip))
          | (with_reducible refine And.intro ?_ ?_)
          | with_reducible intro _
        all_goals first
          | omega
          | (rename_i hx; revert hx; simp; done)
          | (simp; done)
          | skip
      · have k1 : (c = w) = False := eq_false g
        rw [if_neg g] at i2 ⊢
        simp (disch := omega) only [spar, List.foldl, List.replicate, strs, q0, ec, k1, go_sem, wrap64_id, Int.tdiv_eq_ediv_of_nonneg, Int.tmod_eq_emod_of_nonneg]
        repeat' first
          | ((first | refine fnQ_pure1 ?_ ?_ | refine fnQ_pure0 ?_ ?_); (next => repeat' first | exact rvs_n | refine rvs_t ?_ | (simp [go_sem]; done)); simp only [go_sem]; (first | exact VLe.refl _ | refine VLe_int ?_ | refine VLe_bool ?_ | refine VLe_str ?_ | skip))
          | (with_reducible refine And.intro ?_ ?_)
          | with_reducible intro _
        all_goals first
          | omega
          | (rename_i hx; revert hx; simp; done)
          | (simp; done)
          | skip
        refine hK _ _ (i + 1) ⟨by omega, by rw [i2]⟩ (by omega) (Wk.temps ?_)
        (simp only [strs, spar, List.foldl, List.replicate, go_sem, VLes_nil, VLes_cons, VLe_undef_iff, VLe_self]; try (repeat' first | (with_reducible refine And.intro ?_ ?_) | (refine VLe_int ?_; omega) | (refine VLe_bool ?_; rfl) | exact VLe.refl _))
    · have e : i = L.length := by omega
      subst e
      rw [List.drop_length, placeGo]
      have q0 : ((L.length : Int) < L.length) = False := eq_false (by omega)
      simp (disch := omega) only [spar, List.foldl, List.replicate, strs, q0, go_sem, wrap64_id, Int.tdiv_eq_ediv_of_nonneg, Int.tmod_eq_emod_of_nonneg]
      repeat' first
        | ((first | refine fnQ_pure1 ?_ ?_ | refine fnQ_pure0 ?_ ?_); (next => repeat' first | exact rvs_n | refine rvs_t ?_ | (simp [go_sem]; done)); simp only [go_sem]; (first | exact VLe.refl _ | refine VLe_int ?_ | refine VLe_bool ?_ | refine VLe_str ?_ | skip))
        | (with_reducible refine And.intro ?_ ?_)
        | with_reducible intro _
      all_goals first
        | omega
        | (rename_i hx; revert hx; simp; done)
        | (simp; done)
        | skip
def digS : List UInt8 := [48, 49, 50, 51, 52, 53, 54, 55, 56, 57]
theorem dig_piece : ∀ d : Fin 10, (digS.drop d.val).take (d.val + 1 - d.val) = [UInt8.ofNat (48 + d.val)] := by decide
theorem t51 (u : Nat) (h : List AObj) (hu : u ≤ 1000000000) : ACalls Tryd.prog 51 [.int .i64 (u : Int)] h (.str (Lib.decDigits u)) h := by
  refine acalls_of fn51l (by simp) ?_
  simp only [List.length_cons, List.length_nil, Nat.reduceAdd, Nat.reduceSub, List.replicate, List.cons_append, List.nil_append, List.append_nil]
  simp (disch := omega) only [c51l, go_sem, wrap64_id, Int.tdiv_eq_ediv_of_nonneg, Int.tmod_eq_emod_of_nonneg]
  repeat' first
    | ((first | refine fnQ_pure1 ?_ ?_ | refine fnQ_pure0 ?_ ?_); (next => repeat' first | exact rvs_n | refine rvs_t ?_ | (simp [go_sem]; done)); simp only [go_sem]; (first | exact VLe.refl _ | refine VLe_int ?_ | refine VLe_bool ?_ | refine VLe_str ?_ | skip))
    | (with_reducible refine And.intro ?_ ?_)
    | with_reducible intro _
  all_goals first
    | omega
    | (rename_i hx; revert hx; simp; done)
    | (simp; done)
    | skip
  refine loop_of (T := fun i : Nat × List UInt8 => spar 22 [(0, .int .i64 i.1), (3, .str i.2)]) (H := fun _ => h) (inv := fun i => i.1 ≤ u ∧ i.2.length + i.1 ≤ u ∧ Lib.decDigits u = Lib.decDigits i.1 ++ i.2) (m := fun i => i.1) (u, []) ⟨Nat.le_refl _, by simp, by simp⟩ (Wk.temps ?_) ?_
  · (simp only [spar, List.foldl, List.replicate, go_sem, VLes_nil, VLes_cons, VLe_undef_iff, VLe_self]; try (repeat' first | (with_reducible refine And.intro ?_ ?_) | (refine VLe_int ?_; omega) | (refine VLe_bool ?_; rfl) | exact VLe.refl _))
  rintro ⟨n, S⟩ ⟨i1, i2, i4⟩ K hK
  simp only at i1 i2 i4 hK
  by_cases g : 9 < n
  · have q0 : (9 < (n : Int)) = True := eq_true (by omega)
    obtain ⟨d, hd⟩ : ∃ d, d = n % 10 := ⟨_, rfl⟩
    have ed : (n : Int) % 10 = (d : Int) := by omega
    have k1 : (0 ≤ (d : Int)) = True := eq_true (by omega)
    have k2 : ((d : Int) ≤ (d : Int) + 1) = True := eq_true (by omega)
    have k3 : ((d : Int) + 1 ≤ 10) = True := eq_true (by omega)
    have hdd : d < 10 := by omega
    have hp := dig_piece ⟨d, hdd⟩
    simp only at hp
    rw [show d + 1 - d = ((d : Int) + 1).toNat - d by omega] at hp
    unfold digS at hp
    simp (disch := omega) only [spar, List.foldl, List.replicate, q0, ed, k1, k2, k3, hp, go_sem, wrap64_id, Int.tdiv_eq_ediv_of_nonneg, Int.tmod_eq_emod_of_nonneg]
    repeat' first
      | ((first | refine fnQ_pure1 ?_ ?_ | refine fnQ_pure0 ?_ ?_); (next => repeat' first | exact rvs_n | refine rvs_t ?_ | (simp [go_sem]; done)); simp only [go_sem]; (first | exact VLe.refl _ | refine VLe_int ?_ | refine VLe_bool ?_ | refine VLe_str ?_ | skip))
      | (with_reducible refine And.intro ?_ ?_)
      | with_reducible intro _
    all_goals first
      | omega
      | (rename_i hx; revert hx; simp; done)
      | (simp; done)
      | skip
    refine hK _ _ (n / 10, [UInt8.ofNat (48 + d)] ++ S) ⟨by simp only; omega, by simp only [List.length_append, List.length_cons, List.length_nil]; omega, ?_⟩ (by simp only; omega) (Wk.temps ?_)
    · simp only
      rw [i4, Lib.decDigits, dif_neg (by omega), ← hd, List.append_assoc]
    · (simp only [spar, List.foldl, List.replicate, go_sem, VLes_nil, VLes_cons, VLe_undef_iff, VLe_self]; try (repeat' first | (with_reducible refine And.intro ?_ ?_) | (refine VLe_int ?_; omega) | (refine VLe_bool ?_; rfl) | exact VLe.refl _))
  · have q0 : (9 < (n : Int)) = False := eq_false (by omega)
    have k1 : (0 ≤ (n : Int)) = True := eq_true (by omega)
    have k2 : ((n : Int) ≤ (n : Int) + 1) = True := eq_true (by omega)
    have k3 : ((n : Int) + 1 ≤ 10) = True := eq_true (by omega)
    have hp := dig_piece ⟨n, by omega⟩
    simp only at hp
    rw [show n + 1 - n = ((n : Int) + 1).toNat - n by omega] at hp
    unfold digS at hp
    have hdec : Lib.decDigits n = [UInt8.ofNat (48 + n)] := by rw [Lib.decDigits, dif_pos (by omega)]
    rw [i4, hdec]
    simp (disch := omega) only [spar, List.foldl, List.replicate, q0, k1, k2, k3, hp, go_sem, wrap64_id, Int.tdiv_eq_ediv_of_nonneg, Int.tmod_eq_emod_of_nonneg]
    repeat' first
      | ((first | refine fnQ_pure1 ?_ ?_ | refine fnQ_pure0 ?_ ?_); (next => repeat' first | exact rvs_n | refine rvs_t ?_ | (simp [go_sem]; done)); simp only [go_sem]; (first | exact VLe.refl _ | refine VLe_int ?_ | refine VLe_bool ?_ | refine VLe_str ?_ | skip))
      | (with_reducible refine And.intro ?_ ?_)
      | with_reducible intro _
    all_goals first
      | omega
      | (rename_i hx; revert hx; simp; done)
      | (simp; done)
      | skip
end LN
end

section
open Go Go.Proofs AF HY P48
namespace LN
set_option maxRecDepth 100000
theorem t51i (x : Int) (h : List AObj) (h0 : 0 ≤ x) (h1 : x ≤ 1000000000) : ACalls Tryd.prog 51 [.int .i64 x] h (.str (Lib.itoa x)) h := by
  obtain ⟨u, rfl⟩ : ∃ u : Nat, x = u := ⟨x.toNat, by omega⟩
  rw [Lib.itoa_nonneg]
  exact t51 u h (by omega)
theorem t28 (x y : Int) (h : List AObj) (x0 : -9223372036854775808 ≤ x) (x1 : x ≤ 9223372036854775807) (y0 : -9223372036854775808 ≤ y) (y1 : y ≤ 9223372036854775807) :
    ACalls Tryd.prog 28 [.int .i64 x, .int .i64 y] h (.tup [.str (if rightO x y = true then rangeS x y else []), .int .i64 (if rightO x y = true then 0 else 2)]) h := by
  have lx := itoa_len x0 x1
  have ly := itoa_len y0 y1
  have bad : ¬ (1 ≤ x ∧ x ≤ y ∧ y ≤ 4096) → rightO x y = false := fun hc => by
    cases hr : rightO x y with
    | false => rfl
    | true => exact absurd ((rightO_iff x y).1 hr) hc
  by_cases g1 : x < 1
  · have k1 : (x < 1) = True := eq_true g1
    rw [bad (by omega), if_neg (by simp), if_neg (by simp)]
    refine acalls_of fn28l (by simp) ?_
    simp only [List.length_cons, List.length_nil, Nat.reduceAdd, Nat.reduceSub, List.replicate, List.cons_append, List.nil_append, List.append_nil]
    simp (disch := omega) only [c28l, k1, go_sem, wrap64_id, Int.tdiv_eq_ediv_of_nonneg, Int.tmod_eq_emod_of_nonneg]
    repeat' first
      | ((first | refine fnQ_pure1 ?_ ?_ | refine fnQ_pure0 ?_ ?_); (next => repeat' first | exact rvs_n | refine rvs_t ?_ | (simp [go_sem]; done)); simp only [go_sem]; (first | exact VLe.refl _ | refine VLe_int ?_ | refine VLe_bool ?_ | refine VLe_str ?_ | skip))
      | (with_reducible refine And.intro ?_ ?_)
      | with_reducible intro _
    all_goals first
      | omega
      | (rename_i hx; revert hx; simp; done)
      | (simp; done)
      | skip
  have k1 : (x < 1) = False := eq_false g1
  by_cases g2 : y < x
  · have k2 : (y < x) = True := eq_true g2
    rw [bad (by omega), if_neg (by simp), if_neg (by simp)]
    refine acalls_of fn28l (by simp) ?_
    simp only [List.length_cons, List.length_nil, Nat.reduceAdd, Nat.reduceSub, List.replicate, List.cons_append, List.nil_append, List.append_nil]
    simp (disch := omega) only [c28l, k1, k2, go_sem, wrap64_id, Int.tdiv_eq_ediv_of_nonneg, Int.tmod_eq_emod_of_nonneg]
    repeat' first
      | ((first | refine fnQ_pure1 ?_ ?_ | refine fnQ_pure0 ?_ ?_); (next => repeat' first | exact rvs_n | refine rvs_t ?_ | (simp [go_sem]; done)); simp only [go_sem]; (first | exact VLe.refl _ | refine VLe_int ?_ | refine VLe_bool ?_ | refine VLe_str ?_ | skip))
      | (with_reducible refine And.intro ?_ ?_)
      | with_reducible intro _
    all_goals first
      | omega
      | (rename_i hx; revert hx; simp; done)
      | (simp; done)
      | skip
  have k2 : (y < x) = False := eq_false g2
  by_cases g3 : 4096 < y
  · have k3 : (4096 < y) = True := eq_true g3
    rw [bad (by omega), if_neg (by simp), if_neg (by simp)]
    refine acalls_of fn28l (by simp) ?_
    simp only [List.length_cons, List.length_nil, Nat.reduceAdd, Nat.reduceSub, List.replicate, List.cons_append, List.nil_append, List.append_nil]
    simp (disch := omega) only [c28l, k1, k2, k3, go_sem, wrap64_id, Int.tdiv_eq_ediv_of_nonneg, Int.tmod_eq_emod_of_nonneg]
    repeat' first
      | ((first | refine fnQ_pure1 ?_ ?_ | refine fnQ_pure0 ?_ ?_); (next => repeat' first | exact rvs_n | refine rvs_t ?_ | (simp [go_sem]; done)); simp only [go_sem]; (first | exact VLe.refl _ | refine VLe_int ?_ | refine VLe_bool ?_ | refine VLe_str ?_ | skip))
      | (with_reducible refine And.intro ?_ ?_)
      | with_reducible intro _
    all_goals first
      | omega
      | (rename_i hx; revert hx; simp; done)
      | (simp; done)
      | skip
  have k3 : (4096 < y) = False := eq_false g3
  rw [(rightO_iff x y).2 (by omega), if_pos rfl, if_pos rfl]
  have cx := fun h => t51i x h (by omega) (by omega)
  have cy := fun h => t51i y h (by omega) (by omega)
  unfold rangeS
  by_cases e : x = y
  · have k4 : (x = y) = True := eq_true e
    rw [if_pos e]
    refine acalls_of fn28l (by simp) ?_
    simp only [List.length_cons, List.length_nil, Nat.reduceAdd, Nat.reduceSub, List.replicate, List.cons_append, List.nil_append, List.append_nil]
    simp (disch := omega) only [c28l, k1, k2, k3, k4, go_sem, wrap64_id, Int.tdiv_eq_ediv_of_nonneg, Int.tmod_eq_emod_of_nonneg]
    repeat' first
      | ((first | refine callA_pure (cx _) ?_ ?_); (next => repeat' first | exact flags_n | refine flags_c (by first | rfl | assumption) ?_); simp (disch := omega) only [k1, k2, k3, k4, go_sem, wrap64_id, Int.tdiv_eq_ediv_of_nonneg, Int.tmod_eq_emod_of_nonneg])
      | ((first | refine callU_of (fun _ => cx _) ?_ ?_); (next => repeat' first | exact flags_n | refine flags_c (by first | rfl | assumption) ?_); simp (disch := omega) only [k1, k2, k3, k4, go_sem, wrap64_id, Int.tdiv_eq_ediv_of_nonneg, Int.tmod_eq_emod_of_nonneg])
      | ((first | refine callG_pure (fun e => ⟨?_, cx _⟩) ?_); (next => repeat' first | exact flags_n | refine flags_c (by first | rfl | assumption) ?_); simp (disch := omega) only [k1, k2, k3, k4, go_sem, wrap64_id, Int.tdiv_eq_ediv_of_nonneg, Int.tmod_eq_emod_of_nonneg])
      | ((first | refine fnQ_pure1 ?_ ?_ | refine fnQ_pure0 ?_ ?_); (next => repeat' first | exact rvs_n | refine rvs_t ?_ | (simp [go_sem]; done)); simp only [go_sem]; (first | exact VLe.refl _ | refine VLe_int ?_ | refine VLe_bool ?_ | refine VLe_str ?_ | skip))
      | (with_reducible refine And.intro ?_ ?_)
      | with_reducible intro _
    all_goals first
      | omega
      | (rename_i hx; revert hx; simp; done)
      | (simp; done)
      | skip
  · have k4 : (x = y) = False := eq_false e
    rw [if_neg e]
    refine acalls_of fn28l (by simp) ?_
    simp only [List.length_cons, List.length_nil, Nat.reduceAdd, Nat.reduceSub, List.replicate, List.cons_append, List.nil_append, List.append_nil]
    simp (disch := omega) only [c28l, k1, k2, k3, k4, go_sem, wrap64_id, Int.tdiv_eq_ediv_of_nonneg, Int.tmod_eq_emod_of_nonneg]
    repeat' first
      | ((first | refine callA_pure (cx _) ?_ ?_ | refine callA_pure (cy _) ?_ ?_); (next => repeat' first | exact flags_n | refine flags_c (by first | rfl | assumption) ?_); simp (disch := omega) only [k1, k2, k3, k4, go_sem, wrap64_id, Int.tdiv_eq_ediv_of_nonneg, Int.tmod_eq_emod_of_nonneg])
      | ((first | refine callU_of (fun _ => cx _) ?_ ?_ | refine callU_of (fun _ => cy _) ?_ ?_); (next => repeat' first | exact flags_n | refine flags_c (by first | rfl | assumption) ?_); simp (disch := omega) only [k1, k2, k3, k4, go_sem, wrap64_id, Int.tdiv_eq_ediv_of_nonneg, Int.tmod_eq_emod_of_nonneg])
      | ((first | refine callG_pure (fun e => ⟨?_, cx _⟩) ?_ | refine callG_pure (fun e => ⟨?_, cy _⟩) ?_); (next => repeat' first | exact flags_n | refine flags_c (by first | rfl | assumption) ?_); simp (disch := omega) only [k1, k2, k3, k4, go_sem, wrap64_id, Int.tdiv_eq_ediv_of_nonneg, Int.tmod_eq_emod_of_nonneg])
      | ((first | refine fnQ_pure1 ?_ ?_ | refine fnQ_pure0 ?_ ?_); (next => repeat' first | exact rvs_n | refine rvs_t ?_ | (simp [go_sem]; done)); simp only [go_sem]; (first | exact VLe.refl _ | refine VLe_int ?_ | refine VLe_bool ?_ | refine VLe_str ?_ | skip))
      | (with_reducible refine And.intro ?_ ?_)
      | with_reducible intro _
    all_goals first
      | omega
      | (rename_i hx; revert hx; simp; done)
      | (simp; done)
      | skip
    all_goals (simp only [List.length_append, List.length_cons, List.length_nil]; omega)
def isDig (c : UInt8) : Prop := 48 ≤ c.toNat ∧ c.toNat ≤ 57
instance (c : UInt8) : Decidable (isDig c) := inferInstanceAs (Decidable (_ ∧ _))
def numP : Nat → List UInt8 → Nat → Nat × Nat
  | 0, _, n => (n, 0)
  | _ + 1, [], n => (n, 0)
  | f + 1, c :: r, n => if isDig c then ((numP f r (10 * n + (c.toNat - 48))).1, (numP f r (10 * n + (c.toNat - 48))).2 + 1) else (n, 0)
def numO (s : List UInt8) : Nat × Nat := numP 9 s 0
set_option maxHeartbeats 1000000 in
theorem t52 (s : List UInt8) (h : List AObj) (hs : s.length ≤ 1000000000) : ACalls Tryd.prog 52 [.str s] h (.tup [.int .i64 ((numO s).1 : Int), .int .i64 ((numO s).2 : Int)]) h := by
  obtain ⟨R, hR⟩ : ∃ R, R = numO s := ⟨_, rfl⟩
  rw [← hR]
  refine acalls_of fn52l (by simp) ?_
  simp only [List.length_cons, List.length_nil, Nat.reduceAdd, Nat.reduceSub, List.replicate, List.cons_append, List.nil_append, List.append_nil]
  simp (disch := omega) only [c52l, go_sem, wrap64_id, Int.tdiv_eq_ediv_of_nonneg, Int.tmod_eq_emod_of_nonneg]
  repeat' first
    | ((first | refine fnQ_pure1 ?_ ?_ | refine fnQ_pure0 ?_ ?_); (next => repeat' first | exact rvs_n | refine rvs_t ?_ | (simp [go_sem]; done)); simp only [go_sem]; (first | exact VLe.refl _ | refine VLe_int ?_ | refine VLe_bool ?_ | refine VLe_str ?_ | skip))
    | (with_reducible refine And.intro ?_ ?_)
    | with_reducible intro _
  all_goals first
    | omega
    | (rename_i hx; revert hx; simp; done)
    | (simp; done)
    | skip
  refine loop_of (T := fun i : Nat × Nat => spar 38 [(0, .str s), (4, .int .i64 (i.1 : Int)), (5, .int .i64 (i.2 : Int))]) (H := fun _ => h) (inv := fun i => i.2 ≤ 9 ∧ i.2 ≤ s.length ∧ i.1 < 10 ^ i.2 ∧ R = ((numP (9 - i.2) (s.drop i.2) i.1).1, (numP (9 - i.2) (s.drop i.2) i.1).2 + i.2)) (m := fun i => 9 - i.2) (0, 0) ⟨by simp, by simp, by simp, by rw [hR]; rfl⟩ (Wk.temps ?_) ?_
  · (simp only [spar, List.foldl, List.replicate, go_sem, VLes_nil, VLes_cons, VLe_undef_iff, VLe_self]; try (repeat' first | (with_reducible refine And.intro ?_ ?_) | (refine VLe_int ?_; omega) | (refine VLe_bool ?_; rfl) | exact VLe.refl _))
  rintro ⟨n, k⟩ ⟨i1, i2, i3, i4⟩ K hK
  simp only at i1 i2 i3 i4 hK
  by_cases hk : k < s.length
  · have q0 : ((k : Int) < s.length) = True := eq_true (by omega)
    obtain ⟨c, hc⟩ : ∃ c, c = s.getD k 0 := ⟨_, rfl⟩
    have e1 : (s[k]?).getD 0 = c := by rw [hc, List.getD_eq_getElem?_getD]
    have edr : s.drop k = c :: s.drop (k + 1) := by rw [List.drop_eq_getElem_cons hk, hc]; simp [List.getD_eq_getElem?_getD, hk]
    have hb := c.toNat_lt
    by_cases h9 : k < 9
    · have q1 : ((k : Int) < 9) = True := eq_true (by omega)
      rw [edr, show 9 - k = (8 - k) + 1 by omega, numP] at i4
      by_cases d1 : 48 ≤ c.toNat
      · have q2 : (48 ≤ (c.toNat : Int)) = True := eq_true (by omega)
        by_cases d2 : c.toNat ≤ 57
        · have q3 : ((c.toNat : Int) ≤ 57) = True := eq_true (by omega)
          rw [if_pos ⟨d1, d2⟩] at i4
          obtain ⟨d, hd⟩ : ∃ d, d = c.toNat - 48 := ⟨_, rfl⟩
          have ed : (c.toNat : Int) - 48 = (d : Int) := by omega
          have ew : IntKind.u8.wrap (d : Int) = d := wrap8_id (by omega) (by omega)
          have hp9 : (10 : Nat) ^ k ≤ 10 ^ 8 := Nat.pow_le_pow_right (by omega) (by omega)
          have hp8 : (10 : Nat) ^ 8 = 100000000 := rfl
          have hps : (10 : Nat) ^ (k + 1) = 10 ^ k * 10 := Nat.pow_succ ..
          simp (disch := omega) only [spar, List.foldl, List.replicate, q0, q1, q2, q3, e1, ed, ew, go_sem, wrap64_id, Int.tdiv_eq_ediv_of_nonneg, Int.tmod_eq_emod_of_nonneg]
          repeat' first
            | ((first | refine fnQ_pure1 ?_ ?_ | refine fnQ_pure0 ?_ ?_); (next => repeat' first | exact rvs_n | refine rvs_t ?_ | (simp [go_sem]; done)); simp only [go_sem]; (first | exact VLe.refl _ | refine VLe_int ?_ | refine VLe_bool ?_ | refine VLe_str ?_ | skip))
            | (with_reducible refine And.intro ?_ ?_)
            | with_reducible intro _
          all_goals first
            | omega
            | (rename_i hx; revert hx; simp; done)
            | (simp; done)
            | skip
          refine hK _ _ (10 * n + d, k + 1) ⟨by simp only; omega, hk, by simp only; omega, ?_⟩ (by simp only; omega) (Wk.temps ?_)
          · simp only
            rw [i4, ← hd, show 9 - (k + 1) = 8 - k by omega]
            simp only [Prod.mk.injEq, true_and]
            omega
          · (simp only [spar, List.foldl, List.replicate, go_sem, VLes_nil, VLes_cons, VLe_undef_iff, VLe_self]; try (repeat' first | (with_reducible refine And.intro ?_ ?_) | (refine VLe_int ?_; omega) | (refine VLe_bool ?_; rfl) | exact VLe.refl _))
        · have q3 : ((c.toNat : Int) ≤ 57) = False := eq_false (by omega)
          rw [if_neg (fun hx => d2 hx.2)] at i4
          rw [i4]
          simp (disch := omega) only [spar, List.foldl, List.replicate, q0, q1, q2, q3, e1, go_sem, wrap64_id, Int.tdiv_eq_ediv_of_nonneg, Int.tmod_eq_emod_of_nonneg]
          repeat' first
            | ((first | refine fnQ_pure1 ?_ ?_ | refine fnQ_pure0 ?_ ?_); (next => repeat' first | exact rvs_n | refine rvs_t ?_ | (simp [go_sem]; done)); simp only [go_sem]; (first | exact VLe.refl _ | refine VLe_int ?_ | refine VLe_bool ?_ | refine VLe_str ?_ | skip))
            | (with_reducible refine And.intro ?_ ?_)
            | with_reducible intro _
          all_goals first
            | omega
            | (rename_i hx; revert hx; simp; done)
            | (simp; done)
            | skip
      · have q2 : (48 ≤ (c.toNat : Int)) = False := eq_false (by omega)
        rw [if_neg (fun hx => d1 hx.1)] at i4
        rw [i4]
        simp (disch := omega) only [spar, List.foldl, List.replicate, q0, q1, q2, e1, go_sem, wrap64_id, Int.tdiv_eq_ediv_of_nonneg, Int.tmod_eq_emod_of_nonneg]
        repeat' first
          | ((first | refine fnQ_pure1 ?_ ?_ | refine fnQ_pure0 ?_ ?_); (next => repeat' first | exact rvs_n | refine rvs_t ?_ | (simp [go_sem]; done)); simp only [go_sem]; (first | exact VLe.refl _ | refine VLe_int ?_ | refine VLe_bool ?_ | refine VLe_str ?_ | skip))
          | (with_reducible refine And.intro ?_ ?_)
          | with_reducible intro _
        all_goals first
          | omega
          | (rename_i hx; revert hx; simp; done)
          | (simp; done)
          | skip
    · have q1 : ((k : Int) < 9) = False := eq_false (by omega)
      rw [show 9 - k = 0 by omega, numP] at i4
      rw [i4]
      simp (disch := omega) only [spar, List.foldl, List.replicate, q0, q1, go_sem, wrap64_id, Int.tdiv_eq_ediv_of_nonneg, Int.tmod_eq_emod_of_nonneg]
      repeat' first
        | ((first | refine fnQ_pure1 ?_ ?_ | refine fnQ_pure0 ?_ ?_); (next => repeat' first | exact rvs_n | refine rvs_t ?_ | (simp [go_sem]; done)); simp only [go_sem]; (first | exact VLe.refl _ | refine VLe_int ?_ | refine VLe_bool ?_ | refine VLe_str ?_ | skip))
        | (with_reducible refine And.intro ?_ ?_)
        | with_reducible intro _
      all_goals first
        | omega
        | (rename_i hx; revert hx; simp; done)
        | (simp; done)
        | skip
  · have e : k = s.length := by omega
    have q0 : ((k : Int) < s.length) = False := eq_false (by omega)
    rw [List.drop_of_length_le (by omega)] at i4
    have i5 : R = (n, k) := by
      rw [i4]
      cases h9 : 9 - k with
      | zero => rw [numP]; simp
      | succ f => rw [numP]; simp
    rw [i5]
    simp (disch := omega) only [spar, List.foldl, List.replicate, q0, go_sem, wrap64_id, Int.tdiv_eq_ediv_of_nonneg, Int.tmod_eq_emod_of_nonneg]
    repeat' first
      | ((first | refine fnQ_pure1 ?_ ?_ | refine fnQ_pure0 ?_ ?_); (next => repeat' first | exact rvs_n | refine rvs_t ?_ | (simp [go_sem]; done)); simp only [go_sem]; (first | exact VLe.refl _ | refine VLe_int ?_ | refine VLe_bool ?_ | refine VLe_str ?_ | skip))
      | (with_reducible refine And.intro ?_ ?_)
      | with_reducible intro _
    all_goals first
      | omega
      | (rename_i hx; revert hx; simp; done)
      | (simp; done)
      | skip
def refTo (s : List UInt8) : Nat := if (numO s).2 < s.length ∧ s.getD (numO s).2 0 = 45 then (numO (s.drop ((numO s).2 + 1))).1 else (numO s).1
def refP (s : List UInt8) : Int × Int × Int := if rightO ((numO s).1 : Int) (refTo s : Int) = true ∧ rangeS ((numO s).1 : Int) (refTo s : Int) = s then (((numO s).1 : Int), (refTo s : Int), 0) else (0, 0, 3)
theorem numP_bound : ∀ (f : Nat) (s : List UInt8) (n : Nat), (numP f s n).1 < (n + 1) * 10 ^ f ∧ (numP f s n).2 ≤ s.length := by
  intro f
  induction f with
  | zero => intro s n; rw [numP]; exact ⟨by simp, Nat.zero_le _⟩
  | succ f ih =>
    intro s n
    have hpos : 0 < 10 ^ f := Nat.pow_pos (by omega)
    have hps : 10 ^ (f + 1) = 10 ^ f * 10 := Nat.pow_succ ..
    cases s with
    | nil =>
      rw [numP]
      refine ⟨?_, Nat.zero_le _⟩
      simp only
      have : (n + 1) * 1 ≤ (n + 1) * 10 ^ (f + 1) := Nat.mul_le_mul_left _ (Nat.pow_pos (by omega))
      omega
    | cons c r =>
      rw [numP]
      split
      · rename_i hd
        obtain ⟨h1, h2⟩ := ih r (10 * n + (c.toNat - 48))
        refine ⟨?_, by simp only [List.length_cons]; omega⟩
        simp only
        refine Nat.lt_of_lt_of_le h1 ?_
        rw [hps, Nat.mul_comm (10 ^ f) 10, ← Nat.mul_assoc]
        exact Nat.mul_le_mul_right _ (by have := hd.2; omega)
      · refine ⟨?_, Nat.zero_le _⟩
        simp only
        have : (n + 1) * 1 ≤ (n + 1) * 10 ^ (f + 1) := Nat.mul_le_mul_left _ (Nat.pow_pos (by omega))
        omega
theorem numO_bound (s : List UInt8) : (numO s).1 < 1000000000 ∧ (numO s).2 ≤ s.length := by
  have := numP_bound 9 s 0
  unfold numO
  exact ⟨by omega, this.2⟩
set_option maxHeartbeats 1000000 in
theorem t29 (s : List UInt8) (h : List AObj) (hs : s.length ≤ 1000000000) : ACalls Tryd.prog 29 [.str s] h (.tup [.int .i64 (refP s).1, .int .i64 (refP s).2.1, .int .i64 (refP s).2.2]) h := by
  have c52 := fun h => t52 s h hs
  obtain ⟨R, hR⟩ : ∃ R, R = refP s := ⟨_, rfl⟩
  have hR2 := hR
  rw [← hR]
  unfold refP at hR2
  obtain ⟨b1, b2⟩ := numO_bound s
  obtain ⟨x, hx⟩ : ∃ x, x = (numO s).1 := ⟨_, rfl⟩
  obtain ⟨k, hk⟩ : ∃ k, k = (numO s).2 := ⟨_, rfl⟩
  obtain ⟨y, hy⟩ : ∃ y, y = refTo s := ⟨_, rfl⟩
  have hy2 := hy
  unfold refTo at hy2
  rw [← hx, ← hy] at hR2
  rw [← hx] at c52 b1 hy2
  rw [← hk] at c52 b2 hy2
  have hyb : y < 1000000000 := by
    rw [hy2]
    split
    · exact (numO_bound _).1
    · exact b1
  have c28 := fun h => t28 (x : Int) (y : Int) h (by omega) (by omega) (by omega) (by omega)
  have fin : ∀ (w : List UInt8) (e : Int), w = (if rightO (x : Int) (y : Int) = true then rangeS x y else []) → e = (if rightO (x : Int) (y : Int) = true then 0 else 2) → (e = 0 ∧ w = s ∧ R = ((x : Int), (y : Int), 0)) ∨ (¬ e = 0 ∧ R = (0, 0, 3)) ∨ (e = 0 ∧ ¬ w = s ∧ R = (0, 0, 3)) := by
    intro w e hw he
    cases hr : rightO (x : Int) (y : Int) with
    | false =>
      rw [hr] at hR2 he
      rw [if_neg (by simp)] at hR2 he
      exact .inr (.inl ⟨by rw [he]; decide, hR2⟩)
    | true =>
      rw [hr] at hR2 he hw
      rw [if_pos rfl] at he hw
      by_cases e2 : rangeS (x : Int) (y : Int) = s
      · rw [if_pos ⟨rfl, e2⟩] at hR2
        exact .inl ⟨he, by rw [hw, e2], hR2⟩
      · rw [if_neg (fun hc => e2 hc.2)] at hR2
        exact .inr (.inr ⟨he, by rw [hw]; exact e2, hR2⟩)
  obtain ⟨w, hw⟩ : ∃ w, w = (if rightO (x : Int) (y : Int) = true then rangeS x y else []) := ⟨_, rfl⟩
  obtain ⟨e, he⟩ : ∃ e : Int, e = (if rightO (x : Int) (y : Int) = true then 0 else 2) := ⟨_, rfl⟩
  have fin := fin w e hw he
  rw [← hw, ← he] at c28
  clear hw he hR2 hR
  by_cases g1 : k < s.length
  · have q0 : ((k : Int) < s.length) = True := eq_true (by omega)
    obtain ⟨c, hc⟩ : ∃ c, c = s.getD k 0 := ⟨_, rfl⟩
    have e1 : (s[k]?).getD 0 = c := by rw [hc, List.getD_eq_getElem?_getD]
    rw [← hc] at hy2
    by_cases g2 : c = 45
    · have q1 : ((c.toNat : Int) = 45) = True := eq_true (by rw [g2]; rfl)
      rw [if_pos ⟨g1, g2⟩] at hy2
      have d52 := fun h => t52 (s.drop (k + 1)) h (by simp; omega)
      obtain ⟨k2, hk2⟩ : ∃ k2, k2 = (numO (s.drop (k + 1))).2 := ⟨_, rfl⟩
      rw [← hy2, ← hk2] at d52
      have q3 : (0 ≤ (k : Int) + 1) = True := eq_true (by omega)
      have q4 : ((k : Int) + 1 ≤ s.length) = True := eq_true (by omega)
      have rt : ((k : Int) + 1).toNat = k + 1 := by omega
      have eD : List.take (s.length - (k + 1)) (List.drop (k + 1) s) = s.drop (k + 1) := List.take_of_length_le (by simp)
      rcases fin with ⟨f1, f2, rfl⟩ | ⟨f1, rfl⟩ | ⟨f1, f2, rfl⟩
      · have k1 : (e = 0) = True := eq_true f1
        have k2 : (w = s) = True := eq_true f2
        refine acalls_of fn29l (by simp) ?_
        simp only [List.length_cons, List.length_nil, Nat.reduceAdd, Nat.reduceSub, List.replicate, List.cons_append, List.nil_append, List.append_nil]
        simp (disch := omega) only [c29l, q0, q1, q3, q4, rt, eD, e1, k1, k2, go_sem, wrap64_id, Int.tdiv_eq_ediv_of_nonneg, Int.tmod_eq_emod_of_nonneg]
        repeat' first
          | ((first | refine callA_pure (c52 _) ?_ ?_ | refine callA_pure (d52 _) ?_ ?_ | refine callA_pure (c28 _) ?_ ?_); (next => repeat' first | exact flags_n | refine flags_c (by first | rfl | assumption) ?_); simp (disch := omega) only [q0, q1, q3, q4, rt, eD, e1, k1, k2, go_sem, wrap64_id, Int.tdiv_eq_ediv_of_nonneg, Int.tmod_eq_emod_of_nonneg])
          | ((first | refine callU_of (fun _ => c52 _) ?_ ?_ | refine callU_of (fun _ => d52 _) ?_ ?_ | refine callU_of (fun _ => c28 _) ?_ ?_); (next => repeat' first | exact flags_n | refine flags_c (by first | rfl | assumption) ?_); simp (disch := omega) only [q0, q1, q3, q4, rt, eD, e1, k1, k2, go_sem, wrap64_id, Int.tdiv_eq_ediv_of_nonneg, Int.tmod_eq_emod_of_nonneg])
          | ((first | refine callG_pure (fun e => ⟨?_, c52 _⟩) ?_ | refine callG_pure (fun e => ⟨?_, d52 _⟩) ?_ | refine callG_pure (fun e => ⟨?_, c28 _⟩) ?_); (next => repeat' first | exact flags_n | refine flags_c (by first | rfl | assumption) ?_); simp (disch := omega) only [q0, q1, q3, q4, rt, eD, e1, k1, k2, go_sem, wrap64_id, Int.tdiv_eq_ediv_of_nonneg, Int.tmod_eq_emod_of_nonneg])
          | ((first | refine fnQ_pure1 ?_ ?_ | refine fnQ_pure0 ?_ ?_); (next => repeat' first | exact rvs_n | refine rvs_t ?_ | (simp [go_sem]; done)); simp only [go_sem]; (first | exact VLe.refl _ | refine VLe_int ?_ | refine VLe_bool ?_ | refine VLe_str ?_ | skip))
          | (with_reducible refine And.intro ?_ ?_)
          | with_reducible intro _
        all_goals first
          | omega
          | (rename_i hx; revert hx; simp; done)
          | (simp; done)
          | skip
      · have k1 : (e = 0) = False := eq_false f1
        refine acalls_of fn29l (by simp) ?_
        simp only [List.length_cons, List.length_nil, Nat.reduceAdd, Nat.reduceSub, List.replicate, List.cons_append, List.nil_append, List.append_nil]
        simp (disch := omega) only [c29l, q0, q1, q3, q4, rt, eD, e1, k1, go_sem, wrap64_id, Int.tdiv_eq_ediv_of_nonneg, Int.tmod_eq_emod_of_nonneg]
        repeat' first
          | ((first | refine callA_pure (c52 _) ?_ ?_ | refine callA_pure (d52 _) ?_ ?_ | refine callA_pure (c28 _) ?_ ?_); (next => repeat' first | exact flags_n | refine flags_c (by first | rfl | assumption) ?_); simp (disch := omega) only [q0, q1, q3, q4, rt, eD, e1, k1, go_sem, wrap64_id, Int.tdiv_eq_ediv_of_nonneg, Int.tmod_eq_emod_of_nonneg])
          | ((first | refine callU_of (fun _ => c52 _) ?_ ?_ | refine callU_of (fun _ => d52 _) ?_ ?_ | refine callU_of (fun _ => c28 _) ?_ ?_); (next => repeat' first | exact flags_n | refine flags_c (by first | rfl | assumption) ?_); simp (disch := omega) only [q0, q1, q3, q4, rt, eD, e1, k1, go_sem, wrap64_id, Int.tdiv_eq_ediv_of_nonneg, Int.tmod_eq_emod_of_nonneg])
          | ((first | refine callG_pure (fun e => ⟨?_, c52 _⟩) ?_ | refine callG_pure (fun e => ⟨?_, d52 _⟩) ?_ | refine callG_pure (fun e => ⟨?_, c28 _⟩) ?_); (next => repeat' first | exact flags_n | refine flags_c (by first | rfl | assumption) ?_); simp (disch := omega) only [q0, q1, q3, q4, rt, eD, e1, k1, go_sem, wrap64_id, Int.tdiv_eq_ediv_of_nonneg, Int.tmod_eq_emod_of_nonneg])
          | ((first | refine fnQ_pure1 ?_ ?_ | refine fnQ_pure0 ?_ ?_); (next => repeat' first | exact rvs_n | refine rvs_t ?_ | (simp [go_sem]; done)); simp only [go_sem]; (first | exact VLe.refl _ | refine VLe_int ?_ | refine VLe_bool ?_ | refine VLe_str ?_ | skip))
          | (with_reducible refine And.intro ?_ ?_)
          | with_reducible intro _
        all_goals first
          | omega
          | (rename_i hx; revert hx; simp; done)
          | (simp; done)
          | skip
      · have k1 : (e = 0) = True := eq_true f1
        have k2 : (w = s) = False := eq_false f2
        refine acalls_of fn29l (by simp) ?_
        simp only [List.length_cons, List.length_nil, Nat.reduceAdd, Nat.reduceSub, List.replicate, List.cons_append, List.nil_append, List.append_nil]
        simp (disch := omega) only [c29l, q0, q1, q3, q4, rt, eD, e1, k1, k2, go_sem, wrap64_id, Int.tdiv_eq_ediv_of_nonneg, Int.tmod_eq_emod_of_nonneg]
        repeat' first
          | ((first | refine callA_pure (c52 _) ?_ ?_ | refine callA_pure (d52 _) ?_ ?_ | refine callA_pure (c28 _) ?_ ?_); (next => repeat' first | exact flags_n | refine flags_c (by first | rfl | assumption) ?_); simp (disch := omega) only [q0, q1, q3, q4, rt, eD, e1, k1, k2, go_sem, wrap64_id, Int.tdiv_eq_ediv_of_nonneg, Int.tmod_eq_emod_of_nonneg])
          | ((first | refine callU_of (fun _ => c52 _) ?_ ?_ | refine callU_of (fun _ => d52 _) ?_ ?_ | refine callU_of (fun _ => c28 _) ?_ ?_); (next => repeat' first | exact flags_n | refine flags_c (by first | rfl | assumption) ?_); simp (disch := omega) only [q0, q1, q3, q4, rt, eD, e1, k1, k2, go_sem, wrap64_id, Int.tdiv_eq_ediv_of_nonneg, Int.tmod_eq_emod_of_nonneg])
          | ((first | refine callG_pure (fun e => ⟨?_, c52 _⟩) ?_ | refine callG_pure (fun e => ⟨?_, d52 _⟩) ?_ | refine callG_pure (fun e => ⟨?_, c28 _⟩) ?_); (next => repeat' first | exact flags_n | refine flags_c (by first | rfl | assumption) ?_); simp (disch := omega) only [q0, q1, q3, q4, rt, eD, e1, k1, k2, go_sem, wrap64_id, Int.tdiv_eq_ediv_of_nonneg, Int.tmod_eq_emod_of_nonneg])
          | ((first | refine fnQ_pure1 ?_ ?_ | refine fnQ_pure0 ?_ ?_); (next => repeat' first | exact rvs_n | refine rvs_t ?_ | (simp [go_sem]; done)); simp only [go_sem]; (first | exact VLe.refl _ | refine VLe_int ?_ | refine VLe_bool ?_ | refine VLe_str ?_ | skip))
          | (with_reducible refine And.intro ?_ ?_)
          | with_reducible intro _
        all_goals first
          | omega
          | (rename_i hx; revert hx; simp; done)
          | (simp; done)
          | skip
    · have q1 : ((c.toNat : Int) = 45) = False := eq_false (fun hh => g2 (by
        apply UInt8.toNat_inj.1
        have : c.toNat = 45 := by omega
        rw [this]; rfl))
      rw [if_neg (fun hh => g2 hh.2)] at hy2
      subst hy2
      rcases fin with ⟨f1, f2, rfl⟩ | ⟨f1, rfl⟩ | ⟨f1, f2, rfl⟩
      · have k1 : (e = 0) = True := eq_true f1
        have k2 : (w = s) = True := eq_true f2
        refine acalls_of fn29l (by simp) ?_
        simp only [List.length_cons, List.length_nil, Nat.reduceAdd, Nat.reduceSub, List.replicate, List.cons_append, List.nil_append, List.append_nil]
        simp (disch := omega) only [c29l, q0, q1, e1, k1, k2, go_sem, wrap64_id, Int.tdiv_eq_ediv_of_nonneg, Int.tmod_eq_emod_of_nonneg]
        repeat' first
          | ((first | refine callA_pure (c52 _) ?_ ?_ | refine callA_pure (c28 _) ?_ ?_); (next => repeat' first | exact flags_n | refine flags_c (by first | rfl | assumption) ?_); simp (disch := omega) only [q0, q1, e1, k1, k2, go_sem, wrap64_id, Int.tdiv_eq_ediv_of_nonneg, Int.tmod_eq_emod_of_nonneg])
          | ((first | refine callU_of (fun _ => c52 _) ?_ ?_ | refine callU_of (fun _ => c28 _) ?_ ?_); (next => repeat' first | exact flags_n | refine flags_c (by first | rfl | assumption) ?_); simp (disch := omega) only [q0, q1, e1, k1, k2, go_sem, wrap64_id, Int.tdiv_eq_ediv_of_nonneg, Int.tmod_eq_emod_of_nonneg])
          | ((first | refine callG_pure (fun e => ⟨?_, c52 _⟩) ?_ | refine callG_pure (fun e => ⟨?_, c28 _⟩) ?_); (next => repeat' first | exact flags_n | refine flags_c (by first | rfl | assumption) ?_); simp (disch := omega) only [q0, q1, e1, k1, k2, go_sem, wrap64_id, Int.tdiv_eq_ediv_of_nonneg, Int.tmod_eq_emod_of_nonneg])
          | ((first | refine fnQ_pure1 ?_ ?_ | refine fnQ_pure0 ?_ ?_); (next => repeat' first | exact rvs_n | refine rvs_t ?_ | (simp [go_sem]; done)); simp only [go_sem]; (first | exact VLe.refl _ | refine VLe_int ?_ | refine VLe_bool ?_ | refine VLe_str ?_ | skip))
          | (with_reducible refine And.intro ?_ ?_)
          | with_reducible intro _
        all_goals first
          | omega
          | (rename_i hx; revert hx; simp; done)
          | (simp; done)
          | skip
      · have k1 : (e = 0) = False := eq_false f1
        refine acalls_of fn29l (by simp) ?_
        simp only [List.length_cons, List.length_nil, Nat.reduceAdd, Nat.reduceSub, List.replicate, List.cons_append, List.nil_append, List.append_nil]
        simp (disch := omega) only [c29l, q0, q1, e1, k1, go_sem, wrap64_id, Int.tdiv_eq_ediv_of_nonneg, Int.tmod_eq_emod_of_nonneg]
        repeat' first
          | ((first | refine callA_pure (c52 _) ?_ ?_ | refine callA_pure (c28 _) ?_ ?_); (next => repeat' first | exact flags_n | refine flags_c (by first | rfl | assumption) ?_); simp (disch := omega) only [q0, q1, e1, k1, go_sem, wrap64_id, Int.tdiv_eq_ediv_of_nonneg, Int.tmod_eq_emod_of_nonneg])
          | ((first | refine callU_of (fun _ => c52 _) ?_ ?_ | refine callU_of (fun _ => c28 _) ?_ ?_); (next => repeat' first | exact flags_n | refine flags_c (by first | rfl | assumption) ?_); simp (disch := omega) only [q0, q1, e1, k1, go_sem, wrap64_id, Int.tdiv_eq_ediv_of_nonneg, Int.tmod_eq_emod_of_nonneg])
          | ((first | refine callG_pure (fun e => ⟨?_, c52 _⟩) ?_ | refine callG_pure (fun e => ⟨?_, c28 _⟩) ?_); (next => repeat' first | exact flags_n | refine flags_c (by first | rfl | assumption) ?_); simp (disch := omega) only [q0, q1, e1, k1, go_sem, wrap64_id, Int.tdiv_eq_ediv_of_nonneg, Int.tmod_eq_emod_of_nonneg])
          | ((first | refine fnQ_pure1 ?_ ?_ | refine fnQ_pure0 ?_ ?_); (next => repeat' first | exact rvs_n | refine rvs_t ?_ | (simp [go_sem]; done)); simp only [go_sem]; (first | exact VLe.refl _ | refine VLe_int ?_ | refine VLe_bool ?_ | refine VLe_str ?_ | skip))
          | (with_reducible refine And.intro ?_ ?_)
          | with_reducible intro _
        all_goals first
          | omega
          | (rename_i hx; revert hx; simp; done)
          | (simp; done)
          | skip
      · have k1 : (e = 0) = True := eq_true f1
        have k2 : (w = s) = False := eq_false f2
        refine acalls_of fn29l (by simp) ?_
        simp only [List.length_cons, List.length_nil, Nat.reduceAdd, Nat.reduceSub, List.replicate, List.cons_append, List.nil_append, List.append_nil]
        simp (disch := omega) only [c29l, q0, q1, e1, k1, k2, go_sem, wrap64_id, Int.tdiv_eq_ediv_of_nonneg, Int.tmod_eq_emod_of_nonneg]
        repeat' first
          | ((first | refine callA_pure (c52 _) ?_ ?_ | refine callA_pure (c28 _) ?_ ?_); (next => repeat' first | exact flags_n | refine flags_c (by first | rfl | assumption) ?_); simp (disch := omega) only [q0, q1, e1, k1, k2, go_sem, wrap64_id, Int.tdiv_eq_ediv_of_nonneg, Int.tmod_eq_emod_of_nonneg])
          | ((first | refine callU_of (fun _ => c52 _) ?_ ?_ | refine callU_of (fun _ => c28 _) ?_ ?_); (next => repeat' first | exact flags_n | refine flags_c (by first | rfl | assumption) ?_); simp (disch := omega) only [q0, q1, e1, k1, k2, go_sem, wrap64_id, Int.tdiv_eq_ediv_of_nonneg, Int.tmod_eq_emod_of_nonneg])
          | ((first | refine callG_pure (fun e => ⟨?_, c52 _⟩) ?_ | refine callG_pure (fun e => ⟨?_, c28 _⟩) ?_); (next => repeat' first | exact flags_n | refine flags_c (by first | rfl | assumption) ?_); simp (disch := omega) only [q0, q1, e1, k1, k2, go_sem, wrap64_id, Int.tdiv_eq_ediv_of_nonneg, Int.tmod_eq_emod_of_nonneg])
          | ((first | refine fnQ_pure1 ?_ ?_ | refine fnQ_pure0 ?_ ?_); (next => repeat' first | exact rvs_n | refine rvs_t ?_ | (simp [go_sem]; done)); simp only [go_sem]; (first | exact VLe.refl _ | refine VLe_int ?_ | refine VLe_bool ?_ | refine VLe_str ?_ | skip))
          | (with_reducible refine And.intro ?_ ?_)
          | with_reducible intro _
        all_goals first
          | omega
          | (rename_i hx; revert hx; simp; done)
          | (simp; done)
          | skip
  · have q0 : ((k : Int) < s.length) = False := eq_false (by omega)
    rw [if_neg (fun hh => g1 hh.1)] at hy2
    subst hy2
    rcases fin with ⟨f1, f2, rfl⟩ | ⟨f1, rfl⟩ | ⟨f1, f2, rfl⟩
    · have k1 : (e = 0) = True := eq_true f1
      have k2 : (w = s) = True := eq_true f2
      refine acalls_of fn29l (by simp) ?_
      simp only [List.length_cons, List.length_nil, Nat.reduceAdd, Nat.reduceSub, List.replicate, List.cons_append, List.nil_append, List.append_nil]
      simp (disch := omega) only [c29l, q0, k1, k2, go_sem, wrap64_id, Int.tdiv_eq_ediv_of_nonneg, Int.tmod_eq_emod_of_nonneg]
      repeat' first
        | ((first | refine callA_pure (c52 _) ?_ ?_ | refine callA_pure (c28 _) ?_ ?_); (next => repeat' first | exact flags_n | refine flags_c (by first | rfl | assumption) ?_); simp (disch := omega) only [q0, k1, k2, go_sem, wrap64_id, Int.tdiv_eq_ediv_of_nonneg, Int.tmod_eq_emod_of_nonneg])
        | ((first | refine callU_of (fun _ => c52 _) ?_ ?_ | refine callU_of (fun _ => c28 _) ?_ ?_); (next => repeat' first | exact flags_n | refine flags_c (by first | rfl | assumption) ?_); simp (disch := omega) only [q0, k1, k2, go_sem, wrap64_id, Int.tdiv_eq_ediv_of_nonneg, Int.tmod_eq_emod_of_nonneg])
        | ((first | refine callG_pure (fun e => ⟨?_, c52 _⟩) ?_ | refine callG_pure (fun e => ⟨?_, c28 _⟩) ?_); (next => repeat' first | exact flags_n | refine flags_c (by first | rfl | assumption) ?_); simp (disch := omega) only [q0, k1, k2, go_sem, wrap64_id, Int.tdiv_eq_ediv_of_nonneg, Int.tmod_eq_emod_of_nonneg])
        | ((first | refine fnQ_pure1 ?_ ?_ | refine fnQ_pure0 ?_ ?_); (next => repeat' first | exact rvs_n | refine rvs_t ?_ | (simp [go_sem]; done)); simp only [go_sem]; (first | exact VLe.refl _ | refine VLe_int ?_ | refine VLe_bool ?_ | refine VLe_str ?_ | skip))
        | (with_reducible refine And.intro ?_ ?_)
        | with_reducible intro _
      all_goals first
        | omega
        | (rename_i hx; revert hx; simp; done)
        | (simp; done)
        | skip
    · have k1 : (e = 0) = False := eq_false f1
      refine acalls_of fn29l (by simp) ?_
      simp only [List.length_cons, List.length_nil, Nat.reduceAdd, Nat.reduceSub, List.replicate, List.cons_append, List.nil_append, List.append_nil]
      simp (disch := omega) only [c29l, q0, k1, go_sem, wrap64_id, Int.tdiv_eq_ediv_of_nonneg, Int.tmod_eq_emod_of_nonneg]
      repeat' first
        | ((first | refine callA_pure (c52 _) ?_ ?_ | refine callA_pure (c28 _) ?_ ?_); (next => repeat' first | exact flags_n | refine flags_c (by first | rfl | assumption) ?_); simp (disch := omega) only [q0, k1, go_sem, wrap64_id, Int.tdiv_eq_ediv_of_nonneg, Int.tmod_eq_emod_of_nonneg])
        | ((first | refine callU_of (fun _ => c52 _) ?_ ?_ | refine callU_of (fun _ => c28 _) ?_ ?_); (next => repeat' first | exact flags_n | refine flags_c (by first | rfl | assumption) ?_); simp (disch := omega) only [q0, k1, go_sem, wrap64_id, Int.tdiv_eq_ediv_of_nonneg, Int.tmod_eq_emod_of_nonneg])
        | ((first | refine callG_pure (fun e => ⟨?_, c52 _⟩) ?_ | refine callG_pure (fun e => ⟨?_, c28 _⟩) ?_); (next => repeat' first | exact flags_n | refine flags_c (by first | rfl | assumption) ?_); simp (disch := omega) only [q0, k1, go_sem, wrap64_id, Int.tdiv_eq_ediv_of_nonneg, Int.tmod_eq_emod_of_nonneg])
        | ((first | refine fnQ_pure1 ?_ ?_ | refine fnQ_pure0 ?_ ?_); (next => repeat' first | exact rvs_n | refine rvs_t ?_ | (simp [go_sem]; done)); simp only [go_sem]; (first | exact VLe.refl _ | refine VLe_int ?_ | refine VLe_bool ?_ | refine VLe_str ?_ | skip))
        | (with_reducible refine And.intro ?_ ?_)
        | with_reducible intro _
      all_goals first
        | omega
        | (rename_i hx; revert hx; simp; done)
        | (simp; done)
        | skip
    · have k1 : (e = 0) = True := eq_true f1
      have k2 : (w = s) = False := eq_false f2
      refine acalls_of fn29l (by simp) ?_
      simp only [List.length_cons, List.length_nil, Nat.reduceAdd, Nat.reduceSub, List.replicate, List.cons_append, List.nil_append, List.append_nil]
      simp (disch := omega) only [c29l, q0, k1, k2, go_sem, wrap64_id, Int.tdiv_eq_ediv_of_nonneg, Int.tmod_eq_emod_of_nonneg]
      repeat' first
        | ((first | refine callA_pure (c52 _) ?_ ?_ | refine callA_pure (c28 _) ?_ ?_); (next => repeat' first | exact flags_n | refine flags_c (by first | rfl | assumption) ?_); simp (disch := omega) only [q0, k1, k2, go_sem, wrap64_id, Int.tdiv_eq_ediv_of_nonneg, Int.tmod_eq_emod_of_nonneg])
        | ((first | refine callU_of (fun _ => c52 _) ?_ ?_ | refine callU_of (fun _ => c28 _) ?_ ?_); (next => repeat' first | exact flags_n | refine flags_c (by first | rfl | assumption) ?_); simp (disch := omega) only [q0, k1, k2, go_sem, wrap64_id, Int.tdiv_eq_ediv_of_nonneg, Int.tmod_eq_emod_of_nonneg])
        | ((first | refine callG_pure (fun e => ⟨?_, c52 _⟩) ?_ | refine callG_pure (fun e => ⟨?_, c28 _⟩) ?_); (next => repeat' first | exact flags_n | refine flags_c (by first | rfl | assumption) ?_); simp (disch := omega) only [q0, k1, k2, go_sem, wrap64_id, Int.tdiv_eq_ediv_of_nonneg, Int.tmod_eq_emod_of_nonneg])
        | ((first | refine fnQ_pure1 ?_ ?_ | refine fnQ_pure0 ?_ ?_); (next => repeat' first | exact rvs_n | refine rvs_t ?_ | (simp [go_sem]; done)); simp only [go_sem]; (first | exact VLe.refl _ | refine VLe_int ?_ | refine VLe_bool ?_ | refine VLe_str ?_ | skip))
        | (with_reducible refine And.intro ?_ ?_)
        | with_reducible intro _
      all_goals first
        | omega
        | (rename_i hx; revert hx; simp; done)
        | (simp; done)
        | skip
end LN
end

section
open Go Go.Proofs AF HY P48
namespace LN
set_option maxRecDepth 100000
def valD : List UInt8 → Nat → Nat
  | [], n => n
  | c :: r, n => valD r (10 * n + (c.toNat - 48))
theorem valD_nil (n : Nat) : valD [] n = n := rfl
theorem valD_cons (c : UInt8) (r : List UInt8) (n : Nat) : valD (c :: r) n = valD r (10 * n + (c.toNat - 48)) := by simp only [valD]
theorem valD_app : ∀ (l r : List UInt8) (n : Nat), valD (l ++ r) n = valD r (valD l n) := by
  intro l
  induction l with
  | nil => intro r n; rfl
  | cons c l ih => intro r n; rw [List.cons_append, valD_cons, valD_cons, ih]
theorem valD_dec : ∀ u, valD (Lib.decDigits u) 0 = u := by
  intro u
  induction u using Nat.strongRecOn with
  | _ u ih =>
    by_cases h : u < 10
    · rw [Lib.decDigits, dif_pos h, valD_cons, valD_nil, dig_nat h]; omega
    · rw [Lib.decDigits, dif_neg h, valD_app, ih (u / 10) (by omega), valD_cons, valD_nil, dig_nat (by omega)]; omega
theorem dec_len : ∀ (k u : Nat), u < 10 ^ (k + 1) → (Lib.decDigits u).length ≤ k + 1 := by
  intro k
  induction k with
  | zero => intro u h; rw [Lib.decDigits, dif_pos (by simpa using h)]; simp
  | succ k ih =>
    intro u h
    by_cases g : u < 10
    · rw [Lib.decDigits, dif_pos g]; simp
    · rw [Lib.decDigits, dif_neg g, List.length_append]
      have h2 : 10 ^ (k + 1 + 1) = 10 ^ (k + 1) * 10 := Nat.pow_succ ..
      have := ih (u / 10) (by omega)
      simp only [List.length_cons, List.length_nil]
      omega
theorem numP_app : ∀ (l : List UInt8) (f : Nat) (r : List UInt8) (n : Nat), (∀ c ∈ l, isDig c) → l.length ≤ f → numP f (l ++ r) n = ((numP (f - l.length) r (valD l n)).1, (numP (f - l.length) r (valD l n)).2 + l.length) := by
  intro l
  induction l with
  | nil => intro f r n _ _; simp [valD]
  | cons c l ih =>
    intro f r n hd hl
    rw [List.length_cons] at hl
    obtain ⟨f', rfl⟩ : ∃ f', f = f' + 1 := ⟨f - 1, by omega⟩
    rw [List.cons_append, numP, if_pos (hd c (by simp)), ih f' r _ (fun c hc => hd c (by simp [hc])) (by omega), valD_cons, List.length_cons]
    rw [show f' + 1 - (l.length + 1) = f' - l.length by omega]
    simp only [Prod.mk.injEq, true_and]
    omega
theorem numP_nil (f n : Nat) : numP f [] n = (n, 0) := by cases f <;> rfl
theorem numP_stop (f n : Nat) (r : List UInt8) : numP f (45 :: r) n = (n, 0) := by
  cases f with
  | zero => rfl
  | succ f => rw [numP, if_neg (by decide)]
theorem num_dec {u : Nat} (hu : u ≤ 4096) (r : List UInt8) (hr : r = [] ∨ ∃ t, r = 45 :: t) : numO (Lib.decDigits u ++ r) = (u, (Lib.decDigits u).length) := by
  have hl := dec_len 3 u (by omega)
  unfold numO
  rw [numP_app _ 9 r 0 (fun c hc => dec_digits u c hc) (by omega), valD_dec]
  rcases hr with rfl | ⟨t, rfl⟩
  · rw [numP_nil]; simp
  · rw [numP_stop]; simp
theorem ref_range {x y : Int} (hr : rightO x y = true) : refP (rangeS x y) = (x, y, 0) := by
  have hb := (rightO_iff x y).1 hr
  obtain ⟨u, rfl⟩ : ∃ u : Nat, x = u := ⟨x.toNat, by omega⟩
  obtain ⟨v, rfl⟩ : ∃ v : Nat, y = v := ⟨y.toNat, by omega⟩
  by_cases h : (u : Int) = v
  · have huv : u = v := by omega
    subst huv
    have hs : rangeS (u : Int) u = Lib.decDigits u := by unfold rangeS; rw [if_pos rfl, Lib.itoa_nonneg]
    have hn := num_dec (u := u) (by omega) [] (.inl rfl)
    rw [List.append_nil] at hn
    have ht : refTo (Lib.decDigits u) = u := by unfold refTo; rw [hn]; simp
    unfold refP
    rw [hs, ht, hn]
    simp only
    rw [if_pos ⟨hr, hs⟩]
  · have hs : rangeS (u : Int) v = Lib.decDigits u ++ (45 :: Lib.decDigits v) := by unfold rangeS; rw [if_neg h, Lib.itoa_nonneg, Lib.itoa_nonneg]; simp
    have hn := num_dec (u := u) (by omega) (45 :: Lib.decDigits v) (.inr ⟨_, rfl⟩)
    have hn2 := num_dec (u := v) (by omega) [] (.inl rfl)
    rw [List.append_nil] at hn2
    have hd : (Lib.decDigits u ++ (45 :: Lib.decDigits v)).drop ((Lib.decDigits u).length + 1) = Lib.decDigits v := by
      rw [List.drop_append]; simp
    have hg : (Lib.decDigits u ++ (45 :: Lib.decDigits v)).getD (Lib.decDigits u).length 0 = 45 := by
      rw [List.getD_eq_getElem?_getD, List.getElem?_append_right (Nat.le_refl _)]; simp
    have ht : refTo (Lib.decDigits u ++ (45 :: Lib.decDigits v)) = v := by
      unfold refTo
      rw [hn]
      simp only
      rw [if_pos ⟨by simp, hg⟩, hd, hn2]
    unfold refP
    rw [hs, ht, hn]
    simp only
    rw [if_pos ⟨hr, hs⟩]
theorem refP_eq (s : List UInt8) : refP s = parR s := by
  rcases par_ok (s := s) with ⟨p1, p2, p3⟩ | p1
  · have h1 := ref_range p2
    have h2 := par_range p2
    rw [p3] at h1 h2
    rw [h1, ← h2]
  · rw [p1]
    unfold refP
    split
    · rename_i hc
      have h2 := par_range hc.1
      rw [hc.2, p1] at h2
      have hb := (rightO_iff _ _).1 hc.1
      have := congrArg Prod.fst h2
      simp only at this
      omega
    · rfl
theorem t27e (n e : Int) (h : List AObj) (hb : n < 0 ∨ 4096 < n ∨ e < 1 ∨ 4096 < e) : ACalls Tryd.prog 27 [.int .i64 n, .int .i64 e] h (.tup [intsV [], .int .i64 2]) h := by
  by_cases g1 : n < 0
  · have k1 : (n < 0) = True := eq_true g1
    refine acalls_of fn27l (by simp) ?_
    simp only [List.length_cons, List.length_nil, Nat.reduceAdd, Nat.reduceSub, List.replicate, List.cons_append, List.nil_append, List.append_nil]
    simp (disch := omega) only [c27l, k1, madeA, go_sem, wrap64_id, Int.tdiv_eq_ediv_of_nonneg, Int.tmod_eq_emod_of_nonneg]
    repeat' first
      | ((first | refine fnQ_pure1 ?_ ?_ | refine fnQ_pure0 ?_ ?_); (next => repeat' first | exact rvs_n | refine rvs_t ?_ | (simp [go_sem]; done)); simp only [go_sem]; (first | exact VLe.refl _ | refine VLe_int ?_ | refine VLe_bool ?_ | refine VLe_str ?_ | skip))
      | (with_reducible refine And.intro ?_ ?_)
      | with_reducible intro _
    all_goals first
      | omega
      | (rename_i hx; revert hx; simp; done)
      | (simp; done)
      | skip
    all_goals exact VLe_tup ⟨sl0_ints, VLe.refl _, trivial⟩
  have k1 : (n < 0) = False := eq_false g1
  by_cases g2 : 4096 < n
  · have k2 : (4096 < n) = True := eq_true g2
    refine acalls_of fn27l (by simp) ?_
    simp only [List.length_cons, List.length_nil, Nat.reduceAdd, Nat.reduceSub, List.replicate, List.cons_append, List.nil_append, List.append_nil]
    simp (disch := omega) only [c27l, k1, k2, madeA, go_sem, wrap64_id, Int.tdiv_eq_ediv_of_nonneg, Int.tmod_eq_emod_of_nonneg]
    repeat' first
      | ((first | refine fnQ_pure1 ?_ ?_ | refine fnQ_pure0 ?_ ?_); (next => repeat' first | exact rvs_n | refine rvs_t ?_ | (simp [go_sem]; done)); simp only [go_sem]; (first | exact VLe.refl _ | refine VLe_int ?_ | refine VLe_bool ?_ | refine VLe_str ?_ | skip))
      | (with_reducible refine And.intro ?_ ?_)
      | with_reducible intro _
    all_goals first
      | omega
      | (rename_i hx; revert hx; simp; done)
      | (simp; done)
      | skip
    all_goals exact VLe_tup ⟨sl0_ints, VLe.refl _, trivial⟩
  have k2 : (4096 < n) = False := eq_false g2
  by_cases g3 : e < 1
  · have k3 : (e < 1) = True := eq_true g3
    refine acalls_of fn27l (by simp) ?_
    simp only [List.length_cons, List.length_nil, Nat.reduceAdd, Nat.reduceSub, List.replicate, List.cons_append, List.nil_append, List.append_nil]
    simp (disch := omega) only [c27l, k1, k2, k3, madeA, go_sem, wrap64_id, Int.tdiv_eq_ediv_of_nonneg, Int.tmod_eq_emod_of_nonneg]
    repeat' first
      | ((first | refine fnQ_pure1 ?_ ?_ | refine fnQ_pure0 ?_ ?_); (next => repeat' first | exact rvs_n | refine rvs_t ?_ | (simp [go_sem]; done)); simp only [go_sem]; (first | exact VLe.refl _ | refine VLe_int ?_ | refine VLe_bool ?_ | refine VLe_str ?_ | skip))
      | (with_reducible refine And.intro ?_ ?_)
      | with_reducible intro _
    all_goals first
      | omega
      | (rename_i hx; revert hx; simp; done)
      | (simp; done)
      | skip
    all_goals exact VLe_tup ⟨sl0_ints, VLe.refl _, trivial⟩
  have k3 : (e < 1) = False := eq_false g3
  have k4 : (4096 < e) = True := eq_true (by rcases hb with h | h | h | h <;> first | contradiction | exact h)
  refine acalls_of fn27l (by simp) ?_
  simp only [List.length_cons, List.length_nil, Nat.reduceAdd, Nat.reduceSub, List.replicate, List.cons_append, List.nil_append, List.append_nil]
  simp (disch := omega) only [c27l, k1, k2, k3, k4, madeA, go_sem, wrap64_id, Int.tdiv_eq_ediv_of_nonneg, Int.tmod_eq_emod_of_nonneg]
  repeat' first
    | ((first | refine fnQ_pure1 ?_ ?_ | refine fnQ_pure0 ?_ ?_); (next => repeat' first | exact rvs_n | refine rvs_t ?_ | (simp [go_sem]; done)); simp only [go_sem]; (first | exact VLe.refl _ | refine VLe_int ?_ | refine VLe_bool ?_ | refine VLe_str ?_ | skip))
    | (with_reducible refine And.intro ?_ ?_)
    | with_reducible intro _
  all_goals first
    | omega
    | (rename_i hx; revert hx; simp; done)
    | (simp; done)
    | skip
  all_goals exact VLe_tup ⟨sl0_ints, VLe.refl _, trivial⟩
theorem t27 (N E : Nat) (h : List AObj) (hN : N ≤ 4096) (h1 : 1 ≤ E) (hE : E ≤ 4096) : ACalls Tryd.prog 27 [.int .i64 (N : Int), .int .i64 (E : Int)] h (.tup [intsV (margL E (N / E)), .int .i64 0]) h := by
  have k1 : ((N : Int) < 0) = False := eq_false (by omega)
  have k2 : (4096 < (N : Int)) = False := eq_false (by omega)
  have k3 : ((E : Int) < 1) = False := eq_false (by omega)
  have k4 : (4096 < (E : Int)) = False := eq_false (by omega)
  refine acalls_of fn27l (by simp) ?_
  simp only [List.length_cons, List.length_nil, Nat.reduceAdd, Nat.reduceSub, List.replicate, List.cons_append, List.nil_append, List.append_nil]
  simp (disch := omega) only [c27l, k1, k2, k3, k4, madeA, go_sem, wrap64_id, Int.tdiv_eq_ediv_of_nonneg, Int.tmod_eq_emod_of_nonneg]
  repeat' first
    | ((first | refine fnQ_pure1 ?_ ?_ | refine fnQ_pure0 ?_ ?_); (next => repeat' first | exact rvs_n | refine rvs_t ?_ | (simp [go_sem]; done)); simp only [go_sem]; (first | exact VLe.refl _ | refine VLe_int ?_ | refine VLe_bool ?_ | refine VLe_str ?_ | skip))
    | (with_reducible refine And.intro ?_ ?_)
    | with_reducible intro _
  all_goals first
    | omega
    | (rename_i hx; revert hx; simp; done)
    | (simp; done)
    | skip
  refine loop_of (T := fun i : Nat × Nat × AObj => spar 36 [(0, .int .i64 N), (1, .int .i64 E), (6, .osl (h.length + 2) i.2.1 1 0 i.1), (7, .int .i64 (((i.1 + 1) * E : Nat) : Int))])
    (H := fun i => h ++ [.emp 1, .emp 0, .mem i.2.1 3 (intsC (margL E i.1)), i.2.2, .emp 0])
    (inv := fun i => i.1 ≤ N / E ∧ site [i.2.2] 0 = true) (m := fun i => N / E - i.1) (0, 1, .emp 0) ⟨Nat.zero_le _, rfl⟩ (Wk.temps ?_) ?_
  · rw [show ((0 + 1) * E : Nat) = E by omega]
    (simp only [spar, List.foldl, List.replicate, go_sem, VLes_nil, VLes_cons, VLe_undef_iff, VLe_self]; try (repeat' first | (with_reducible refine And.intro ?_ ?_) | (refine VLe_int ?_; omega) | (refine VLe_bool ?_; rfl) | exact VLe.refl _))
  rintro ⟨j, v, O⟩ ⟨i1, i2⟩ K hK
  simp only at i1 i2 hK
  have i2' : ∀ m, site (O :: m) 0 = true := fun _ => i2
  have eL := marg_len E j
  have eC := intsC_len (margL E j)
  rw [eL] at eC
  have eT : List.take j (intsC (margL E j)) = intsC (margL E j) := List.take_of_length_le (by omega)
  have hjE : j * E ≤ N := Nat.le_trans (Nat.mul_le_mul_right E i1) (Nat.div_mul_le_self N E)
  have hdm := Nat.div_add_mod N E
  have hmod := Nat.mod_lt N (show 0 < E by omega)
  have hjN : j ≤ 4096 := by have := Nat.div_le_self N E; omega
  have hmul : (j + 1) * E = j * E + E := Nat.succ_mul j E
  by_cases hj : j < N / E
  · have hle : (j + 1) * E ≤ N := Nat.le_trans (Nat.mul_le_mul_right E hj) (Nat.div_mul_le_self N E)
    have hn2 : (j + 1 + 1) * E = (j + 1) * E + E := Nat.succ_mul (j + 1) E
    obtain ⟨p, hp⟩ : ∃ p, p = (j + 1) * E := ⟨_, rfl⟩
    rw [← hp] at hle hn2 ⊢
    have q1 : ((p : Int) ≤ N) = True := eq_true (by omega)
    have hsn : intsC (margL E (j + 1)) = intsC (margL E j) ++ [.int .i64 (p : Int)] := by rw [marg_succ, intsC_snoc, ← hp]
    simp (disch := omega) only [spar, List.foldl, List.replicate, i2', eC, eT, q1, go_sem, wrap64_id, Int.tdiv_eq_ediv_of_nonneg, Int.tmod_eq_emod_of_nonneg]
    repeat' first
      | ((first | refine fnQ_pure1 ?_ ?_ | refine fnQ_pure0 ?_ ?_); (next => repeat' first | exact rvs_n | refine rvs_t ?_ | (simp [go_sem]; done)); simp only [go_sem]; (first | exact VLe.refl _ | refine VLe_int ?_ | refine VLe_bool ?_ | refine VLe_str ?_ | skip))
      | (with_reducible refine And.intro ?_ ?_)
      | with_reducible intro _
    all_goals first
      | omega
      | (rename_i hx; revert hx; simp; done)
      | (simp; done)
      | skip
    refine hK _ _ (j + 1, v + 1, .mem (verOf (some O) + 1) 3 (AV.int IntKind.i64 ↑p :: List.drop 1 (madeA [AV.int IntKind.i64 0] 1))) ⟨hj, rfl⟩ (by simp only; omega) ?_
    simp only
    rw [hn2, Int.natCast_add, hsn]
    refine Wk.temps ?_
    (simp only [spar, List.foldl, List.replicate, go_sem, VLes_nil, VLes_cons, VLe_undef_iff, VLe_self]; try (repeat' first | (with_reducible refine And.intro ?_ ?_) | (refine VLe_int ?_; omega) | (refine VLe_bool ?_; rfl) | exact VLe.refl _))
  · have e : j = N / E := by omega
    have hgt : N < (j + 1) * E := by
      rw [hmul, e]
      have : E * (N / E) = N / E * E := Nat.mul_comm _ _
      omega
    obtain ⟨p, hp⟩ : ∃ p, p = (j + 1) * E := ⟨_, rfl⟩
    rw [← hp] at hgt ⊢
    have q1 : ((p : Int) ≤ N) = False := eq_false (by omega)
    rw [← e]
    simp (disch := omega) only [spar, List.foldl, List.replicate, q1, eC, go_sem, wrap64_id, Int.tdiv_eq_ediv_of_nonneg, Int.tmod_eq_emod_of_nonneg]
    repeat' first
      | ((first | refine fnQ_pure1 ?_ ?_ | refine fnQ_pure0 ?_ ?_); (next => repeat' first | exact rvs_n | refine rvs_t ?_ | (simp [go_sem]; done)); simp only [go_sem]; (first | exact VLe.refl _ | refine VLe_int ?_ | refine VLe_bool ?_ | refine VLe_str ?_ | skip))
      | (with_reducible refine And.intro ?_ ?_)
      | with_reducible intro _
    all_goals first
      | omega
      | (rename_i hx; revert hx; simp; done)
      | (simp; done)
      | skip
    rw [if_pos (by omega)]
    exact VLe_tup ⟨intsV_of eL, VLe.refl _, trivial⟩
end LN
end

section
open Go Go.Proofs AF HY P48
namespace LN
set_option maxRecDepth 100000
def refT (m : List (List UInt8 × Int)) (it : Int → List UInt8) : Nat → List UInt8 → Option (List UInt8)
  | 0, _ => none
  | _ + 1, [] => some []
  | n + 1, c :: r => if c ≠ 64 then (refT m it n r).map (c :: ·) else match m.lookup (r.takeWhile ld) with
    | none => none
    | some k => (refT m it n (r.drop (r.takeWhile ld).length)).map (it k ++ ·)
theorem cutAt_cons {c : UInt8} {r : List UInt8} (h : c ≠ 64) : cutAt 64 (c :: r) = cutAt 64 r + 1 := by
  unfold cutAt
  rw [List.takeWhile_cons, if_pos (by simpa using h)]
  rfl
theorem cutAt_at (r : List UInt8) : cutAt 64 (64 :: r) = 0 := by
  unfold cutAt
  rw [List.takeWhile_cons, if_neg (by simp)]
  rfl
theorem refT_resN (m : List (List UInt8 × Int)) (it : Int → List UInt8) : ∀ (l n n' : Nat) (s : List UInt8), s.length ≤ l → s.length < n → s.length < n' → refT m it n s = resN m it n' s := by
  intro l
  induction l with
  | zero =>
    intro n n' s hl hn hn'
    obtain rfl : s = [] := List.eq_nil_of_length_eq_zero (by omega)
    obtain ⟨a, rfl⟩ : ∃ a, n = a + 1 := ⟨n - 1, by omega⟩
    obtain ⟨b, rfl⟩ : ∃ b, n' = b + 1 := ⟨n' - 1, by omega⟩
    rw [refT, resN, if_neg (by simp)]
  | succ l ih =>
    intro n n' s hl hn hn'
    obtain ⟨a, rfl⟩ : ∃ a, n = a + 1 := ⟨n - 1, by omega⟩
    obtain ⟨b, rfl⟩ : ∃ b, n' = b + 1 := ⟨n' - 1, by omega⟩
    cases s with
    | nil => rw [refT, resN, if_neg (by simp)]
    | cons c r =>
      rw [List.length_cons] at hl hn hn'
      rw [refT]
      by_cases hc : c = 64
      · subst hc
        rw [if_neg (by simp), resN, if_pos (by simp), cutAt_at]
        simp only [List.drop_succ_cons, List.drop_zero, List.take_zero, List.nil_append]
        cases m.lookup (r.takeWhile ld) with
        | none => rfl
        | some k =>
          simp only
          rw [ih a b (r.drop (r.takeWhile ld).length) (by simp; omega) (by simp; omega) (by simp; omega)]
      · rw [if_pos hc, resN]
        have e1 := cutAt_cons (r := r) hc
        have e2 : (c :: r).count 64 = r.count 64 := by rw [List.count_cons, if_neg (by simpa using hc)]; rfl
        rw [e2, e1, List.take_succ_cons, List.drop_succ_cons]
        rw [ih a (b + 1) r (by omega) (by omega) (by omega), resN]
        by_cases g : 0 < r.count 64
        · rw [if_pos g, if_pos g]
          cases m.lookup ((r.drop (cutAt 64 r + 1)).takeWhile ld) with
          | none => rfl
          | some k =>
            simp only [Option.map_map]
            rfl
        · rw [if_neg g, if_neg g]
          rfl
theorem placeGo_shift (w : List UInt8) : ∀ (L : List (List UInt8)) (i : Nat), (placeGo w L i = -1 ∧ w ∉ L) ∨ ∃ j : Nat, placeGo w L i = (i + j : Nat) ∧ j < L.length ∧ L.getD j [] = w ∧ ∀ j', j' < j → L.getD j' [] ≠ w := by
  intro L
  induction L with
  | nil => intro i; exact .inl ⟨rfl, by simp⟩
  | cons l r ih =>
    intro i
    rw [placeGo]
    by_cases h : l = w
    · rw [if_pos h]
      exact .inr ⟨0, by simp, by simp, by simpa using h, fun j' hj => by omega⟩
    · rw [if_neg h]
      rcases ih (i + 1) with ⟨h1, h2⟩ | ⟨j, h1, h2, h3, h4⟩
      · exact .inl ⟨h1, by simp only [List.mem_cons, not_or]; exact ⟨fun e => h e.symm, h2⟩⟩
      · refine .inr ⟨j + 1, by rw [h1]; congr 1; omega, by simp; omega, by rw [List.getD_cons_succ]; exact h3, fun j' hj' => ?_⟩
        cases j' with
        | zero => rw [List.getD_cons_zero]; exact h
        | succ j' => rw [List.getD_cons_succ]; exact h4 j' (by omega)
theorem lookup_zip (w : List UInt8) : ∀ (L : List (List UInt8)) (V : List Int) (j : Nat), L.length = V.length → j < L.length → L.getD j [] = w → (∀ j', j' < j → L.getD j' [] ≠ w) → (L.zip V).lookup w = some (V.getD j 0) := by
  intro L
  induction L with
  | nil => intro V j _ h; simp at h
  | cons l r ih =>
    intro V j hl hj he hb
    cases V with
    | nil => simp at hl
    | cons v V =>
      rw [List.zip_cons_cons, List.lookup_cons]
      cases j with
      | zero =>
        rw [List.getD_cons_zero] at he
        rw [he]
        simp
      | succ j =>
        have h0 := hb 0 (by omega)
        rw [List.getD_cons_zero] at h0
        have e : (w == l) = false := by simpa using fun e => h0 e.symm
        rw [e]
        simp only
        rw [List.getD_cons_succ] at he ⊢
        exact ih V j (by simpa using hl) (by simpa using hj) he (fun j' hj' => by have := hb (j' + 1) (by omega); rwa [List.getD_cons_succ] at this)
theorem lookup_zip_none (w : List UInt8) : ∀ (L : List (List UInt8)) (V : List Int), w ∉ L → (L.zip V).lookup w = none := by
  intro L
  induction L with
  | nil => intro V _; rfl
  | cons l r ih =>
    intro V h
    cases V with
    | nil => rfl
    | cons v V =>
      simp only [List.mem_cons, not_or] at h
      rw [List.zip_cons_cons, List.lookup_cons]
      have e : (w == l) = false := by simpa using h.1
      rw [e]
      exact ih V h.2
theorem place_num {L : List (List UInt8)} {V : List Int} (hl : L.length = V.length) (w : List UInt8) :
    (placeGo w L 0 = -1 ∧ (L.zip V).lookup w = none) ∨ ∃ j : Nat, placeGo w L 0 = (j : Int) ∧ j < V.length ∧ (L.zip V).lookup w = some (V.getD j 0) := by
  rcases placeGo_shift w L 0 with ⟨h1, h2⟩ | ⟨j, h1, h2, h3, h4⟩
  · exact .inl ⟨h1, lookup_zip_none w L V h2⟩
  · exact .inr ⟨j, by rw [h1]; simp, by omega, lookup_zip w L V j hl h2 h3 h4⟩
theorem place_before {L : List (List UInt8)} {V : List Int} (hl : L.length = V.length) {i : Nat} (hi : i < L.length) :
    ∃ p : Nat, placeGo (L.getD i []) L 0 = (p : Int) ∧ (p < i ↔ (((L.zip V).take i).lookup (L.getD i [])).isSome = true) := by
  rcases placeGo_shift (L.getD i []) L 0 with ⟨h1, h2⟩ | ⟨j, h1, h2, h3, h4⟩
  · exfalso
    apply h2
    rw [List.getD_eq_getElem?_getD, List.getElem?_eq_getElem hi]
    exact List.getElem_mem hi
  · refine ⟨j, by rw [h1]; simp, ?_⟩
    have ez : (L.zip V).take i = (L.take i).zip (V.take i) := by unfold List.zip; rw [List.take_zipWith]
    have hl2 : (L.take i).length = (V.take i).length := by simp; omega
    have hg : ∀ j', j' < i → (L.take i).getD j' [] = L.getD j' [] := fun j' hj' => by
      rw [List.getD_eq_getElem?_getD, List.getD_eq_getElem?_getD, List.getElem?_take, if_pos hj']
    constructor
    · intro hji
      rw [ez, lookup_zip _ (L.take i) (V.take i) j hl2 (by simp; omega) (by rw [hg j hji]; exact h3) (fun j' hj' => by rw [hg j' (by omega)]; exact h4 j' hj')]
      rfl
    · intro hs
      apply Classical.byContradiction
      intro hn
      rw [ez, lookup_zip_none _ (L.take i) (V.take i)] at hs
      · cases hs
      · intro hm
        obtain ⟨j', hj', he⟩ := List.getElem_of_mem hm
        have hj'' : j' < i := by simp at hj'; omega
        refine h4 j' (by omega) ?_
        rw [← hg j' hj'', List.getD_eq_getElem?_getD, List.getElem?_eq_getElem hj']
        exact he
end LN
end

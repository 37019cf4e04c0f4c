import Derived.Test.YtonpflblcnpegaaDoorE10
set_option linter.all false
set_option linter.unusedSimpArgs false
set_option linter.unusedVariables false
set_option linter.unusedSectionVars false
open Go Go.Proofs AF HY
namespace HY
set_option maxRecDepth 100000
theorem t128 (s p : List UInt8) (h : List AObj) (hs : s.length ≤ 1000000000) (hp : p.length ≤ 1000000000) : ACalls Tryd.prog 106 [.str s, .str p] h (.bool (hasPre s p)) h := by
  unfold hasPre
  by_cases hl : p.length ≤ s.length
  · have k : ((p.length : Int) ≤ (s.length : Int)) = True := eq_true (by omega)
    refine acalls_of fn106d (by simp) ?_
    simp only [List.length_cons, List.length_nil, Nat.reduceAdd, Nat.reduceSub, List.replicate, List.cons_append, List.nil_append, List.append_nil]
    simp (disch := omega) only [c106d, k, go_sem, wrap64_id, Int.tdiv_eq_ediv_of_nonneg, Int.tmod_eq_emod_of_nonneg]
    repeat' first
      | ((first | refine fnQ_pure1 ?_ ?_ | refine fnQ_pure0 ?_ ?_); (next => repeat' first | exact rvs_n | refine rvs_t ?_ | (simp [go_sem]; done)); simp only [go_sem]; (first | exact VLe.refl _ | refine VLe_int ?_ | refine VLe_bool ?_ | refine VLe_str ?_ | skip))
      | (with_reducible refine And.intro ?_ ?_)
      | with_reducible intro _
    all_goals first
      | omega
      | (rename_i hx; revert hx; simp; done)
      | (simp; done)
      | skip
  · have k : ((p.length : Int) ≤ (s.length : Int)) = False := eq_false (by omega)
    have e : decide (s.take p.length = p) = false := by
      rw [decide_eq_false_iff_not]
      intro e
      have := congrArg List.length e
      rw [List.length_take] at this
      omega
    rw [e]
    refine acalls_of fn106d (by simp) ?_
    simp only [List.length_cons, List.length_nil, Nat.reduceAdd, Nat.reduceSub, List.replicate, List.cons_append, List.nil_append, List.append_nil]
    simp (disch := omega) only [c106d, k, go_sem, wrap64_id, Int.tdiv_eq_ediv_of_nonneg, Int.tmod_eq_emod_of_nonneg]
    repeat' first
      | ((first | refine fnQ_pure1 ?_ ?_ | refine fnQ_pure0 ?_ ?_); (next => repeat' first | exact rvs_n | refine rvs_t ?_ | (simp [go_sem]; done)); simp only [go_sem]; (first | exact VLe.refl _ | refine VLe_int ?_ | refine VLe_bool ?_ | refine VLe_str ?_ | skip))
      | (with_reducible refine And.intro ?_ ?_)
      | with_reducible intro _
    all_goals first
      | omega
      | (rename_i hx; revert hx; simp; done)
      | (simp; done)
      | skip
theorem t108 (s p : List UInt8) (h : List AObj) (hs : s.length ≤ 1000000000) (hp : p.length ≤ 1000000000) : ACalls Tryd.prog 88 [.str s, .str p] h (.bool (hasPre s p)) h := by
  refine acalls_of fn88d (by simp) ?_
  simp only [List.length_cons, List.length_nil, Nat.reduceAdd, Nat.reduceSub, List.replicate, List.cons_append, List.nil_append, List.append_nil]
  simp (disch := omega) only [c88d, go_sem, wrap64_id, Int.tdiv_eq_ediv_of_nonneg, Int.tmod_eq_emod_of_nonneg]
  repeat' first
    | ((first | refine callA_pure (t128 s p _ hs hp) ?_ ?_); (next => repeat' first | exact flags_n | refine flags_c (by first | rfl | assumption) ?_); simp (disch := omega) only [go_sem, wrap64_id, Int.tdiv_eq_ediv_of_nonneg, Int.tmod_eq_emod_of_nonneg])
    | ((first | refine callG_pure (fun e => ⟨?_, t128 s p _ hs hp⟩) ?_); (next => repeat' first | exact flags_n | refine flags_c (by first | rfl | assumption) ?_); simp (disch := omega) only [go_sem, wrap64_id, Int.tdiv_eq_ediv_of_nonneg, Int.tmod_eq_emod_of_nonneg])
    | ((first | refine fnQ_pure1 ?_ ?_ | refine fnQ_pure0 ?_ ?_); (next => repeat' first | exact rvs_n | refine rvs_t ?_ | (simp [go_sem]; done)); simp only [go_sem]; (first | exact VLe.refl _ | refine VLe_int ?_ | refine VLe_bool ?_ | refine VLe_str ?_ | skip))
    | (with_reducible refine And.intro ?_ ?_)
    | with_reducible intro _
  all_goals first
    | omega
    | (rename_i hx; revert hx; simp; done)
    | (simp; done)
    | skip
theorem t129 (s p : List UInt8) (h : List AObj) (hs : s.length ≤ 1000000000) (hp : p.length ≤ 1000000000) : ACalls Tryd.prog 107 [.str s, .str p] h (.bool (hasSuf s p)) h := by
  unfold hasSuf
  by_cases hl : p.length ≤ s.length
  · have k : ((p.length : Int) ≤ (s.length : Int)) = True := eq_true (by omega)
    have k2 : ((s.length : Int) - (p.length : Int)).toNat = s.length - p.length := by omega
    have k3 : List.take (s.length - (s.length - p.length)) (List.drop (s.length - p.length) s) = List.drop (s.length - p.length) s := List.take_of_length_le (by rw [List.length_drop]; omega)
    refine acalls_of fn107d (by simp) ?_
    simp only [List.length_cons, List.length_nil, Nat.reduceAdd, Nat.reduceSub, List.replicate, List.cons_append, List.nil_append, List.append_nil]
    simp (disch := omega) only [c107d, k, k2, k3, go_sem, wrap64_id, Int.tdiv_eq_ediv_of_nonneg, Int.tmod_eq_emod_of_nonneg]
    repeat' first
      | ((first | refine fnQ_pure1 ?_ ?_ | refine fnQ_pure0 ?_ ?_); (next => repeat' first | exact rvs_n | refine rvs_t ?_ | (simp [go_sem]; done)); simp only [go_sem]; (first | exact VLe.refl _ | refine VLe_int ?_ | refine VLe_bool ?_ | refine VLe_str ?_ | skip))
      | (with_reducible refine And.intro ?_ ?_)
      | with_reducible intro _
    all_goals first
      | omega
      | (rename_i hx; revert hx; simp; done)
      | (simp; done)
      | skip
  · have k : ((p.length : Int) ≤ (s.length : Int)) = False := eq_false (by omega)
    have e : decide (s.drop (s.length - p.length) = p) = false := by
      rw [decide_eq_false_iff_not]
      intro e
      have := congrArg List.length e
      rw [List.length_drop] at this
      omega
    rw [e]
    refine acalls_of fn107d (by simp) ?_
    simp only [List.length_cons, List.length_nil, Nat.reduceAdd, Nat.reduceSub, List.replicate, List.cons_append, List.nil_append, List.append_nil]
    simp (disch := omega) only [c107d, k, go_sem, wrap64_id, Int.tdiv_eq_ediv_of_nonneg, Int.tmod_eq_emod_of_nonneg]
    repeat' first
      | ((first | refine fnQ_pure1 ?_ ?_ | refine fnQ_pure0 ?_ ?_); (next => repeat' first | exact rvs_n | refine rvs_t ?_ | (simp [go_sem]; done)); simp only [go_sem]; (first | exact VLe.refl _ | refine VLe_int ?_ | refine VLe_bool ?_ | refine VLe_str ?_ | skip))
      | (with_reducible refine And.intro ?_ ?_)
      | with_reducible intro _
    all_goals first
      | omega
      | (rename_i hx; revert hx; simp; done)
      | (simp; done)
      | skip
theorem t109 (s p : List UInt8) (h : List AObj) (hs : s.length ≤ 1000000000) (hp : p.length ≤ 1000000000) : ACalls Tryd.prog 89 [.str s, .str p] h (.bool (hasSuf s p)) h := by
  refine acalls_of fn89d (by simp) ?_
  simp only [List.length_cons, List.length_nil, Nat.reduceAdd, Nat.reduceSub, List.replicate, List.cons_append, List.nil_append, List.append_nil]
  simp (disch := omega) only [c89d, go_sem, wrap64_id, Int.tdiv_eq_ediv_of_nonneg, Int.tmod_eq_emod_of_nonneg]
  repeat' first
    | ((first | refine callA_pure (t129 s p _ hs hp) ?_ ?_); (next => repeat' first | exact flags_n | refine flags_c (by first | rfl | assumption) ?_); simp (disch := omega) only [go_sem, wrap64_id, Int.tdiv_eq_ediv_of_nonneg, Int.tmod_eq_emod_of_nonneg])
    | ((first | refine callG_pure (fun e => ⟨?_, t129 s p _ hs hp⟩) ?_); (next => repeat' first | exact flags_n | refine flags_c (by first | rfl | assumption) ?_); simp (disch := omega) only [go_sem, wrap64_id, Int.tdiv_eq_ediv_of_nonneg, Int.tmod_eq_emod_of_nonneg])
    | ((first | refine fnQ_pure1 ?_ ?_ | refine fnQ_pure0 ?_ ?_); (next => repeat' first | exact rvs_n | refine rvs_t ?_ | (simp [go_sem]; done)); simp only [go_sem]; (first | exact VLe.refl _ | refine VLe_int ?_ | refine VLe_bool ?_ | refine VLe_str ?_ | skip))
    | (with_reducible refine And.intro ?_ ?_)
    | with_reducible intro _
  all_goals first
    | omega
    | (rename_i hx; revert hx; simp; done)
    | (simp; done)
    | skip
theorem hasPre_len {s p : List UInt8} (h : hasPre s p = true) : p.length ≤ s.length := by
  unfold hasPre at h
  have := congrArg List.length (of_decide_eq_true h)
  rw [List.length_take] at this
  omega
theorem hasSuf_len {s p : List UInt8} (h : hasSuf s p = true) : p.length ≤ s.length := by
  unfold hasSuf at h
  have := congrArg List.length (of_decide_eq_true h)
  rw [List.length_drop] at this
  omega
theorem t125 (s p : List UInt8) (h : List AObj) (hs : s.length ≤ 1000000000) (hp : p.length ≤ 1000000000) : ACalls Tryd.prog 104 [.str s, .str p] h (.str (trimPre s p)) h := by
  unfold trimPre
  cases hh : hasPre s p with
  | true =>
    have := hasPre_len hh
    have k3 : List.take (s.length - p.length) (List.drop p.length s) = List.drop p.length s := List.take_of_length_le (by rw [List.length_drop]; omega)
    refine acalls_of fn104d (by simp) ?_
    simp only [List.length_cons, List.length_nil, Nat.reduceAdd, Nat.reduceSub, List.replicate, List.cons_append, List.nil_append, List.append_nil]
    simp (disch := omega) only [c104d, k3, go_sem, wrap64_id, Int.tdiv_eq_ediv_of_nonneg, Int.tmod_eq_emod_of_nonneg]
    repeat' first
      | ((first | refine callA_pure (t128 s p _ hs hp) ?_ ?_); (next => repeat' first | exact flags_n | refine flags_c (by first | rfl | assumption) ?_); simp (disch := omega) only [hh, k3, go_sem, wrap64_id, Int.tdiv_eq_ediv_of_nonneg, Int.tmod_eq_emod_of_nonneg])
      | ((first | refine callG_pure (fun e => ⟨?_, t128 s p _ hs hp⟩) ?_); (next => repeat' first | exact flags_n | refine flags_c (by first | rfl | assumption) ?_); simp (disch := omega) only [hh, k3, go_sem, wrap64_id, Int.tdiv_eq_ediv_of_nonneg, Int.tmod_eq_emod_of_nonneg])
      | ((first | refine fnQ_pure1 ?_ ?_ | refine fnQ_pure0 ?_ ?_); (next => repeat' first | exact rvs_n | refine rvs_t ?_ | (simp [go_sem]; done)); simp only [go_sem]; (first | exact VLe.refl _ | refine VLe_int ?_ | refine VLe_bool ?_ | refine VLe_str ?_ | skip))
      | (with_reducible refine And.intro ?_ ?_)
      | with_reducible intro _
    all_goals first
      | omega
      | (rename_i hx; revert hx; simp; done)
      | (simp; done)
      | skip
  | false =>
    refine acalls_of fn104d (by simp) ?_
    simp only [List.length_cons, List.length_nil, Nat.reduceAdd, Nat.reduceSub, List.replicate, List.cons_append, List.nil_append, List.append_nil]
    simp (disch := omega) only [c104d, go_sem, wrap64_id, Int.tdiv_eq_ediv_of_nonneg, Int.tmod_eq_emod_of_nonneg]
    repeat' first
      | ((first | refine callA_pure (t128 s p _ hs hp) ?_ ?_); (next => repeat' first | exact flags_n | refine flags_c (by first | rfl | assumption) ?_); simp (disch := omega) only [hh, go_sem, wrap64_id, Int.tdiv_eq_ediv_of_nonneg, Int.tmod_eq_emod_of_nonneg])
      | ((first | refine callG_pure (fun e => ⟨?_, t128 s p _ hs hp⟩) ?_); (next => repeat' first | exact flags_n | refine flags_c (by first | rfl | assumption) ?_); simp (disch := omega) only [hh, go_sem, wrap64_id, Int.tdiv_eq_ediv_of_nonneg, Int.tmod_eq_emod_of_nonneg])
      | ((first | refine fnQ_pure1 ?_ ?_ | refine fnQ_pure0 ?_ ?_); (next => repeat' first | exact rvs_n | refine rvs_t ?_ | (simp [go_sem]; done)); simp only [go_sem]; (first | exact VLe.refl _ | refine VLe_int ?_ | refine VLe_bool ?_ | refine VLe_str ?_ | skip))
      | (with_reducible refine And.intro ?_ ?_)
      | with_reducible intro _
    all_goals first
      | omega
      | (rename_i hx; revert hx; simp; done)
      | (simp; done)
      | skip
theorem t101 (s p : List UInt8) (h : List AObj) (hs : s.length ≤ 1000000000) (hp : p.length ≤ 1000000000) : ACalls Tryd.prog 84 [.str s, .str p] h (.str (trimPre s p)) h := by
  refine acalls_of fn84d (by simp) ?_
  simp only [List.length_cons, List.length_nil, Nat.reduceAdd, Nat.reduceSub, List.replicate, List.cons_append, List.nil_append, List.append_nil]
  simp (disch := omega) only [c84d, go_sem, wrap64_id, Int.tdiv_eq_ediv_of_nonneg, Int.tmod_eq_emod_of_nonneg]
  repeat' first
    | ((first | refine callA_pure (t125 s p _ hs hp) ?_ ?_); (next => repeat' first | exact flags_n | refine flags_c (by first | rfl | assumption) ?_); simp (disch := omega) only [go_sem, wrap64_id, Int.tdiv_eq_ediv_of_nonneg, Int.tmod_eq_emod_of_nonneg])
    | ((first | refine callG_pure (fun e => ⟨?_, t125 s p _ hs hp⟩) ?_); (next => repeat' first | exact flags_n | refine flags_c (by first | rfl | assumption) ?_); simp (disch := omega) only [go_sem, wrap64_id, Int.tdiv_eq_ediv_of_nonneg, Int.tmod_eq_emod_of_nonneg])
    | ((first | refine fnQ_pure1 ?_ ?_ | refine fnQ_pure0 ?_ ?_); (next => repeat' first | exact rvs_n | refine rvs_t ?_ | (simp [go_sem]; done)); simp only [go_sem]; (first | exact VLe.refl _ | refine VLe_int ?_ | refine VLe_bool ?_ | refine VLe_str ?_ | skip))
    | (with_reducible refine And.intro ?_ ?_)
    | with_reducible intro _
  all_goals first
    | omega
    | (rename_i hx; revert hx; simp; done)
    | (simp; done)
    | skip
theorem t124 (s p : List UInt8) (h : List AObj) (hs : s.length ≤ 1000000000) (hp : p.length ≤ 1000000000) : ACalls Tryd.prog 103 [.str s, .str p] h (.str (trimSuf s p)) h := by
  unfold trimSuf
  cases hh : hasSuf s p with
  | true =>
    have := hasSuf_len hh
    have k2 : ((s.length : Int) - (p.length : Int)).toNat = s.length - p.length := by omega
    refine acalls_of fn103d (by simp) ?_
    simp only [List.length_cons, List.length_nil, Nat.reduceAdd, Nat.reduceSub, List.replicate, List.cons_append, List.nil_append, List.append_nil]
    simp (disch := omega) only [c103d, k2, go_sem, wrap64_id, Int.tdiv_eq_ediv_of_nonneg, Int.tmod_eq_emod_of_nonneg]
    repeat' first
      | ((first | refine callA_pure (t129 s p _ hs hp) ?_ ?_); (next => repeat' first | exact flags_n | refine flags_c (by first | rfl | assumption) ?_); simp (disch := omega) only [hh, k2, go_sem, wrap64_id, Int.tdiv_eq_ediv_of_nonneg, Int.tmod_eq_emod_of_nonneg])
      | ((first | refine callG_pure (fun e => ⟨?_, t129 s p _ hs hp⟩) ?_); (next => repeat' first | exact flags_n | refine flags_c (by first | rfl | assumption) ?_); simp (disch := omega) only [hh, k2, go_sem, wrap64_id, Int.tdiv_eq_ediv_of_nonneg, Int.tmod_eq_emod_of_nonneg])
      | ((first | refine fnQ_pure1 ?_ ?_ | refine fnQ_pure0 ?_ ?_); (next => repeat' first | exact rvs_n | refine rvs_t ?_ | (simp [go_sem]; done)); simp only [go_sem]; (first | exact VLe.refl _ | refine VLe_int ?_ | refine VLe_bool ?_ | refine VLe_str ?_ | skip))
      | (with_reducible refine And.intro ?_ ?_)
      | with_reducible intro _
    all_goals first
      | omega
      | (rename_i hx; revert hx; simp; done)
      | (simp; done)
      | skip
  | false =>
    refine acalls_of fn103d (by simp) ?_
    simp only [List.length_cons, List.length_nil, Nat.reduceAdd, Nat.reduceSub, List.replicate, List.cons_append, List.nil_append, List.append_nil]
    simp (disch := omega) only [c103d, go_sem, wrap64_id, Int.tdiv_eq_ediv_of_nonneg, Int.tmod_eq_emod_of_nonneg]
    repeat' first
      | ((first | refine callA_pure (t129 s p _ hs hp) ?_ ?_); (next => repeat' first | exact flags_n | refine flags_c (by first | rfl | assumption) ?_); simp (disch := omega) only [hh, go_sem, wrap64_id, Int.tdiv_eq_ediv_of_nonneg, Int.tmod_eq_emod_of_nonneg])
      | ((first | refine callG_pure (fun e => ⟨?_, t129 s p _ hs hp⟩) ?_); (next => repeat' first | exact flags_n | refine flags_c (by first | rfl | assumption) ?_); simp (disch := omega) only [hh, go_sem, wrap64_id, Int.tdiv_eq_ediv_of_nonneg, Int.tmod_eq_emod_of_nonneg])
      | ((first | refine fnQ_pure1 ?_ ?_ | refine fnQ_pure0 ?_ ?_); (next => repeat' first | exact rvs_n | refine rvs_t ?_ | (simp [go_sem]; done)); simp only [go_sem]; (first | exact VLe.refl _ | refine VLe_int ?_ | refine VLe_bool ?_ | refine VLe_str ?_ | skip))
      | (with_reducible refine And.intro ?_ ?_)
      | with_reducible intro _
    all_goals first
      | omega
      | (rename_i hx; revert hx; simp; done)
      | (simp; done)
      | skip
theorem t100 (s p : List UInt8) (h : List AObj) (hs : s.length ≤ 1000000000) (hp : p.length ≤ 1000000000) : ACalls Tryd.prog 83 [.str s, .str p] h (.str (trimSuf s p)) h := by
  refine acalls_of fn83d (by simp) ?_
  simp only [List.length_cons, List.length_nil, Nat.reduceAdd, Nat.reduceSub, List.replicate, List.cons_append, List.nil_append, List.append_nil]
  simp (disch := omega) only [c83d, go_sem, wrap64_id, Int.tdiv_eq_ediv_of_nonneg, Int.tmod_eq_emod_of_nonneg]
  repeat' first
    | ((first | refine callA_pure (t124 s p _ hs hp) ?_ ?_); (next => repeat' first | exact flags_n | refine flags_c (by first | rfl | assumption) ?_); simp (disch := omega) only [go_sem, wrap64_id, Int.tdiv_eq_ediv_of_nonneg, Int.tmod_eq_emod_of_nonneg])
    | ((first | refine callG_pure (fun e => ⟨?_, t124 s p _ hs hp⟩) ?_); (next => repeat' first | exact flags_n | refine flags_c (by first | rfl | assumption) ?_); simp (disch := omega) only [go_sem, wrap64_id, Int.tdiv_eq_ediv_of_nonneg, Int.tmod_eq_emod_of_nonneg])
    | ((first | refine fnQ_pure1 ?_ ?_ | refine fnQ_pure0 ?_ ?_); (next => repeat' first | exact rvs_n | refine rvs_t ?_ | (simp [go_sem]; done)); simp only [go_sem]; (first | exact VLe.refl _ | refine VLe_int ?_ | refine VLe_bool ?_ | refine VLe_str ?_ | skip))
    | (with_reducible refine And.intro ?_ ?_)
    | with_reducible intro _
  all_goals first
    | omega
    | (rename_i hx; revert hx; simp; done)
    | (simp; done)
    | skip
end HY

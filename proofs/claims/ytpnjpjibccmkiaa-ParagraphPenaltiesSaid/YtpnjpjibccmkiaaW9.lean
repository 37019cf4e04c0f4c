import Derived.Test.YtpnjpjibccmkiaaW8
import Derived.Test.YtpnjpjibccmkiaaAfN
set_option linter.all false
set_option linter.unusedSimpArgs false
set_option linter.unusedVariables false
set_option linter.unusedSectionVars false
open Go Go.Proofs AF P48
set_option maxRecDepth 100000
def tri (a : List Int) (n e : Int) : AV := .tup [ints a, .int .i64 n, .int .i64 e]
theorem b70 : breakAV threeS 70 = tri [3, 5] 0 0 := by
  have e1 : checkW threeS 70 = 0 := by decide +kernel
  have e2 : (pots threeS 70).getD 0 0 = 0 := by decide +kernel
  have e3 : brk threeS 70 = [3, 5] := by decide +kernel
  unfold breakAV tri
  rw [if_pos e1, e2, if_neg (by omega), e3]
  rfl
theorem b72 : breakAV threeS 72 = tri [3, 5] 6 0 := by
  have e1 : checkW threeS 72 = 0 := by decide +kernel
  have e2 : (pots threeS 72).getD 0 0 = 6 := by decide +kernel
  have e3 : brk threeS 72 = [3, 5] := by decide +kernel
  unfold breakAV tri
  rw [if_pos e1, e2, if_neg (by omega), e3]
  rfl
theorem b5 : breakAV [] 5 = tri [0] 0 0 := by
  have e1 : checkW [] 5 = 0 := by decide +kernel
  have e2 : (pots [] 5).getD 0 0 = 0 := by decide +kernel
  have e3 : brk [] 5 = [0] := by decide +kernel
  unfold breakAV tri
  rw [if_pos e1, e2, if_neg (by omega), e3]
  rfl
theorem t13a (h : List AObj) : ACalls Try.prog 13 [items threeS, .int .i64 70] h (tri [3, 5] 0 0) h := by rw [← b70]; exact t13 _ _ _ (by decide)
theorem t13b (h : List AObj) : ACalls Try.prog 13 [items threeS, .int .i64 72] h (tri [3, 5] 6 0) h := by rw [← b72]; exact t13 _ _ _ (by decide)
theorem t13c (h : List AObj) : ACalls Try.prog 13 [.nl, .int .i64 5] h (tri [0] 0 0) h := by
  rw [← b5]
  exact (t13 [] 5 h (by decide)).le (VLes2 VLe_nl (VLes.refl _)) (VLe.refl _)
theorem t28b (a b : List Int) (k v : Nat) (ty : TypeId) (n : Nat) (h : List AObj) (hk : getO k h = some (.mem v ty (cellsI b))) (hn : b.length = n) (ha : a.length ≤ 1000000) :
    ACalls Try.prog 28 [ints a, .osl k v 1 0 n] h (.bool (decide (a = b))) h := by
  refine ACalls.borrow ?_ rfl
  refine ACalls.le (t28 a b [] ha) ?_ (VLe.refl _)
  simp only [List.map_cons, List.map_nil, rei_osl, if_true, hk, slOf]
  rw [if_pos ⟨by trivial, by rw [cellsI_len]; omega⟩]
  simp only [Nat.zero_add, Nat.mul_one]
  exact VLes2 (VLe.refl _) (VLes2 (ints_of hn) VLes.nil)
theorem t11 (h : List AObj) : ACalls Try.prog 11 [] h (.bool true) h := by
  have c35 : ([AV.int .i64 3, .int .i64 5] : List AV) = cellsI [3, 5] := rfl
  have c0 : ([AV.int .i64 0] : List AV) = cellsI [0] := rfl
  have hm : max (max (0 : Int) 0) 0 = 0 := by decide
  refine acalls_of fn11 (by simp) ?_
  simp only [List.length_cons, List.length_nil, Nat.reduceAdd, Nat.reduceSub, List.replicate, List.cons_append, List.nil_append, List.append_nil]
  simp (disch := omega) only [c11, tri, madeA, hm, go_sem, wrap64_id, Int.tdiv_eq_ediv_of_nonneg, Int.tmod_eq_emod_of_nonneg]
  repeat' first
    | (refine callA_pure (t37 _) (by first | exact ⟨rfl, trivial⟩ | exact ⟨rfl, rfl, trivial⟩ | exact ⟨rfl, rfl, rfl, trivial⟩ | exact ⟨rfl, rfl, rfl, rfl, trivial⟩ | simp only [go_sem]) ?_; simp (disch := omega) only [tri, madeA, hm, eq_self, go_sem, wrap64_id, Int.tdiv_eq_ediv_of_nonneg, Int.tmod_eq_emod_of_nonneg])
    | (refine callG_pure (fun e => ⟨by first | exact ⟨rfl, trivial⟩ | exact ⟨e, trivial⟩ | exact ⟨e, e, trivial⟩ | exact ⟨rfl, rfl, trivial⟩ | exact ⟨e, e, e, trivial⟩ | simp_all only [go_sem], t37 _⟩) ?_; simp (disch := omega) only [tri, madeA, hm, eq_self, go_sem, wrap64_id, Int.tdiv_eq_ediv_of_nonneg, Int.tmod_eq_emod_of_nonneg])
    | (refine callA_pure (t13a _) (by first | exact ⟨rfl, trivial⟩ | exact ⟨rfl, rfl, trivial⟩ | exact ⟨rfl, rfl, rfl, trivial⟩ | exact ⟨rfl, rfl, rfl, rfl, trivial⟩ | simp only [go_sem]) ?_; simp (disch := omega) only [tri, madeA, hm, eq_self, go_sem, wrap64_id, Int.tdiv_eq_ediv_of_nonneg, Int.tmod_eq_emod_of_nonneg])
    | (refine callG_pure (fun e => ⟨by first | exact ⟨rfl, trivial⟩ | exact ⟨e, trivial⟩ | exact ⟨e, e, trivial⟩ | exact ⟨rfl, rfl, trivial⟩ | exact ⟨e, e, e, trivial⟩ | simp_all only [go_sem], t13a _⟩) ?_; simp (disch := omega) only [tri, madeA, hm, eq_self, go_sem, wrap64_id, Int.tdiv_eq_ediv_of_nonneg, Int.tmod_eq_emod_of_nonneg])
    | (refine callA_pure (t13b _) (by first | exact ⟨rfl, trivial⟩ | exact ⟨rfl, rfl, trivial⟩ | exact ⟨rfl, rfl, rfl, trivial⟩ | exact ⟨rfl, rfl, rfl, rfl, trivial⟩ | simp only [go_sem]) ?_; simp (disch := omega) only [tri, madeA, hm, eq_self, go_sem, wrap64_id, Int.tdiv_eq_ediv_of_nonneg, Int.tmod_eq_emod_of_nonneg])
    | (refine callG_pure (fun e => ⟨by first | exact ⟨rfl, trivial⟩ | exact ⟨e, trivial⟩ | exact ⟨e, e, trivial⟩ | exact ⟨rfl, rfl, trivial⟩ | exact ⟨e, e, e, trivial⟩ | simp_all only [go_sem], t13b _⟩) ?_; simp (disch := omega) only [tri, madeA, hm, eq_self, go_sem, wrap64_id, Int.tdiv_eq_ediv_of_nonneg, Int.tmod_eq_emod_of_nonneg])
    | (refine callA_pure (t13c _) (by first | exact ⟨rfl, trivial⟩ | exact ⟨rfl, rfl, trivial⟩ | exact ⟨rfl, rfl, rfl, trivial⟩ | exact ⟨rfl, rfl, rfl, rfl, trivial⟩ | simp only [go_sem]) ?_; simp (disch := omega) only [tri, madeA, hm, eq_self, go_sem, wrap64_id, Int.tdiv_eq_ediv_of_nonneg, Int.tmod_eq_emod_of_nonneg])
    | (refine callG_pure (fun e => ⟨by first | exact ⟨rfl, trivial⟩ | exact ⟨e, trivial⟩ | exact ⟨e, e, trivial⟩ | exact ⟨rfl, rfl, trivial⟩ | exact ⟨e, e, e, trivial⟩ | simp_all only [go_sem], t13c _⟩) ?_; simp (disch := omega) only [tri, madeA, hm, eq_self, go_sem, wrap64_id, Int.tdiv_eq_ediv_of_nonneg, Int.tmod_eq_emod_of_nonneg])
    | (refine callA_pure (t28b [3, 5] [3, 5] _ 1 3 2 _ (by simp only [go_sem]; rfl) rfl (by decide)) (by first | exact ⟨rfl, trivial⟩ | exact ⟨rfl, rfl, trivial⟩ | exact ⟨rfl, rfl, rfl, trivial⟩ | exact ⟨rfl, rfl, rfl, rfl, trivial⟩ | simp only [go_sem]) ?_; simp (disch := omega) only [tri, madeA, hm, eq_self, go_sem, wrap64_id, Int.tdiv_eq_ediv_of_nonneg, Int.tmod_eq_emod_of_nonneg])
    | (refine callG_pure (fun e => ⟨by first | exact ⟨rfl, trivial⟩ | exact ⟨e, trivial⟩ | exact ⟨e, e, trivial⟩ | exact ⟨rfl, rfl, trivial⟩ | exact ⟨e, e, e, trivial⟩ | simp_all only [go_sem], t28b [3, 5] [3, 5] _ 1 3 2 _ (by simp only [go_sem]; rfl) rfl (by decide)⟩) ?_; simp (disch := omega) only [tri, madeA, hm, eq_self, go_sem, wrap64_id, Int.tdiv_eq_ediv_of_nonneg, Int.tmod_eq_emod_of_nonneg])
    | (refine callA_pure (t28b [0] [0] _ 1 3 1 _ (by simp only [go_sem]; rfl) rfl (by decide)) (by first | exact ⟨rfl, trivial⟩ | exact ⟨rfl, rfl, trivial⟩ | exact ⟨rfl, rfl, rfl, trivial⟩ | exact ⟨rfl, rfl, rfl, rfl, trivial⟩ | simp only [go_sem]) ?_; simp (disch := omega) only [tri, madeA, hm, eq_self, go_sem, wrap64_id, Int.tdiv_eq_ediv_of_nonneg, Int.tmod_eq_emod_of_nonneg])
    | (refine callG_pure (fun e => ⟨by first | exact ⟨rfl, trivial⟩ | exact ⟨e, trivial⟩ | exact ⟨e, e, trivial⟩ | exact ⟨rfl, rfl, trivial⟩ | exact ⟨e, e, e, trivial⟩ | simp_all only [go_sem], t28b [0] [0] _ 1 3 1 _ (by simp only [go_sem]; rfl) rfl (by decide)⟩) ?_; simp (disch := omega) only [tri, madeA, hm, eq_self, go_sem, wrap64_id, Int.tdiv_eq_ediv_of_nonneg, Int.tmod_eq_emod_of_nonneg])
    | ((first | refine fnQ_pure1 (by first | exact ⟨trivial, trivial⟩ | exact ⟨trivial, trivial, trivial⟩ | exact ⟨trivial, trivial, trivial, trivial⟩ | simp [go_sem]) ?_ | refine fnQ_pure0 (by first | exact ⟨trivial, trivial⟩ | exact ⟨trivial, trivial, trivial⟩ | exact ⟨trivial, trivial, trivial, trivial⟩ | simp [go_sem]) ?_); simp only [go_sem]; (first | exact VLe.refl _ | refine VLe_int ?_ | refine VLe_bool ?_ | refine VLe_str ?_ | skip))
    | (with_reducible refine And.intro ?_ ?_)
    | with_reducible intro _
  all_goals first
    | omega
    | trace_state

import Derived.Test.YtonpflblcnpegaaDoorE8
set_option linter.all false
set_option linter.unusedSimpArgs false
set_option linter.unusedVariables false
set_option linter.unusedSectionVars false
open Go Go.Proofs AF HY
namespace HY
set_option maxRecDepth 100000
theorem t111 (c : UInt8) (h : List AObj) : ACalls Tryd.prog 72 [.int .u8 (c.toNat : Int)] h (.bool (spc c)) h := by
  refine acalls_of fn72d (by simp) ?_
  simp only [List.length_cons, List.length_nil, Nat.reduceAdd, Nat.reduceSub, List.replicate, List.cons_append, List.nil_append, List.append_nil]
  simp (disch := omega) only [c72d, go_sem, wrap64_id, Int.tdiv_eq_ediv_of_nonneg, Int.tmod_eq_emod_of_nonneg]
  repeat' first
    | ((first | refine callA_pure (t103b c _) ?_ ?_); (next => repeat' first | exact flags_n | refine flags_c (by first | rfl | assumption) ?_); simp (disch := omega) only [go_sem, wrap64_id, Int.tdiv_eq_ediv_of_nonneg, Int.tmod_eq_emod_of_nonneg])
    | ((first | refine callG_pure (fun e => ⟨?_, t103b c _⟩) ?_); (next => repeat' first | exact flags_n | refine flags_c (by first | rfl | assumption) ?_); simp (disch := omega) only [go_sem, wrap64_id, Int.tdiv_eq_ediv_of_nonneg, Int.tmod_eq_emod_of_nonneg])
    | ((first | refine fnQ_pure1 ?_ ?_ | refine fnQ_pure0 ?_ ?_); (next => repeat' first | exact rvs_n | refine rvs_t ?_ | (simp [go_sem]; done)); simp only [go_sem]; (first | exact VLe.refl _ | refine VLe_int ?_ | refine VLe_bool ?_ | refine VLe_str ?_ | skip))
    | (with_reducible refine And.intro ?_ ?_)
    | with_reducible intro _
  all_goals first
    | omega
    | (rename_i hx; revert hx; simp; done)
    | (simp; done)
    | skip
def bytesV (s : List UInt8) : AV := .sl s.length fun i => [.int .u8 ((s.getD i 0).toNat : Int)]
def findI (p : UInt8 → Bool) : List UInt8 → Nat → Int
  | [], _ => -1
  | c :: r, i => if p c = true then i else findI p r (i + 1)
theorem findI_iff (p : UInt8 → Bool) : ∀ (s : List UInt8) (i : Nat), (0 ≤ findI p s i ↔ s.any p = true) ∧ -1 ≤ findI p s i := by
  intro s
  induction s with
  | nil => intro i; simp [findI]
  | cons c r ih =>
    intro i
    by_cases hc : p c = true
    · have e : findI p (c :: r) i = i := if_pos hc
      rw [e, List.any_cons, hc]
      simp
      try omega
    · have e : findI p (c :: r) i = findI p r (i + 1) := if_neg hc
      rw [e, List.any_cons]
      have hc' : p c = false := by simpa using hc
      rw [hc', Bool.false_or]
      exact ih (i + 1)
theorem findI_any (p : UInt8 → Bool) (s : List UInt8) (i : Nat) : decide (0 ≤ findI p s i) = s.any p := by
  rw [Bool.eq_iff_iff, decide_eq_true_eq]; exact (findI_iff p s i).1
theorem t130 (s : List UInt8) (p : UInt8 → Bool) (F : Nat) (h : List AObj) (hs : s.length ≤ 1000000000) (hp : ∀ (c : UInt8) (h : List AObj), ACalls Tryd.prog F [.int .u8 (c.toNat : Int)] h (.bool (p c)) h) : ACalls Tryd.prog 94 [bytesV s, .fn (.func F) [] []] h (.int .i64 (findI p s 0)) h := by
  refine acalls_of fn94d (by simp) ?_
  simp only [List.length_cons, List.length_nil, Nat.reduceAdd, Nat.reduceSub, List.replicate, List.cons_append, List.nil_append, List.append_nil]
  simp (disch := omega) only [c94d, bytesV, go_sem, wrap64_id, Int.tdiv_eq_ediv_of_nonneg, Int.tmod_eq_emod_of_nonneg]
  repeat' first
    | ((first | refine fnQ_pure1 ?_ ?_ | refine fnQ_pure0 ?_ ?_); (next => repeat' first | exact rvs_n | refine rvs_t ?_ | (simp [go_sem]; done)); simp only [go_sem]; (first | exact VLe.refl _ | refine VLe_int ?_ | refine VLe_bool ?_ | refine VLe_str ?_ | skip))
    | (with_reducible refine And.intro ?_ ?_)
    | with_reducible intro _
  all_goals first
    | omega
    | (rename_i hx; revert hx; simp; done)
    | (simp; done)
    | skip
  refine loop_of (T := fun i : Nat => spar 19 [(0, bytesV s), (1, .fn (.func F) [] []), (6, bytesV s), (7, .int .i64 s.length), (8, .int .i64 i)]) (H := fun _ => h) (inv := fun i => i ≤ s.length ∧ findI p s 0 = findI p (s.drop i) i) (m := fun i => s.length - i) 0 ⟨by omega, by simp⟩ (Wk.temps ?_) ?_
  · (simp only [bytesV, spar, List.foldl, List.replicate, go_sem, VLes_nil, VLes_cons, VLe_undef_iff, VLe_self]; try (repeat' first | (with_reducible refine And.intro ?_ ?_) | (refine VLe_int ?_; omega) | (refine VLe_bool ?_; rfl) | exact VLe.refl _))
  · rintro i ⟨i1, i2⟩ K hK
    rw [i2]
    by_cases hi : i < s.length
    · have e : s.drop i = s.getD i 0 :: s.drop (i + 1) := by rw [List.drop_eq_getElem_cons hi]; simp [List.getD_eq_getElem?_getD, hi]
      rw [e] at i2 ⊢
      simp only [findI] at i2 ⊢
      have hpc := fun h => hp (s.getD i 0) h
      cases hb : p (s.getD i 0) with
      | true =>
        rw [hb] at hpc
        simp (disch := omega) only [spar, List.foldl, List.replicate, bytesV, go_sem, wrap64_id, Int.tdiv_eq_ediv_of_nonneg, Int.tmod_eq_emod_of_nonneg]
        repeat' first
          | (refine callV_pure (hpc _) ?_; simp (disch := omega) only [bytesV, go_sem, wrap64_id, Int.tdiv_eq_ediv_of_nonneg, Int.tmod_eq_emod_of_nonneg])
          | ((first | refine fnQ_pure1 ?_ ?_ | refine fnQ_pure0 ?_ ?_); (next => repeat' first | exact rvs_n | refine rvs_t ?_ | (simp [go_sem]; done)); simp only [go_sem]; (first | exact VLe.refl _ | refine VLe_int ?_ | refine VLe_bool ?_ | refine VLe_str ?_ | skip))
          | (with_reducible refine And.intro ?_ ?_)
          | with_reducible intro _
        all_goals first
          | omega
          | (rename_i hx; revert hx; simp; done)
          | (simp; done)
          | skip
      | false =>
        rw [hb] at hpc i2
        simp (disch := omega) only [spar, List.foldl, List.replicate, bytesV, go_sem, wrap64_id, Int.tdiv_eq_ediv_of_nonneg, Int.tmod_eq_emod_of_nonneg]
        repeat' first
          | (refine callV_pure (hpc _) ?_; simp (disch := omega) only [bytesV, go_sem, wrap64_id, Int.tdiv_eq_ediv_of_nonneg, Int.tmod_eq_emod_of_nonneg])
          | ((first | refine fnQ_pure1 ?_ ?_ | refine fnQ_pure0 ?_ ?_); (next => repeat' first | exact rvs_n | refine rvs_t ?_ | (simp [go_sem]; done)); simp only [go_sem]; (first | exact VLe.refl _ | refine VLe_int ?_ | refine VLe_bool ?_ | refine VLe_str ?_ | skip))
          | (with_reducible refine And.intro ?_ ?_)
          | with_reducible intro _
        all_goals first
          | omega
          | (rename_i hx; revert hx; simp; done)
          | (simp; done)
          | skip
        refine hK _ _ (i + 1) ⟨by omega, by rw [i2]; simp⟩ (by omega) (Wk.temps ?_)
        (simp only [bytesV, spar, List.foldl, List.replicate, go_sem, VLes_nil, VLes_cons, VLe_undef_iff, VLe_self]; try (repeat' first | (with_reducible refine And.intro ?_ ?_) | (refine VLe_int ?_; omega) | (refine VLe_bool ?_; rfl) | exact VLe.refl _))
    · have e : i = s.length := by omega
      subst e
      rw [List.drop_length]
      simp (disch := omega) only [spar, List.foldl, List.replicate, bytesV, go_sem, wrap64_id, Int.tdiv_eq_ediv_of_nonneg, Int.tmod_eq_emod_of_nonneg]
      repeat' first
        | ((first | refine fnQ_pure1 ?_ ?_ | refine fnQ_pure0 ?_ ?_); (next => repeat' first | exact rvs_n | refine rvs_t ?_ | (simp [go_sem]; done)); simp only [go_sem]; (first | exact VLe.refl _ | refine VLe_int ?_ | refine VLe_bool ?_ | refine VLe_str ?_ | skip))
        | (with_reducible refine And.intro ?_ ?_)
        | with_reducible intro _
      all_goals first
        | omega
        | (rename_i hx; revert hx; simp; done)
        | (simp; done)
        | skip
theorem t110 (s : List UInt8) (p : UInt8 → Bool) (F : Nat) (h : List AObj) (hs : s.length ≤ 1000000000) (hp : ∀ (c : UInt8) (h : List AObj), ACalls Tryd.prog F [.int .u8 (c.toNat : Int)] h (.bool (p c)) h) : ACalls Tryd.prog 66 [bytesV s, .fn (.func F) [] []] h (.bool (s.any p)) h := by
  rw [← findI_any p s 0]
  refine acalls_of fn66d (by simp) ?_
  simp only [List.length_cons, List.length_nil, Nat.reduceAdd, Nat.reduceSub, List.replicate, List.cons_append, List.nil_append, List.append_nil]
  simp (disch := omega) only [c66d, bytesV, go_sem, wrap64_id, Int.tdiv_eq_ediv_of_nonneg, Int.tmod_eq_emod_of_nonneg]
  repeat' first
    | ((first | refine callA_pure (t130 s p F _ hs hp) ?_ ?_); (next => repeat' first | exact flags_n | refine flags_c (by first | rfl | assumption) ?_); simp (disch := omega) only [bytesV, go_sem, wrap64_id, Int.tdiv_eq_ediv_of_nonneg, Int.tmod_eq_emod_of_nonneg])
    | ((first | refine callG_pure (fun e => ⟨?_, t130 s p F _ hs hp⟩) ?_); (next => repeat' first | exact flags_n | refine flags_c (by first | rfl | assumption) ?_); simp (disch := omega) only [bytesV, go_sem, wrap64_id, Int.tdiv_eq_ediv_of_nonneg, Int.tmod_eq_emod_of_nonneg])
    | ((first | refine fnQ_pure1 ?_ ?_ | refine fnQ_pure0 ?_ ?_); (next => repeat' first | exact rvs_n | refine rvs_t ?_ | (simp [go_sem]; done)); simp only [go_sem]; (first | exact VLe.refl _ | refine VLe_int ?_ | refine VLe_bool ?_ | refine VLe_str ?_ | skip))
    | (with_reducible refine And.intro ?_ ?_)
    | with_reducible intro _
  all_goals first
    | omega
    | (rename_i hx; revert hx; simp; done)
    | (simp; done)
    | skip
theorem t88 (s : List UInt8) (h : List AObj) (hs : s.length ≤ 1000000000) : ACalls Tryd.prog 38 [.str s] h (.bool (isWord s)) h := by
  obtain ⟨c, hc⟩ : ∃ c, c = checkC s := ⟨_, rfl⟩
  have h104 : ∀ h : List AObj, ACalls Tryd.prog 70 [.str s] h (.int .i64 c) h := fun h => by rw [hc]; exact t104 s h hs
  have hw : isWord s = (decide (0 < s.length) && decide (s.length ≤ 64) && decide (c = 0) && (decide (kind (ch s 0) = 1) || decide (kind (ch s 0) = 3)) && !(s.any spc)) := by rw [hc]; rfl
  rw [hw]
  by_cases g1 : 0 < s.length
  · have k1 : (s = []) = False := eq_false (by intro e; rw [e] at g1; simp at g1)
    by_cases g2 : s.length ≤ 64
    · have k2 : (64 < (s.length : Int)) = False := eq_false (by omega)
      by_cases g3 : c = 0
      · refine acalls_of fn38d (by simp) ?_
        simp only [List.length_cons, List.length_nil, Nat.reduceAdd, Nat.reduceSub, List.replicate, List.cons_append, List.nil_append, List.append_nil]
        simp (disch := omega) only [c38d, k1, k2, g3, go_sem, wrap64_id, Int.tdiv_eq_ediv_of_nonneg, Int.tmod_eq_emod_of_nonneg]
        repeat' first
          | ((first | refine callA_pure (h104 _) ?_ ?_ | refine callA_pure (t103b _ _) ?_ ?_ | refine callA_pure (t110 s spc 72 _ hs t111) ?_ ?_); (next => repeat' first | exact flags_n | refine flags_c (by first | rfl | assumption) ?_); simp (disch := omega) only [k1, k2, g3, ch_eq, go_sem, wrap64_id, Int.tdiv_eq_ediv_of_nonneg, Int.tmod_eq_emod_of_nonneg])
          | ((first | refine callG_pure (fun e => ⟨?_, h104 _⟩) ?_ | refine callG_pure (fun e => ⟨?_, t103b _ _⟩) ?_ | refine callG_pure (fun e => ⟨?_, t110 s spc 72 _ hs t111⟩) ?_); (next => repeat' first | exact flags_n | refine flags_c (by first | rfl | assumption) ?_); simp (disch := omega) only [k1, k2, g3, ch_eq, go_sem, wrap64_id, Int.tdiv_eq_ediv_of_nonneg, Int.tmod_eq_emod_of_nonneg])
          | ((first | refine fnQ_pure1 ?_ ?_ | refine fnQ_pure0 ?_ ?_); (next => repeat' first | exact rvs_n | refine rvs_t ?_ | (simp [go_sem]; done)); simp only [go_sem]; (first | exact VLe.refl _ | refine VLe_int ?_ | refine VLe_bool ?_ | refine VLe_str ?_ | skip))
          | (with_reducible refine And.intro ?_ ?_)
          | with_reducible intro _
        all_goals first
          | omega
          | (rename_i hx; revert hx; simp; done)
          | (simp; done)
          | skip
        all_goals (generalize s.any spc = b; grind)
      · refine acalls_of fn38d (by simp) ?_
        simp only [List.length_cons, List.length_nil, Nat.reduceAdd, Nat.reduceSub, List.replicate, List.cons_append, List.nil_append, List.append_nil]
        simp (disch := omega) only [c38d, k1, k2, go_sem, wrap64_id, Int.tdiv_eq_ediv_of_nonneg, Int.tmod_eq_emod_of_nonneg]
        repeat' first
          | ((first | refine callA_pure (h104 _) ?_ ?_ | refine callA_pure (t103b _ _) ?_ ?_); (next => repeat' first | exact flags_n | refine flags_c (by first | rfl | assumption) ?_); simp (disch := omega) only [k1, k2, g3, ch_eq, go_sem, wrap64_id, Int.tdiv_eq_ediv_of_nonneg, Int.tmod_eq_emod_of_nonneg])
          | ((first | refine callG_pure (fun e => ⟨?_, h104 _⟩) ?_ | refine callG_pure (fun e => ⟨?_, t103b _ _⟩) ?_); (next => repeat' first | exact flags_n | refine flags_c (by first | rfl | assumption) ?_); simp (disch := omega) only [k1, k2, g3, ch_eq, go_sem, wrap64_id, Int.tdiv_eq_ediv_of_nonneg, Int.tmod_eq_emod_of_nonneg])
          | ((first | refine fnQ_pure1 ?_ ?_ | refine fnQ_pure0 ?_ ?_); (next => repeat' first | exact rvs_n | refine rvs_t ?_ | (simp [go_sem]; done)); simp only [go_sem]; (first | exact VLe.refl _ | refine VLe_int ?_ | refine VLe_bool ?_ | refine VLe_str ?_ | skip))
          | (with_reducible refine And.intro ?_ ?_)
          | with_reducible intro _
        all_goals first
          | omega
          | (rename_i hx; revert hx; simp; done)
          | (simp; done)
          | skip
        all_goals (generalize s.any spc = b; grind)
    · have k2 : (64 < (s.length : Int)) = True := eq_true (by omega)
      refine acalls_of fn38d (by simp) ?_
      simp only [List.length_cons, List.length_nil, Nat.reduceAdd, Nat.reduceSub, List.replicate, List.cons_append, List.nil_append, List.append_nil]
      simp (disch := omega) only [c38d, k1, k2, go_sem, wrap64_id, Int.tdiv_eq_ediv_of_nonneg, Int.tmod_eq_emod_of_nonneg]
      repeat' first
        | (refine callG_false ((.int .i64 0)) ?_; simp (disch := omega) only [k1, k2, go_sem, wrap64_id, Int.tdiv_eq_ediv_of_nonneg, Int.tmod_eq_emod_of_nonneg])
        | ((first | refine fnQ_pure1 ?_ ?_ | refine fnQ_pure0 ?_ ?_); (next => repeat' first | exact rvs_n | refine rvs_t ?_ | (simp [go_sem]; done)); simp only [go_sem]; (first | exact VLe.refl _ | refine VLe_int ?_ | refine VLe_bool ?_ | refine VLe_str ?_ | skip))
        | (with_reducible refine And.intro ?_ ?_)
        | with_reducible intro _
      all_goals first
        | omega
        | (rename_i hx; revert hx; simp; done)
        | (simp; done)
        | skip
      all_goals (generalize s.any spc = b; grind)
  · have e : s = [] := List.eq_nil_of_length_eq_zero (by omega)
    subst e
    refine acalls_of fn38d (by simp) ?_
    simp only [List.length_cons, List.length_nil, Nat.reduceAdd, Nat.reduceSub, List.replicate, List.cons_append, List.nil_append, List.append_nil]
    simp (disch := omega) only [c38d, go_sem, wrap64_id, Int.tdiv_eq_ediv_of_nonneg, Int.tmod_eq_emod_of_nonneg]
    repeat' first
      | (refine callG_false ((.int .i64 0)) ?_; simp (disch := omega) only [go_sem, wrap64_id, Int.tdiv_eq_ediv_of_nonneg, Int.tmod_eq_emod_of_nonneg])
      | ((first | refine fnQ_pure1 ?_ ?_ | refine fnQ_pure0 ?_ ?_); (next => repeat' first | exact rvs_n | refine rvs_t ?_ | (simp [go_sem]; done)); simp only [go_sem]; (first | exact VLe.refl _ | refine VLe_int ?_ | refine VLe_bool ?_ | refine VLe_str ?_ | skip))
      | (with_reducible refine And.intro ?_ ?_)
      | with_reducible intro _
    all_goals first
      | omega
      | (rename_i hx; revert hx; simp; done)
      | (simp; done)
      | skip
    all_goals (generalize List.any _ spc = b; grind)
end HY

import Derived.Test.YtonpflblcnpegaaDoorE13
set_option linter.all false
set_option linter.unusedSimpArgs false
set_option linter.unusedVariables false
set_option linter.unusedSectionVars false
open Go Go.Proofs AF HY
namespace HY
set_option maxRecDepth 100000
theorem trimPre_pos {s : List UInt8} (h : 0 < s.length ∧ ch s 0 = 46) : trimPre s [46] = s.drop 1 := by
  unfold trimPre
  rw [hasPre_dot, if_pos (by simp [h])]
  rfl
theorem trimPre_neg {s : List UInt8} (h : ¬ (0 < s.length ∧ ch s 0 = 46)) : trimPre s [46] = s := by
  unfold trimPre
  rw [hasPre_dot, if_neg]
  simpa using h
theorem trimSuf_pos {s : List UInt8} (h : 0 < s.length ∧ ch s (s.length - 1) = 46) : trimSuf s [46] = s.take (s.length - 1) := by
  unfold trimSuf
  rw [hasSuf_dot, if_pos (by simp [h])]
  rfl
theorem trimSuf_neg {s : List UInt8} (h : ¬ (0 < s.length ∧ ch s (s.length - 1) = 46)) : trimSuf s [46] = s := by
  unfold trimSuf
  rw [hasSuf_dot, if_neg]
  simpa using h
theorem toNat46 {c : UInt8} : (((c.toNat : Int)) = 46) = (c = 46) := by
  apply propext
  constructor
  · intro h
    apply UInt8.toNat_inj.1
    have : c.toNat = 46 := by omega
    rw [this]; rfl
  · intro h; rw [h]; rfl
theorem ne_nil_len {s : List UInt8} : (s = []) = (s.length = 0) := propext ⟨fun h => by rw [h]; rfl, List.eq_nil_of_length_eq_zero⟩
set_option maxHeartbeats 4000000 in
theorem t116 (s : List UInt8) (h : List AObj) (hs : s.length ≤ 1000000000) : ACalls Tryd.prog 90 [.str s] h (.str (inner s)) h := by
  unfold inner
  obtain ⟨t, ht⟩ : ∃ t, t = trimPre s [46] := ⟨_, rfl⟩
  rw [← ht]
  have hx : ((t.length : Int) - 1).toNat = t.length - 1 := by omega
  by_cases g0 : s = []
  · subst g0
    rw [ht]
    refine acalls_of fn90d (by simp) ?_
    simp only [List.length_cons, List.length_nil, Nat.reduceAdd, Nat.reduceSub, List.replicate, List.cons_append, List.nil_append, List.append_nil]
    simp (disch := omega) only [c90d, go_sem, wrap64_id, Int.tdiv_eq_ediv_of_nonneg, Int.tmod_eq_emod_of_nonneg]
    repeat' first
      | ((first | refine fnQ_pure1 ?_ ?_ | refine fnQ_pure0 ?_ ?_); (next => repeat' first | exact rvs_n | refine rvs_t ?_ | (simp [go_sem]; done)); simp only [go_sem]; (first | exact VLe.refl _ | refine VLe_int ?_ | refine VLe_bool ?_ | refine VLe_str ?_ | skip))
      | (with_reducible refine And.intro ?_ ?_)
      | with_reducible intro _
    all_goals first
      | omega
      | (rename_i hx; revert hx; simp; done)
      | (simp; done)
      | skip
  have k0 : (s = []) = False := eq_false g0
  have hs0 : 0 < s.length := List.length_pos_iff.2 g0
  have tail : t.length ≤ 1000000000 := by
    rw [ht]
    unfold trimPre
    split
    · rw [List.length_drop]; omega
    · omega
  by_cases g1 : ch s 0 = 46
  · rw [trimPre_pos ⟨hs0, g1⟩] at ht
    have k1 : (ch s 0 = 46) = True := eq_true g1
    have hd : List.take (s.length - Int.toNat 1) (List.drop (Int.toNat 1) s) = t := by
      rw [ht, show Int.toNat 1 = 1 from rfl, show s.length - 1 = (s.drop 1).length by simp, List.take_length]
    by_cases g3 : t = []
    · rw [trimSuf_neg (by rw [g3]; simp)]
      have k3 : (t = []) = True := eq_true g3
      refine acalls_of fn90d (by simp) ?_
      simp only [List.length_cons, List.length_nil, Nat.reduceAdd, Nat.reduceSub, List.replicate, List.cons_append, List.nil_append, List.append_nil]
      simp (disch := omega) only [c90d, k0, k1, hd, k3, ch_eq, toNat46, go_sem, wrap64_id, Int.tdiv_eq_ediv_of_nonneg, Int.tmod_eq_emod_of_nonneg]
      repeat' first
        | ((first | refine fnQ_pure1 ?_ ?_ | refine fnQ_pure0 ?_ ?_); (next => repeat' first | exact rvs_n | refine rvs_t ?_ | (simp [go_sem]; done)); simp only [go_sem]; (first | exact VLe.refl _ | refine VLe_int ?_ | refine VLe_bool ?_ | refine VLe_str ?_ | skip))
        | (with_reducible refine And.intro ?_ ?_)
        | with_reducible intro _
      all_goals first
        | omega
        | (rename_i hx; revert hx; simp; done)
        | (simp; done)
        | skip
    · have k3 : (t = []) = False := eq_false g3
      have ht0 : 0 < t.length := List.length_pos_iff.2 g3
      by_cases g4 : ch t (t.length - 1) = 46
      · have k4 : (ch t (t.length - 1) = 46) = True := eq_true g4
        rw [trimSuf_pos ⟨ht0, g4⟩]
        refine acalls_of fn90d (by simp) ?_
        simp only [List.length_cons, List.length_nil, Nat.reduceAdd, Nat.reduceSub, List.replicate, List.cons_append, List.nil_append, List.append_nil]
        simp (disch := omega) only [c90d, k0, k1, hd, k3, k4, hx, ch_eq, toNat46, go_sem, wrap64_id, Int.tdiv_eq_ediv_of_nonneg, Int.tmod_eq_emod_of_nonneg]
        repeat' first
          | ((first | refine fnQ_pure1 ?_ ?_ | refine fnQ_pure0 ?_ ?_); (next => repeat' first | exact rvs_n | refine rvs_t ?_ | (simp [go_sem]; done)); simp only [go_sem]; (first | exact VLe.refl _ | refine VLe_int ?_ | refine VLe_bool ?_ | refine VLe_str ?_ | skip))
          | (with_reducible refine And.intro ?_ ?_)
          | with_reducible intro _
        all_goals first
          | omega
          | (rename_i hx; revert hx; simp; done)
          | (simp; done)
          | skip
      · have k4 : (ch t (t.length - 1) = 46) = False := eq_false g4
        rw [trimSuf_neg (by simp [g4])]
        refine acalls_of fn90d (by simp) ?_
        simp only [List.length_cons, List.length_nil, Nat.reduceAdd, Nat.reduceSub, List.replicate, List.cons_append, List.nil_append, List.append_nil]
        simp (disch := omega) only [c90d, k0, k1, hd, k3, k4, hx, ch_eq, toNat46, go_sem, wrap64_id, Int.tdiv_eq_ediv_of_nonneg, Int.tmod_eq_emod_of_nonneg]
        repeat' first
          | ((first | refine fnQ_pure1 ?_ ?_ | refine fnQ_pure0 ?_ ?_); (next => repeat' first | exact rvs_n | refine rvs_t ?_ | (simp [go_sem]; done)); simp only [go_sem]; (first | exact VLe.refl _ | refine VLe_int ?_ | refine VLe_bool ?_ | refine VLe_str ?_ | skip))
          | (with_reducible refine And.intro ?_ ?_)
          | with_reducible intro _
        all_goals first
          | omega
          | (rename_i hx; revert hx; simp; done)
          | (simp; done)
          | skip
  · rw [trimPre_neg (by simp [g1])] at ht
    subst ht
    have k1 : (ch t 0 = 46) = False := eq_false g1
    by_cases g4 : ch t (t.length - 1) = 46
    · have k4 : (ch t (t.length - 1) = 46) = True := eq_true g4
      rw [trimSuf_pos ⟨hs0, g4⟩]
      refine acalls_of fn90d (by simp) ?_
      simp only [List.length_cons, List.length_nil, Nat.reduceAdd, Nat.reduceSub, List.replicate, List.cons_append, List.nil_append, List.append_nil]
      simp (disch := omega) only [c90d, k0, k1, k4, hx, ch_eq, toNat46, go_sem, wrap64_id, Int.tdiv_eq_ediv_of_nonneg, Int.tmod_eq_emod_of_nonneg]
      repeat' first
        | ((first | refine fnQ_pure1 ?_ ?_ | refine fnQ_pure0 ?_ ?_); (next => repeat' first | exact rvs_n | refine rvs_t ?_ | (simp [go_sem]; done)); simp only [go_sem]; (first | exact VLe.refl _ | refine VLe_int ?_ | refine VLe_bool ?_ | refine VLe_str ?_ | skip))
        | (with_reducible refine And.intro ?_ ?_)
        | with_reducible intro _
      all_goals first
        | omega
        | (rename_i hx; revert hx; simp; done)
        | (simp; done)
        | skip
    · have k4 : (ch t (t.length - 1) = 46) = False := eq_false g4
      rw [trimSuf_neg (by simp [g4])]
      refine acalls_of fn90d (by simp) ?_
      simp only [List.length_cons, List.length_nil, Nat.reduceAdd, Nat.reduceSub, List.replicate, List.cons_append, List.nil_append, List.append_nil]
      simp (disch := omega) only [c90d, k0, k1, k4, hx, ch_eq, toNat46, go_sem, wrap64_id, Int.tdiv_eq_ediv_of_nonneg, Int.tmod_eq_emod_of_nonneg]
      repeat' first
        | ((first | refine fnQ_pure1 ?_ ?_ | refine fnQ_pure0 ?_ ?_); (next => repeat' first | exact rvs_n | refine rvs_t ?_ | (simp [go_sem]; done)); simp only [go_sem]; (first | exact VLe.refl _ | refine VLe_int ?_ | refine VLe_bool ?_ | refine VLe_str ?_ | skip))
        | (with_reducible refine And.intro ?_ ?_)
        | with_reducible intro _
      all_goals first
        | omega
        | (rename_i hx; revert hx; simp; done)
        | (simp; done)
        | skip
theorem checkC_inner {s : List UInt8} (h : s.length ≤ 64) : checkC (inner s) = checkC s := by
  have := inner_len s
  rw [checkC_eq (inner s), checkC_eq s, if_neg (show ¬ 65536 < (inner s).length by omega), if_neg (show ¬ 65536 < s.length by omega), bad_inner]
theorem any_badLev {l : List Int} {i : Nat} (hi : i < l.length) (hb : badLev (l.getD i 0) = true) : l.any badLev = true := by
  rw [List.any_eq_true]
  exact ⟨l[i], List.getElem_mem hi, by simpa [List.getD_eq_getElem?_getD, hi] using hb⟩
theorem clus_pos {s : List UInt8} (h : s ≠ []) : 0 < (clus s).length := by
  cases hc : clus s with
  | nil =>
    exfalso
    have := clus_join s
    rw [hc] at this
    exact h (by simpa using this.symm)
  | cons a r => simp
end HY

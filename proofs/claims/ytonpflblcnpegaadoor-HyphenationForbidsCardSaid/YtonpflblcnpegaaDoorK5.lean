import Derived.Test.YtonpflblcnpegaaDoorK4
set_option linter.all false
set_option linter.unusedSimpArgs false
set_option linter.unusedVariables false
set_option linter.unusedSectionVars false
set_option linter.all false
set_option linter.unusedSimpArgs false
set_option linter.unusedVariables false
set_option linter.unusedSectionVars false
open Go Go.Proofs AF HY
namespace HY
set_option maxRecDepth 100000
theorem firstE_zero {ps : List Pat} (h : firstE ps = 0) : ∀ p ∈ ps, checkPat p = 0 := by
  induction ps with
  | nil => intro p hp; simp at hp
  | cons a r ih =>
    simp only [firstE] at h
    split at h
    · rename_i h0
      intro p hp
      rcases List.mem_cons.1 hp with rfl | hp
      · exact h0
      · exact ih h p hp
    · rename_i h0; exact absurd h h0
theorem checkPat_lev {p : Pat} (h : checkPat p = 0) : p.levels.length = (clus p.letters).length + 1 := by
  unfold checkPat at h
  repeat' split at h
  all_goals first
    | (cases h; done)
    | (rename_i hx _; simpa using hx)
    | skip
theorem wf_of_check {ps : List Pat} (h : checkPats ps = 0) : wfPats ps := by
  unfold checkPats at h
  split at h
  · cases h
  intro i hi
  rw [clus_fold_len]
  refine checkPat_lev (firstE_zero h _ ?_)
  rw [List.getD_eq_getElem?_getD, List.getElem?_eq_getElem hi]
  exact List.getElem_mem hi
theorem word_pos {w : List UInt8} (h : isWord w = true) : 0 < (clus w).length := by
  apply clus_pos
  intro e
  subst e
  simp [isWord] at h
theorem startE_zero {ps : List Pat} {w : List UInt8} (h : startE ps w = 0) : wfPats ps ∧ isWord w = true := by
  unfold startE at h
  split at h
  · rename_i h1
    split at h
    · rename_i h2; exact ⟨wf_of_check h1, h2⟩
    · cases h
  · cases h
def pointsR (ps : List Pat) (w : List UInt8) : List Int := if startE ps w = 0 then ptAt (clus w) (levelsOf ps w) ((clus w).length - 1) else []
theorem flag_intsV (L : List Int) : (intsV L).flag = true := rfl
theorem strip_intsV (L : List Int) : (intsV L).strip = intsV L := rfl
theorem frz_intsV {fz : Nat → Bool} {h : List AObj} {n : Nat} (L : List Int) : frz fz h (n + 1) (intsV L) = intsV L := rfl
theorem rei_intsV {fz : Nat → Bool} {h : List AObj} {n : Nat} (L : List Int) : rei fz h (n + 1) (intsV L) = intsV L := rfl
theorem flag_strs (L : List (List UInt8)) : (strs L).flag = true := rfl
theorem strip_strs (L : List (List UInt8)) : (strs L).strip = strs L := rfl
theorem frz_strs {fz : Nat → Bool} {h : List AObj} {n : Nat} (L : List (List UInt8)) : frz fz h (n + 1) (strs L) = strs L := rfl
theorem rei_strs {fz : Nat → Bool} {h : List AObj} {n : Nat} (L : List (List UInt8)) : rei fz h (n + 1) (strs L) = strs L := rfl
theorem flag_patsV (L : List Pat) : (patsV L).flag = true := rfl
theorem strip_patsV (L : List Pat) : (patsV L).strip = patsV L := rfl
theorem frz_patsV {fz : Nat → Bool} {h : List AObj} {n : Nat} (L : List Pat) : frz fz h (n + 1) (patsV L) = patsV L := rfl
theorem rei_patsV {fz : Nat → Bool} {h : List AObj} {n : Nat} (L : List Pat) : rei fz h (n + 1) (patsV L) = patsV L := rfl
theorem flag_intsN (L : List Int) : (intsN L).flag = true := by unfold intsN; split <;> rfl
theorem strip_intsN (L : List Int) : (intsN L).strip = intsN L := by unfold intsN; split <;> rfl
theorem frz_intsN {fz : Nat → Bool} {h : List AObj} {n : Nat} (L : List Int) : frz fz h (n + 1) (intsN L) = intsN L := by unfold intsN; split <;> rfl
theorem rei_intsN {fz : Nat → Bool} {h : List AObj} {n : Nat} (L : List Int) : rei fz h (n + 1) (intsN L) = intsN L := by unfold intsN; split <;> rfl
attribute [go_sem] flag_intsV strip_intsV frz_intsV rei_intsV flag_strs strip_strs frz_strs rei_strs flag_patsV strip_patsV frz_patsV rei_patsV flag_intsN strip_intsN frz_intsN rei_intsN
theorem t89 (ps : List Pat) (w : List UInt8) (h : List AObj) (hok : okPats ps) (hw : w.length ≤ 1000000) : ACalls Tryd.prog 19 [patsV ps, .str w] h (.tup [intsN (pointsR ps w), .int .i64 (startE ps w)]) h := by
  have c112 := fun h => t112 ps w h hok (by omega)
  unfold pointsR
  by_cases g : startE ps w = 0
  · obtain ⟨g1, g2⟩ := startE_zero g
    have c113 := fun h => t113 ps w h hok hw (word_pos g2) g1
    rw [if_pos g]
    rw [g] at c112 ⊢
    refine acalls_of fn19d (by simp) ?_
    simp only [List.length_cons, List.length_nil, Nat.reduceAdd, Nat.reduceSub, List.replicate, List.cons_append, List.nil_append, List.append_nil]
    simp (disch := omega) only [c19d, go_sem, wrap64_id, Int.tdiv_eq_ediv_of_nonneg, Int.tmod_eq_emod_of_nonneg]
    repeat' first
      | ((first | refine callA_pure (c112 _) ?_ ?_ | refine callA_pure (c113 _) ?_ ?_); (next => repeat' first | exact flags_n | refine flags_c (by first | rfl | assumption) ?_); simp (disch := omega) only [go_sem, wrap64_id, Int.tdiv_eq_ediv_of_nonneg, Int.tmod_eq_emod_of_nonneg])
      | ((first | refine callG_pure (fun e => ⟨?_, c112 _⟩) ?_ | refine callG_pure (fun e => ⟨?_, c113 _⟩) ?_); (next => repeat' first | exact flags_n | refine flags_c (by first | rfl | assumption) ?_); simp (disch := omega) only [go_sem, wrap64_id, Int.tdiv_eq_ediv_of_nonneg, Int.tmod_eq_emod_of_nonneg])
      | ((first | refine fnQ_pure1 ?_ ?_ | refine fnQ_pure0 ?_ ?_); (next => repeat' first | exact rvs_n | refine rvs_t ?_ | (simp [go_sem]; done)); simp only [go_sem]; (first | exact VLe.refl _ | refine VLe_int ?_ | refine VLe_bool ?_ | refine VLe_str ?_ | skip))
      | (with_reducible refine And.intro ?_ ?_)
      | with_reducible intro _
    all_goals first
      | omega
      | (rename_i hx; revert hx; simp; done)
      | (simp; done)
      | skip
  · rw [if_neg g, intsN_nil]
    refine acalls_of fn19d (by simp) ?_
    simp only [List.length_cons, List.length_nil, Nat.reduceAdd, Nat.reduceSub, List.replicate, List.cons_append, List.nil_append, List.append_nil]
    simp (disch := omega) only [c19d, go_sem, wrap64_id, Int.tdiv_eq_ediv_of_nonneg, Int.tmod_eq_emod_of_nonneg]
    repeat' first
      | ((first | refine callA_pure (c112 _) ?_ ?_); (next => repeat' first | exact flags_n | refine flags_c (by first | rfl | assumption) ?_); simp (disch := omega) only [g, go_sem, wrap64_id, Int.tdiv_eq_ediv_of_nonneg, Int.tmod_eq_emod_of_nonneg])
      | ((first | refine callG_pure (fun e => ⟨?_, c112 _⟩) ?_); (next => repeat' first | exact flags_n | refine flags_c (by first | rfl | assumption) ?_); simp (disch := omega) only [g, go_sem, wrap64_id, Int.tdiv_eq_ediv_of_nonneg, Int.tmod_eq_emod_of_nonneg])
      | ((first | refine fnQ_pure1 ?_ ?_ | refine fnQ_pure0 ?_ ?_); (next => repeat' first | exact rvs_n | refine rvs_t ?_ | (simp [go_sem]; done)); simp only [go_sem]; (first | exact VLe.refl _ | refine VLe_int ?_ | refine VLe_bool ?_ | refine VLe_str ?_ | skip))
      | (with_reducible refine And.intro ?_ ?_)
      | with_reducible intro _
    all_goals first
      | omega
      | (rename_i hx; revert hx; simp; done)
      | (simp; done)
      | skip
end HY

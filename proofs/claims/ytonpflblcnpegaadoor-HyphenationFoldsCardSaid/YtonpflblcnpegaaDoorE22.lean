import Derived.Test.YtonpflblcnpegaaDoorE21
set_option linter.all false
set_option linter.unusedSimpArgs false
set_option linter.unusedVariables false
set_option linter.unusedSectionVars false
open Go Go.Proofs AF HY
namespace HY
set_option maxRecDepth 100000
theorem firstE_zero {ps : List Pat} (h : firstE ps = 0) : ∀ p ∈ ps, checkPat p = 0 := by
  induction ps with
  | nil => intro p hp; simp at hp
  | cons a r ih =>
    simp only [firstE] at h
    split at h
    · rename_i h0
      intro p hp
      rcases List.mem_cons.1 hp with rfl | hp
      · exact h0
      · exact ih h p hp
    · rename_i h0; exact absurd h h0
theorem checkPat_lev {p : Pat} (h : checkPat p = 0) : p.levels.length = (clus p.letters).length + 1 := by
  unfold checkPat at h
  repeat' split at h
  all_goals first
    | (cases h; done)
    | (rename_i hx _; simpa using hx)
    | skip
theorem wf_of_check {ps : List Pat} (h : checkPats ps = 0) : wfPats ps := by
  unfold checkPats at h
  split at h
  · cases h
  intro i hi
  rw [clus_fold_len]
  refine checkPat_lev (firstE_zero h _ ?_)
  rw [List.getD_eq_getElem?_getD, List.getElem?_eq_getElem hi]
  exact List.getElem_mem hi
theorem word_pos {w : List UInt8} (h : isWord w = true) : 0 < (clus w).length := by
  apply clus_pos
  intro e
  subst e
  simp [isWord] at h
theorem word_len {w : List UInt8} (h : isWord w = true) : w.length ≤ 64 := by
  unfold isWord at h
  simp at h
  omega
theorem startE_zero {ps : List Pat} {w : List UInt8} (h : startE ps w = 0) : wfPats ps ∧ isWord w = true := by
  unfold startE at h
  split at h
  · rename_i h1
    split at h
    · rename_i h2; exact ⟨wf_of_check h1, h2⟩
    · cases h
  · cases h
def pointsR (ps : List Pat) (w : List UInt8) : List Int := if startE ps w = 0 then ptAt (clus w) (levelsOf ps w) ((clus w).length - 1) else []
theorem flag_intsV (L : List Int) : (intsV L).flag = true := rfl
theorem strip_intsV (L : List Int) : (intsV L).strip = intsV L := rfl
theorem frz_intsV {fz : Nat → Bool} {h : List AObj} {n : Nat} (L : List Int) : frz fz h (n + 1) (intsV L) = intsV L := rfl
theorem rei_intsV {fz : Nat → Bool} {h : List AObj} {n : Nat} (L : List Int) : rei fz h (n + 1) (intsV L) = intsV L := rfl
theorem flag_strs (L : List (List UInt8)) : (strs L).flag = true := rfl
theorem strip_strs (L : List (List UInt8)) : (strs L).strip = strs L := rfl
theorem frz_strs {fz : Nat → Bool} {h : List AObj} {n : Nat} (L : List (List UInt8)) : frz fz h (n + 1) (strs L) = strs L := rfl
theorem rei_strs {fz : Nat → Bool} {h : List AObj} {n : Nat} (L : List (List UInt8)) : rei fz h (n + 1) (strs L) = strs L := rfl
theorem flag_patsV (L : List Pat) : (patsV L).flag = true := rfl
theorem strip_patsV (L : List Pat) : (patsV L).strip = patsV L := rfl
theorem frz_patsV {fz : Nat → Bool} {h : List AObj} {n : Nat} (L : List Pat) : frz fz h (n + 1) (patsV L) = patsV L := rfl
theorem rei_patsV {fz : Nat → Bool} {h : List AObj} {n : Nat} (L : List Pat) : rei fz h (n + 1) (patsV L) = patsV L := rfl
theorem flag_intsN (L : List Int) : (intsN L).flag = true := by unfold intsN; split <;> rfl
theorem strip_intsN (L : List Int) : (intsN L).strip = intsN L := by unfold intsN; split <;> rfl
theorem frz_intsN {fz : Nat → Bool} {h : List AObj} {n : Nat} (L : List Int) : frz fz h (n + 1) (intsN L) = intsN L := by unfold intsN; split <;> rfl
theorem rei_intsN {fz : Nat → Bool} {h : List AObj} {n : Nat} (L : List Int) : rei fz h (n + 1) (intsN L) = intsN L := by unfold intsN; split <;> rfl
attribute [go_sem] flag_intsV strip_intsV frz_intsV rei_intsV flag_strs strip_strs frz_strs rei_strs flag_patsV strip_patsV frz_patsV rei_patsV flag_intsN strip_intsN frz_intsN rei_intsN
theorem t89 (ps : List Pat) (w : List UInt8) (h : List AObj) (hok : okPats ps) (hw : w.length ≤ 1000000) : ACalls Tryd.prog 19 [patsV ps, .str w] h (.tup [intsN (pointsR ps w), .int .i64 (startE ps w)]) h := by
  have c112 := fun h => t112 ps w h hok (by omega)
  unfold pointsR
  by_cases g : startE ps w = 0
  · obtain ⟨g1, g2⟩ := startE_zero g
    have c113 := fun h => t113 ps w h hok hw (word_pos g2) g1
    rw [if_pos g]
    rw [g] at c112 ⊢
    refine acalls_of fn19d (by simp) ?_
    simp only [List.length_cons, List.length_nil, Nat.reduceAdd, Nat.reduceSub, List.replicate, List.cons_append, List.nil_append, List.append_nil]
    simp (disch := omega) only [c19d, go_sem, wrap64_id, Int.tdiv_eq_ediv_of_nonneg, Int.tmod_eq_emod_of_nonneg]
    repeat' first
      | ((first | refine callA_pure (c112 _) ?_ ?_ | refine callA_pure (c113 _) ?_ ?_); (next => repeat' first | exact flags_n | refine flags_c (by first | rfl | assumption) ?_); simp (disch := omega) only [go_sem, wrap64_id, Int.tdiv_eq_ediv_of_nonneg, Int.tmod_eq_emod_of_nonneg])
      | ((first | refine callG_pure (fun e => ⟨?_, c112 _⟩) ?_ | refine callG_pure (fun e => ⟨?_, c113 _⟩) ?_); (next => repeat' first | exact flags_n | refine flags_c (by first | rfl | assumption) ?_); simp (disch := omega) only [go_sem, wrap64_id, Int.tdiv_eq_ediv_of_nonneg, Int.tmod_eq_emod_of_nonneg])
      | ((first | refine fnQ_pure1 ?_ ?_ | refine fnQ_pure0 ?_ ?_); (next => repeat' first | exact rvs_n | refine rvs_t ?_ | (simp [go_sem]; done)); simp only [go_sem]; (first | exact VLe.refl _ | refine VLe_int ?_ | refine VLe_bool ?_ | refine VLe_str ?_ | skip))
      | (with_reducible refine And.intro ?_ ?_)
      | with_reducible intro _
    all_goals first
      | omega
      | (rename_i hx; revert hx; simp; done)
      | (simp; done)
      | skip
  · rw [if_neg g, intsN_nil]
    refine acalls_of fn19d (by simp) ?_
    simp only [List.length_cons, List.length_nil, Nat.reduceAdd, Nat.reduceSub, List.replicate, List.cons_append, List.nil_append, List.append_nil]
    simp (disch := omega) only [c19d, go_sem, wrap64_id, Int.tdiv_eq_ediv_of_nonneg, Int.tmod_eq_emod_of_nonneg]
    repeat' first
      | ((first | refine callA_pure (c112 _) ?_ ?_); (next => repeat' first | exact flags_n | refine flags_c (by first | rfl | assumption) ?_); simp (disch := omega) only [g, go_sem, wrap64_id, Int.tdiv_eq_ediv_of_nonneg, Int.tmod_eq_emod_of_nonneg])
      | ((first | refine callG_pure (fun e => ⟨?_, c112 _⟩) ?_); (next => repeat' first | exact flags_n | refine flags_c (by first | rfl | assumption) ?_); simp (disch := omega) only [g, go_sem, wrap64_id, Int.tdiv_eq_ediv_of_nonneg, Int.tmod_eq_emod_of_nonneg])
      | ((first | refine fnQ_pure1 ?_ ?_ | refine fnQ_pure0 ?_ ?_); (next => repeat' first | exact rvs_n | refine rvs_t ?_ | (simp [go_sem]; done)); simp only [go_sem]; (first | exact VLe.refl _ | refine VLe_int ?_ | refine VLe_bool ?_ | refine VLe_str ?_ | skip))
      | (with_reducible refine And.intro ?_ ?_)
      | with_reducible intro _
    all_goals first
      | omega
      | (rename_i hx; revert hx; simp; done)
      | (simp; done)
      | skip
theorem atS (own : List (List UInt8)) (lv : List Int) {i : Nat} (h : i = 0 ∨ hitP own.length lv (i - 1) = false) : ptAt own lv (i + 1 - 1) = ptAt own lv (i - 1) := by
  cases i with
  | zero => rfl
  | succ i =>
    rcases h with h | h
    · omega
    · exact ptAt_f h
set_option maxHeartbeats 4000000 in
theorem t94 (ps : List Pat) (w : List UInt8) (h : List AObj) (hok : okPats ps) (hw : w.length ≤ 1000000) : ACalls Tryd.prog 29 [patsV ps, .str w] h (.tup [intsV (pointsR ps w), .int .i64 (startE ps w)]) h := by
  have c119 := fun h => t119 ps w h hok (by omega)
  unfold pointsR
  by_cases g : startE ps w = 0
  case neg =>
    rw [if_neg g]
    refine acalls_of fn29d (by simp) ?_
    simp only [List.length_cons, List.length_nil, Nat.reduceAdd, Nat.reduceSub, List.replicate, List.cons_append, List.nil_append, List.append_nil]
    simp (disch := omega) only [c29d, go_sem, wrap64_id, Int.tdiv_eq_ediv_of_nonneg, Int.tmod_eq_emod_of_nonneg]
    repeat' first
      | ((first | refine callA_pure (c119 _) ?_ ?_); (next => repeat' first | exact flags_n | refine flags_c (by first | rfl | assumption) ?_); simp (disch := omega) only [g, go_sem, wrap64_id, Int.tdiv_eq_ediv_of_nonneg, Int.tmod_eq_emod_of_nonneg])
      | ((first | refine callG_pure (fun e => ⟨?_, c119 _⟩) ?_); (next => repeat' first | exact flags_n | refine flags_c (by first | rfl | assumption) ?_); simp (disch := omega) only [g, go_sem, wrap64_id, Int.tdiv_eq_ediv_of_nonneg, Int.tmod_eq_emod_of_nonneg])
      | ((first | refine fnQ_pure1 ?_ ?_ | refine fnQ_pure0 ?_ ?_); (next => repeat' first | exact rvs_n | refine rvs_t ?_ | (simp [go_sem]; done)); simp only [go_sem]; (first | exact VLe.refl _ | refine VLe_int ?_ | refine VLe_bool ?_ | refine VLe_str ?_ | skip))
      | (with_reducible refine And.intro ?_ ?_)
      | with_reducible intro _
    all_goals first
      | omega
      | (rename_i hx; revert hx; simp; done)
      | (simp; done)
      | skip
    exact VLe_tup ⟨VLe_nl, VLe.refl _, trivial⟩
  obtain ⟨g1, g2⟩ := startE_zero g
  rw [if_pos g]
  rw [g] at c119 ⊢
  have hw0 := word_pos g2
  have c120 := fun h => t120 ps w h hok hw (by rw [clus_fold_len]; exact hw0) g1
  have c71 := fun h => t71 w h (by omega)
  have hll := levelsOf_len ps w
  have hcl := clus_len w
  have hof := fun i => offN_le (clus w) i
  rw [clus_join] at hof
  obtain ⟨lv, hlv⟩ : ∃ x, x = levelsOf ps w := ⟨_, rfl⟩
  obtain ⟨own, hown⟩ : ∃ x, x = clus w := ⟨_, rfl⟩
  rw [← hlv] at c120 hll ⊢
  rw [← hown] at c71 hll hcl hof hw0 ⊢
  refine acalls_of fn29d (by simp) ?_
  simp only [List.length_cons, List.length_nil, Nat.reduceAdd, Nat.reduceSub, List.replicate, List.cons_append, List.nil_append, List.append_nil]
  simp (disch := omega) only [c29d, go_sem, wrap64_id, Int.tdiv_eq_ediv_of_nonneg, Int.tmod_eq_emod_of_nonneg]
  repeat' first
    | ((first | refine callA_pure (c119 _) ?_ ?_ | refine callA_pure (c120 _) ?_ ?_ | refine callA_pure (c71 _) ?_ ?_); (next => repeat' first | exact flags_n | refine flags_c (by first | rfl | assumption) ?_); simp (disch := omega) only [go_sem, wrap64_id, Int.tdiv_eq_ediv_of_nonneg, Int.tmod_eq_emod_of_nonneg])
    | ((first | refine callG_pure (fun e => ⟨?_, c119 _⟩) ?_ | refine callG_pure (fun e => ⟨?_, c120 _⟩) ?_ | refine callG_pure (fun e => ⟨?_, c71 _⟩) ?_); (next => repeat' first | exact flags_n | refine flags_c (by first | rfl | assumption) ?_); simp (disch := omega) only [go_sem, wrap64_id, Int.tdiv_eq_ediv_of_nonneg, Int.tmod_eq_emod_of_nonneg])
    | ((first | refine fnQ_pure1 ?_ ?_ | refine fnQ_pure0 ?_ ?_); (next => repeat' first | exact rvs_n | refine rvs_t ?_ | (simp [go_sem]; done)); simp only [go_sem]; (first | exact VLe.refl _ | refine VLe_int ?_ | refine VLe_bool ?_ | refine VLe_str ?_ | skip))
    | (with_reducible refine And.intro ?_ ?_)
    | with_reducible intro _
  all_goals first
    | omega
    | (rename_i hx; revert hx; simp; done)
    | (simp; done)
    | skip
  refine loop_of (T := fun i : Nat × Nat × AObj => spar 59 [(7, strs own), (8, intsV lv), (9, .osl (h.length + 1) i.2.1 1 0 (ptAt own lv (i.1 - 1)).length), (10, .int .i64 (offN own i.1)), (11, .int .i64 i.1)])
    (H := fun i => h ++ [.emp 1, ownO i.2.1 3 (intsC (ptAt own lv (i.1 - 1))), i.2.2, .emp 0])
    (inv := fun i => i.1 ≤ own.length ∧ site [i.2.2] 0 = true) (m := fun i => own.length - i.1) (0, 1, .emp 0) ⟨by simp, rfl⟩ (Wk.temps ?_) ?_
  · (simp only [offN_zero, spar, List.foldl, List.replicate, go_sem, VLes_nil, VLes_cons, VLe_undef_iff, VLe_self]; try (repeat' first | (with_reducible refine And.intro ?_ ?_) | (refine VLe_int ?_; omega) | (refine VLe_bool ?_; rfl) | exact VLe.refl _))
  rintro ⟨i, v, O1⟩ ⟨i1, i2⟩ K hK
  simp only at i1 i2 hK
  have i2' : ∀ m, site (O1 :: m) 0 = true := fun _ => i2
  have q1 := ptIdx_le own.length lv (i - 1)
  have q2 := ptAt_len own lv (i - 1)
  have e1 := intsC_len (ptAt own lv (i - 1))
  have f1 : List.take (ptAt own lv (i - 1)).length (intsC (ptAt own lv (i - 1))) = intsC (ptAt own lv (i - 1)) := List.take_of_length_le (by omega)
  by_cases hi : i < own.length
  · have ho := offN_succ (own := own) (i := i) hi
    have hle := hof (i + 1)
    have hoi : (offN own i : Int) + ((own.getD i []).length : Int) = ((offN own (i + 1) : Nat) : Int) := by omega
    have hx : ((i : Int) - 1).toNat = i - 1 := by omega
    by_cases hb : 1 ≤ i ∧ hitP own.length lv (i - 1) = true
    · obtain ⟨hb0, hb⟩ := hb
      have r1 := ptAt_t hb
      rw [show i - 1 + 1 = i by omega] at r1
      unfold hitP at hb
      simp only [Bool.and_eq_true, decide_eq_true_eq] at hb
      have k1 : ((lv.getD (i - 1) 0).tmod 2 = 1) = True := eq_true hb.1
      have k2 : (2 ≤ (i : Int)) = True := eq_true (by omega)
      have k3 : ((i : Int) ≤ (own.length : Int) - 2) = True := eq_true (by omega)
      simp (disch := omega) only [spar, List.foldl, List.replicate, strs, intsV, i2', k1, k2, k3, madeA1, e1, f1, hx, go_sem, wrap64_id, Int.tdiv_eq_ediv_of_nonneg, Int.tmod_eq_emod_of_nonneg]
      repeat' first
        | ((first | refine fnQ_pure1 ?_ ?_ | refine fnQ_pure0 ?_ ?_); (next => repeat' first | exact rvs_n | refine rvs_t ?_ | (simp [go_sem]; done)); simp only [go_sem]; (first | exact VLe.refl _ | refine VLe_int ?_ | refine VLe_bool ?_ | refine VLe_str ?_ | skip))
        | (with_reducible refine And.intro ?_ ?_)
        | with_reducible intro _
      all_goals first
        | omega
        | (rename_i hx; revert hx; simp; done)
        | (simp; done)
        | skip
      have l1 : (ptAt own lv (i - 1)).length + 1 = (ptAt own lv (i + 1 - 1)).length := by rw [Nat.add_sub_cancel, r1]; simp
      have l2 : intsC (ptAt own lv (i - 1)) ++ [.int .i64 (offN own i : Nat)] = intsC (ptAt own lv (i + 1 - 1)) := by rw [← intsC_snoc, Nat.add_sub_cancel, r1]
      rw [hoi, l1, l2]
      refine hK _ _ (i + 1, v + 1, .mem (verOf (some O1) + 1) 3 [.int .i64 (offN own i : Nat)]) ⟨by simp only; omega, rfl⟩ (by simp only; omega) (Wk.temps ?_)
      (simp only [strs, intsV, spar, List.foldl, List.replicate, go_sem, VLes_nil, VLes_cons, VLe_undef_iff, VLe_self]; try (repeat' first | (with_reducible refine And.intro ?_ ?_) | (refine VLe_int ?_; omega) | (refine VLe_bool ?_; rfl) | exact VLe.refl _))
    · have r1 := atS own lv (i := i) (by
        by_cases h0 : i = 0
        · exact .inl h0
        · right
          cases hc : hitP own.length lv (i - 1) with
          | false => rfl
          | true => exact absurd ⟨by omega, hc⟩ hb)
      simp (disch := omega) only [spar, List.foldl, List.replicate, strs, intsV, i2', madeA1, e1, f1, hx, go_sem, wrap64_id, Int.tdiv_eq_ediv_of_nonneg, Int.tmod_eq_emod_of_nonneg]
      repeat' first
        | ((first | refine fnQ_pure1 ?_ ?_ | refine fnQ_pure0 ?_ ?_); (next => repeat' first | exact rvs_n | refine rvs_t ?_ | (simp [go_sem]; done)); simp only [go_sem]; (first | exact VLe.refl _ | refine VLe_int ?_ | refine VLe_bool ?_ | refine VLe_str ?_ | skip))
        | (with_reducible refine And.intro ?_ ?_)
        | with_reducible intro _
      all_goals first
        | omega
        | (rename_i hx; revert hx; simp; done)
        | (simp; done)
        | skip
      · rename_i hx
        exfalso
        refine hb ⟨by omega, ?_⟩
        unfold hitP
        simp only [Bool.and_eq_true, decide_eq_true_eq]
        exact ⟨hx.2, by omega, by omega⟩
      · rw [hoi, ← r1]
        refine hK _ _ (i + 1, v, O1) ⟨by simp only; omega, i2⟩ (by simp only; omega) (Wk.temps ?_)
        (simp only [strs, intsV, spar, List.foldl, List.replicate, go_sem, VLes_nil, VLes_cons, VLe_undef_iff, VLe_self]; try (repeat' first | (with_reducible refine And.intro ?_ ?_) | (refine VLe_int ?_; omega) | (refine VLe_bool ?_; rfl) | exact VLe.refl _))
  · have e : i = own.length := by omega
    subst e
    simp (disch := omega) only [spar, List.foldl, List.replicate, strs, intsV, go_sem, wrap64_id, Int.tdiv_eq_ediv_of_nonneg, Int.tmod_eq_emod_of_nonneg]
    repeat' first
      | ((first | refine fnQ_pure1 ?_ ?_ | refine fnQ_pure0 ?_ ?_); (next => repeat' first | exact rvs_n | refine rvs_t ?_ | (simp [go_sem]; done)); simp only [go_sem]; (first | exact VLe.refl _ | refine VLe_int ?_ | refine VLe_bool ?_ | refine VLe_str ?_ | skip))
      | (with_reducible refine And.intro ?_ ?_)
      | with_reducible intro _
    all_goals first
      | omega
      | (rename_i hx; revert hx; simp; done)
      | (simp; done)
      | skip
    exact VLe_tup ⟨slOf_ints, VLe.refl _, trivial⟩
end HY

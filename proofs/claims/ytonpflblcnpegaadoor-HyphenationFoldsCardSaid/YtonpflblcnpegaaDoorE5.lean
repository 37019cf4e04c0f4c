import Derived.Test.YtonpflblcnpegaaDoorE4
set_option linter.all false
set_option linter.unusedSimpArgs false
set_option linter.unusedVariables false
set_option linter.unusedSectionVars false
open Go Go.Proofs AF HY
namespace HY
set_option maxRecDepth 100000
/-- The check, character by character. -/
theorem clusO_bad {s : List UInt8} : ∀ (k : Nat) {f i : Nat}, s.length - i = k → inClus s f i → i ≤ s.length → badHead ((s.drop f).take (i - f)) = badHead [ch s f] →
    ((clusO f ((s.drop f).take (i - f)) (s.drop i)).map (·.2)).any badHead = (badHead [ch s f] || (List.range' i (s.length - i)).any (badAt s)) := by
  intro k
  induction k with
  | zero =>
    intro f i hk hc hi hb
    have e : i = s.length := by omega
    subst e
    rw [List.drop_length, Nat.sub_self]
    simp [clusO, hb]
  | succ k ih =>
    intro f i hk hc hi hb
    have hi' : i < s.length := by omega
    rw [clus_step hc.1 hi']
    rw [show s.length - i = (s.length - (i + 1)) + 1 by omega, List.range'_succ, List.any_cons]
    have hr := inClus_right hc
    by_cases hg : kind (ch s i) = 2 ∧ kind (ch s f) = 1
    · rw [if_pos hg]
      have hrt : rightAt s i = true := by rw [hr]; simp [hg]
      have hb2 : badHead ((s.drop f).take (i + 1 - f)) = badHead [ch s f] := by
        rw [← hb]
        unfold badHead
        have e : ch ((s.drop f).take (i + 1 - f)) 0 = ch ((s.drop f).take (i - f)) 0 := by
          have := hc.1
          simp [ch, List.getD_eq_getElem?_getD, List.getElem?_take, show 0 < i - f by omega, show 0 < i + 1 - f by omega]
        rw [e]
      rw [ih (by omega) (inClus_go hc hrt) hi' hb2]
      have : badAt s i = false := by unfold badAt; rw [hrt, hg.1]; rfl
      rw [this, Bool.false_or]
    · rw [if_neg hg]
      have hrf : rightAt s i = false := by
        rw [hr]
        cases h2 : decide (kind (ch s i) = 2) <;> cases h3 : decide (kind (ch s f) = 1) <;> simp_all
      simp only [List.map_cons, List.any_cons, hb]
      have h1 : (s.drop i).take (i + 1 - i) = [ch s i] := one_at s hi'
      rw [ih (by omega) (inClus_new hc hrf) hi' (by rw [h1])]
      have : badAt s i = badHead [ch s i] := by unfold badAt badHead; rw [hrf]; simp [ch]
      rw [this]
theorem clus_bad (s : List UInt8) : (clus s).any badHead = (List.range s.length).any (badAt s) := by
  cases hs : s with
  | nil => rfl
  | cons c r =>
    rw [← hs]
    have h0 : 0 < s.length := by rw [hs]; simp
    have hd := done_first h0
    have h1 : (s.drop 0).take (1 - 0) = [ch s 0] := one_at s h0
    have := clusO_bad (s := s) _ rfl hd.1 h0 (by rw [h1])
    rw [← List.nil_append ((clusO 0 ((s.drop 0).take (1 - 0)) (s.drop 1)).map (·.2)), ← hd.2.2] at this
    rw [this, List.range_eq_range', show s.length = (s.length - 1) + 1 by omega, List.range'_succ, List.any_cons]
    have : badAt s 0 = badHead [ch s 0] := by unfold badAt badHead; simp [rightAt, ch]
    rw [this]; simp
theorem checkC_eq (s : List UInt8) : checkC s = if 65536 < s.length then 4 else if (List.range s.length).any (badAt s) = true then 11 else 0 := by unfold checkC; rw [clus_bad]
theorem any_range_true {p : Nat → Bool} {n i : Nat} (hi : i < n) (h : p i = true) : (List.range n).any p = true := List.any_eq_true.2 ⟨i, by simpa using hi, h⟩
theorem any_range_false {p : Nat → Bool} {n : Nat} (h : ∀ i, i < n → p i = false) : (List.range n).any p = false := by
  rw [List.any_eq_false]
  intro i hi
  simp at hi
  rw [h i hi]; simp
theorem t118 (s : List UInt8) (h : List AObj) (hs : s.length ≤ 1000000000) : ACalls Tryd.prog 91 [.str s] h (.int .i64 (checkC s)) h := by
  rw [checkC_eq]
  by_cases hl : 65536 < s.length
  · have hl' : (65536 < (s.length : Int)) = True := eq_true (by omega)
    rw [if_pos hl]
    refine acalls_of fn91d (by simp) ?_
    simp only [List.length_cons, List.length_nil, Nat.reduceAdd, Nat.reduceSub, List.replicate, List.cons_append, List.nil_append, List.append_nil]
    simp (disch := omega) only [c91d, hl', go_sem, wrap64_id, Int.tdiv_eq_ediv_of_nonneg, Int.tmod_eq_emod_of_nonneg]
    repeat' first
      | ((first | refine fnQ_pure1 ?_ ?_ | refine fnQ_pure0 ?_ ?_); (next => repeat' first | exact rvs_n | refine rvs_t ?_ | (simp [go_sem]; done)); simp only [go_sem]; (first | exact VLe.refl _ | refine VLe_int ?_ | refine VLe_bool ?_ | refine VLe_str ?_ | skip))
      | (with_reducible refine And.intro ?_ ?_)
      | with_reducible intro _
    all_goals first
      | omega
      | (rename_i hx; revert hx; simp; done)
      | (simp; done)
      | skip
  · have hl' : (65536 < (s.length : Int)) = False := eq_false (by omega)
    rw [if_neg hl]
    refine acalls_of fn91d (by simp) ?_
    simp only [List.length_cons, List.length_nil, Nat.reduceAdd, Nat.reduceSub, List.replicate, List.cons_append, List.nil_append, List.append_nil]
    simp (disch := omega) only [c91d, hl', go_sem, wrap64_id, Int.tdiv_eq_ediv_of_nonneg, Int.tmod_eq_emod_of_nonneg]
    repeat' first
      | ((first | refine callA_pure (t95 s _ hs) ?_ ?_); (next => repeat' first | exact flags_n | refine flags_c (by first | rfl | assumption) ?_); simp (disch := omega) only [hl', bools, go_sem, wrap64_id, Int.tdiv_eq_ediv_of_nonneg, Int.tmod_eq_emod_of_nonneg])
      | ((first | refine callG_pure (fun e => ⟨?_, t95 s _ hs⟩) ?_); (next => repeat' first | exact flags_n | refine flags_c (by first | rfl | assumption) ?_); simp (disch := omega) only [hl', bools, go_sem, wrap64_id, Int.tdiv_eq_ediv_of_nonneg, Int.tmod_eq_emod_of_nonneg])
      | ((first | refine fnQ_pure1 ?_ ?_ | refine fnQ_pure0 ?_ ?_); (next => repeat' first | exact rvs_n | refine rvs_t ?_ | (simp [go_sem]; done)); simp only [go_sem]; (first | exact VLe.refl _ | refine VLe_int ?_ | refine VLe_bool ?_ | refine VLe_str ?_ | skip))
      | (with_reducible refine And.intro ?_ ?_)
      | with_reducible intro _
    all_goals first
      | omega
      | (rename_i hx; revert hx; simp; done)
      | (simp; done)
      | skip
    refine loop_of (T := fun i : Nat => spar 34 [(0, .str s), (3, bools (rightL s)), (4, .int .i64 i)]) (H := fun _ => h) (inv := fun i => i ≤ s.length ∧ ∀ j, j < i → badAt s j = false) (m := fun i => s.length - i) 0 ⟨by omega, by omega⟩ (Wk.temps ?_) ?_
    · (simp only [bools, spar, List.foldl, List.replicate, go_sem, VLes_nil, VLes_cons, VLe_undef_iff, VLe_self]; try (repeat' first | (with_reducible refine And.intro ?_ ?_) | (refine VLe_int ?_; omega) | (refine VLe_bool ?_; rfl) | exact VLe.refl _))
    · rintro i ⟨i1, i2⟩ K hK
      have hrl : (rightL s).length = s.length := by simp [rightL]
      by_cases hi : i < s.length
      · have hg := rightL_get hi
        by_cases hb : badAt s i = true
        · rw [if_pos (any_range_true hi hb)]
          unfold badAt at hb
          simp (disch := omega) only [spar, List.foldl, List.replicate, bools, hrl, hg, ch_eq, go_sem, wrap64_id, Int.tdiv_eq_ediv_of_nonneg, Int.tmod_eq_emod_of_nonneg]
          repeat' first
            | ((first | refine callA_pure (t117b _ _) ?_ ?_); (next => repeat' first | exact flags_n | refine flags_c (by first | rfl | assumption) ?_); simp (disch := omega) only [bools, hrl, hg, ch_eq, go_sem, wrap64_id, Int.tdiv_eq_ediv_of_nonneg, Int.tmod_eq_emod_of_nonneg])
            | ((first | refine callG_pure (fun e => ⟨?_, t117b _ _⟩) ?_); (next => repeat' first | exact flags_n | refine flags_c (by first | rfl | assumption) ?_); simp (disch := omega) only [bools, hrl, hg, ch_eq, go_sem, wrap64_id, Int.tdiv_eq_ediv_of_nonneg, Int.tmod_eq_emod_of_nonneg])
            | ((first | refine fnQ_pure1 ?_ ?_ | refine fnQ_pure0 ?_ ?_); (next => repeat' first | exact rvs_n | refine rvs_t ?_ | (simp [go_sem]; done)); simp only [go_sem]; (first | exact VLe.refl _ | refine VLe_int ?_ | refine VLe_bool ?_ | refine VLe_str ?_ | skip))
            | (with_reducible refine And.intro ?_ ?_)
            | with_reducible intro _
          all_goals first
            | omega
            | (rename_i hx; revert hx; simp; done)
            | (simp; done)
            | skip
          all_goals
            refine hK _ _ (i + 1) ⟨by omega, ?_⟩ (by omega) (Wk.temps ?_)
            · exfalso; grind
            · (simp only [bools, hrl, spar, List.foldl, List.replicate, go_sem, VLes_nil, VLes_cons, VLe_undef_iff, VLe_self]; try (repeat' first | (with_reducible refine And.intro ?_ ?_) | (refine VLe_int ?_; omega) | (refine VLe_bool ?_; rfl) | exact VLe.refl _))
        · have hb' : badAt s i = false := by simpa using hb
          unfold badAt at hb
          simp (disch := omega) only [spar, List.foldl, List.replicate, bools, hrl, hg, ch_eq, go_sem, wrap64_id, Int.tdiv_eq_ediv_of_nonneg, Int.tmod_eq_emod_of_nonneg]
          repeat' first
            | ((first | refine callA_pure (t117b _ _) ?_ ?_); (next => repeat' first | exact flags_n | refine flags_c (by first | rfl | assumption) ?_); simp (disch := omega) only [bools, hrl, hg, ch_eq, go_sem, wrap64_id, Int.tdiv_eq_ediv_of_nonneg, Int.tmod_eq_emod_of_nonneg])
            | ((first | refine callG_pure (fun e => ⟨?_, t117b _ _⟩) ?_); (next => repeat' first | exact flags_n | refine flags_c (by first | rfl | assumption) ?_); simp (disch := omega) only [bools, hrl, hg, ch_eq, go_sem, wrap64_id, Int.tdiv_eq_ediv_of_nonneg, Int.tmod_eq_emod_of_nonneg])
            | ((first | refine fnQ_pure1 ?_ ?_ | refine fnQ_pure0 ?_ ?_); (next => repeat' first | exact rvs_n | refine rvs_t ?_ | (simp [go_sem]; done)); simp only [go_sem]; (first | exact VLe.refl _ | refine VLe_int ?_ | refine VLe_bool ?_ | refine VLe_str ?_ | skip))
            | (with_reducible refine And.intro ?_ ?_)
            | with_reducible intro _
          all_goals first
            | omega
            | (rename_i hx; revert hx; simp; done)
            | (simp; done)
            | skip
          all_goals first
            | (exfalso; grind)
            | skip
          all_goals
            refine hK _ _ (i + 1) ⟨by omega, fun j hj => ?_⟩ (by omega) (Wk.temps ?_)
            · by_cases e : j = i
              · subst e; exact hb'
              · exact i2 j (by omega)
            · (simp only [bools, hrl, spar, List.foldl, List.replicate, go_sem, VLes_nil, VLes_cons, VLe_undef_iff, VLe_self]; try (repeat' first | (with_reducible refine And.intro ?_ ?_) | (refine VLe_int ?_; omega) | (refine VLe_bool ?_; rfl) | exact VLe.refl _))
      · have e : i = s.length := by omega
        subst e
        rw [any_range_false i2]
        simp (disch := omega) only [spar, List.foldl, List.replicate, go_sem, wrap64_id, Int.tdiv_eq_ediv_of_nonneg, Int.tmod_eq_emod_of_nonneg]
        repeat' first
          | ((first | refine fnQ_pure1 ?_ ?_ | refine fnQ_pure0 ?_ ?_); (next => repeat' first | exact rvs_n | refine rvs_t ?_ | (simp [go_sem]; done)); simp only [go_sem]; (first | exact VLe.refl _ | refine VLe_int ?_ | refine VLe_bool ?_ | refine VLe_str ?_ | skip))
          | (with_reducible refine And.intro ?_ ?_)
          | with_reducible intro _
        all_goals first
          | omega
          | (rename_i hx; revert hx; simp; done)
          | (simp; done)
          | skip
end HY

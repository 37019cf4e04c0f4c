import Derived.Test.YtonpflblcnpegaaDoorE19
set_option linter.all false
set_option linter.unusedSimpArgs false
set_option linter.unusedVariables false
set_option linter.unusedSectionVars false
open Go Go.Proofs AF HY
namespace HY
set_option maxRecDepth 100000
theorem strC_range (A : List (List UInt8)) : (List.range A.length).flatMap (fun i => [AV.str (A.getD i [])]) = strC A := by
  rw [← List.map_eq_flatMap]
  unfold strC
  apply List.ext_getElem
  · simp
  · intro i h1 h2
    simp at h1
    simp [List.getD_eq_getElem?_getD, h1]
theorem strC_get {L : List (List UInt8)} {i : Nat} (hi : i < L.length) : (strC L)[i]? = some (.str (L.getD i [])) := by simp [strC, List.getD_eq_getElem?_getD, hi]
def same (pat l : List (List UInt8)) (a k : Nat) : Bool := (List.range k).all fun i => decide (l.getD (a + i) [] = pat.getD i [])
theorem same_zero (pat l : List (List UInt8)) (a : Nat) : same pat l a 0 = true := rfl
theorem same_succ (pat l : List (List UInt8)) (a k : Nat) : same pat l a (k + 1) = (same pat l a k && decide (l.getD (a + k) [] = pat.getD k [])) := by
  unfold same; rw [List.range_succ, List.all_append]; simp
theorem same_all (pat l : List (List UInt8)) (a : Nat) : same pat l a pat.length = matchAt pat l a := rfl
def ob120 (l : List (List UInt8)) (all : List Int) : List AObj := [.emp 1, .mem 3 9 (strC l), .emp 0, .mem 1 9 [.str [46]], .emp 0, .mem 1 3 (intsC all)]
theorem foldl_filter_t {f : List Int → Nat → List Int} {p : Nat → Bool} {i : Nat} {a : List Int} (h : p i = true) : ((List.range (i + 1)).filter p).foldl f a = f (((List.range i).filter p).foldl f a) i := by
  rw [filter_succ_t h, List.foldl_append]; rfl
set_option maxHeartbeats 8000000 in
theorem t120 (ps : List Pat) (w : List UInt8) (h : List AObj) (hok : okPats ps) (hw : w.length ≤ 1000000) (hw0 : 0 < (clus (fold w)).length) (hwf : wfPats ps) : ACalls Tryd.prog 58 [patsV ps, .str w] h (intsV (levelsOf ps w)) h := by
  have hcl := clus_len (fold w)
  rw [fold_len] at hcl
  obtain ⟨A, hA⟩ : ∃ A, A = clus (fold w) := ⟨_, rfl⟩
  have c132 := fun h => t132 w h (by omega)
  have c71 : ∀ h, ACalls Tryd.prog 53 [.str (fold w)] h (strs A) h := fun h => by rw [hA]; exact t71 _ h (by rw [fold_len]; omega)
  have hul : (unitsOf w).length = 1 + A.length + 1 := by rw [hA]; simp [unitsOf]; omega
  obtain ⟨l, hl⟩ : ∃ l, l = unitsOf w := ⟨_, rfl⟩
  have hll : strC l = [.str [46]] ++ strC A ++ [.str [46]] := by rw [hl, hA]; simp [unitsOf, strC]
  unfold levelsOf
  rw [← hl] at hul ⊢
  rw [← hA] at hw0 hcl
  obtain ⟨hpl, hp⟩ := hok
  have hN : 1 + A.length + 1 = l.length := by omega
  have hz2 : ((l.length : Int) + 1).toNat = l.length + 1 := by omega
  have eA := strC_len A
  have el := strC_len l
  have eT : List.take (1 + A.length) (AV.str [46] :: strC A) = AV.str [46] :: strC A := List.take_of_length_le (by simp [eA]; omega)
  have hll' : AV.str [46] :: strC A ++ [AV.str [46]] = strC l := hll.symm
  have hll2 : AV.str [46] :: (strC A ++ [AV.str [46]]) = strC l := hll.symm
  refine acalls_of fn58d (by simp) ?_
  simp only [List.length_cons, List.length_nil, Nat.reduceAdd, Nat.reduceSub, List.replicate, List.cons_append, List.nil_append, List.append_nil]
  simp (disch := omega) only [c58d, patsV, strs, madeA1, strC_range, eA, eT, hN, hz2, madeA_ints, hll', hll2, go_sem, wrap64_id, Int.tdiv_eq_ediv_of_nonneg, Int.tmod_eq_emod_of_nonneg]
  repeat' first
    | ((first | refine callA_pure (c132 _) ?_ ?_ | refine callA_pure (c71 _) ?_ ?_); (next => repeat' first | exact flags_n | refine flags_c (by first | rfl | assumption) ?_); simp (disch := omega) only [patsV, strs, madeA1, strC_range, eA, eT, hN, hz2, madeA_ints, hll', hll2, go_sem, wrap64_id, Int.tdiv_eq_ediv_of_nonneg, Int.tmod_eq_emod_of_nonneg])
    | ((first | refine callG_pure (fun e => ⟨?_, c132 _⟩) ?_ | refine callG_pure (fun e => ⟨?_, c71 _⟩) ?_); (next => repeat' first | exact flags_n | refine flags_c (by first | rfl | assumption) ?_); simp (disch := omega) only [patsV, strs, madeA1, strC_range, eA, eT, hN, hz2, madeA_ints, hll', hll2, go_sem, wrap64_id, Int.tdiv_eq_ediv_of_nonneg, Int.tmod_eq_emod_of_nonneg])
    | ((first | refine fnQ_pure1 ?_ ?_ | refine fnQ_pure0 ?_ ?_); (next => repeat' first | exact rvs_n | refine rvs_t ?_ | (simp [go_sem]; done)); simp only [go_sem]; (first | exact VLe.refl _ | refine VLe_int ?_ | refine VLe_bool ?_ | refine VLe_str ?_ | skip))
    | (with_reducible refine And.intro ?_ ?_)
    | with_reducible intro _
  all_goals first
    | omega
    | (rename_i hx; revert hx; simp; done)
    | (simp; done)
    | skip
  refine loop_of (T := fun i : Nat × List Int => spar 100 [(0, patsV ps), (5, .osl (h.length + 1) 3 1 0 l.length), (6, .osl (h.length + 5) 1 1 0 (l.length + 1)), (7, .int .i64 i.1)]) (H := fun i => h ++ ob120 l i.2)
    (inv := fun i => i.1 ≤ ps.length ∧ i.2.length = l.length + 1 ∧ allLevels ps l = (ps.drop i.1).foldl (addPat l) i.2) (m := fun i => ps.length - i.1) (0, List.replicate (l.length + 1) 0) ⟨by simp, by simp, by simp [allLevels]⟩ (Wk.temps ?_) ?_
  · (simp only [strs, patsV, spar, List.foldl, List.replicate, go_sem, VLes_nil, VLes_cons, VLe_undef_iff, VLe_self]; try (repeat' first | (with_reducible refine And.intro ?_ ?_) | (refine VLe_int ?_; omega) | (refine VLe_bool ?_; rfl) | exact VLe.refl _))
  rintro ⟨i, all⟩ ⟨i1, i2, i3⟩ K hK
  simp only at i1 i2 i3 hK
  by_cases hi : i < ps.length
  · obtain ⟨b1, b2⟩ := hp i hi
    have hwp := hwf i hi
    rw [drop_pat hi, List.foldl_cons] at i3
    obtain ⟨p, hpp⟩ : ∃ p, p = ps.getD i default := ⟨_, rfl⟩
    have epp := hpp.symm
    rw [← hpp] at i3 b1 b2 hwp
    obtain ⟨pat, hpat⟩ : ∃ pat, pat = clus (fold p.letters) := ⟨_, rfl⟩
    have c132p := fun h => t132 p.letters h b1
    have c71p : ∀ h, ACalls Tryd.prog 53 [.str (fold p.letters)] h (strs pat) h := fun h => by rw [hpat]; exact t71 _ h (by rw [fold_len]; exact b1)
    have hpl2 := clus_len (fold p.letters)
    rw [fold_len] at hpl2
    rw [← hpat] at hwp hpl2
    obtain ⟨M, hM⟩ : ∃ M, M = l.length + 1 - pat.length := ⟨_, rfl⟩
    have hap : addPat l all p = ((List.range M).filter (matchAt pat l)).foldl (fun a i => addAt a i p.levels) all := by unfold addPat positions; rw [← hpat, hM]
    simp (disch := omega) only [spar, List.foldl, List.replicate, patsV, patC, epp, ob120, strs, go_sem, wrap64_id, Int.tdiv_eq_ediv_of_nonneg, Int.tmod_eq_emod_of_nonneg]
    repeat' first
      | ((first | refine callA_pure (c132p _) ?_ ?_ | refine callA_pure (c71p _) ?_ ?_); (next => repeat' first | exact flags_n | refine flags_c (by first | rfl | assumption) ?_); simp (disch := omega) only [patsV, patC, epp, ob120, strs, go_sem, wrap64_id, Int.tdiv_eq_ediv_of_nonneg, Int.tmod_eq_emod_of_nonneg])
      | ((first | refine callG_pure (fun e => ⟨?_, c132p _⟩) ?_ | refine callG_pure (fun e => ⟨?_, c71p _⟩) ?_); (next => repeat' first | exact flags_n | refine flags_c (by first | rfl | assumption) ?_); simp (disch := omega) only [patsV, patC, epp, ob120, strs, go_sem, wrap64_id, Int.tdiv_eq_ediv_of_nonneg, Int.tmod_eq_emod_of_nonneg])
      | ((first | refine fnQ_pure1 ?_ ?_ | refine fnQ_pure0 ?_ ?_); (next => repeat' first | exact rvs_n | refine rvs_t ?_ | (simp [go_sem]; done)); simp only [go_sem]; (first | exact VLe.refl _ | refine VLe_int ?_ | refine VLe_bool ?_ | refine VLe_str ?_ | skip))
      | (with_reducible refine And.intro ?_ ?_)
      | with_reducible intro _
    all_goals first
      | omega
      | (rename_i hx; revert hx; simp; done)
      | (simp; done)
      | skip
    refine loop_of (T := fun j : Nat × List Int => spar 100 [(0, patsV ps), (5, .osl (h.length + 1) 3 1 0 l.length), (6, .osl (h.length + 5) 1 1 0 (l.length + 1)), (7, .int .i64 i), (8, strs pat), (9, .int .i64 j.1)]) (H := fun j => h ++ ob120 l j.2)
      (inv := fun j => j.1 ≤ M ∧ j.2.length = l.length + 1 ∧ j.2 = ((List.range j.1).filter (matchAt pat l)).foldl (fun a i => addAt a i p.levels) all) (m := fun j => M - j.1) (0, all) ⟨by simp, i2, by simp⟩ (Wk.temps ?_) ?_
    · (simp only [strs, patsV, patC, spar, List.foldl, List.replicate, go_sem, VLes_nil, VLes_cons, VLe_undef_iff, VLe_self]; try (repeat' first | (with_reducible refine And.intro ?_ ?_) | (refine VLe_int ?_; omega) | (refine VLe_bool ?_; rfl) | exact VLe.refl _))
    rintro ⟨a, al⟩ ⟨j1, j2, j3⟩ K2 hK2
    simp only at j1 j2 j3 hK2
    by_cases hj : a < M
    · have k0 : ((a : Int) + (pat.length : Int) ≤ (l.length : Int)) = True := eq_true (by omega)
      simp (disch := omega) only [spar, List.foldl, List.replicate, strs, patsV, patC, epp, ob120, k0, go_sem, wrap64_id, Int.tdiv_eq_ediv_of_nonneg, Int.tmod_eq_emod_of_nonneg]
      repeat' first
        | ((first | refine fnQ_pure1 ?_ ?_ | refine fnQ_pure0 ?_ ?_); (next => repeat' first | exact rvs_n | refine rvs_t ?_ | (simp [go_sem]; done)); simp only [go_sem]; (first | exact VLe.refl _ | refine VLe_int ?_ | refine VLe_bool ?_ | refine VLe_str ?_ | skip))
        | (with_reducible refine And.intro ?_ ?_)
        | with_reducible intro _
      all_goals first
        | omega
        | (rename_i hx; revert hx; simp; done)
        | (simp; done)
        | skip
      refine loop_of (T := fun k : Nat => spar 100 [(0, patsV ps), (5, .osl (h.length + 1) 3 1 0 l.length), (6, .osl (h.length + 5) 1 1 0 (l.length + 1)), (7, .int .i64 i), (8, strs pat), (9, .int .i64 a), (10, .bool (same pat l a k)), (11, .int .i64 k)]) (H := fun k => h ++ ob120 l al)
        (inv := fun k => k ≤ pat.length) (m := fun k => pat.length - k) 0 (by simp) (Wk.temps ?_) ?_
      · (simp only [strs, patsV, patC, same_zero, spar, List.foldl, List.replicate, go_sem, VLes_nil, VLes_cons, VLe_undef_iff, VLe_self]; try (repeat' first | (with_reducible refine And.intro ?_ ?_) | (refine VLe_int ?_; omega) | (refine VLe_bool ?_; rfl) | exact VLe.refl _))
      rintro k k1 K3 hK3
      by_cases hk : k < pat.length
      · have hg := strC_get (L := l) (i := a + k) (by omega)
        have hx : ((a : Int) + (k : Int)).toNat = a + k := by omega
        have hsu := same_succ pat l a k
        cases hs : same pat l a k with
        | false =>
          rw [hs, Bool.false_and] at hsu
          simp (disch := omega) only [spar, List.foldl, List.replicate, strs, patsV, patC, epp, ob120, hg, hx, el, go_sem, wrap64_id, Int.tdiv_eq_ediv_of_nonneg, Int.tmod_eq_emod_of_nonneg]
          repeat' first
            | ((first | refine fnQ_pure1 ?_ ?_ | refine fnQ_pure0 ?_ ?_); (next => repeat' first | exact rvs_n | refine rvs_t ?_ | (simp [go_sem]; done)); simp only [go_sem]; (first | exact VLe.refl _ | refine VLe_int ?_ | refine VLe_bool ?_ | refine VLe_str ?_ | skip))
            | (with_reducible refine And.intro ?_ ?_)
            | with_reducible intro _
          all_goals first
            | omega
            | (rename_i hx; revert hx; simp; done)
            | (simp; done)
            | skip
          refine hK3 _ _ (k + 1) (by omega) (by omega) (Wk.temps ?_)
          rw [hsu]
          (simp only [strs, patsV, patC, spar, List.foldl, List.replicate, go_sem, VLes_nil, VLes_cons, VLe_undef_iff, VLe_self]; try (repeat' first | (with_reducible refine And.intro ?_ ?_) | (refine VLe_int ?_; omega) | (refine VLe_bool ?_; rfl) | exact VLe.refl _))
        | true =>
          rw [hs, Bool.true_and] at hsu
          simp (disch := omega) only [spar, List.foldl, List.replicate, strs, patsV, patC, epp, ob120, hg, hx, el, go_sem, wrap64_id, Int.tdiv_eq_ediv_of_nonneg, Int.tmod_eq_emod_of_nonneg]
          repeat' first
            | ((first | refine fnQ_pure1 ?_ ?_ | refine fnQ_pure0 ?_ ?_); (next => repeat' first | exact rvs_n | refine rvs_t ?_ | (simp [go_sem]; done)); simp only [go_sem]; (first | exact VLe.refl _ | refine VLe_int ?_ | refine VLe_bool ?_ | refine VLe_str ?_ | skip))
            | (with_reducible refine And.intro ?_ ?_)
            | with_reducible intro _
          all_goals first
            | omega
            | (rename_i hx; revert hx; simp; done)
            | (simp; done)
            | skip
          refine hK3 _ _ (k + 1) (by omega) (by omega) (Wk.temps ?_)
          rw [hsu]
          (simp only [strs, patsV, patC, spar, List.foldl, List.replicate, go_sem, VLes_nil, VLes_cons, VLe_undef_iff, VLe_self]; try (repeat' first | (with_reducible refine And.intro ?_ ?_) | (refine VLe_int ?_; omega) | (refine VLe_bool ?_; rfl) | exact VLe.refl _))
          exact VLe_bool (decide_eq_decide.2 eq_comm)
      · have e : k = pat.length := by omega
        subst e
        rw [same_all]
        cases hb : matchAt pat l a with
        | false =>
          simp (disch := omega) only [spar, List.foldl, List.replicate, strs, patsV, patC, epp, ob120, go_sem, wrap64_id, Int.tdiv_eq_ediv_of_nonneg, Int.tmod_eq_emod_of_nonneg]
          repeat' first
            | ((first | refine fnQ_pure1 ?_ ?_ | refine fnQ_pure0 ?_ ?_); (next => repeat' first | exact rvs_n | refine rvs_t ?_ | (simp [go_sem]; done)); simp only [go_sem]; (first | exact VLe.refl _ | refine VLe_int ?_ | refine VLe_bool ?_ | refine VLe_str ?_ | skip))
            | (with_reducible refine And.intro ?_ ?_)
            | with_reducible intro _
          all_goals first
            | omega
            | (rename_i hx; revert hx; simp; done)
            | (simp; done)
            | skip
          refine loop_of (T := fun k : Nat => spar 100 [(0, patsV ps), (5, .osl (h.length + 1) 3 1 0 l.length), (6, .osl (h.length + 5) 1 1 0 (l.length + 1)), (7, .int .i64 i), (8, strs pat), (9, .int .i64 a), (10, .bool false), (12, .int .i64 k)]) (H := fun k => h ++ ob120 l al)
            (inv := fun k => True) (m := fun k => k) 0 trivial (Wk.temps ?_) ?_
          · (simp only [strs, patsV, patC, spar, List.foldl, List.replicate, go_sem, VLes_nil, VLes_cons, VLe_undef_iff, VLe_self]; try (repeat' first | (with_reducible refine And.intro ?_ ?_) | (refine VLe_int ?_; omega) | (refine VLe_bool ?_; rfl) | exact VLe.refl _))
          rintro k - K3 hK3
          simp (disch := omega) only [spar, List.foldl, List.replicate, strs, patsV, patC, epp, ob120, go_sem, wrap64_id, Int.tdiv_eq_ediv_of_nonneg, Int.tmod_eq_emod_of_nonneg]
          repeat' first
            | ((first | refine fnQ_pure1 ?_ ?_ | refine fnQ_pure0 ?_ ?_); (next => repeat' first | exact rvs_n | refine rvs_t ?_ | (simp [go_sem]; done)); simp only [go_sem]; (first | exact VLe.refl _ | refine VLe_int ?_ | refine VLe_bool ?_ | refine VLe_str ?_ | skip))
            | (with_reducible refine And.intro ?_ ?_)
            | with_reducible intro _
          all_goals first
            | omega
            | (rename_i hx; revert hx; simp; done)
            | (simp; done)
            | skip
          refine hK2 _ _ (a + 1, al) ⟨by simp only; omega, j2, by simp only; rw [filter_succ_f hb]; exact j3⟩ (by simp only; omega) (Wk.temps ?_)
          (simp only [strs, patsV, patC, spar, List.foldl, List.replicate, go_sem, VLes_nil, VLes_cons, VLe_undef_iff, VLe_self]; try (repeat' first | (with_reducible refine And.intro ?_ ?_) | (refine VLe_int ?_; omega) | (refine VLe_bool ?_; rfl) | exact VLe.refl _))
        | true =>
          simp (disch := omega) only [spar, List.foldl, List.replicate, strs, patsV, patC, epp, ob120, go_sem, wrap64_id, Int.tdiv_eq_ediv_of_nonneg, Int.tmod_eq_emod_of_nonneg]
          repeat' first
            | ((first | refine fnQ_pure1 ?_ ?_ | refine fnQ_pure0 ?_ ?_); (next => repeat' first | exact rvs_n | refine rvs_t ?_ | (simp [go_sem]; done)); simp only [go_sem]; (first | exact VLe.refl _ | refine VLe_int ?_ | refine VLe_bool ?_ | refine VLe_str ?_ | skip))
            | (with_reducible refine And.intro ?_ ?_)
            | with_reducible intro _
          all_goals first
            | omega
            | (rename_i hx; revert hx; simp; done)
            | (simp; done)
            | skip
          refine loop_of (T := fun k : Nat × List Int => spar 100 [(0, patsV ps), (5, .osl (h.length + 1) 3 1 0 l.length), (6, .osl (h.length + 5) 1 1 0 (l.length + 1)), (7, .int .i64 i), (8, strs pat), (9, .int .i64 a), (10, .bool true), (12, .int .i64 k.1)]) (H := fun k => h ++ ob120 l k.2)
            (inv := fun k => k.1 ≤ p.levels.length ∧ k.2.length = l.length + 1 ∧ addAt al a p.levels = addAt k.2 (a + k.1) (p.levels.drop k.1)) (m := fun k => p.levels.length - k.1) (0, al) ⟨by simp, j2, by simp⟩ (Wk.temps ?_) ?_
          · (simp only [strs, patsV, patC, spar, List.foldl, List.replicate, go_sem, VLes_nil, VLes_cons, VLe_undef_iff, VLe_self]; try (repeat' first | (with_reducible refine And.intro ?_ ?_) | (refine VLe_int ?_; omega) | (refine VLe_bool ?_; rfl) | exact VLe.refl _))
          rintro ⟨k, al2⟩ ⟨q1, q2, q3⟩ K3 hK3
          simp only at q1 q2 q3 hK3
          have hilen := intsC_len al2
          by_cases hk : k < p.levels.length
          · have e : p.levels.drop k = p.levels.getD k 0 :: p.levels.drop (k + 1) := by rw [List.drop_eq_getElem_cons hk]; simp [List.getD_eq_getElem?_getD, hk]
            rw [e] at q3
            simp only [addAt] at q3
            have k4 : ((k : Int) ≤ (pat.length : Int)) = True := eq_true (by omega)
            have hx : ((a : Int) + (k : Int)).toNat = a + k := by omega
            have hg := intsC_get (all := al2) (a := a + k) (by omega)
            have hst := intsC_set al2 (max (al2.getD (a + k) 0) (p.levels.getD k 0)) (a := a + k) (by omega)
            simp (disch := omega) only [spar, List.foldl, List.replicate, strs, patsV, patC, epp, ob120, intsV, k4, hx, hg, hilen, go_sem, wrap64_id, Int.tdiv_eq_ediv_of_nonneg, Int.tmod_eq_emod_of_nonneg]
            repeat' first
              | ((first | refine fnQ_pure1 ?_ ?_ | refine fnQ_pure0 ?_ ?_); (next => repeat' first | exact rvs_n | refine rvs_t ?_ | (simp [go_sem]; done)); simp only [go_sem]; (first | exact VLe.refl _ | refine VLe_int ?_ | refine VLe_bool ?_ | refine VLe_str ?_ | skip))
              | (with_reducible refine And.intro ?_ ?_)
              | with_reducible intro _
            all_goals first
              | omega
              | (rename_i hx; revert hx; simp; done)
              | (simp; done)
              | skip
            rw [hst]
            refine hK3 _ _ (k + 1, al2.set (a + k) (max (al2.getD (a + k) 0) (p.levels.getD k 0))) ⟨by simp only; omega, by simp only [List.length_set]; exact q2, by rw [q3]; rfl⟩ (by simp only; omega) (Wk.temps ?_)
            (simp only [strs, patsV, patC, intsV, spar, List.foldl, List.replicate, go_sem, VLes_nil, VLes_cons, VLe_undef_iff, VLe_self]; try (repeat' first | (with_reducible refine And.intro ?_ ?_) | (refine VLe_int ?_; omega) | (refine VLe_bool ?_; rfl) | exact VLe.refl _))
          · have e : k = p.levels.length := by omega
            have k4 : ((k : Int) ≤ (pat.length : Int)) = False := eq_false (by omega)
            have q4 : addAt al a p.levels = al2 := by rw [q3, e, List.drop_length]; rfl
            simp (disch := omega) only [spar, List.foldl, List.replicate, strs, patsV, patC, epp, ob120, intsV, k4, go_sem, wrap64_id, Int.tdiv_eq_ediv_of_nonneg, Int.tmod_eq_emod_of_nonneg]
            repeat' first
              | ((first | refine fnQ_pure1 ?_ ?_ | refine fnQ_pure0 ?_ ?_); (next => repeat' first | exact rvs_n | refine rvs_t ?_ | (simp [go_sem]; done)); simp only [go_sem]; (first | exact VLe.refl _ | refine VLe_int ?_ | refine VLe_bool ?_ | refine VLe_str ?_ | skip))
              | (with_reducible refine And.intro ?_ ?_)
              | with_reducible intro _
            all_goals first
              | omega
              | (rename_i hx; revert hx; simp; done)
              | (simp; done)
              | skip
            refine hK2 _ _ (a + 1, al2) ⟨by simp only; omega, q2, by simp only; rw [foldl_filter_t hb, ← j3, q4]⟩ (by simp only; omega) (Wk.temps ?_)
            (simp only [strs, patsV, patC, spar, List.foldl, List.replicate, go_sem, VLes_nil, VLes_cons, VLe_undef_iff, VLe_self]; try (repeat' first | (with_reducible refine And.intro ?_ ?_) | (refine VLe_int ?_; omega) | (refine VLe_bool ?_; rfl) | exact VLe.refl _))
    · have e : a = M := by omega
      subst e
      have k0 : ((a : Int) + (pat.length : Int) ≤ (l.length : Int)) = False := eq_false (by omega)
      rw [← hap] at j3
      subst j3
      simp (disch := omega) only [spar, List.foldl, List.replicate, strs, patsV, patC, epp, ob120, k0, go_sem, wrap64_id, Int.tdiv_eq_ediv_of_nonneg, Int.tmod_eq_emod_of_nonneg]
      repeat' first
        | ((first | refine fnQ_pure1 ?_ ?_ | refine fnQ_pure0 ?_ ?_); (next => repeat' first | exact rvs_n | refine rvs_t ?_ | (simp [go_sem]; done)); simp only [go_sem]; (first | exact VLe.refl _ | refine VLe_int ?_ | refine VLe_bool ?_ | refine VLe_str ?_ | skip))
        | (with_reducible refine And.intro ?_ ?_)
        | with_reducible intro _
      all_goals first
        | omega
        | (rename_i hx; revert hx; simp; done)
        | (simp; done)
        | skip
      refine hK _ _ (i + 1, addPat l all p) ⟨by simp only; omega, j2, i3⟩ (by simp only; omega) (Wk.temps ?_)
      (simp only [strs, patsV, patC, spar, List.foldl, List.replicate, go_sem, VLes_nil, VLes_cons, VLe_undef_iff, VLe_self]; try (repeat' first | (with_reducible refine And.intro ?_ ?_) | (refine VLe_int ?_; omega) | (refine VLe_bool ?_; rfl) | exact VLe.refl _))
  · have e : i = ps.length := by omega
    subst e
    rw [List.drop_length, List.foldl_nil] at i3
    have hlen := intsC_len all
    have hx1 : ((l.length : Int) - 1).toNat - (2 : Int).toNat = l.length - 1 - 2 := by omega
    simp (disch := omega) only [spar, List.foldl, List.replicate, strs, patsV, patC, ob120, hx1, hlen, go_sem, wrap64_id, Int.tdiv_eq_ediv_of_nonneg, Int.tmod_eq_emod_of_nonneg]
    repeat' first
      | ((first | refine fnQ_pure1 ?_ ?_ | refine fnQ_pure0 ?_ ?_); (next => repeat' first | exact rvs_n | refine rvs_t ?_ | (simp [go_sem]; done)); simp only [go_sem]; (first | exact VLe.refl _ | refine VLe_int ?_ | refine VLe_bool ?_ | refine VLe_str ?_ | skip))
      | (with_reducible refine And.intro ?_ ?_)
      | with_reducible intro _
    all_goals first
      | omega
      | (rename_i hx; revert hx; simp; done)
      | (simp; done)
      | skip
    rw [i3, if_pos (by rw [hlen, i2, show Int.toNat 2 = 2 from rfl]; omega)]
    exact intsV_mid (by rw [i2]; omega)
end HY

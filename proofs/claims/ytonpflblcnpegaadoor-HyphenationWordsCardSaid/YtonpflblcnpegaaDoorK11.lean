import Derived.Test.YtonpflblcnpegaaDoorK10
set_option linter.all false
set_option linter.unusedSimpArgs false
set_option linter.unusedVariables false
set_option linter.unusedSectionVars false
section
open Go Go.Proofs AF HY
namespace HY
set_option maxRecDepth 100000
theorem newS_again {n : Nat} {lv : List Int} {i : Nat} (h : hitP n lv (i - 1) = true) : (newS n lv (i + 1)).set (i + 1) (lv.getD (i - 1) 0 + 1) = newS n lv (i + 1) := by
  rw [newS_t h, List.set_set]
def midS (n : Nat) (lv AT : List Int) (o : Int) (i k : Nat) : List Int := if o ∈ AT.take k then newS n lv (i + 1) else newS n lv i
theorem midS_len (n : Nat) (lv AT : List Int) (o : Int) (i k : Nat) : (midS n lv AT o i k).length = n + 3 := by unfold midS; split <;> exact newS_len _ _ _
theorem take_mem_succ {AT : List Int} {o : Int} {k : Nat} (hk : k < AT.length) : o ∈ AT.take (k + 1) ↔ (o ∈ AT.take k ∨ AT.getD k 0 = o) := by
  rw [List.take_add_one, List.getElem?_eq_getElem hk, List.mem_append, List.getD_eq_getElem?_getD, List.getElem?_eq_getElem hk]
  simp [eq_comm]
set_option maxHeartbeats 16000000 in
theorem v33 (p : List Pat) (w : List UInt8) (h : List AObj) (hok : okPats p) (hw : w.length ≤ 100000) : ACalls Tryd.prog 33 [patsV p, .str w] h (.tup [patsV (withoutR p w), .int .i64 (withoutE p w)]) h := by
  have c29 := fun h => t94 p w h hok (by omega)
  by_cases g : startE p w = 0
  case neg =>
    obtain ⟨e1, e2⟩ := we_bad g
    rw [e1, e2]
    have k0 : (startE p w = 0) = False := eq_false g
    refine acalls_of fn33y (by simp) ?_
    simp only [List.length_cons, List.length_nil, Nat.reduceAdd, Nat.reduceSub, List.replicate, List.cons_append, List.nil_append, List.append_nil]
    simp (disch := omega) only [c33y, k0, go_sem, wrap64_id, Int.tdiv_eq_ediv_of_nonneg, Int.tmod_eq_emod_of_nonneg]
    repeat' first
      | ((first | refine callA_pure (c29 _) ?_ ?_); (next => repeat' first | exact flags_n | refine flags_c (by first | rfl | assumption) ?_); simp (disch := omega) only [k0, go_sem, wrap64_id, Int.tdiv_eq_ediv_of_nonneg, Int.tmod_eq_emod_of_nonneg])
      | ((first | refine callU_of (fun _ => c29 _) ?_ ?_); (next => repeat' first | exact flags_n | refine flags_c (by first | rfl | assumption) ?_); simp (disch := omega) only [k0, go_sem, wrap64_id, Int.tdiv_eq_ediv_of_nonneg, Int.tmod_eq_emod_of_nonneg])
      | ((first | refine callG_pure (fun e => ⟨?_, c29 _⟩) ?_); (next => repeat' first | exact flags_n | refine flags_c (by first | rfl | assumption) ?_); simp (disch := omega) only [k0, go_sem, wrap64_id, Int.tdiv_eq_ediv_of_nonneg, Int.tmod_eq_emod_of_nonneg])
      | ((first | refine fnQ_pure1 ?_ ?_ | refine fnQ_pure0 ?_ ?_); (next => repeat' first | exact rvs_n | refine rvs_t ?_ | (simp [go_sem]; done)); simp only [go_sem]; (first | exact VLe.refl _ | refine VLe_int ?_ | refine VLe_bool ?_ | refine VLe_str ?_ | skip))
      | (with_reducible refine And.intro ?_ ?_)
      | with_reducible intro _
    all_goals first
      | omega
      | (rename_i hx; revert hx; simp; done)
      | (simp; done)
      | skip
    exact VLe_tup ⟨VLe_nl, VLe.refl _, trivial⟩
  rw [g] at c29
  obtain ⟨g1, g2⟩ := startE_zero g
  have hpts : pointsR p w = ptAt (clus w) (levelsOf p w) ((clus w).length - 1) := by unfold pointsR; rw [if_pos g]
  have hlp := points_len p w
  have hp1 := hok.1
  by_cases h0 : pointsR p w = []
  · obtain ⟨e1, e2⟩ := we_none g h0
    rw [e1, e2]
    rw [h0] at c29
    have kL : ((([] : List Int).length : Int) = 0) = True := eq_true rfl
    refine acalls_of fn33y (by simp) ?_
    simp only [List.length_cons, List.length_nil, Nat.reduceAdd, Nat.reduceSub, List.replicate, List.cons_append, List.nil_append, List.append_nil]
    simp (disch := omega) only [c33y, intsV, go_sem, wrap64_id, Int.tdiv_eq_ediv_of_nonneg, Int.tmod_eq_emod_of_nonneg]
    repeat' first
      | ((first | refine callA_pure (c29 _) ?_ ?_); (next => repeat' first | exact flags_n | refine flags_c (by first | rfl | assumption) ?_); simp (disch := omega) only [intsV, kL, go_sem, wrap64_id, Int.tdiv_eq_ediv_of_nonneg, Int.tmod_eq_emod_of_nonneg])
      | ((first | refine callU_of (fun _ => c29 _) ?_ ?_); (next => repeat' first | exact flags_n | refine flags_c (by first | rfl | assumption) ?_); simp (disch := omega) only [intsV, kL, go_sem, wrap64_id, Int.tdiv_eq_ediv_of_nonneg, Int.tmod_eq_emod_of_nonneg])
      | ((first | refine callG_pure (fun e => ⟨?_, c29 _⟩) ?_); (next => repeat' first | exact flags_n | refine flags_c (by first | rfl | assumption) ?_); simp (disch := omega) only [intsV, kL, go_sem, wrap64_id, Int.tdiv_eq_ediv_of_nonneg, Int.tmod_eq_emod_of_nonneg])
      | ((first | refine fnQ_pure1 ?_ ?_ | refine fnQ_pure0 ?_ ?_); (next => repeat' first | exact rvs_n | refine rvs_t ?_ | (simp [go_sem]; done)); simp only [go_sem]; (first | exact VLe.refl _ | refine VLe_int ?_ | refine VLe_bool ?_ | refine VLe_str ?_ | skip))
      | (with_reducible refine And.intro ?_ ?_)
      | with_reducible intro _
    all_goals first
      | omega
      | (rename_i hx; revert hx; simp; done)
      | (simp; done)
      | skip
  have hl0 : (pointsR p w).length ≠ 0 := fun e => h0 (List.eq_nil_of_length_eq_zero e)
  have kL : (((pointsR p w).length : Int) = 0) = False := eq_false (by omega)
  have c64 := fun b h => v64 b h
  cases hd : w.any dg with
  | true =>
    obtain ⟨e1, e2⟩ := we_dig g h0 hd
    rw [e1, e2]
    refine acalls_of fn33y (by simp) ?_
    simp only [List.length_cons, List.length_nil, Nat.reduceAdd, Nat.reduceSub, List.replicate, List.cons_append, List.nil_append, List.append_nil]
    simp (disch := omega) only [c33y, intsV, go_sem, wrap64_id, Int.tdiv_eq_ediv_of_nonneg, Int.tmod_eq_emod_of_nonneg]
    repeat' first
      | ((first | refine callA_pure (c29 _) ?_ ?_); (next => repeat' first | exact flags_n | refine flags_c (by first | rfl | assumption) ?_); simp (disch := omega) only [intsV, kL, go_sem, wrap64_id, Int.tdiv_eq_ediv_of_nonneg, Int.tmod_eq_emod_of_nonneg])
      | ((first | refine callU_of (fun _ => c29 _) ?_ ?_); (next => repeat' first | exact flags_n | refine flags_c (by first | rfl | assumption) ?_); simp (disch := omega) only [intsV, kL, go_sem, wrap64_id, Int.tdiv_eq_ediv_of_nonneg, Int.tmod_eq_emod_of_nonneg])
      | ((first | refine callG_pure (fun e => ⟨?_, c29 _⟩) ?_); (next => repeat' first | exact flags_n | refine flags_c (by first | rfl | assumption) ?_); simp (disch := omega) only [intsV, kL, go_sem, wrap64_id, Int.tdiv_eq_ediv_of_nonneg, Int.tmod_eq_emod_of_nonneg])
      | ((first | refine fnQ_pure1 ?_ ?_ | refine fnQ_pure0 ?_ ?_); (next => repeat' first | exact rvs_n | refine rvs_t ?_ | (simp [go_sem]; done)); simp only [go_sem]; (first | exact VLe.refl _ | refine VLe_int ?_ | refine VLe_bool ?_ | refine VLe_str ?_ | skip))
      | (with_reducible refine And.intro ?_ ?_)
      | with_reducible intro _
    all_goals first
      | omega
      | (rename_i hx; revert hx; simp; done)
      | (simp; done)
      | skip
    refine loop_of (T := fun i : Nat => spar 117 [(0, patsV p), (1, .str w), (6, intsV (pointsR p w)), (8, .int .i64 i)]) (H := fun i => h ++ [.emp 1, .emp 0, .emp 0, .emp 0, .emp 0, .emp 0, .emp 0])
      (inv := fun i => i ≤ w.length ∧ ∀ j, j < i → dg (w.getD j 0) = false) (m := fun i => w.length - i) 0 ⟨by omega, by omega⟩ (Wk.temps ?_) ?_
    · (simp only [intsV, spar, List.foldl, List.replicate, go_sem, VLes_nil, VLes_cons, VLe_undef_iff, VLe_self]; try (repeat' first | (with_reducible refine And.intro ?_ ?_) | (refine VLe_int ?_; omega) | (refine VLe_bool ?_; rfl) | exact VLe.refl _))
    rintro i ⟨i1, i2⟩ K hK
    by_cases hi : i < w.length
    · have c64i := fun h => c64 (w.getD i 0) h
      cases hb : dg (w.getD i 0) with
      | true =>
        rw [hb] at c64i
        simp (disch := omega) only [spar, List.foldl, List.replicate, go_sem, wrap64_id, Int.tdiv_eq_ediv_of_nonneg, Int.tmod_eq_emod_of_nonneg]
        repeat' first
          | ((first | refine callA_pure (c64i _) ?_ ?_); (next => repeat' first | exact flags_n | refine flags_c (by first | rfl | assumption) ?_); simp (disch := omega) only [go_sem, wrap64_id, Int.tdiv_eq_ediv_of_nonneg, Int.tmod_eq_emod_of_nonneg])
          | ((first | refine callU_of (fun _ => c64i _) ?_ ?_); (next => repeat' first | exact flags_n | refine flags_c (by first | rfl | assumption) ?_); simp (disch := omega) only [go_sem, wrap64_id, Int.tdiv_eq_ediv_of_nonneg, Int.tmod_eq_emod_of_nonneg])
          | ((first | refine callG_pure (fun e => ⟨?_, c64i _⟩) ?_); (next => repeat' first | exact flags_n | refine flags_c (by first | rfl | assumption) ?_); simp (disch := omega) only [go_sem, wrap64_id, Int.tdiv_eq_ediv_of_nonneg, Int.tmod_eq_emod_of_nonneg])
          | ((first | refine fnQ_pure1 ?_ ?_ | refine fnQ_pure0 ?_ ?_); (next => repeat' first | exact rvs_n | refine rvs_t ?_ | (simp [go_sem]; done)); simp only [go_sem]; (first | exact VLe.refl _ | refine VLe_int ?_ | refine VLe_bool ?_ | refine VLe_str ?_ | skip))
          | (with_reducible refine And.intro ?_ ?_)
          | with_reducible intro _
        all_goals first
          | omega
          | (rename_i hx; revert hx; simp; done)
          | (simp; done)
          | skip
        exact VLe_tup ⟨VLe_nl, VLe.refl _, trivial⟩
      | false =>
        rw [hb] at c64i
        simp (disch := omega) only [spar, List.foldl, List.replicate, go_sem, wrap64_id, Int.tdiv_eq_ediv_of_nonneg, Int.tmod_eq_emod_of_nonneg]
        repeat' first
          | ((first | refine callA_pure (c64i _) ?_ ?_); (next => repeat' first | exact flags_n | refine flags_c (by first | rfl | assumption) ?_); simp (disch := omega) only [go_sem, wrap64_id, Int.tdiv_eq_ediv_of_nonneg, Int.tmod_eq_emod_of_nonneg])
          | ((first | refine callU_of (fun _ => c64i _) ?_ ?_); (next => repeat' first | exact flags_n | refine flags_c (by first | rfl | assumption) ?_); simp (disch := omega) only [go_sem, wrap64_id, Int.tdiv_eq_ediv_of_nonneg, Int.tmod_eq_emod_of_nonneg])
          | ((first | refine callG_pure (fun e => ⟨?_, c64i _⟩) ?_); (next => repeat' first | exact flags_n | refine flags_c (by first | rfl | assumption) ?_); simp (disch := omega) only [go_sem, wrap64_id, Int.tdiv_eq_ediv_of_nonneg, Int.tmod_eq_emod_of_nonneg])
          | ((first | refine fnQ_pure1 ?_ ?_ | refine fnQ_pure0 ?_ ?_); (next => repeat' first | exact rvs_n | refine rvs_t ?_ | (simp [go_sem]; done)); simp only [go_sem]; (first | exact VLe.refl _ | refine VLe_int ?_ | refine VLe_bool ?_ | refine VLe_str ?_ | skip))
          | (with_reducible refine And.intro ?_ ?_)
          | with_reducible intro _
        all_goals first
          | omega
          | (rename_i hx; revert hx; simp; done)
          | (simp; done)
          | skip
        refine hK _ _ (i + 1) ⟨by omega, fun j hj => ?_⟩ (by omega) (Wk.temps ?_)
        · by_cases e : j = i
          · subst e; exact hb
          · exact i2 j (by omega)
        · (simp only [intsV, spar, List.foldl, List.replicate, go_sem, VLes_nil, VLes_cons, VLe_undef_iff, VLe_self]; try (repeat' first | (with_reducible refine And.intro ?_ ?_) | (refine VLe_int ?_; omega) | (refine VLe_bool ?_; rfl) | exact VLe.refl _))
    · exfalso
      rw [List.any_eq_true] at hd
      obtain ⟨c, hc, hdc⟩ := hd
      obtain ⟨j, hj, e⟩ := List.mem_iff_getElem.1 hc
      have := i2 j (by omega)
      rw [List.getD_eq_getElem?_getD, List.getElem?_eq_getElem hj] at this
      simp only [Option.getD_some] at this
      rw [e, hdc] at this
      cases this
  | false =>
  have hnd : ∀ i, i < w.length → dg (w.getD i 0) = false := fun i hi => by
    rw [List.any_eq_false] at hd
    have := hd (w[i]) (List.getElem_mem hi)
    rw [List.getD_eq_getElem?_getD, List.getElem?_eq_getElem hi]
    simpa using this
  have hc0 : checkPats p = 0 := by
    unfold startE at g
    split at g
    · assumption
    · cases g
  have hbig := big_iff (w := w) hc0
  have hpne : p ≠ [] := by rintro rfl; exact h0 points_ne
  have hpl := List.length_pos_iff.2 hpne
  have c53 := fun h => t71 w h (by omega)
  have c58 := fun h => t120 p w h hok (by omega) (by rw [clus_fold_len]; exact word_pos g2) g1
  have c65 := fun h => t132 w h (by omega)
  have hcl := clus_len w
  have hfl := fold_len w
  have hne := @clus_ne w
  have hof := fun i => offN_le (clus w) i
  rw [clus_join] at hof
  have hat := fun (i : Nat) (hi : i ≤ (clus w).length) => at_iff hne (lv := levelsOf p w) (m := (clus w).length - 1) hi
  rw [← hpts] at hat
  have hll := levelsOf_len p w
  have hlr := lev_range (w := w) hc0
  have hw64 : w.length ≤ 64 := by
    unfold isWord at g2
    simp only [Bool.and_eq_true, decide_eq_true_eq] at g2
    exact g2.1.1.1.2
  have hp4 : p.length ≤ 4096 := by
    unfold checkPats at hc0
    split at hc0
    · cases hc0
    · omega
  have eP : newP p w = ⟨46 :: fold w ++ [46], newL (clus w).length (levelsOf p w)⟩ := rfl
  obtain ⟨AT, hAT⟩ : ∃ AT, AT = pointsR p w := ⟨_, rfl⟩
  obtain ⟨HI, hHI⟩ : ∃ HI, HI = highR p w := ⟨_, rfl⟩
  have hfin : withoutE p w = (if 62 < w.length ∨ 9 ∈ HI ∨ p.length = 4096 then 4 else 0) ∧ withoutR p w = (if 62 < w.length ∨ 9 ∈ HI ∨ p.length = 4096 then [] else p ++ [⟨46 :: fold w ++ [46], newL (clus w).length (levelsOf p w)⟩]) := by
    rw [hHI]
    by_cases hl : 62 < w.length ∨ 9 ∈ highR p w ∨ p.length = 4096
    · rw [if_pos hl, if_pos hl]; exact we_lim g h0 hd hl
    · rw [if_neg hl, if_neg hl, ← eP]; exact we_ok g h0 hd hl
  rw [hfin.1, hfin.2]
  clear hfin eP
  rw [← hHI] at hbig
  rw [← hAT] at c29 hlp hl0 kL hat
  obtain ⟨lv, hlv⟩ : ∃ lv, lv = levelsOf p w := ⟨_, rfl⟩
  rw [← hlv] at c58 hat hll hlr hbig ⊢
  obtain ⟨us, hus⟩ : ∃ us, us = clus w := ⟨_, rfl⟩
  rw [← hus] at c53 hcl hof hat hll hbig ⊢
  obtain ⟨F, hF⟩ : ∃ F, F = fold w := ⟨_, rfl⟩
  rw [← hF] at c65 hfl ⊢
  obtain ⟨n, hn⟩ : ∃ n, n = us.length := ⟨_, rfl⟩
  rw [← hn] at hat hcl hll hbig ⊢
  have e3 : ((n : Int) + 3).toNat = n + 3 := by omega
  have e4 : madeA [.int .i64 0] (n + 3) = intsC (newS n lv 0) := by rw [madeA_ints, newS_zero]
  have e5 : us.length = n := hn.symm
  refine acalls_of fn33y (by simp) ?_
  simp only [List.length_cons, List.length_nil, Nat.reduceAdd, Nat.reduceSub, List.replicate, List.cons_append, List.nil_append, List.append_nil]
  simp (disch := omega) only [c33y, intsV, go_sem, wrap64_id, Int.tdiv_eq_ediv_of_nonneg, Int.tmod_eq_emod_of_nonneg]
  repeat' first
    | ((first | refine callA_pure (c29 _) ?_ ?_); (next => repeat' first | exact flags_n | refine flags_c (by first | rfl | assumption) ?_); simp (disch := omega) only [intsV, kL, go_sem, wrap64_id, Int.tdiv_eq_ediv_of_nonneg, Int.tmod_eq_emod_of_nonneg])
    | ((first | refine callU_of (fun _ => c29 _) ?_ ?_); (next => repeat' first | exact flags_n | refine flags_c (by first | rfl | assumption) ?_); simp (disch := omega) only [intsV, kL, go_sem, wrap64_id, Int.tdiv_eq_ediv_of_nonneg, Int.tmod_eq_emod_of_nonneg])
    | ((first | refine callG_pure (fun e => ⟨?_, c29 _⟩) ?_); (next => repeat' first | exact flags_n | refine flags_c (by first | rfl | assumption) ?_); simp (disch := omega) only [intsV, kL, go_sem, wrap64_id, Int.tdiv_eq_ediv_of_nonneg, Int.tmod_eq_emod_of_nonneg])
    | ((first | refine fnQ_pure1 ?_ ?_ | refine fnQ_pure0 ?_ ?_); (next => repeat' first | exact rvs_n | refine rvs_t ?_ | (simp [go_sem]; done)); simp only [go_sem]; (first | exact VLe.refl _ | refine VLe_int ?_ | refine VLe_bool ?_ | refine VLe_str ?_ | skip))
    | (with_reducible refine And.intro ?_ ?_)
    | with_reducible intro _
  all_goals first
    | omega
    | (rename_i hx; revert hx; simp; done)
    | (simp; done)
    | skip
  refine loop_of (T := fun i : Nat => spar 117 [(0, patsV p), (1, .str w), (6, intsV AT), (8, .int .i64 i)]) (H := fun i => h ++ [.emp 1, .emp 0, .emp 0, .emp 0, .emp 0, .emp 0, .emp 0])
    (inv := fun i => i ≤ w.length) (m := fun i => w.length - i) 0 (by omega) (Wk.temps ?_) ?_
  · (simp only [intsV, spar, List.foldl, List.replicate, go_sem, VLes_nil, VLes_cons, VLe_undef_iff, VLe_self]; try (repeat' first | (with_reducible refine And.intro ?_ ?_) | (refine VLe_int ?_; omega) | (refine VLe_bool ?_; rfl) | exact VLe.refl _))
  rintro i i1 K hK
  by_cases hi : i < w.length
  · have c64i := fun h => c64 (w.getD i 0) h
    rw [hnd i hi] at c64i
    simp (disch := omega) only [spar, List.foldl, List.replicate, go_sem, wrap64_id, Int.tdiv_eq_ediv_of_nonneg, Int.tmod_eq_emod_of_nonneg]
    repeat' first
      | ((first | refine callA_pure (c64i _) ?_ ?_); (next => repeat' first | exact flags_n | refine flags_c (by first | rfl | assumption) ?_); simp (disch := omega) only [go_sem, wrap64_id, Int.tdiv_eq_ediv_of_nonneg, Int.tmod_eq_emod_of_nonneg])
      | ((first | refine callU_of (fun _ => c64i _) ?_ ?_); (next => repeat' first | exact flags_n | refine flags_c (by first | rfl | assumption) ?_); simp (disch := omega) only [go_sem, wrap64_id, Int.tdiv_eq_ediv_of_nonneg, Int.tmod_eq_emod_of_nonneg])
      | ((first | refine callG_pure (fun e => ⟨?_, c64i _⟩) ?_); (next => repeat' first | exact flags_n | refine flags_c (by first | rfl | assumption) ?_); simp (disch := omega) only [go_sem, wrap64_id, Int.tdiv_eq_ediv_of_nonneg, Int.tmod_eq_emod_of_nonneg])
      | ((first | refine fnQ_pure1 ?_ ?_ | refine fnQ_pure0 ?_ ?_); (next => repeat' first | exact rvs_n | refine rvs_t ?_ | (simp [go_sem]; done)); simp only [go_sem]; (first | exact VLe.refl _ | refine VLe_int ?_ | refine VLe_bool ?_ | refine VLe_str ?_ | skip))
      | (with_reducible refine And.intro ?_ ?_)
      | with_reducible intro _
    all_goals first
      | omega
      | (rename_i hx; revert hx; simp; done)
      | (simp; done)
      | skip
    refine hK _ _ (i + 1) (by omega) (by omega) (Wk.temps ?_)
    (simp only [intsV, spar, List.foldl, List.replicate, go_sem, VLes_nil, VLes_cons, VLe_undef_iff, VLe_self]; try (repeat' first | (with_reducible refine And.intro ?_ ?_) | (refine VLe_int ?_; omega) | (refine VLe_bool ?_; rfl) | exact VLe.refl _))
  have e : i = w.length := by omega
  subst e
  clear hK
  simp (disch := omega) only [spar, List.foldl, List.replicate, go_sem, wrap64_id, Int.tdiv_eq_ediv_of_nonneg, Int.tmod_eq_emod_of_nonneg]
  repeat' first
    | ((first | refine callA_pure (c53 _) ?_ ?_ | refine callA_pure (c58 _) ?_ ?_); (next => repeat' first | exact flags_n | refine flags_c (by first | rfl | assumption) ?_); simp (disch := omega) only [go_sem, wrap64_id, Int.tdiv_eq_ediv_of_nonneg, Int.tmod_eq_emod_of_nonneg])
    | ((first | refine callU_of (fun _ => c53 _) ?_ ?_ | refine callU_of (fun _ => c58 _) ?_ ?_); (next => repeat' first | exact flags_n | refine flags_c (by first | rfl | assumption) ?_); simp (disch := omega) only [go_sem, wrap64_id, Int.tdiv_eq_ediv_of_nonneg, Int.tmod_eq_emod_of_nonneg])
    | ((first | refine callG_pure (fun e => ⟨?_, c53 _⟩) ?_ | refine callG_pure (fun e => ⟨?_, c58 _⟩) ?_); (next => repeat' first | exact flags_n | refine flags_c (by first | rfl | assumption) ?_); simp (disch := omega) only [go_sem, wrap64_id, Int.tdiv_eq_ediv_of_nonneg, Int.tmod_eq_emod_of_nonneg])
    | ((first | refine fnQ_pure1 ?_ ?_ | refine fnQ_pure0 ?_ ?_); (next => repeat' first | exact rvs_n | refine rvs_t ?_ | (simp [go_sem]; done)); simp only [go_sem]; (first | exact VLe.refl _ | refine VLe_int ?_ | refine VLe_bool ?_ | refine VLe_str ?_ | skip))
    | (with_reducible refine And.intro ?_ ?_)
    | with_reducible intro _
  all_goals first
    | omega
    | (rename_i hx; revert hx; simp; done)
    | (simp; done)
    | skip
  refine draw_of ?T ?H ?h1 ?h2
  case h1 =>
    simp (disch := omega) only [strs, e5, e3, e4, go_sem, wrap64_id, Int.tdiv_eq_ediv_of_nonneg, Int.tmod_eq_emod_of_nonneg]
    repeat' first
      | ((first | refine callA_pure (c65 _) ?_ ?_); (next => repeat' first | exact flags_n | refine flags_c (by first | rfl | assumption) ?_); simp (disch := omega) only [strs, e5, e3, e4, go_sem, wrap64_id, Int.tdiv_eq_ediv_of_nonneg, Int.tmod_eq_emod_of_nonneg])
      | ((first | refine callU_of (fun _ => c65 _) ?_ ?_); (next => repeat' first | exact flags_n | refine flags_c (by first | rfl | assumption) ?_); simp (disch := omega) only [strs, e5, e3, e4, go_sem, wrap64_id, Int.tdiv_eq_ediv_of_nonneg, Int.tmod_eq_emod_of_nonneg])
      | ((first | refine callG_pure (fun e => ⟨?_, c65 _⟩) ?_); (next => repeat' first | exact flags_n | refine flags_c (by first | rfl | assumption) ?_); simp (disch := omega) only [strs, e5, e3, e4, go_sem, wrap64_id, Int.tdiv_eq_ediv_of_nonneg, Int.tmod_eq_emod_of_nonneg])
      | ((first | refine fnQ_pure1 ?_ ?_ | refine fnQ_pure0 ?_ ?_); (next => repeat' first | exact rvs_n | refine rvs_t ?_ | (simp [go_sem]; done)); simp only [go_sem]; (first | exact VLe.refl _ | refine VLe_int ?_ | refine VLe_bool ?_ | refine VLe_str ?_ | skip))
      | (with_reducible refine And.intro ?_ ?_)
      | with_reducible intro _
    all_goals first
      | omega
      | rfl
  case h2 =>
  simp (disch := omega) only [go_sem, wrap64_id, Int.tdiv_eq_ediv_of_nonneg, Int.tmod_eq_emod_of_nonneg]
  repeat' first
    | ((first | refine fnQ_pure1 ?_ ?_ | refine fnQ_pure0 ?_ ?_); (next => repeat' first | exact rvs_n | refine rvs_t ?_ | (simp [go_sem]; done)); simp only [go_sem]; (first | exact VLe.refl _ | refine VLe_int ?_ | refine VLe_bool ?_ | refine VLe_str ?_ | skip))
    | (with_reducible refine And.intro ?_ ?_)
    | with_reducible intro _
  all_goals first
    | omega
    | (rename_i hx; revert hx; simp; done)
    | (simp; done)
    | skip
  refine loop_of (T := fun i : Nat => spar 117 [(0, patsV p), (6, intsV AT), (9, strs us), (10, intsV lv), (11, .op (h.length + 2) 1 0), (12, .int .i64 (offN us i)), (13, .int .i64 i)])
    (H := fun i => h ++ [.emp 1, .mem 1 3 (intsC (newS n lv i)), .mem 1 32 [.str ([46] ++ F ++ [46]), .osl (h.length + 1) 1 1 0 (n + 3)], .emp 0, .emp 0, .emp 0, .emp 0])
    (inv := fun i => i ≤ n) (m := fun i => n - i) 0 (by omega) (Wk.temps ?_) ?_
  · (simp only [strs, intsV, offN_zero, e5, spar, List.foldl, List.replicate, go_sem, VLes_nil, VLes_cons, VLe_undef_iff, VLe_self]; try (repeat' first | (with_reducible refine And.intro ?_ ?_) | (refine VLe_int ?_; omega) | (refine VLe_bool ?_; rfl) | exact VLe.refl _))
  rintro i i1 K hK
  by_cases hi : i < n
  · have hs := offN_succ (own := us) (i := i) (by omega)
    have hle := hof (i + 1)
    obtain ⟨o, ho⟩ : ∃ o, o = offN us i := ⟨_, rfl⟩
    have hati := hat i (by omega)
    rw [← ho] at hs hati ⊢
    simp (disch := omega) only [spar, List.foldl, List.replicate, strs, e5, go_sem, wrap64_id, Int.tdiv_eq_ediv_of_nonneg, Int.tmod_eq_emod_of_nonneg]
    repeat' first
      | ((first | refine fnQ_pure1 ?_ ?_ | refine fnQ_pure0 ?_ ?_); (next => repeat' first | exact rvs_n | refine rvs_t ?_ | (simp [go_sem]; done)); simp only [go_sem]; (first | exact VLe.refl _ | refine VLe_int ?_ | refine VLe_bool ?_ | refine VLe_str ?_ | skip))
      | (with_reducible refine And.intro ?_ ?_)
      | with_reducible intro _
    all_goals first
      | omega
      | (rename_i hx; revert hx; simp; done)
      | (simp; done)
      | skip
    refine loop_of (T := fun k : Nat => spar 117 [(0, patsV p), (6, intsV AT), (9, strs us), (10, intsV lv), (11, .op (h.length + 2) 1 0), (12, .int .i64 o), (13, .int .i64 i), (14, .int .i64 k)])
      (H := fun k => h ++ [.emp 1, .mem 1 3 (intsC (midS n lv AT o i k)), .mem 1 32 [.str ([46] ++ F ++ [46]), .osl (h.length + 1) 1 1 0 (n + 3)], .emp 0, .emp 0, .emp 0, .emp 0])
      (inv := fun k => k ≤ AT.length) (m := fun k => AT.length - k) 0 (by omega) (Wk.temps ?_) ?_
    · (simp only [strs, intsV, e5, spar, List.foldl, List.replicate, go_sem, VLes_nil, VLes_cons, VLe_undef_iff, VLe_self]; try (repeat' first | (with_reducible refine And.intro ?_ ?_) | (refine VLe_int ?_; omega) | (refine VLe_bool ?_; rfl) | exact VLe.refl _))
    rintro k k1 K2 hK2
    have hml := midS_len n lv AT o i k
    have eM := intsC_len (midS n lv AT o i k)
    rw [hml] at eM
    by_cases hk : k < AT.length
    · have htm := take_mem_succ (o := (o : Int)) hk
      by_cases hx : AT.getD k 0 = (o : Int)
      · have hm : (o : Int) ∈ AT := by
          rw [← hx, List.getD_eq_getElem?_getD, List.getElem?_eq_getElem hk]
          exact List.getElem_mem hk
        have hb := (hati.1 hm).1
        obtain ⟨_, b2, b3⟩ := hit_pos hb
        have q1 : (AT.getD k 0 = (o : Int)) = True := eq_true hx
        have hst := intsC_set (midS n lv AT o i k) (a := i + 1) (lv.getD (i - 1) 0 + 1) (by omega)
        have hmn : (midS n lv AT o i k).set (i + 1) (lv.getD (i - 1) 0 + 1) = midS n lv AT o i (k + 1) := by
          have e6 : midS n lv AT o i (k + 1) = newS n lv (i + 1) := by unfold midS; rw [if_pos (htm.2 (.inr hx))]
          rw [e6]
          unfold midS
          split
          · exact newS_again hb
          · exact (newS_t hb).symm
        rw [hmn] at hst
        have hr := hlr (i - 1)
        have f1 : ((i : Int) + 1).toNat = i + 1 := by omega
        have f2 : ((i : Int) - 1).toNat = i - 1 := by omega
        simp (disch := omega) only [spar, List.foldl, List.replicate, intsV, q1, f1, f2, hst, go_sem, wrap64_id, Int.tdiv_eq_ediv_of_nonneg, Int.tmod_eq_emod_of_nonneg]
        repeat' first
          | ((first | refine fnQ_pure1 ?_ ?_ | refine fnQ_pure0 ?_ ?_); (next => repeat' first | exact rvs_n | refine rvs_t ?_ | (simp [go_sem]; done)); simp only [go_sem]; (first | exact VLe.refl _ | refine VLe_int ?_ | refine VLe_bool ?_ | refine VLe_str ?_ | skip))
          | (with_reducible refine And.intro ?_ ?_)
          | with_reducible intro _
        all_goals first
          | omega
          | (rename_i hx; revert hx; simp; done)
          | (simp; done)
          | skip
        refine hK2 _ _ (k + 1) (by omega) (by omega) (Wk.temps ?_)
        (simp only [strs, intsV, e5, spar, List.foldl, List.replicate, go_sem, VLes_nil, VLes_cons, VLe_undef_iff, VLe_self]; try (repeat' first | (with_reducible refine And.intro ?_ ?_) | (refine VLe_int ?_; omega) | (refine VLe_bool ?_; rfl) | exact VLe.refl _))
      · have q1 : (AT.getD k 0 = (o : Int)) = False := eq_false hx
        have hmn : midS n lv AT o i k = midS n lv AT o i (k + 1) := by
          unfold midS
          by_cases hc : (o : Int) ∈ AT.take k
          · rw [if_pos hc, if_pos (htm.2 (.inl hc))]
          · rw [if_neg hc, if_neg (fun hc2 => (htm.1 hc2).elim hc hx)]
        simp (disch := omega) only [spar, List.foldl, List.replicate, intsV, q1, go_sem, wrap64_id, Int.tdiv_eq_ediv_of_nonneg, Int.tmod_eq_emod_of_nonneg]
        repeat' first
          | ((first | refine fnQ_pure1 ?_ ?_ | refine fnQ_pure0 ?_ ?_); (next => repeat' first | exact rvs_n | refine rvs_t ?_ | (simp [go_sem]; done)); simp only [go_sem]; (first | exact VLe.refl _ | refine VLe_int ?_ | refine VLe_bool ?_ | refine VLe_str ?_ | skip))
          | (with_reducible refine And.intro ?_ ?_)
          | with_reducible intro _
        all_goals first
          | omega
          | (rename_i hx; revert hx; simp; done)
          | (simp; done)
          | skip
        rw [hmn]
        refine hK2 _ _ (k + 1) (by omega) (by omega) (Wk.temps ?_)
        (simp only [strs, intsV, e5, spar, List.foldl, List.replicate, go_sem, VLes_nil, VLes_cons, VLe_undef_iff, VLe_self]; try (repeat' first | (with_reducible refine And.intro ?_ ?_) | (refine VLe_int ?_; omega) | (refine VLe_bool ?_; rfl) | exact VLe.refl _))
    · have e : k = AT.length := by omega
      subst e
      have hmn : midS n lv AT o i AT.length = newS n lv (i + 1) := by
        unfold midS
        rw [List.take_length]
        split
        · rfl
        · rename_i hc
          have : hitP n lv (i - 1) = false := by
            rw [Bool.eq_false_iff]
            intro hb
            obtain ⟨_, b2, b3⟩ := hit_pos hb
            exact hc (hati.2 ⟨hb, by omega⟩)
          exact (newS_f this).symm
      rw [hmn]
      clear hK2
      simp (disch := omega) only [spar, List.foldl, List.replicate, intsV, strs, e5, go_sem, wrap64_id, Int.tdiv_eq_ediv_of_nonneg, Int.tmod_eq_emod_of_nonneg]
      repeat' first
        | ((first | refine fnQ_pure1 ?_ ?_ | refine fnQ_pure0 ?_ ?_); (next => repeat' first | exact rvs_n | refine rvs_t ?_ | (simp [go_sem]; done)); simp only [go_sem]; (first | exact VLe.refl _ | refine VLe_int ?_ | refine VLe_bool ?_ | refine VLe_str ?_ | skip))
        | (with_reducible refine And.intro ?_ ?_)
        | with_reducible intro _
      all_goals first
        | omega
        | (rename_i hx; revert hx; simp; done)
        | (simp; done)
        | skip
      refine hK _ _ (i + 1) (by omega) (by omega) (Wk.temps ?_)
      (simp only [strs, intsV, hs, e5, spar, List.foldl, List.replicate, go_sem, VLes_nil, VLes_cons, VLe_undef_iff, VLe_self]; try (repeat' first | (with_reducible refine And.intro ?_ ?_) | (refine VLe_int ?_; omega) | (refine VLe_bool ?_; rfl) | exact VLe.refl _))
  have e : i = n := by omega
  subst e
  clear hK
  have eNL : newS i lv i = newL i lv := rfl
  rw [eNL]
  obtain ⟨NL, hNL⟩ : ∃ NL, NL = newL i lv := ⟨_, rfl⟩
  rw [← hNL] at hbig ⊢
  have hNl : NL.length = i + 3 := by rw [hNL]; exact newS_len _ _ _
  have eC := intsC_len NL
  rw [hNl] at eC
  obtain ⟨LT, hLT⟩ : ∃ LT, LT = [46] ++ F ++ [46] := ⟨_, rfl⟩
  have hLl : LT.length = w.length + 2 := by rw [hLT]; simp; omega
  simp only [List.cons_append, List.nil_append] at hLT ⊢
  rw [← hLT]
  simp (disch := omega) only [spar, List.foldl, List.replicate, strs, e5, go_sem, wrap64_id, Int.tdiv_eq_ediv_of_nonneg, Int.tmod_eq_emod_of_nonneg]
  repeat' first
    | ((first | refine fnQ_pure1 ?_ ?_ | refine fnQ_pure0 ?_ ?_); (next => repeat' first | exact rvs_n | refine rvs_t ?_ | (simp [go_sem]; done)); simp only [go_sem]; (first | exact VLe.refl _ | refine VLe_int ?_ | refine VLe_bool ?_ | refine VLe_str ?_ | skip))
    | (with_reducible refine And.intro ?_ ?_)
    | with_reducible intro _
  all_goals first
    | omega
    | (rename_i hx; revert hx; simp; done)
    | (simp; done)
    | skip
  refine loop_of (T := fun j : Nat => spar 117 [(0, patsV p), (11, .op (h.length + 2) 1 0), (15, .int .i64 j)])
    (H := fun _ => h ++ [.emp 1, .mem 1 3 (intsC NL), .mem 1 32 [.str LT, .osl (h.length + 1) 1 1 0 (i + 3)], .emp 0, .emp 0, .emp 0, .emp 0])
    (inv := fun j => j ≤ i + 3 ∧ ∀ k, k < j → ¬ 9 < NL.getD k 0) (m := fun j => i + 3 - j) 0 ⟨by omega, by omega⟩ (Wk.temps ?_) ?_
  · (simp only [spar, List.foldl, List.replicate, go_sem, VLes_nil, VLes_cons, VLe_undef_iff, VLe_self]; try (repeat' first | (with_reducible refine And.intro ?_ ?_) | (refine VLe_int ?_; omega) | (refine VLe_bool ?_; rfl) | exact VLe.refl _))
  rintro j ⟨j1, j2⟩ K hK
  by_cases hj : j < i + 3
  · have hg := intsC_get (all := NL) (a := j) (by omega)
    by_cases hb : 9 < NL.getD j 0
    · have q1 : (9 < NL.getD j 0) = True := eq_true hb
      have hl : 62 < w.length ∨ 9 ∈ HI ∨ p.length = 4096 := .inr (.inl (hbig.1 ⟨j, hj, hb⟩))
      rw [if_pos hl, if_pos hl]
      simp (disch := omega) only [spar, List.foldl, List.replicate, q1, hg, eC, go_sem, wrap64_id, Int.tdiv_eq_ediv_of_nonneg, Int.tmod_eq_emod_of_nonneg]
      repeat' first
        | ((first | refine fnQ_pure1 ?_ ?_ | refine fnQ_pure0 ?_ ?_); (next => repeat' first | exact rvs_n | refine rvs_t ?_ | (simp [go_sem]; done)); simp only [go_sem]; (first | exact VLe.refl _ | refine VLe_int ?_ | refine VLe_bool ?_ | refine VLe_str ?_ | skip))
        | (with_reducible refine And.intro ?_ ?_)
        | with_reducible intro _
      all_goals first
        | omega
        | (rename_i hx; revert hx; simp; done)
        | (simp; done)
        | skip
      exact VLe_tup ⟨VLe_nl, VLe.refl _, trivial⟩
    · have q1 : (9 < NL.getD j 0) = False := eq_false hb
      simp (disch := omega) only [spar, List.foldl, List.replicate, q1, hg, eC, go_sem, wrap64_id, Int.tdiv_eq_ediv_of_nonneg, Int.tmod_eq_emod_of_nonneg]
      repeat' first
        | ((first | refine fnQ_pure1 ?_ ?_ | refine fnQ_pure0 ?_ ?_); (next => repeat' first | exact rvs_n | refine rvs_t ?_ | (simp [go_sem]; done)); simp only [go_sem]; (first | exact VLe.refl _ | refine VLe_int ?_ | refine VLe_bool ?_ | refine VLe_str ?_ | skip))
        | (with_reducible refine And.intro ?_ ?_)
        | with_reducible intro _
      all_goals first
        | omega
        | (rename_i hx; revert hx; simp; done)
        | (simp; done)
        | skip
      refine hK _ _ (j + 1) ⟨by omega, fun k hk => ?_⟩ (by omega) (Wk.temps ?_)
      · by_cases e : k = j
        · subst e; exact hb
        · exact j2 k (by omega)
      · (simp only [spar, List.foldl, List.replicate, go_sem, VLes_nil, VLes_cons, VLe_undef_iff, VLe_self]; try (repeat' first | (with_reducible refine And.intro ?_ ?_) | (refine VLe_int ?_; omega) | (refine VLe_bool ?_; rfl) | exact VLe.refl _))
  have e : j = i + 3 := by omega
  subst e
  clear hK
  have h9 : ¬ 9 ∈ HI := fun hc => by
    obtain ⟨k, hk, hb⟩ := hbig.2 hc
    exact j2 k hk hb
  have e7 : ((i + 3 : Nat) : Int) = (i : Int) + 3 := by omega
  by_cases l1 : 62 < w.length
  · have q1 : (64 < (LT.length : Int)) = True := eq_true (by omega)
    rw [if_pos (.inl l1), if_pos (.inl l1)]
    simp (disch := omega) only [spar, List.foldl, List.replicate, q1, eC, go_sem, wrap64_id, Int.tdiv_eq_ediv_of_nonneg, Int.tmod_eq_emod_of_nonneg]
    repeat' first
      | ((first | refine fnQ_pure1 ?_ ?_ | refine fnQ_pure0 ?_ ?_); (next => repeat' first | exact rvs_n | refine rvs_t ?_ | (simp [go_sem]; done)); simp only [go_sem]; (first | exact VLe.refl _ | refine VLe_int ?_ | refine VLe_bool ?_ | refine VLe_str ?_ | skip))
      | (with_reducible refine And.intro ?_ ?_)
      | with_reducible intro _
    all_goals first
      | omega
      | (rename_i hx; revert hx; simp; done)
      | (simp; done)
      | skip
    exact VLe_tup ⟨VLe_nl, VLe.refl _, trivial⟩
  have q1 : (64 < (LT.length : Int)) = False := eq_false (by omega)
  by_cases l3 : p.length = 4096
  · have q2 : ((4096 : Int) ≤ (p.length : Int)) = True := eq_true (by omega)
    rw [if_pos (.inr (.inr l3)), if_pos (.inr (.inr l3))]
    simp (disch := omega) only [spar, List.foldl, List.replicate, q1, eC, patsV, q2, go_sem, wrap64_id, Int.tdiv_eq_ediv_of_nonneg, Int.tmod_eq_emod_of_nonneg]
    repeat' first
      | ((first | refine fnQ_pure1 ?_ ?_ | refine fnQ_pure0 ?_ ?_); (next => repeat' first | exact rvs_n | refine rvs_t ?_ | (simp [go_sem]; done)); simp only [go_sem]; (first | exact VLe.refl _ | refine VLe_int ?_ | refine VLe_bool ?_ | refine VLe_str ?_ | skip))
      | (with_reducible refine And.intro ?_ ?_)
      | with_reducible intro _
    all_goals first
      | omega
      | (rename_i hx; revert hx; simp; done)
      | (simp; done)
      | skip
    exact VLe_tup ⟨VLe_nl, VLe.refl _, trivial⟩
  have q2 : ((4096 : Int) ≤ (p.length : Int)) = False := eq_false (by omega)
  have hnl : ¬ (62 < w.length ∨ 9 ∈ HI ∨ p.length = 4096) := by
    rintro (hc | hc | hc)
    · exact l1 hc
    · exact h9 hc
    · exact l3 hc
  rw [if_neg hnl, if_neg hnl]
  have hpl2 : okL h .len [patsV p] = True ∧ ∀ g, valL g .len [patsV p] = .int .i64 p.length := ⟨by simp only [patsV, go_sem], fun g => by simp only [patsV, go_sem]⟩
  obtain ⟨s1, s2, s3, s4, s5, s6⟩ := src_pats h p
  have s5 : ∀ X, sliceCells (h ++ X) (patsV p) = some (p.length, patsC p) := s5
  have eP := patsC_len p
  have eT : List.take (p.length * 2) (patsC p) = patsC p := List.take_of_length_le (by omega)
  simp (disch := omega) only [spar, List.foldl, List.replicate, q1, eC, s1, s2, s3, s4, q2, go_sem, wrap64_id, Int.tdiv_eq_ediv_of_nonneg, Int.tmod_eq_emod_of_nonneg]
  repeat' first
    | ((first | refine fnQ_pure1 ?_ ?_ | refine fnQ_pure0 ?_ ?_); (next => repeat' first | exact rvs_n | refine rvs_t ?_ | (simp [go_sem]; done)); simp only [go_sem]; (first | exact VLe.refl _ | refine VLe_int ?_ | refine VLe_bool ?_ | refine VLe_str ?_ | skip))
    | (with_reducible refine And.intro ?_ ?_)
    | with_reducible intro _
  all_goals first
    | omega
    | (rename_i hx; revert hx; simp; done)
    | (simp; done)
    | skip
  refine draw_of ?T3 ?H3 ?h5 ?h6
  case h5 =>
    simp (disch := omega) only [s1, s2, s5, s6, eT, eP, madeA, go_sem, wrap64_id, Int.tdiv_eq_ediv_of_nonneg, Int.tmod_eq_emod_of_nonneg]
    repeat' first
      | (with_reducible refine And.intro ?_ ?_)
      | with_reducible intro _
    all_goals first
      | omega
      | rfl
      | (simp; done)
      | skip
  case h6 =>
  simp (disch := omega) only [go_sem, wrap64_id, Int.tdiv_eq_ediv_of_nonneg, Int.tmod_eq_emod_of_nonneg]
  repeat' first
    | ((first | refine fnQ_pure1 ?_ ?_ | refine fnQ_pure0 ?_ ?_); (next => repeat' first | exact rvs_n | refine rvs_t ?_ | (simp [go_sem]; done)); simp only [go_sem]; (first | exact VLe.refl _ | refine VLe_int ?_ | refine VLe_bool ?_ | refine VLe_str ?_ | skip))
    | (with_reducible refine And.intro ?_ ?_)
    | with_reducible intro _
  all_goals first
    | omega
    | (rename_i hx; revert hx; simp; done)
    | (simp; done)
    | skip
  rw [if_pos (by rw [List.length_append, patsC_len]; simp; omega)]
  refine VLe_tup ⟨patsV_snoc (fun s => rfl) (fun l => rfl) (ile_slOf (by simp) (by simp only [go_sem]) hNl.symm) rfl, VLe.refl _, trivial⟩
end HY
end

section
open Go Go.Proofs AF HY
namespace HY
set_option maxRecDepth 100000
theorem eqS_self (n : Nat) (f : Nat → List UInt8) : eqS n n f f = true := by
  unfold eqS
  simp
theorem okPats_without {p : List Pat} {w : List UInt8} (hok : okPats p) (hl : p.length ≤ 5000) (hw : w.length ≤ 1000) : okPats (withoutR p w) := by
  unfold withoutR
  split
  · exact ⟨by simp, fun i hi => by simp at hi⟩
  · split
    · exact hok
    · refine ⟨by rw [List.length_append, List.length_singleton]; omega, fun i hi => ?_⟩
      rw [List.length_append, List.length_singleton] at hi
      by_cases h : i < p.length
      · rw [List.getD_eq_getElem?_getD, List.getElem?_append_left h, ← List.getD_eq_getElem?_getD]
        exact hok.2 i h
      · have e : i = p.length := by omega
        subst e
        have e2 : (p ++ [newP p w]).getD p.length default = newP p w := by simp [List.getD_eq_getElem?_getD]
        rw [e2]
        unfold newP
        simp only
        have hcl := clus_len w
        have e3 : (newL (clus w).length (levelsOf p w)).length = (clus w).length + 3 := newS_len _ _ _
        rw [e3]
        simp [fold_len]
        omega
set_option maxHeartbeats 8000000 in
theorem v7 (p : List Pat) (w : List UInt8) (h : List AObj) (hp : p.length ≤ 9223372036854775807) : ACalls Tryd.prog 7 [patsV p, .str w] h (.bool true) h := by
  have c20 := fun h => u20 p h hp
  cases hg : greatH p with
  | true =>
    rw [hg] at c20
    refine acalls_of fn7d (by simp) ?_
    simp only [List.length_cons, List.length_nil, Nat.reduceAdd, Nat.reduceSub, List.replicate, List.cons_append, List.nil_append, List.append_nil]
    simp (disch := omega) only [c7d, go_sem, wrap64_id, Int.tdiv_eq_ediv_of_nonneg, Int.tmod_eq_emod_of_nonneg]
    repeat' first
      | ((first | refine callA_pure (c20 _) ?_ ?_ | refine callA_pure (u13 _) ?_ ?_); (next => repeat' first | exact flags_n | refine flags_c (by first | rfl | assumption) ?_); simp (disch := omega) only [go_sem, wrap64_id, Int.tdiv_eq_ediv_of_nonneg, Int.tmod_eq_emod_of_nonneg])
      | ((first | refine callU_of (fun _ => c20 _) ?_ ?_ | refine callU_of (fun _ => u13 _) ?_ ?_); (next => repeat' first | exact flags_n | refine flags_c (by first | rfl | assumption) ?_); simp (disch := omega) only [go_sem, wrap64_id, Int.tdiv_eq_ediv_of_nonneg, Int.tmod_eq_emod_of_nonneg])
      | ((first | refine callG_pure (fun e => ⟨?_, c20 _⟩) ?_ | refine callG_pure (fun e => ⟨?_, u13 _⟩) ?_); (next => repeat' first | exact flags_n | refine flags_c (by first | rfl | assumption) ?_); simp (disch := omega) only [go_sem, wrap64_id, Int.tdiv_eq_ediv_of_nonneg, Int.tmod_eq_emod_of_nonneg])
      | ((first | refine fnQ_pure1 ?_ ?_ | refine fnQ_pure0 ?_ ?_); (next => repeat' first | exact rvs_n | refine rvs_t ?_ | (simp [go_sem]; done)); simp only [go_sem]; (first | exact VLe.refl _ | refine VLe_int ?_ | refine VLe_bool ?_ | refine VLe_str ?_ | skip))
      | (with_reducible refine And.intro ?_ ?_)
      | with_reducible intro _
    all_goals first
      | omega
      | (rename_i hx; revert hx; simp; done)
      | (simp; done)
      | skip
  | false =>
  rw [hg] at c20
  by_cases hs : 66 < w.length
  · have k1 : (66 < (w.length : Int)) = True := eq_true (by omega)
    refine acalls_of fn7d (by simp) ?_
    simp only [List.length_cons, List.length_nil, Nat.reduceAdd, Nat.reduceSub, List.replicate, List.cons_append, List.nil_append, List.append_nil]
    simp (disch := omega) only [c7d, k1, go_sem, wrap64_id, Int.tdiv_eq_ediv_of_nonneg, Int.tmod_eq_emod_of_nonneg]
    repeat' first
      | ((first | refine callA_pure (c20 _) ?_ ?_ | refine callA_pure (u13 _) ?_ ?_); (next => repeat' first | exact flags_n | refine flags_c (by first | rfl | assumption) ?_); simp (disch := omega) only [k1, go_sem, wrap64_id, Int.tdiv_eq_ediv_of_nonneg, Int.tmod_eq_emod_of_nonneg])
      | ((first | refine callU_of (fun _ => c20 _) ?_ ?_ | refine callU_of (fun _ => u13 _) ?_ ?_); (next => repeat' first | exact flags_n | refine flags_c (by first | rfl | assumption) ?_); simp (disch := omega) only [k1, go_sem, wrap64_id, Int.tdiv_eq_ediv_of_nonneg, Int.tmod_eq_emod_of_nonneg])
      | ((first | refine callG_pure (fun e => ⟨?_, c20 _⟩) ?_ | refine callG_pure (fun e => ⟨?_, u13 _⟩) ?_); (next => repeat' first | exact flags_n | refine flags_c (by first | rfl | assumption) ?_); simp (disch := omega) only [k1, go_sem, wrap64_id, Int.tdiv_eq_ediv_of_nonneg, Int.tmod_eq_emod_of_nonneg])
      | ((first | refine fnQ_pure1 ?_ ?_ | refine fnQ_pure0 ?_ ?_); (next => repeat' first | exact rvs_n | refine rvs_t ?_ | (simp [go_sem]; done)); simp only [go_sem]; (first | exact VLe.refl _ | refine VLe_int ?_ | refine VLe_bool ?_ | refine VLe_str ?_ | skip))
      | (with_reducible refine And.intro ?_ ?_)
      | with_reducible intro _
    all_goals first
      | omega
      | (rename_i hx; revert hx; simp; done)
      | (simp; done)
      | skip
  have k1 : (66 < (w.length : Int)) = False := eq_false (by omega)
  have hok := ok_great hg
  have hpl : p.length ≤ 5000 := by have := (great_any hg).1; omega
  have c14 := fun h => u14 p w h hok (by omega)
  have c28 := fun h => v28 p w h hok (by omega)
  have c19 := fun h => t89 p w h hok (by omega)
  have c29 := fun h => t94 p w h hok (by omega)
  have c30 := fun h => u30 p w h hok (by omega)
  have c31 := fun h => v31 p w h hok (by omega)
  have c32 := fun h => v32 p w h hok (by omega)
  have c33 := fun h => v33 p w h hok (by omega)
  have hll : (levelsR p w).length ≤ 1000000 := by
    unfold levelsR
    split
    · rw [levelsOf_len]; have := clus_len w; omega
    · simp
  have hpp := points_len p w
  have hsl : (splitR p w).length ≤ 1000000 := by
    unfold splitR
    split
    · rw [pieces_len]; unfold cutsOf; rw [List.length_append]; simp; omega
    · simp
  have hwo := okPats_without hok hpl (w := w) (by omega)
  obtain ⟨A, hA⟩ : ∃ A, A = levelsR p w := ⟨_, rfl⟩
  obtain ⟨e, he⟩ : ∃ e, e = startE p w := ⟨_, rfl⟩
  obtain ⟨B, hB⟩ : ∃ B, B = pointsR p w := ⟨_, rfl⟩
  obtain ⟨C, hC⟩ : ∃ C, C = splitR p w := ⟨_, rfl⟩
  obtain ⟨D, hD⟩ : ∃ D, D = withoutR p w := ⟨_, rfl⟩
  obtain ⟨f, hf⟩ : ∃ f, f = withoutE p w := ⟨_, rfl⟩
  rw [← hA, ← he] at c14 c28
  rw [← hB, ← he] at c19 c29
  rw [← hC, ← he] at c30 c31
  rw [← hD, ← hf] at c32 c33
  rw [← hA] at hll
  rw [← hB] at hpp
  rw [← hC] at hsl
  rw [← hD] at hwo
  have c17a := fun h => u17v A A h (by omega)
  rw [decide_eq_true rfl] at c17a
  have c17b : ∀ h, ACalls Tryd.prog 17 [intsN B, intsV B] h (.bool true) h := fun h => by
    have := ACalls.le (u17v B B h (by omega)) (VLes2 (intsN_le B) (VLes2 (VLe.refl _) VLes.nil)) (VLe.refl _)
    rwa [decide_eq_true rfl] at this
  have c34 : ∀ h, ACalls Tryd.prog 34 [strs C, strs C] h (.bool true) h := fun h => by
    have := t143 C.length C.length (fun i => C.getD i []) (fun i => C.getD i []) h (by omega)
    rwa [eqS_self] at this
  have c27 := fun h => u27 D D h hwo
  rw [decide_eq_true rfl] at c27
  have k3 : (e = e) = True := eq_true rfl
  have k4 : (f = f) = True := eq_true rfl
  refine acalls_of fn7d (by simp) ?_
  simp only [List.length_cons, List.length_nil, Nat.reduceAdd, Nat.reduceSub, List.replicate, List.cons_append, List.nil_append, List.append_nil]
  simp (disch := omega) only [c7d, k1, k3, k4, go_sem, wrap64_id, Int.tdiv_eq_ediv_of_nonneg, Int.tmod_eq_emod_of_nonneg]
  repeat' first
    | ((first | refine callA_pure (c20 _) ?_ ?_ | refine callA_pure (c14 _) ?_ ?_ | refine callA_pure (c28 _) ?_ ?_ | refine callA_pure (c19 _) ?_ ?_ | refine callA_pure (c29 _) ?_ ?_ | refine callA_pure (c30 _) ?_ ?_ | refine callA_pure (c31 _) ?_ ?_ | refine callA_pure (c32 _) ?_ ?_ | refine callA_pure (c33 _) ?_ ?_ | refine callA_pure (c17a _) ?_ ?_ | refine callA_pure (c17b _) ?_ ?_ | refine callA_pure (c34 _) ?_ ?_ | refine callA_pure (c27 _) ?_ ?_ | refine callA_pure (u13 _) ?_ ?_); (next => repeat' first | exact flags_n | refine flags_c (by first | rfl | assumption) ?_); simp (disch := omega) only [k1, k3, k4, go_sem, wrap64_id, Int.tdiv_eq_ediv_of_nonneg, Int.tmod_eq_emod_of_nonneg])
    | ((first | refine callU_of (fun _ => c20 _) ?_ ?_ | refine callU_of (fun _ => c14 _) ?_ ?_ | refine callU_of (fun _ => c28 _) ?_ ?_ | refine callU_of (fun _ => c19 _) ?_ ?_ | refine callU_of (fun _ => c29 _) ?_ ?_ | refine callU_of (fun _ => c30 _) ?_ ?_ | refine callU_of (fun _ => c31 _) ?_ ?_ | refine callU_of (fun _ => c32 _) ?_ ?_ | refine callU_of (fun _ => c33 _) ?_ ?_ | refine callU_of (fun _ => c17a _) ?_ ?_ | refine callU_of (fun _ => c17b _) ?_ ?_ | refine callU_of (fun _ => c34 _) ?_ ?_ | refine callU_of (fun _ => c27 _) ?_ ?_ | refine callU_of (fun _ => u13 _) ?_ ?_); (next => repeat' first | exact flags_n | refine flags_c (by first | rfl | assumption) ?_); simp (disch := omega) only [k1, k3, k4, go_sem, wrap64_id, Int.tdiv_eq_ediv_of_nonneg, Int.tmod_eq_emod_of_nonneg])
    | ((first | refine callG_pure (fun e => ⟨?_, c20 _⟩) ?_ | refine callG_pure (fun e => ⟨?_, c14 _⟩) ?_ | refine callG_pure (fun e => ⟨?_, c28 _⟩) ?_ | refine callG_pure (fun e => ⟨?_, c19 _⟩) ?_ | refine callG_pure (fun e => ⟨?_, c29 _⟩) ?_ | refine callG_pure (fun e => ⟨?_, c30 _⟩) ?_ | refine callG_pure (fun e => ⟨?_, c31 _⟩) ?_ | refine callG_pure (fun e => ⟨?_, c32 _⟩) ?_ | refine callG_pure (fun e => ⟨?_, c33 _⟩) ?_ | refine callG_pure (fun e => ⟨?_, c17a _⟩) ?_ | refine callG_pure (fun e => ⟨?_, c17b _⟩) ?_ | refine callG_pure (fun e => ⟨?_, c34 _⟩) ?_ | refine callG_pure (fun e => ⟨?_, c27 _⟩) ?_ | refine callG_pure (fun e => ⟨?_, u13 _⟩) ?_); (next => repeat' first | exact flags_n | refine flags_c (by first | rfl | assumption) ?_); simp (disch := omega) only [k1, k3, k4, go_sem, wrap64_id, Int.tdiv_eq_ediv_of_nonneg, Int.tmod_eq_emod_of_nonneg])
    | ((first | refine fnQ_pure1 ?_ ?_ | refine fnQ_pure0 ?_ ?_); (next => repeat' first | exact rvs_n | refine rvs_t ?_ | (simp [go_sem]; done)); simp only [go_sem]; (first | exact VLe.refl _ | refine VLe_int ?_ | refine VLe_bool ?_ | refine VLe_str ?_ | skip))
    | (with_reducible refine And.intro ?_ ?_)
    | with_reducible intro _
  all_goals first
    | omega
    | (rename_i hx; revert hx; simp; done)
    | (simp; done)
    | skip
end HY
end

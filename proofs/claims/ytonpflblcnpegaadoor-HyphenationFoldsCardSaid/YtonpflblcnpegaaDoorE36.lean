import Derived.Test.YtonpflblcnpegaaDoorE35
set_option linter.all false
set_option linter.unusedSimpArgs false
set_option linter.unusedVariables false
set_option linter.unusedSectionVars false
open Go Go.Proofs AF HY
namespace HY
set_option maxRecDepth 100000
theorem cells_patsV (L : List Pat) : (patsV L).cells = [patsV L] := rfl
theorem solid_patsV (L : List Pat) : (patsV L).solid = true := rfl
theorem u14n (w : List UInt8) (h : List AObj) (hw : w.length ≤ 1000000) : ACalls Tryd.prog 14 [.nl, .str w] h (.tup [intsV (levelsR [] w), .int .i64 (startE [] w)]) h :=
  ACalls.le (u14 [] w h ⟨by simp, fun i hi => by simp at hi⟩ hw) (VLes2 VLe_nl (VLes2 (VLe.refl _) VLes.nil)) (VLe.refl _)
theorem start_fine {ps : List Pat} {w : List UInt8} (h : checkPats ps = 0) (hw : isWord w = true) : startE ps w = 0 := by unfold startE; rw [if_pos h, if_pos hw]
theorem levR_fine {ps : List Pat} {w : List UInt8} (h : startE ps w = 0) : levelsR ps w = levelsOf ps w := by unfold levelsR; rw [if_pos h]
set_option maxHeartbeats 16000000 in
theorem u3 (p q : List Pat) (w : List UInt8) (h : List AObj) (hp : p.length ≤ 9223372036854775807) (hq : q.length ≤ 9223372036854775807) : ACalls Tryd.prog 3 [patsV p, patsV q, .str w] h (.bool true) h := by
  have c11p := fun h => u11 p h hp
  have c11q := fun h => u11 q h hq
  have c12 := fun h => u12 w h
  cases hfp : fineH p with
  | false =>
    rw [hfp] at c11p
    refine acalls_of fn3d (by simp) ?_
    simp only [List.length_cons, List.length_nil, Nat.reduceAdd, Nat.reduceSub, List.replicate, List.cons_append, List.nil_append, List.append_nil]
    simp (disch := omega) only [c3d, go_sem, wrap64_id, Int.tdiv_eq_ediv_of_nonneg, Int.tmod_eq_emod_of_nonneg]
    repeat' first
      | (refine callG_false ((.bool false)) ?_; simp (disch := omega) only [go_sem, wrap64_id, Int.tdiv_eq_ediv_of_nonneg, Int.tmod_eq_emod_of_nonneg])
      | ((first | refine callA_pure (c11p _) ?_ ?_ | refine callA_pure (u13 _) ?_ ?_); (next => repeat' first | exact flags_n | refine flags_c (by first | rfl | assumption) ?_); simp (disch := omega) only [go_sem, wrap64_id, Int.tdiv_eq_ediv_of_nonneg, Int.tmod_eq_emod_of_nonneg])
      | ((first | refine callG_pure (fun e => ⟨?_, c11p _⟩) ?_ | refine callG_pure (fun e => ⟨?_, u13 _⟩) ?_); (next => repeat' first | exact flags_n | refine flags_c (by first | rfl | assumption) ?_); simp (disch := omega) only [go_sem, wrap64_id, Int.tdiv_eq_ediv_of_nonneg, Int.tmod_eq_emod_of_nonneg])
      | ((first | refine fnQ_pure1 ?_ ?_ | refine fnQ_pure0 ?_ ?_); (next => repeat' first | exact rvs_n | refine rvs_t ?_ | (simp [go_sem]; done)); simp only [go_sem]; (first | exact VLe.refl _ | refine VLe_int ?_ | refine VLe_bool ?_ | refine VLe_str ?_ | skip))
      | (with_reducible refine And.intro ?_ ?_)
      | with_reducible intro _
    all_goals first
      | omega
      | (rename_i hx; revert hx; simp; done)
      | (simp; done)
      | skip
  | true =>
  rw [hfp] at c11p
  cases hfq : fineH q with
  | false =>
    rw [hfq] at c11q
    refine acalls_of fn3d (by simp) ?_
    simp only [List.length_cons, List.length_nil, Nat.reduceAdd, Nat.reduceSub, List.replicate, List.cons_append, List.nil_append, List.append_nil]
    simp (disch := omega) only [c3d, go_sem, wrap64_id, Int.tdiv_eq_ediv_of_nonneg, Int.tmod_eq_emod_of_nonneg]
    repeat' first
      | (refine callG_false ((.bool false)) ?_; simp (disch := omega) only [go_sem, wrap64_id, Int.tdiv_eq_ediv_of_nonneg, Int.tmod_eq_emod_of_nonneg])
      | ((first | refine callA_pure (c11p _) ?_ ?_ | refine callA_pure (c11q _) ?_ ?_ | refine callA_pure (u13 _) ?_ ?_); (next => repeat' first | exact flags_n | refine flags_c (by first | rfl | assumption) ?_); simp (disch := omega) only [go_sem, wrap64_id, Int.tdiv_eq_ediv_of_nonneg, Int.tmod_eq_emod_of_nonneg])
      | ((first | refine callG_pure (fun e => ⟨?_, c11p _⟩) ?_ | refine callG_pure (fun e => ⟨?_, c11q _⟩) ?_ | refine callG_pure (fun e => ⟨?_, u13 _⟩) ?_); (next => repeat' first | exact flags_n | refine flags_c (by first | rfl | assumption) ?_); simp (disch := omega) only [go_sem, wrap64_id, Int.tdiv_eq_ediv_of_nonneg, Int.tmod_eq_emod_of_nonneg])
      | ((first | refine fnQ_pure1 ?_ ?_ | refine fnQ_pure0 ?_ ?_); (next => repeat' first | exact rvs_n | refine rvs_t ?_ | (simp [go_sem]; done)); simp only [go_sem]; (first | exact VLe.refl _ | refine VLe_int ?_ | refine VLe_bool ?_ | refine VLe_str ?_ | skip))
      | (with_reducible refine And.intro ?_ ?_)
      | with_reducible intro _
    all_goals first
      | omega
      | (rename_i hx; revert hx; simp; done)
      | (simp; done)
      | skip
  | true =>
  rw [hfq] at c11q
  cases hfw : wordH w with
  | false =>
    rw [hfw] at c12
    refine acalls_of fn3d (by simp) ?_
    simp only [List.length_cons, List.length_nil, Nat.reduceAdd, Nat.reduceSub, List.replicate, List.cons_append, List.nil_append, List.append_nil]
    simp (disch := omega) only [c3d, go_sem, wrap64_id, Int.tdiv_eq_ediv_of_nonneg, Int.tmod_eq_emod_of_nonneg]
    repeat' first
      | ((first | refine callA_pure (c11p _) ?_ ?_ | refine callA_pure (c11q _) ?_ ?_ | refine callA_pure (c12 _) ?_ ?_ | refine callA_pure (u13 _) ?_ ?_); (next => repeat' first | exact flags_n | refine flags_c (by first | rfl | assumption) ?_); simp (disch := omega) only [go_sem, wrap64_id, Int.tdiv_eq_ediv_of_nonneg, Int.tmod_eq_emod_of_nonneg])
      | ((first | refine callG_pure (fun e => ⟨?_, c11p _⟩) ?_ | refine callG_pure (fun e => ⟨?_, c11q _⟩) ?_ | refine callG_pure (fun e => ⟨?_, c12 _⟩) ?_ | refine callG_pure (fun e => ⟨?_, u13 _⟩) ?_); (next => repeat' first | exact flags_n | refine flags_c (by first | rfl | assumption) ?_); simp (disch := omega) only [go_sem, wrap64_id, Int.tdiv_eq_ediv_of_nonneg, Int.tmod_eq_emod_of_nonneg])
      | ((first | refine fnQ_pure1 ?_ ?_ | refine fnQ_pure0 ?_ ?_); (next => repeat' first | exact rvs_n | refine rvs_t ?_ | (simp [go_sem]; done)); simp only [go_sem]; (first | exact VLe.refl _ | refine VLe_int ?_ | refine VLe_bool ?_ | refine VLe_str ?_ | skip))
      | (with_reducible refine And.intro ?_ ?_)
      | with_reducible intro _
    all_goals first
      | omega
      | (rename_i hx; revert hx; simp; done)
      | (simp; done)
      | skip
  | true =>
  rw [hfw] at c12
  have Fp := fine_of hfp
  have Fq := fine_of hfq
  have hw := hfw
  unfold wordH at hw
  simp only [Bool.and_eq_true, decide_eq_true_eq] at hw
  obtain ⟨hw1, hw2⟩ := hw
  obtain ⟨o1, x1⟩ := fine_app Fp Fq
  obtain ⟨o2, x2⟩ := fine_app Fq Fp
  have s1 := start_fine Fp.check hw2
  have s2 := start_fine Fq.check hw2
  have s3 := start_fine x1 hw2
  have s4 := start_fine x2 hw2
  have s5 : startE [] w = 0 := start_fine (by decide) hw2
  have c1 := fun h => u14 p w h Fp.ok (by omega)
  have c2 := fun h => u14 q w h Fq.ok (by omega)
  have c3 := fun h => u14 (p ++ q) w h o1 (by omega)
  have c4 := fun h => u14 (q ++ p) w h o2 (by omega)
  have c5 := fun h => u14n w h (by omega)
  rw [levR_fine s1, s1] at c1
  rw [levR_fine s2, s2] at c2
  rw [levR_fine s3, s3] at c3
  rw [levR_fine s4, s4, ← lev_comm p q w Fp.lev Fq.lev] at c4
  rw [levR_fine s5, s5] at c5
  have l1 := levelsOf_len p w
  have l2 := levelsOf_len q w
  have l3 := levelsOf_len (p ++ q) w
  have l5 := levelsOf_len [] w
  have hmax := fun k hk => lev_max p q w Fp.lev Fq.lev (k := k) hk
  have hnone := fun k hk => lev_none w (k := k) hk
  have hpos := word_pos hw2
  have hcl := clus_len w
  have c16 := fun h => t67 w h (by omega)
  have e1 : ∀ (h l : List AObj), ACalls Tryd.prog 15 [.osl h.length 1 1 0 2] (h ++ .mem 1 22 [patsV p, patsV q] :: l) (patsV (p ++ q)) (h ++ .mem 1 22 [patsV p, patsV q] :: l) := fun h l => u15c p q _ _ 1 getO0 (by have := Fp.len; have := Fq.len; omega)
  have e2 : ∀ (h l : List AObj) (a : AObj), ACalls Tryd.prog 15 [.osl (h.length + 1) 1 1 0 2] (h ++ a :: .mem 1 22 [patsV q, patsV p] :: l) (patsV (q ++ p)) (h ++ a :: .mem 1 22 [patsV q, patsV p] :: l) := fun h l a => u15c q p _ _ 1 (by simp [getO]) (by have := Fp.len; have := Fq.len; omega)
  obtain ⟨A, hA⟩ : ∃ A, A = levelsOf p w := ⟨_, rfl⟩
  obtain ⟨B, hB⟩ : ∃ B, B = levelsOf q w := ⟨_, rfl⟩
  obtain ⟨D, hD⟩ : ∃ D, D = levelsOf (p ++ q) w := ⟨_, rfl⟩
  obtain ⟨Z, hZ⟩ : ∃ Z, Z = levelsOf [] w := ⟨_, rfl⟩
  rw [← hA] at c1 l1
  rw [← hB] at c2 l2
  rw [← hD] at c3 c4 l3
  rw [← hZ] at c5 l5
  rw [← hA, ← hB, ← hD] at hmax
  rw [← hZ] at hnone
  have c17 := fun h => u17v D D h (by omega)
  rw [decide_eq_true rfl] at c17
  have k1 : ((A.length : Int) = ((clus w).length : Int) - 1) = True := eq_true (by omega)
  have k2 : ((B.length : Int) = ((clus w).length : Int) - 1) = True := eq_true (by omega)
  have k3 : ((D.length : Int) = ((clus w).length : Int) - 1) = True := eq_true (by omega)
  have k4 : ((Z.length : Int) = ((clus w).length : Int) - 1) = True := eq_true (by omega)
  refine acalls_of fn3d (by simp) ?_
  simp only [List.length_cons, List.length_nil, Nat.reduceAdd, Nat.reduceSub, List.replicate, List.cons_append, List.nil_append, List.append_nil]
  simp (disch := omega) only [c3d, cells_patsV, solid_patsV, madeA, mm5, okmm5, intsV, strs, k1, k2, k3, k4, go_sem, wrap64_id, Int.tdiv_eq_ediv_of_nonneg, Int.tmod_eq_emod_of_nonneg]
  repeat' first
    | ((first | refine callA_pure (c11p _) ?_ ?_ | refine callA_pure (c11q _) ?_ ?_ | refine callA_pure (c12 _) ?_ ?_ | refine callA_pure (c1 _) ?_ ?_ | refine callA_pure (c2 _) ?_ ?_ | refine callA_pure (e1 _ _) ?_ ?_ | refine callA_pure (c3 _) ?_ ?_ | refine callA_pure (e2 _ _ _) ?_ ?_ | refine callA_pure (c4 _) ?_ ?_ | refine callA_pure (c5 _) ?_ ?_ | refine callA_pure (c16 _) ?_ ?_ | refine callA_pure (c17 _) ?_ ?_); (next => repeat' first | exact flags_n | refine flags_c (by first | rfl | assumption) ?_); simp (disch := omega) only [cells_patsV, solid_patsV, madeA, mm5, okmm5, intsV, strs, k1, k2, k3, k4, go_sem, wrap64_id, Int.tdiv_eq_ediv_of_nonneg, Int.tmod_eq_emod_of_nonneg])
    | ((first | refine callG_pure (fun e => ⟨?_, c11p _⟩) ?_ | refine callG_pure (fun e => ⟨?_, c11q _⟩) ?_ | refine callG_pure (fun e => ⟨?_, c12 _⟩) ?_ | refine callG_pure (fun e => ⟨?_, c1 _⟩) ?_ | refine callG_pure (fun e => ⟨?_, c2 _⟩) ?_ | refine callG_pure (fun e => ⟨?_, e1 _ _⟩) ?_ | refine callG_pure (fun e => ⟨?_, c3 _⟩) ?_ | refine callG_pure (fun e => ⟨?_, e2 _ _ _⟩) ?_ | refine callG_pure (fun e => ⟨?_, c4 _⟩) ?_ | refine callG_pure (fun e => ⟨?_, c5 _⟩) ?_ | refine callG_pure (fun e => ⟨?_, c16 _⟩) ?_ | refine callG_pure (fun e => ⟨?_, c17 _⟩) ?_); (next => repeat' first | exact flags_n | refine flags_c (by first | rfl | assumption) ?_); simp (disch := omega) only [cells_patsV, solid_patsV, madeA, mm5, okmm5, intsV, strs, k1, k2, k3, k4, go_sem, wrap64_id, Int.tdiv_eq_ediv_of_nonneg, Int.tmod_eq_emod_of_nonneg])
    | ((first | refine fnQ_pure1 ?_ ?_ | refine fnQ_pure0 ?_ ?_); (next => repeat' first | exact rvs_n | refine rvs_t ?_ | (simp [go_sem]; done)); simp only [go_sem]; (first | exact VLe.refl _ | refine VLe_int ?_ | refine VLe_bool ?_ | refine VLe_str ?_ | skip))
    | (with_reducible refine And.intro ?_ ?_)
    | with_reducible intro _
  all_goals first
    | omega
    | (rename_i hx; revert hx; simp; done)
    | (simp; done)
    | skip
  refine loop_of (T := fun k : Nat => spar 151 [(7, intsV A), (9, intsV B), (11, intsV D), (15, intsV Z), (109, intsV D), (110, .int .i64 D.length), (111, .int .i64 k)]) (H := fun _ => h ++ [.mem 1 22 [patsV p, patsV q], .mem 1 22 [patsV q, patsV p]]) (inv := fun k => k ≤ D.length) (m := fun k => D.length - k) 0 (by omega) (Wk.temps ?_) ?_
  · (simp only [intsV, spar, List.foldl, List.replicate, go_sem, VLes_nil, VLes_cons, VLe_undef_iff, VLe_self]; try (repeat' first | (with_reducible refine And.intro ?_ ?_) | (refine VLe_int ?_; omega) | (refine VLe_bool ?_; rfl) | exact VLe.refl _))
  rintro k q1 K hK
  by_cases hk : k < D.length
  · obtain ⟨m1, m2, m3⟩ := hmax k (by omega)
    have m4 := hnone k (by omega)
    have j1 : (D.getD k 0 = max (A.getD k 0) (B.getD k 0)) = True := eq_true m1
    have j4 : (Z.getD k 0 = 0) = True := eq_true m4
    have j2 : (A.getD k 0 < 0) = False := eq_false (by omega)
    have j3 : (9 < A.getD k 0) = False := eq_false (by omega)
    simp (disch := omega) only [spar, List.foldl, List.replicate, intsV, j1, j2, j3, j4, go_sem, wrap64_id, Int.tdiv_eq_ediv_of_nonneg, Int.tmod_eq_emod_of_nonneg]
    repeat' first
      | ((first | refine fnQ_pure1 ?_ ?_ | refine fnQ_pure0 ?_ ?_); (next => repeat' first | exact rvs_n | refine rvs_t ?_ | (simp [go_sem]; done)); simp only [go_sem]; (first | exact VLe.refl _ | refine VLe_int ?_ | refine VLe_bool ?_ | refine VLe_str ?_ | skip))
      | (with_reducible refine And.intro ?_ ?_)
      | with_reducible intro _
    all_goals first
      | omega
      | (rename_i hx; revert hx; simp; done)
      | (simp; done)
      | skip
    refine hK _ _ (k + 1) (by omega) (by omega) (Wk.temps ?_)
    (simp only [intsV, spar, List.foldl, List.replicate, go_sem, VLes_nil, VLes_cons, VLe_undef_iff, VLe_self]; try (repeat' first | (with_reducible refine And.intro ?_ ?_) | (refine VLe_int ?_; omega) | (refine VLe_bool ?_; rfl) | exact VLe.refl _))
  · have e : k = D.length := by omega
    subst e
    simp (disch := omega) only [spar, List.foldl, List.replicate, intsV, go_sem, wrap64_id, Int.tdiv_eq_ediv_of_nonneg, Int.tmod_eq_emod_of_nonneg]
    repeat' first
      | ((first | refine callA_pure (u13 _) ?_ ?_); (next => repeat' first | exact flags_n | refine flags_c (by first | rfl | assumption) ?_); simp (disch := omega) only [intsV, go_sem, wrap64_id, Int.tdiv_eq_ediv_of_nonneg, Int.tmod_eq_emod_of_nonneg])
      | ((first | refine callG_pure (fun e => ⟨?_, u13 _⟩) ?_); (next => repeat' first | exact flags_n | refine flags_c (by first | rfl | assumption) ?_); simp (disch := omega) only [intsV, go_sem, wrap64_id, Int.tdiv_eq_ediv_of_nonneg, Int.tmod_eq_emod_of_nonneg])
      | ((first | refine fnQ_pure1 ?_ ?_ | refine fnQ_pure0 ?_ ?_); (next => repeat' first | exact rvs_n | refine rvs_t ?_ | (simp [go_sem]; done)); simp only [go_sem]; (first | exact VLe.refl _ | refine VLe_int ?_ | refine VLe_bool ?_ | refine VLe_str ?_ | skip))
      | (with_reducible refine And.intro ?_ ?_)
      | with_reducible intro _
    all_goals first
      | omega
      | (rename_i hx; revert hx; simp; done)
      | (simp; done)
      | skip
end HY

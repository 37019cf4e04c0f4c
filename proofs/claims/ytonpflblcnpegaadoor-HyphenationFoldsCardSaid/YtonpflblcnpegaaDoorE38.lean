import Derived.Test.YtonpflblcnpegaaDoorE37
import Derived.Test.YtonpflblcnpegaaDoorPgCodeE3
set_option linter.all false
set_option linter.unusedSimpArgs false
set_option linter.unusedVariables false
set_option linter.unusedSectionVars false
open Go Go.Proofs AF HY
namespace HY
set_option maxRecDepth 100000
theorem setO0 {h : List AObj} {o x : AObj} {l : List AObj} : setO h.length (h ++ o :: l) x = h ++ x :: l := by simp [setO]
theorem u14g (Q : List Pat) (w : List UInt8) (h l : List AObj) (v : Nat) (hok : okPats Q) (hw : w.length ≤ 1000000) :
    ACalls Tryd.prog 14 [.osl h.length v 2 0 Q.length, .str w] (h ++ ownO v 32 (patsC Q) :: l) (.tup [intsV (levelsR Q w), .int .i64 (startE Q w)]) (h ++ .emp (v + 1) :: l) := by
  have hs : site (h ++ ownO v 32 (patsC Q) :: l) h.length = true := by
    unfold site
    rw [getO0]
    by_cases hq : patsC Q = []
    · rw [hq]; rfl
    · rw [ownO_ne hq]
  have hv : verOf (getO h.length (h ++ ownO v 32 (patsC Q) :: l)) = v := by rw [getO0, verOf_own]
  refine give [h.length] ?_ ?_
  · simp only [sitesOk, hs, Bool.and_self]
  have hk : killO [h.length] (h ++ ownO v 32 (patsC Q) :: l) = h ++ .emp (v + 1) :: l := by simp only [killO, hv, setO0]
  rw [hk]
  refine ACalls.le (u14 Q w _ hok hw) ?_ (VLe.refl _)
  simp only [List.map_cons, List.map_nil]
  have hc : [h.length].contains h.length = true := by simp
  refine VLes2 ?_ (VLes2 (VLe.refl _) VLes.nil)
  rw [frz_osl, if_pos hc, rei_osl, if_pos hc, getO0]
  exact slOf_pats
theorem u17n (L : List Int) (h : List AObj) (hl : L.length ≤ 1000000) : ACalls Tryd.prog 17 [intsN L, intsN L] h (.bool true) h := by
  have := ACalls.le (u17v L L h (by omega)) (VLes2 (intsN_le L) (VLes2 (intsN_le L) VLes.nil)) (VLe.refl _)
  rwa [decide_eq_true rfl] at this
theorem cells_intsV (L : List Int) : (intsV L).cells = [intsV L] := rfl
theorem solid_intsV (L : List Int) : (intsV L).solid = true := rfl
theorem mm4 : valP (.mm true) [.int .i64 0, .int .i64 0, .int .i64 0, .int .i64 0] = .int .i64 0 := rfl
theorem okmm4 : okP (.mm true) [.int .i64 0, .int .i64 0, .int .i64 0, .int .i64 0] = True := by simp [okP, intC]
set_option maxHeartbeats 16000000 in
theorem u4 (p : List Pat) (w : List UInt8) (h : List AObj) (hp : p.length ≤ 9223372036854775807) : ACalls Tryd.prog 4 [patsV p, .str w] h (.bool true) h := by
  have c11p := fun h => u11 p h hp
  have c12 := fun h => u12 w h
  cases hfp : fineH p with
  | false =>
    rw [hfp] at c11p
    refine acalls_of fn4e (by simp) ?_
    simp only [List.length_cons, List.length_nil, Nat.reduceAdd, Nat.reduceSub, List.replicate, List.cons_append, List.nil_append, List.append_nil]
    simp (disch := omega) only [c4e, go_sem, wrap64_id, Int.tdiv_eq_ediv_of_nonneg, Int.tmod_eq_emod_of_nonneg]
    repeat' first
      | (refine callG_false ((.bool false)) ?_; simp (disch := omega) only [go_sem, wrap64_id, Int.tdiv_eq_ediv_of_nonneg, Int.tmod_eq_emod_of_nonneg])
      | ((first | refine callA_pure (c11p _) ?_ ?_ | refine callA_pure (u13 _) ?_ ?_); (next => repeat' first | exact flags_n | refine flags_c (by first | rfl | assumption) ?_); simp (disch := omega) only [go_sem, wrap64_id, Int.tdiv_eq_ediv_of_nonneg, Int.tmod_eq_emod_of_nonneg])
      | ((first | refine callG_pure (fun e => ⟨?_, c11p _⟩) ?_ | refine callG_pure (fun e => ⟨?_, u13 _⟩) ?_); (next => repeat' first | exact flags_n | refine flags_c (by first | rfl | assumption) ?_); simp (disch := omega) only [go_sem, wrap64_id, Int.tdiv_eq_ediv_of_nonneg, Int.tmod_eq_emod_of_nonneg])
      | ((first | refine fnQ_pure1 ?_ ?_ | refine fnQ_pure0 ?_ ?_); (next => repeat' first | exact rvs_n | refine rvs_t ?_ | (simp [go_sem]; done)); simp only [go_sem]; (first | exact VLe.refl _ | refine VLe_int ?_ | refine VLe_bool ?_ | refine VLe_str ?_ | skip))
      | (with_reducible refine And.intro ?_ ?_)
      | with_reducible intro _
    all_goals first
      | omega
      | (rename_i hx; revert hx; simp; done)
      | (simp; done)
      | skip
  | true =>
  rw [hfp] at c11p
  cases hfw : wordH w with
  | false =>
    rw [hfw] at c12
    refine acalls_of fn4e (by simp) ?_
    simp only [List.length_cons, List.length_nil, Nat.reduceAdd, Nat.reduceSub, List.replicate, List.cons_append, List.nil_append, List.append_nil]
    simp (disch := omega) only [c4e, go_sem, wrap64_id, Int.tdiv_eq_ediv_of_nonneg, Int.tmod_eq_emod_of_nonneg]
    repeat' first
      | ((first | refine callA_pure (c11p _) ?_ ?_ | refine callA_pure (c12 _) ?_ ?_ | refine callA_pure (u13 _) ?_ ?_); (next => repeat' first | exact flags_n | refine flags_c (by first | rfl | assumption) ?_); simp (disch := omega) only [go_sem, wrap64_id, Int.tdiv_eq_ediv_of_nonneg, Int.tmod_eq_emod_of_nonneg])
      | ((first | refine callG_pure (fun e => ⟨?_, c11p _⟩) ?_ | refine callG_pure (fun e => ⟨?_, c12 _⟩) ?_ | refine callG_pure (fun e => ⟨?_, u13 _⟩) ?_); (next => repeat' first | exact flags_n | refine flags_c (by first | rfl | assumption) ?_); simp (disch := omega) only [go_sem, wrap64_id, Int.tdiv_eq_ediv_of_nonneg, Int.tmod_eq_emod_of_nonneg])
      | ((first | refine fnQ_pure1 ?_ ?_ | refine fnQ_pure0 ?_ ?_); (next => repeat' first | exact rvs_n | refine rvs_t ?_ | (simp [go_sem]; done)); simp only [go_sem]; (first | exact VLe.refl _ | refine VLe_int ?_ | refine VLe_bool ?_ | refine VLe_str ?_ | skip))
      | (with_reducible refine And.intro ?_ ?_)
      | with_reducible intro _
    all_goals first
      | omega
      | (rename_i hx; revert hx; simp; done)
      | (simp; done)
      | skip
  | true =>
  rw [hfw] at c12
  have Fp := fine_of hfp
  have hw := hfw
  unfold wordH at hw
  simp only [Bool.and_eq_true, decide_eq_true_eq] at hw
  obtain ⟨hw1, hw2⟩ := hw
  have hwf : isWord (fold w) = true := by rw [isWord_fold]; exact hw2
  have s1 := start_fine Fp.check hw2
  have s2 := start_fine Fp.check hwf
  have s3 := start_fine (check_fold Fp) hwf
  have oq := okPats_fold Fp.ok
  have hfl := fold_len w
  have c1 := fun h => u14 p w h Fp.ok (by omega)
  have c2 := fun h l v => u14g (p.map foldP) (fold w) h l v oq (by omega)
  have c3 := fun h => t89 p w h Fp.ok (by omega)
  have c4 := fun h => t89 p (fold w) h Fp.ok (by omega)
  rw [levR_fine s1, s1] at c1
  rw [levR_fine s3, s3, levelsOf_fold, List.length_map] at c2
  rw [s1] at c3
  rw [s2, points_fold p w s1 s2] at c4
  have c18 := fun s h (hs : s.length ≤ 1000000000) => t141 s h hs
  have c18w := fun h => t141 w h (by omega)
  have lA := levelsOf_len p w
  have lL := points_len p w
  have hcl := clus_len w
  obtain ⟨A, hA⟩ : ∃ A, A = levelsOf p w := ⟨_, rfl⟩
  obtain ⟨L, hL⟩ : ∃ L, L = pointsR p w := ⟨_, rfl⟩
  rw [← hA] at c1 c2 lA
  rw [← hL] at c3 c4 lL
  have c17 := fun h => u17v A A h (by omega)
  rw [decide_eq_true rfl] at c17
  have c17n := fun h => u17n L h (by omega)
  obtain ⟨op1, op2⟩ := Fp.ok
  have hl8 := Fp.len
  refine acalls_of fn4e (by simp) ?_
  simp only [List.length_cons, List.length_nil, Nat.reduceAdd, Nat.reduceSub, List.replicate, List.cons_append, List.nil_append, List.append_nil]
  simp (disch := omega) only [c4e, go_sem, wrap64_id, Int.tdiv_eq_ediv_of_nonneg, Int.tmod_eq_emod_of_nonneg]
  repeat' first
    | ((first | refine callA_pure (c11p _) ?_ ?_ | refine callA_pure (c12 _) ?_ ?_); (next => repeat' first | exact flags_n | refine flags_c (by first | rfl | assumption) ?_); simp (disch := omega) only [patsV, go_sem, wrap64_id, Int.tdiv_eq_ediv_of_nonneg, Int.tmod_eq_emod_of_nonneg])
    | ((first | refine callG_pure (fun e => ⟨?_, c11p _⟩) ?_ | refine callG_pure (fun e => ⟨?_, c12 _⟩) ?_); (next => repeat' first | exact flags_n | refine flags_c (by first | rfl | assumption) ?_); simp (disch := omega) only [patsV, go_sem, wrap64_id, Int.tdiv_eq_ediv_of_nonneg, Int.tmod_eq_emod_of_nonneg])
    | ((first | refine fnQ_pure1 ?_ ?_ | refine fnQ_pure0 ?_ ?_); (next => repeat' first | exact rvs_n | refine rvs_t ?_ | (simp [go_sem]; done)); simp only [go_sem]; (first | exact VLe.refl _ | refine VLe_int ?_ | refine VLe_bool ?_ | refine VLe_str ?_ | skip))
    | (with_reducible refine And.intro ?_ ?_)
    | with_reducible intro _
  all_goals first
    | omega
    | (rename_i hx; revert hx; simp; done)
    | (simp; done)
    | skip
  refine loop_of (T := fun i : Nat × Nat × AObj × AObj => spar 86 [(0, patsV p), (1, .str w), (5, .osl h.length i.2.1 2 0 i.1), (25, patsV p), (26, .int .i64 p.length), (27, .int .i64 i.1)])
    (H := fun i => h ++ [ownO i.2.1 32 (patsC ((p.take i.1).map foldP)), i.2.2.1, i.2.2.2, .emp 0])
    (inv := fun i => i.1 ≤ p.length ∧ site [i.2.2.1] 0 = true ∧ site [i.2.2.2] 0 = true) (m := fun i => p.length - i.1) (0, 1, .emp 0, .emp 0) ⟨by simp, rfl, rfl⟩ (Wk.temps ?_) ?_
  · (simp only [patsV, spar, List.foldl, List.replicate, go_sem, VLes_nil, VLes_cons, VLe_undef_iff, VLe_self]; try (repeat' first | (with_reducible refine And.intro ?_ ?_) | (refine VLe_int ?_; omega) | (refine VLe_bool ?_; rfl) | exact VLe.refl _))
  rintro ⟨i, v, O1, O2⟩ ⟨i1, i2, i3⟩ K hK
  simp only at i1 i2 i3 hK
  have i2' : ∀ m, site (O1 :: m) 0 = true := fun _ => i2
  have i3' : ∀ m, site (O2 :: m) 0 = true := fun _ => i3
  have eP := patsC_len ((p.take i).map foldP)
  rw [List.length_map, List.length_take, Nat.min_eq_left i1] at eP
  have eT : List.take (i * 2) (patsC ((p.take i).map foldP)) = patsC ((p.take i).map foldP) := List.take_of_length_le (by omega)
  by_cases hi : i < p.length
  · obtain ⟨x, hx⟩ : ∃ x, x = p.getD i default := ⟨_, rfl⟩
    have ex := hx.symm
    have hxl := (op2 i hi).1
    rw [ex] at hxl
    have c18x := fun h => t141 x.letters h hxl
    simp (disch := omega) only [spar, List.foldl, List.replicate, patsV, patC, cells_intsV, solid_intsV, i2', i3', ex, eP, eT, madeA1, go_sem, wrap64_id, Int.tdiv_eq_ediv_of_nonneg, Int.tmod_eq_emod_of_nonneg]
    repeat' first
      | ((first | refine callA_pure (c18x _) ?_ ?_); (next => repeat' first | exact flags_n | refine flags_c (by first | rfl | assumption) ?_); simp (disch := omega) only [patsV, patC, cells_intsV, solid_intsV, i2', i3', ex, eP, eT, madeA1, go_sem, wrap64_id, Int.tdiv_eq_ediv_of_nonneg, Int.tmod_eq_emod_of_nonneg])
      | ((first | refine callG_pure (fun e => ⟨?_, c18x _⟩) ?_); (next => repeat' first | exact flags_n | refine flags_c (by first | rfl | assumption) ?_); simp (disch := omega) only [patsV, patC, cells_intsV, solid_intsV, i2', i3', ex, eP, eT, madeA1, go_sem, wrap64_id, Int.tdiv_eq_ediv_of_nonneg, Int.tmod_eq_emod_of_nonneg])
      | ((first | refine fnQ_pure1 ?_ ?_ | refine fnQ_pure0 ?_ ?_); (next => repeat' first | exact rvs_n | refine rvs_t ?_ | (simp [go_sem]; done)); simp only [go_sem]; (first | exact VLe.refl _ | refine VLe_int ?_ | refine VLe_bool ?_ | refine VLe_str ?_ | skip))
      | (with_reducible refine And.intro ?_ ?_)
      | with_reducible intro _
    all_goals first
      | omega
      | (rename_i hx; revert hx; simp; done)
      | (simp; done)
      | skip
    have hn : patsC ((p.take i).map foldP) ++ [.str (fold x.letters), intsV x.levels] = patsC ((p.take (i + 1)).map foldP) := by
      have e1 : p[i] = x := by rw [hx, List.getD_eq_getElem?_getD, List.getElem?_eq_getElem hi]; rfl
      rw [List.take_add_one, List.getElem?_eq_getElem hi, List.map_append, patsC_app, e1]
      rfl
    rw [hn]
    refine hK _ _ (i + 1, v + 1, .mem (verOf (some O1) + 1) 32 [.str x.letters, intsV x.levels], .mem (verOf (some O2) + 1) 32 [.str (fold x.letters), intsV x.levels]) ⟨by simp only; omega, rfl, rfl⟩ (by simp only; omega) (Wk.temps ?_)
    (simp only [patsV, patC, spar, List.foldl, List.replicate, go_sem, VLes_nil, VLes_cons, VLe_undef_iff, VLe_self]; try (repeat' first | (with_reducible refine And.intro ?_ ?_) | (refine VLe_int ?_; omega) | (refine VLe_bool ?_; rfl) | exact VLe.refl _))
  · have e : i = p.length := by omega
    subst e
    rw [List.take_length]
    simp (disch := omega) only [spar, List.foldl, List.replicate, i2', i3', mm4, okmm4, go_sem, wrap64_id, Int.tdiv_eq_ediv_of_nonneg, Int.tmod_eq_emod_of_nonneg]
    repeat' first
      | ((first | refine fnQ_pure1 ?_ ?_ | refine fnQ_pure0 ?_ ?_); (next => repeat' first | exact rvs_n | refine rvs_t ?_ | (simp [go_sem]; done)); simp only [go_sem]; (first | exact VLe.refl _ | refine VLe_int ?_ | refine VLe_bool ?_ | refine VLe_str ?_ | skip))
      | (with_reducible refine And.intro ?_ ?_)
      | with_reducible intro _
    all_goals first
      | omega
      | (rename_i hx; revert hx; simp; done)
      | (simp; done)
      | skip
    refine callA_eff (c1 _) ⟨rfl, rfl, trivial⟩ ?_
    simp (disch := omega) only [mm4, okmm4, go_sem, wrap64_id, Int.tdiv_eq_ediv_of_nonneg, Int.tmod_eq_emod_of_nonneg]
    repeat' first
      | ((first | refine callA_pure (c18w _) ?_ ?_); (next => repeat' first | exact flags_n | refine flags_c (by first | rfl | assumption) ?_); simp (disch := omega) only [mm4, okmm4, go_sem, wrap64_id, Int.tdiv_eq_ediv_of_nonneg, Int.tmod_eq_emod_of_nonneg])
      | ((first | refine callG_pure (fun e => ⟨?_, c18w _⟩) ?_); (next => repeat' first | exact flags_n | refine flags_c (by first | rfl | assumption) ?_); simp (disch := omega) only [mm4, okmm4, go_sem, wrap64_id, Int.tdiv_eq_ediv_of_nonneg, Int.tmod_eq_emod_of_nonneg])
      | ((first | refine fnQ_pure1 ?_ ?_ | refine fnQ_pure0 ?_ ?_); (next => repeat' first | exact rvs_n | refine rvs_t ?_ | (simp [go_sem]; done)); simp only [go_sem]; (first | exact VLe.refl _ | refine VLe_int ?_ | refine VLe_bool ?_ | refine VLe_str ?_ | skip))
      | (with_reducible refine And.intro ?_ ?_)
      | with_reducible intro _
    all_goals first
      | omega
      | (rename_i hx; revert hx; simp; done)
      | (simp; done)
      | skip
    refine callA_eff (c2 h _ v) ⟨rfl, rfl, trivial⟩ ?_
    simp (disch := omega) only [mm4, okmm4, go_sem, wrap64_id, Int.tdiv_eq_ediv_of_nonneg, Int.tmod_eq_emod_of_nonneg]
    repeat' first
      | ((first | refine callA_pure (c18w _) ?_ ?_ | refine callA_pure (c3 _) ?_ ?_ | refine callA_pure (c4 _) ?_ ?_ | refine callA_pure (c17 _) ?_ ?_ | refine callA_pure (c17n _) ?_ ?_ | refine callA_pure (u13 _) ?_ ?_); (next => repeat' first | exact flags_n | refine flags_c (by first | rfl | assumption) ?_); simp (disch := omega) only [mm4, okmm4, go_sem, wrap64_id, Int.tdiv_eq_ediv_of_nonneg, Int.tmod_eq_emod_of_nonneg])
      | ((first | refine callG_pure (fun e => ⟨?_, c18w _⟩) ?_ | refine callG_pure (fun e => ⟨?_, c3 _⟩) ?_ | refine callG_pure (fun e => ⟨?_, c4 _⟩) ?_ | refine callG_pure (fun e => ⟨?_, c17 _⟩) ?_ | refine callG_pure (fun e => ⟨?_, c17n _⟩) ?_ | refine callG_pure (fun e => ⟨?_, u13 _⟩) ?_); (next => repeat' first | exact flags_n | refine flags_c (by first | rfl | assumption) ?_); simp (disch := omega) only [mm4, okmm4, go_sem, wrap64_id, Int.tdiv_eq_ediv_of_nonneg, Int.tmod_eq_emod_of_nonneg])
      | ((first | refine fnQ_pure1 ?_ ?_ | refine fnQ_pure0 ?_ ?_); (next => repeat' first | exact rvs_n | refine rvs_t ?_ | (simp [go_sem]; done)); simp only [go_sem]; (first | exact VLe.refl _ | refine VLe_int ?_ | refine VLe_bool ?_ | refine VLe_str ?_ | skip))
      | (with_reducible refine And.intro ?_ ?_)
      | with_reducible intro _
    all_goals first
      | omega
      | (rename_i hx; revert hx; simp; done)
      | (simp; done)
      | skip
end HY

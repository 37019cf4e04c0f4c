import Derived.Test.YtonpflblcnpegaaDoorE30
set_option linter.all false
set_option linter.unusedSimpArgs false
set_option linter.unusedVariables false
set_option linter.unusedSectionVars false
open Go Go.Proofs AF HY
namespace HY
set_option maxRecDepth 100000
theorem VOuts_ints {n : Nat} {H : List AObj} : ∀ L : List Int, VOuts n H (intsC L) (intsC L)
  | [] => trivial
  | _ :: L => ⟨VOut.of 1 (VLe.refl _), VOuts_ints L⟩
set_option maxHeartbeats 4000000 in
theorem u44m (ps : List Pat) (w : List UInt8) (h : List AObj) (hok : okPats ps) (hw : w.length ≤ 1000000) (hw0 : 0 < (clus w).length) (hwf : wfPats ps) (k : Nat) (hk : site h k = true) (hne : ptAt (clus w) (levelsOf ps w) ((clus w).length - 1) ≠ []) :
    ACalls Tryd.prog 44 [patsV ps, .str w] h (.tup [.osl k (verOf (getO k h) + 1) 1 0 (ptAt (clus w) (levelsOf ps w) ((clus w).length - 1)).length, intsV (ptHi (clus w).length (levelsOf ps w) ((clus w).length - 1))]) (setO k h (.mem (verOf (getO k h) + 1) 3 (intsC (ptAt (clus w) (levelsOf ps w) ((clus w).length - 1))))) := by
  have c131 := fun h => t131 ps w h hok hw (by rw [clus_fold_len]; exact hw0) hwf
  have c105 := fun h => t105 w h (by omega)
  have hll := levelsOf_len ps w
  have hcl := clus_len w
  have hof := fun i => offN_le (clus w) i
  rw [clus_join] at hof
  obtain ⟨lv, hlv⟩ : ∃ x, x = levelsOf ps w := ⟨_, rfl⟩
  obtain ⟨own, hown⟩ : ∃ x, x = clus w := ⟨_, rfl⟩
  rw [← hlv] at c131 hll hne ⊢
  rw [← hown] at c105 hll hcl hof hw0 hne ⊢
  refine acallsM2 fn44d k (by simp) ?_
  simp only [List.length_cons, List.length_nil, Nat.reduceAdd, Nat.reduceSub, List.replicate, List.cons_append, List.nil_append, List.append_nil]
  simp (disch := omega) only [c44d, patsV, madeA1, go_sem, wrap64_id, Int.tdiv_eq_ediv_of_nonneg, Int.tmod_eq_emod_of_nonneg]
  repeat' first
    | ((first | refine callA_pure (c105 _) ?_ ?_ | refine callA_pure (c131 _) ?_ ?_); (next => repeat' first | exact flags_n | refine flags_c (by first | rfl | assumption) ?_); simp (disch := omega) only [patsV, madeA1, intsV, strs, go_sem, wrap64_id, Int.tdiv_eq_ediv_of_nonneg, Int.tmod_eq_emod_of_nonneg])
    | ((first | refine callG_pure (fun e => ⟨?_, c105 _⟩) ?_ | refine callG_pure (fun e => ⟨?_, c131 _⟩) ?_); (next => repeat' first | exact flags_n | refine flags_c (by first | rfl | assumption) ?_); simp (disch := omega) only [patsV, madeA1, intsV, strs, go_sem, wrap64_id, Int.tdiv_eq_ediv_of_nonneg, Int.tmod_eq_emod_of_nonneg])
    | ((first | refine fnQ_pure1 ?_ ?_ | refine fnQ_pure0 ?_ ?_); (next => repeat' first | exact rvs_n | refine rvs_t ?_ | (simp [go_sem]; done)); simp only [go_sem]; (first | exact VLe.refl _ | refine VLe_int ?_ | refine VLe_bool ?_ | refine VLe_str ?_ | skip))
    | (with_reducible refine And.intro ?_ ?_)
    | with_reducible intro _
  all_goals first
    | omega
    | (rename_i hx; revert hx; simp; done)
    | (simp; done)
    | skip
  refine loop_of (T := fun i : Nat × Nat × AObj × AObj => spar 56 [(6, .osl (h.length + 2) i.2.1 1 0 (ptAt own lv i.1).length), (7, .osl (h.length + 3) i.2.1 1 0 (ptHi own.length lv i.1).length), (8, strs own), (9, .int .i64 (offN own i.1)), (16, intsV lv), (17, .int .i64 lv.length), (18, .int .i64 i.1)])
    (H := fun i => h ++ [.emp 1, .emp 1, ownO i.2.1 3 (intsC (ptAt own lv i.1)), ownO i.2.1 3 (intsC (ptHi own.length lv i.1)), i.2.2.1, .emp 0, i.2.2.2, .emp 0])
    (inv := fun i => i.1 ≤ lv.length ∧ site [i.2.2.1] 0 = true ∧ site [i.2.2.2] 0 = true) (m := fun i => lv.length - i.1) (0, 1, .emp 0, .emp 0) ⟨by simp, rfl, rfl⟩ (Wk.temps ?_) ?_
  · (simp only [strs, patsV, intsV, offN_zero, spar, List.foldl, List.replicate, go_sem, VLes_nil, VLes_cons, VLe_undef_iff, VLe_self]; try (repeat' first | (with_reducible refine And.intro ?_ ?_) | (refine VLe_int ?_; omega) | (refine VLe_bool ?_; rfl) | exact VLe.refl _))
  rintro ⟨i, v, O1, O2⟩ ⟨i1, i2, i3⟩ K hK
  simp only at i1 i2 i3 hK
  have i2' : ∀ m, site (O1 :: m) 0 = true := fun _ => i2
  have i3' : ∀ m, site (O2 :: m) 0 = true := fun _ => i3
  have q1 := ptIdx_le own.length lv i
  have q2 := ptAt_len own lv i
  have q3 := ptHi_len own.length lv i
  have e1 := intsC_len (ptAt own lv i)
  have e2 := intsC_len (ptHi own.length lv i)
  have f1 : List.take (ptAt own lv i).length (intsC (ptAt own lv i)) = intsC (ptAt own lv i) := List.take_of_length_le (by omega)
  have f2 : List.take (ptHi own.length lv i).length (intsC (ptHi own.length lv i)) = intsC (ptHi own.length lv i) := List.take_of_length_le (by omega)
  by_cases hi : i < lv.length
  · have ho := offN_succ (own := own) (i := i) (by omega)
    have hle := hof (i + 1)
    cases hb : hitP own.length lv i with
    | true =>
      have r1 := ptAt_t hb
      have r2 := ptHi_t hb
      unfold hitP at hb
      simp only [Bool.and_eq_true, decide_eq_true_eq] at hb
      have k1 : ((lv.getD i 0).tmod 2 = 1) = True := eq_true hb.1
      have k2 : (1 ≤ (i : Int)) = True := eq_true (by omega)
      have k3 : (2 ≤ (own.length : Int) - (i : Int) - 1) = True := eq_true (by omega)
      simp (disch := omega) only [spar, List.foldl, List.replicate, strs, intsV, i2', i3', k1, k2, k3, madeA1, e1, e2, f1, f2, go_sem, wrap64_id, Int.tdiv_eq_ediv_of_nonneg, Int.tmod_eq_emod_of_nonneg]
      repeat' first
        | ((first | refine fnQ_pure1 ?_ ?_ | refine fnQ_pure0 ?_ ?_); (next => repeat' first | exact rvs_n | refine rvs_t ?_ | (simp [go_sem]; done)); simp only [go_sem]; (first | exact VLe.refl _ | refine VLe_int ?_ | refine VLe_bool ?_ | refine VLe_str ?_ | skip))
        | (with_reducible refine And.intro ?_ ?_)
        | with_reducible intro _
      all_goals first
        | omega
        | (rename_i hx; revert hx; simp; done)
        | (simp; done)
        | skip
      have hoi : (offN own i : Int) + ((own.getD i []).length : Int) = ((offN own (i + 1) : Nat) : Int) := by omega
      have l1 : (ptAt own lv i).length + 1 = (ptAt own lv (i + 1)).length := by rw [r1]; simp
      have l2 : (ptHi own.length lv i).length + 1 = (ptHi own.length lv (i + 1)).length := by rw [r2]; simp
      rw [hoi, ← intsC_snoc, ← intsC_snoc, ← r1, ← r2, l1, l2]
      refine hK _ _ (i + 1, v + 1, .mem (verOf (some O1) + 1) 3 [.int .i64 (offN own (i + 1) : Nat)], .mem (verOf (some O2) + 1) 3 [.int .i64 (lv.getD i 0)]) ⟨by simp only; omega, rfl, rfl⟩ (by simp only; omega) (Wk.temps ?_)
      (simp only [strs, intsV, spar, List.foldl, List.replicate, go_sem, VLes_nil, VLes_cons, VLe_undef_iff, VLe_self]; try (repeat' first | (with_reducible refine And.intro ?_ ?_) | (refine VLe_int ?_; omega) | (refine VLe_bool ?_; rfl) | exact VLe.refl _))
    | false =>
      have r1 := ptAt_f hb
      have r2 := ptHi_f hb
      simp (disch := omega) only [spar, List.foldl, List.replicate, strs, intsV, i2', i3', madeA1, go_sem, wrap64_id, Int.tdiv_eq_ediv_of_nonneg, Int.tmod_eq_emod_of_nonneg]
      repeat' first
        | ((first | refine fnQ_pure1 ?_ ?_ | refine fnQ_pure0 ?_ ?_); (next => repeat' first | exact rvs_n | refine rvs_t ?_ | (simp [go_sem]; done)); simp only [go_sem]; (first | exact VLe.refl _ | refine VLe_int ?_ | refine VLe_bool ?_ | refine VLe_str ?_ | skip))
        | (with_reducible refine And.intro ?_ ?_)
        | with_reducible intro _
      all_goals first
        | omega
        | (rename_i hx; revert hx; simp; done)
        | (simp; done)
        | skip
      · rename_i hx
        exfalso
        have : hitP own.length lv i = true := by
          unfold hitP
          simp only [Bool.and_eq_true, decide_eq_true_eq]
          exact ⟨hx.1.1, by omega, by omega⟩
        rw [this] at hb
        cases hb
      · rw [← r1, ← r2]
        refine hK _ _ (i + 1, v, O1, O2) ⟨by simp only; omega, i2, i3⟩ (by simp only; omega) (Wk.temps ?_)
        (simp only [strs, intsV, spar, List.foldl, List.replicate, go_sem, VLes_nil, VLes_cons, VLe_undef_iff, VLe_self]; try (repeat' first | (with_reducible refine And.intro ?_ ?_) | (refine VLe_int ?_; omega) | (refine VLe_bool ?_; rfl) | exact VLe.refl _))
  · have e : i = own.length - 1 := by omega
    subst e
    simp (disch := omega) only [spar, List.foldl, List.replicate, strs, intsV, go_sem, wrap64_id, Int.tdiv_eq_ediv_of_nonneg, Int.tmod_eq_emod_of_nonneg]
    repeat' first
      | ((first | refine fnQ_pure1 ?_ ?_ | refine fnQ_pure0 ?_ ?_); (next => repeat' first | exact rvs_n | refine rvs_t ?_ | (simp [go_sem]; done)); simp only [go_sem]; (first | exact VLe.refl _ | refine VLe_int ?_ | refine VLe_bool ?_ | refine VLe_str ?_ | skip))
      | (with_reducible refine And.intro ?_ ?_)
      | with_reducible intro _
    all_goals first
      | omega
      | (rename_i hx; revert hx; simp; done)
      | (simp; done)
      | skip
    have hon : ownO v 3 (intsC (ptAt own lv (own.length - 1))) = .mem v 3 (intsC (ptAt own lv (own.length - 1))) := ownO_ne (fun e => hne (by simpa [intsC] using e))
    rw [hon]
    refine ⟨h.length + 2, v, 1, 0, (ptAt own lv (own.length - 1)).length, 3, intsC (ptAt own lv (own.length - 1)), intsC (ptAt own lv (own.length - 1)), _, [.osl (h.length + 3) v 1 0 (ptHi own.length lv (own.length - 1)).length], [intsV (ptHi own.length lv (own.length - 1))], ⟨trivial, trivial, trivial⟩, rfl, rfl, by omega, by simp only [go_sem], hk, VOuts_ints _, ⟨VOut.of 6 ?_, trivial⟩, rfl, rfl⟩
    rw [movedH_eq (site_lt hk)]
    obtain ⟨h2, hh2⟩ : ∃ h2, h2 = setO k h (.mem (verOf (getO k h) + 1) 3 (intsC (ptAt own lv (own.length - 1)))) := ⟨_, rfl⟩
    rw [← hh2]
    have hl : h2.length = h.length := by rw [hh2, len_setO]
    rw [← hl]
    simp (disch := omega) only [frz_osl, go_sem, wrap64_id, Int.tdiv_eq_ediv_of_nonneg, Int.tmod_eq_emod_of_nonneg]
    exact slOf_ints (v := v) (n := 4) (L := ptHi own.length lv (own.length - 1))
end HY

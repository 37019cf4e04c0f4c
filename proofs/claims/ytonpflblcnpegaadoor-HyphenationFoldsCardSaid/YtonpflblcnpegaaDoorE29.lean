import Derived.Test.YtonpflblcnpegaaDoorE28
set_option linter.all false
set_option linter.unusedSimpArgs false
set_option linter.unusedVariables false
set_option linter.unusedSectionVars false
open Go Go.Proofs AF HY
namespace HY
set_option maxRecDepth 100000
theorem slOf_pats {v n : Nat} {L : List Pat} {fz : Nat → Bool} {h : List AObj} : VLe (slOf (some (ownO v 32 (patsC L))) v 2 0 L.length (rei fz h (n + 1))) (patsV L) := by
  unfold ownO
  split
  · rename_i e
    have : L = [] := by cases L with
      | nil => rfl
      | cons a l => simp [patsC, patC] at e
    subst this
    rw [slOf_emp, if_pos rfl]
    exact VLe_nl
  · rw [slOf_mem, if_pos ⟨rfl, by rw [patsC_len]; omega⟩]
    simp only [Nat.zero_add]
    exact patsV_of rfl
theorem t64o (ps : List Pat) (k v : Nat) (h : List AObj) (hk : getO k h = some (ownO v 32 (patsC ps))) (hok : okPats ps) : ACalls Tryd.prog 25 [.osl k v 2 0 ps.length] h (.int .i64 (checkPats ps)) h := by
  refine ACalls.borrow ?_ rfl
  refine ACalls.le (t64 ps [] hok) ?_ (VLe.refl _)
  simp only [List.map_cons, List.map_nil, rei_osl, if_true, hk]
  exact VLes2 slOf_pats VLes.nil
def patB (s : List UInt8) : Pat := ⟨letB s, levB s⟩
def parseB (s : List UInt8) : List Pat := (splitL 32 s).map patB
theorem letB_len (s : List UInt8) : (letB s).length ≤ s.length := List.length_filter_le _ _
theorem levB_len (s : List UInt8) : (levB s).length ≤ s.length + 1 := by
  unfold levB
  rw [List.length_append, lvAll_len]
  have h1 := clus_len (letB s)
  have h2 := letB_len s
  simp
  omega
theorem splitP_len (c : UInt8) (s : List UInt8) (i : Nat) : (splitP c s i).length ≤ s.length := by
  have := rest_len c s i
  unfold splitP
  split
  · rw [List.length_take]; omega
  · exact this
theorem splitL_get (c : UInt8) (s : List UInt8) {i : Nat} (hi : i < (splitL c s).length) : (splitL c s).getD i [] = splitP c s i := by
  unfold splitL at hi ⊢
  rw [List.getD_eq_getElem?_getD, List.getElem?_eq_getElem hi]
  simp
theorem parseB_ok (s : List UInt8) (hs : s.length ≤ 65536) : okPats (parseB s) := by
  have hc : s.count 32 ≤ s.length := List.count_le_length
  have hl : (parseB s).length = s.count 32 + 1 := by simp [parseB, splitL_len]
  refine ⟨by omega, fun i hi => ?_⟩
  have hi2 : i < (splitL 32 s).length := by rw [splitL_len]; omega
  have e : (parseB s).getD i default = patB (splitP 32 s i) := by
    rw [← splitL_get 32 s hi2]
    unfold parseB
    rw [List.getD_eq_getElem?_getD, List.getElem?_map, List.getElem?_eq_getElem hi2, List.getD_eq_getElem?_getD, List.getElem?_eq_getElem hi2]
    rfl
  rw [e]
  have h1 := letB_len (splitP 32 s i)
  have h2 := levB_len (splitP 32 s i)
  have h3 := splitP_len 32 s i
  unfold patB
  exact ⟨by simp only; omega, by simp only; omega⟩
set_option maxHeartbeats 4000000 in
theorem u21 (s : List UInt8) (h : List AObj) (hs : s.length ≤ 65536) (h0 : s ≠ []) (ho : ∀ x ∈ splitL 32 s, okPart x) (hc : checkPats (parseB s) = 0) : ACalls Tryd.prog 21 [.str s] h (.tup [patsV (parseB s), .int .i64 0]) h := by
  have k0 : (s = []) = False := eq_false h0
  have k1 : (65536 < (s.length : Int)) = False := eq_false (by omega)
  have c45 := fun h => u45 s 32 h (by omega)
  have hct : s.count 32 ≤ s.length := List.count_le_length
  have hll := splitL_len 32 s
  have hpl : ∀ i, i < (splitL 32 s).length → ((splitL 32 s).getD i []).length ≤ 65536 := fun i hi => by rw [splitL_get 32 s hi]; have := splitP_len 32 s i; omega
  have hok := parseB_ok s hs
  have hpo : ∀ i, i < (splitL 32 s).length → okPart ((splitL 32 s).getD i []) := fun i hi => by
    have := ho _ (List.getElem_mem hi)
    rwa [List.getD_eq_getElem?_getD, List.getElem?_eq_getElem hi]
  unfold parseB at hc hok ⊢
  obtain ⟨us, hus⟩ : ∃ us, us = splitL 32 s := ⟨_, rfl⟩
  rw [← hus] at c45 hll hpl hpo hc hok ⊢
  refine acalls_of fn21d (by simp) ?_
  simp only [List.length_cons, List.length_nil, Nat.reduceAdd, Nat.reduceSub, List.replicate, List.cons_append, List.nil_append, List.append_nil]
  simp (disch := omega) only [c21d, k0, k1, go_sem, wrap64_id, Int.tdiv_eq_ediv_of_nonneg, Int.tmod_eq_emod_of_nonneg]
  repeat' first
    | ((first | refine callA_pure (c45 _) ?_ ?_); (next => repeat' first | exact flags_n | refine flags_c (by first | rfl | assumption) ?_); simp (disch := omega) only [k0, k1, strs, go_sem, wrap64_id, Int.tdiv_eq_ediv_of_nonneg, Int.tmod_eq_emod_of_nonneg])
    | ((first | refine callG_pure (fun e => ⟨?_, c45 _⟩) ?_); (next => repeat' first | exact flags_n | refine flags_c (by first | rfl | assumption) ?_); simp (disch := omega) only [k0, k1, strs, go_sem, wrap64_id, Int.tdiv_eq_ediv_of_nonneg, Int.tmod_eq_emod_of_nonneg])
    | ((first | refine fnQ_pure1 ?_ ?_ | refine fnQ_pure0 ?_ ?_); (next => repeat' first | exact rvs_n | refine rvs_t ?_ | (simp [go_sem]; done)); simp only [go_sem]; (first | exact VLe.refl _ | refine VLe_int ?_ | refine VLe_bool ?_ | refine VLe_str ?_ | skip))
    | (with_reducible refine And.intro ?_ ?_)
    | with_reducible intro _
  all_goals first
    | omega
    | (rename_i hx; revert hx; simp; done)
    | (simp; done)
    | skip
  refine loop_of (T := fun i : Nat × Nat × AObj × AObj => spar 40 [(4, .osl (h.length + 1) i.2.1 2 0 i.1), (16, strs us), (17, .int .i64 us.length), (18, .int .i64 i.1)])
    (H := fun i => h ++ [.emp 1, ownO i.2.1 32 (patsC ((us.take i.1).map patB)), i.2.2.1, i.2.2.2, .emp 0])
    (inv := fun i => i.1 ≤ us.length ∧ site [i.2.2.1] 0 = true ∧ site [i.2.2.2] 0 = true) (m := fun i => us.length - i.1) (0, 1, .emp 0, .emp 0) ⟨by simp, rfl, rfl⟩ (Wk.temps ?_) ?_
  · (simp only [strs, spar, List.foldl, List.replicate, go_sem, VLes_nil, VLes_cons, VLe_undef_iff, VLe_self]; try (repeat' first | (with_reducible refine And.intro ?_ ?_) | (refine VLe_int ?_; omega) | (refine VLe_bool ?_; rfl) | exact VLe.refl _))
  rintro ⟨i, v, O1, O2⟩ ⟨i1, i2, i3⟩ K hK
  simp only at i1 i2 i3 hK
  have i2' : ∀ m, site (O1 :: m) 0 = true := fun _ => i2
  have i3' : ∀ m, site (O2 :: m) 0 = true := fun _ => i3
  have eP := patsC_len ((us.take i).map patB)
  rw [List.length_map, List.length_take, Nat.min_eq_left i1] at eP
  have eT : List.take (i * 2) (patsC ((us.take i).map patB)) = patsC ((us.take i).map patB) := List.take_of_length_le (by omega)
  by_cases hi : i < us.length
  · obtain ⟨x, hx⟩ : ∃ x, x = us.getD i [] := ⟨_, rfl⟩
    have ex := hx.symm
    have c46 := fun h => u46 x h (by have := hpl i hi; rw [ex] at this; omega) (by rw [hx]; exact hpo i hi)
    simp (disch := omega) only [spar, List.foldl, List.replicate, strs, i2', i3', ex, eP, eT, madeA1, go_sem, wrap64_id, Int.tdiv_eq_ediv_of_nonneg, Int.tmod_eq_emod_of_nonneg]
    repeat' first
      | ((first | refine callA_pure (c46 _) ?_ ?_); (next => repeat' first | exact flags_n | refine flags_c (by first | rfl | assumption) ?_); simp (disch := omega) only [strs, i2', i3', ex, eP, eT, madeA1, go_sem, wrap64_id, Int.tdiv_eq_ediv_of_nonneg, Int.tmod_eq_emod_of_nonneg])
      | ((first | refine callG_pure (fun e => ⟨?_, c46 _⟩) ?_); (next => repeat' first | exact flags_n | refine flags_c (by first | rfl | assumption) ?_); simp (disch := omega) only [strs, i2', i3', ex, eP, eT, madeA1, go_sem, wrap64_id, Int.tdiv_eq_ediv_of_nonneg, Int.tmod_eq_emod_of_nonneg])
      | ((first | refine fnQ_pure1 ?_ ?_ | refine fnQ_pure0 ?_ ?_); (next => repeat' first | exact rvs_n | refine rvs_t ?_ | (simp [go_sem]; done)); simp only [go_sem]; (first | exact VLe.refl _ | refine VLe_int ?_ | refine VLe_bool ?_ | refine VLe_str ?_ | skip))
      | (with_reducible refine And.intro ?_ ?_)
      | with_reducible intro _
    all_goals first
      | omega
      | (rename_i hx; revert hx; simp; done)
      | (simp; done)
      | skip
    have hn : patsC ((us.take i).map patB) ++ [.str (letB x), intsV (levB x)] = patsC ((us.take (i + 1)).map patB) := by
      have e1 : us[i] = x := by rw [hx, List.getD_eq_getElem?_getD, List.getElem?_eq_getElem hi]; rfl
      rw [List.take_add_one, List.getElem?_eq_getElem hi, List.map_append, patsC_app, e1]
      rfl
    rw [hn]
    refine hK _ _ (i + 1, v + 1, .mem (verOf (some O1) + 1) 32 [.str (letB x), intsV (levB x)], .mem (verOf (some O2) + 1) 32 [.str (letB x), intsV (levB x)]) ⟨by simp only; omega, rfl, rfl⟩ (by simp only; omega) (Wk.temps ?_)
    (simp only [strs, spar, List.foldl, List.replicate, go_sem, VLes_nil, VLes_cons, VLe_undef_iff, VLe_self]; try (repeat' first | (with_reducible refine And.intro ?_ ?_) | (refine VLe_int ?_; omega) | (refine VLe_bool ?_; rfl) | exact VLe.refl _))
  · have e : i = us.length := by omega
    subst e
    rw [List.take_length]
    have c64 := t64o (us.map patB) (h.length + 1) v (h ++ [.emp 1, ownO v 32 (patsC (us.map patB)), O1, O2, .emp 0]) (by simp only [go_sem]) hok
    rw [hc, List.length_map] at c64
    simp (disch := omega) only [spar, List.foldl, List.replicate, strs, i2', i3', go_sem, wrap64_id, Int.tdiv_eq_ediv_of_nonneg, Int.tmod_eq_emod_of_nonneg]
    repeat' first
      | ((first | refine callA_pure (c64) ?_ ?_); (next => repeat' first | exact flags_n | refine flags_c (by first | rfl | assumption) ?_); simp (disch := omega) only [strs, i2', i3', go_sem, wrap64_id, Int.tdiv_eq_ediv_of_nonneg, Int.tmod_eq_emod_of_nonneg])
      | ((first | refine callG_pure (fun e => ⟨?_, c64⟩) ?_); (next => repeat' first | exact flags_n | refine flags_c (by first | rfl | assumption) ?_); simp (disch := omega) only [strs, i2', i3', go_sem, wrap64_id, Int.tdiv_eq_ediv_of_nonneg, Int.tmod_eq_emod_of_nonneg])
      | ((first | refine fnQ_pure1 ?_ ?_ | refine fnQ_pure0 ?_ ?_); (next => repeat' first | exact rvs_n | refine rvs_t ?_ | (simp [go_sem]; done)); simp only [go_sem]; (first | exact VLe.refl _ | refine VLe_int ?_ | refine VLe_bool ?_ | refine VLe_str ?_ | skip))
      | (with_reducible refine And.intro ?_ ?_)
      | with_reducible intro _
    all_goals first
      | omega
      | (rename_i hx; revert hx; simp; done)
      | (simp; done)
      | skip
    have hsl := fun h => slOf_pats (v := v) (n := 5) (L := us.map patB) (fz := fun k => decide (h.length ≤ k)) (h := h ++ [AObj.emp 1, ownO v 32 (patsC (us.map patB)), O1, O2, AObj.emp 0])
    rw [List.length_map] at hsl
    exact VLe_tup ⟨hsl h, VLe.refl _, trivial⟩
end HY

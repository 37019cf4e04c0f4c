import Derived.Test.YtonpflblcnpegaaDoorE31
set_option linter.all false
set_option linter.unusedSimpArgs false
set_option linter.unusedVariables false
set_option linter.unusedSectionVars false
open Go Go.Proofs AF HY
namespace HY
set_option maxRecDepth 100000
theorem intsC_range (L : List Int) : (List.range L.length).flatMap (fun i => [AV.int .i64 (L.getD i 0)]) = intsC L := by
  rw [← List.map_eq_flatMap]
  unfold intsC
  apply List.ext_getElem
  · simp
  · intro i h1 h2
    simp at h1
    simp [List.getD_eq_getElem?_getD, h1]
def prevI (L : List Int) (j : Nat) : Int := if j = 0 then 0 else L.getD (j - 1) 0
def piece (w : List UInt8) (L : List Int) (j : Nat) : List UInt8 := (w.drop (prevI L j).toNat).take ((L.getD j 0).toNat - (prevI L j).toNat)
/-- The first j pieces of a word that is cut at places. -/
def pieces (w : List UInt8) (L : List Int) (j : Nat) : List (List UInt8) := (List.range j).map (piece w L)
def okCuts (w : List UInt8) (L : List Int) : Prop := ∀ j, j < L.length → 0 ≤ prevI L j ∧ prevI L j ≤ L.getD j 0 ∧ L.getD j 0 ≤ w.length
theorem prevI_zero (L : List Int) : prevI L 0 = 0 := rfl
theorem prevI_succ (L : List Int) (j : Nat) : prevI L (j + 1) = L.getD j 0 := by simp [prevI]
theorem pieces_zero (w : List UInt8) (L : List Int) : pieces w L 0 = [] := rfl
theorem pieces_succ (w : List UInt8) (L : List Int) (j : Nat) : pieces w L (j + 1) = pieces w L j ++ [piece w L j] := by unfold pieces; rw [List.range_succ, List.map_append]; rfl
theorem pieces_len (w : List UInt8) (L : List Int) (j : Nat) : (pieces w L j).length = j := by simp [pieces]
theorem strC_snoc2 (L : List (List UInt8)) (x : List UInt8) : strC L ++ [.str x] = strC (L ++ [x]) := by simp [strC]
theorem slOf_strs {v n : Nat} {L : List (List UInt8)} {fz : Nat → Bool} {h : List AObj} : VLe (slOf (some (ownO v 9 (strC L))) v 1 0 L.length (rei fz h (n + 1))) (strs L) := by
  unfold ownO
  split
  · rename_i e
    have : L = [] := by cases L with
      | nil => rfl
      | cons a l => simp [strC] at e
    subst this
    rw [slOf_emp, if_pos rfl]
    exact VLe_nl
  · rw [slOf_mem, if_pos ⟨rfl, by rw [strC_len]; omega⟩]
    simp only [Nat.zero_add, Nat.mul_one]
    exact strs_of rfl
/-- The points as places to cut at. -/
def cutsOf (ps : List Pat) (w : List UInt8) : List Int := pointsR ps w ++ [(w.length : Int)]
theorem offN_mono (own : List (List UInt8)) {i j : Nat} (h : i ≤ j) : offN own i ≤ offN own j := by
  unfold offN
  have e : own.take i = (own.take j).take i := by rw [List.take_take, Nat.min_eq_left h]
  rw [e]
  exact flatten_take_le _ _
theorem ptAt_sorted (own : List (List UInt8)) (lv : List Int) (m : Nat) : List.Pairwise (· ≤ ·) (ptAt own lv m) := by
  unfold ptAt ptIdx
  rw [List.pairwise_map]
  refine List.Pairwise.imp ?_ ((List.pairwise_lt_range (n := m)).filter _)
  intro a b hab
  have := offN_mono own (show a + 1 ≤ b + 1 by omega)
  omega
theorem ptAt_bound (w : List UInt8) (lv : List Int) (m : Nat) : ∀ x ∈ ptAt (clus w) lv m, 0 ≤ x ∧ x ≤ w.length := by
  intro x hx
  unfold ptAt at hx
  rw [List.mem_map] at hx
  obtain ⟨i, _, rfl⟩ := hx
  have := offN_le (clus w) (i + 1)
  rw [clus_join] at this
  omega
theorem okCuts_of {w : List UInt8} {L : List Int} (hs : List.Pairwise (· ≤ ·) L) (hb : ∀ x ∈ L, 0 ≤ x ∧ x ≤ w.length) : okCuts w L := by
  intro j hj
  have g : ∀ i (hi : i < L.length), L.getD i 0 = L[i] := fun i hi => by simp [List.getD_eq_getElem?_getD, hi]
  have h1 := hb _ (List.getElem_mem hj)
  rw [g j hj]
  unfold prevI
  split
  · omega
  · have hj' : j - 1 < L.length := by omega
    have h2 := hb _ (List.getElem_mem hj')
    have h3 := (List.pairwise_iff_getElem.1 hs) (j - 1) j hj' hj (by omega)
    rw [g (j - 1) hj']
    omega
theorem okCuts_points (ps : List Pat) (w : List UInt8) : okCuts w (cutsOf ps w) := by
  unfold cutsOf pointsR
  have hb : ∀ x ∈ (if startE ps w = 0 then ptAt (clus w) (levelsOf ps w) ((clus w).length - 1) else []), 0 ≤ x ∧ x ≤ (w.length : Int) := by
    split
    · exact ptAt_bound w _ _
    · simp
  have hs : List.Pairwise (· ≤ ·) (if startE ps w = 0 then ptAt (clus w) (levelsOf ps w) ((clus w).length - 1) else []) := by
    split
    · exact ptAt_sorted _ _ _
    · exact .nil
  refine okCuts_of ?_ ?_
  · rw [List.pairwise_append]
    refine ⟨hs, by simp, fun a ha b hb' => ?_⟩
    simp at hb'
    subst hb'
    exact (hb a ha).2
  · intro x hx
    rcases List.mem_append.1 hx with h | h
    · exact hb x h
    · simp at h; subst h; omega
theorem points_len (ps : List Pat) (w : List UInt8) : (pointsR ps w).length ≤ w.length := by
  unfold pointsR
  split
  · rw [ptAt_len]
    have := ptIdx_le (clus w).length (levelsOf ps w) ((clus w).length - 1)
    have := clus_len w
    omega
  · simp
def splitR (ps : List Pat) (w : List UInt8) : List (List UInt8) := if startE ps w = 0 then pieces w (cutsOf ps w) (cutsOf ps w).length else []
set_option maxHeartbeats 4000000 in
theorem u30 (ps : List Pat) (w : List UInt8) (h : List AObj) (hok : okPats ps) (hw : w.length ≤ 100000) : ACalls Tryd.prog 30 [patsV ps, .str w] h (.tup [strs (splitR ps w), .int .i64 (startE ps w)]) h := by
  have c112 := fun h => t112 ps w h hok (by omega)
  have hcut := okCuts_points ps w
  have hpl := points_len ps w
  unfold splitR
  by_cases g : startE ps w = 0
  case neg =>
    rw [if_neg g]
    refine acalls_of fn30e (by simp) ?_
    simp only [List.length_cons, List.length_nil, Nat.reduceAdd, Nat.reduceSub, List.replicate, List.cons_append, List.nil_append, List.append_nil]
    simp (disch := omega) only [c30e, go_sem, wrap64_id, Int.tdiv_eq_ediv_of_nonneg, Int.tmod_eq_emod_of_nonneg]
    repeat' first
      | ((first | refine callA_pure (c112 _) ?_ ?_); (next => repeat' first | exact flags_n | refine flags_c (by first | rfl | assumption) ?_); simp (disch := omega) only [g, go_sem, wrap64_id, Int.tdiv_eq_ediv_of_nonneg, Int.tmod_eq_emod_of_nonneg])
      | ((first | refine callG_pure (fun e => ⟨?_, c112 _⟩) ?_); (next => repeat' first | exact flags_n | refine flags_c (by first | rfl | assumption) ?_); simp (disch := omega) only [g, go_sem, wrap64_id, Int.tdiv_eq_ediv_of_nonneg, Int.tmod_eq_emod_of_nonneg])
      | ((first | refine fnQ_pure1 ?_ ?_ | refine fnQ_pure0 ?_ ?_); (next => repeat' first | exact rvs_n | refine rvs_t ?_ | (simp [go_sem]; done)); simp only [go_sem]; (first | exact VLe.refl _ | refine VLe_int ?_ | refine VLe_bool ?_ | refine VLe_str ?_ | skip))
      | (with_reducible refine And.intro ?_ ?_)
      | with_reducible intro _
    all_goals first
      | omega
      | (rename_i hx; revert hx; simp; done)
      | (simp; done)
      | skip
    exact VLe_tup ⟨VLe_nl, VLe.refl _, trivial⟩
  obtain ⟨g1, g2⟩ := startE_zero g
  rw [if_pos g]
  rw [g] at c112 ⊢
  have hpts : pointsR ps w = ptAt (clus w) (levelsOf ps w) ((clus w).length - 1) := by unfold pointsR; rw [if_pos g]
  have c113 := fun h => t113 ps w h hok (by omega) (word_pos g2) g1
  have c113m := fun h k hk => u44m ps w h hok (by omega) (word_pos g2) g1 k hk
  unfold cutsOf at hcut ⊢
  rw [← hpts] at c113 c113m
  obtain ⟨HI, hHI⟩ : ∃ HI, HI = ptHi (clus w).length (levelsOf ps w) ((clus w).length - 1) := ⟨_, rfl⟩
  rw [← hHI] at c113 c113m
  obtain ⟨L, hL⟩ : ∃ L, L = pointsR ps w := ⟨_, rfl⟩
  rw [← hL] at c113 c113m hcut hpl ⊢
  by_cases h0 : L = []
  · obtain ⟨L', hLL⟩ : ∃ L', L' = L ++ [(w.length : Int)] := ⟨_, rfl⟩
    rw [← hLL] at hcut ⊢
    rw [h0] at hLL
    have hcs : [AV.int .i64 (w.length : Int)] = intsC L' := by rw [hLL]; rfl
    have hln : L'.length = 1 := by rw [hLL]; rfl
    rw [h0, intsN_nil] at c113
    refine acalls_of fn30e (by simp) ?_
    simp only [List.length_cons, List.length_nil, Nat.reduceAdd, Nat.reduceSub, List.replicate, List.cons_append, List.nil_append, List.append_nil]
    simp (disch := omega) only [c30e, madeA1, go_sem, wrap64_id, Int.tdiv_eq_ediv_of_nonneg, Int.tmod_eq_emod_of_nonneg]
    repeat' first
      | ((first | refine callA_pure (c112 _) ?_ ?_ | refine callA_pure (c113 _) ?_ ?_); (next => repeat' first | exact flags_n | refine flags_c (by first | rfl | assumption) ?_); simp (disch := omega) only [madeA1, go_sem, wrap64_id, Int.tdiv_eq_ediv_of_nonneg, Int.tmod_eq_emod_of_nonneg])
      | ((first | refine callG_pure (fun e => ⟨?_, c112 _⟩) ?_ | refine callG_pure (fun e => ⟨?_, c113 _⟩) ?_); (next => repeat' first | exact flags_n | refine flags_c (by first | rfl | assumption) ?_); simp (disch := omega) only [madeA1, go_sem, wrap64_id, Int.tdiv_eq_ediv_of_nonneg, Int.tmod_eq_emod_of_nonneg])
      | ((first | refine fnQ_pure1 ?_ ?_ | refine fnQ_pure0 ?_ ?_); (next => repeat' first | exact rvs_n | refine rvs_t ?_ | (simp [go_sem]; done)); simp only [go_sem]; (first | exact VLe.refl _ | refine VLe_int ?_ | refine VLe_bool ?_ | refine VLe_str ?_ | skip))
      | (with_reducible refine And.intro ?_ ?_)
      | with_reducible intro _
    all_goals first
      | omega
      | (rename_i hx; revert hx; simp; done)
      | (simp; done)
      | skip
    rw [hcs]
    have hcl := intsC_len L'
    refine loop_of (T := fun j : Nat × Nat × AObj => spar 45 [(1, .str w), (9, .osl (h.length + 1) j.2.1 1 0 j.1), (10, .int .i64 (prevI L' j.1)), (29, .osl (h.length + 3) 1 1 0 1), (30, .int .i64 L'.length), (31, .int .i64 j.1)])
      (H := fun j => h ++ [.emp 1, ownO j.2.1 9 (strC (pieces w L' j.1)), .mem 1 3 (intsC L'), .mem 1 3 (intsC L'), j.2.2, .emp 0, .emp 0])
      (inv := fun j => j.1 ≤ L'.length ∧ site [j.2.2] 0 = true) (m := fun j => L'.length - j.1) (0, 1, .emp 0) ⟨by simp, rfl⟩ (Wk.temps ?_) ?_
    · simp only [prevI_zero]
      (simp only [spar, List.foldl, List.replicate, go_sem, VLes_nil, VLes_cons, VLe_undef_iff, VLe_self]; try (repeat' first | (with_reducible refine And.intro ?_ ?_) | (refine VLe_int ?_; omega) | (refine VLe_bool ?_; rfl) | exact VLe.refl _))
    rintro ⟨j, v, O⟩ ⟨j1, j2⟩ K hK
    simp only at j1 j2 hK
    have j2' : ∀ m, site (O :: m) 0 = true := fun _ => j2
    have el := strC_len (pieces w L' j)
    rw [pieces_len] at el
    have f1 : List.take j (strC (pieces w L' j)) = strC (pieces w L' j) := List.take_of_length_le (by omega)
    by_cases hj : j < L'.length
    · obtain ⟨q1, q2, q3⟩ := hcut j hj
      have hg := intsC_get hj
      have hp := pieces_succ w L' j
      have hpr := prevI_succ L' j
      simp (disch := omega) only [spar, List.foldl, List.replicate, madeA1, el, f1, hg, hcl, j2', go_sem, wrap64_id, Int.tdiv_eq_ediv_of_nonneg, Int.tmod_eq_emod_of_nonneg]
      repeat' first
        | ((first | refine fnQ_pure1 ?_ ?_ | refine fnQ_pure0 ?_ ?_); (next => repeat' first | exact rvs_n | refine rvs_t ?_ | (simp [go_sem]; done)); simp only [go_sem]; (first | exact VLe.refl _ | refine VLe_int ?_ | refine VLe_bool ?_ | refine VLe_str ?_ | skip))
        | (with_reducible refine And.intro ?_ ?_)
        | with_reducible intro _
      all_goals first
        | omega
        | (rename_i hx; revert hx; simp; done)
        | (simp; done)
        | skip
      rw [strC_snoc2, show List.take ((L'.getD j 0).toNat - (prevI L' j).toNat) (List.drop (prevI L' j).toNat w) = piece w L' j from rfl, ← hp, ← hpr]
      refine hK _ _ (j + 1, v + 1, .mem (verOf (some O) + 1) 9 [.str (piece w L' j)]) ⟨by simp only; omega, rfl⟩ (by simp only; omega) (Wk.temps ?_)
      (simp only [spar, List.foldl, List.replicate, go_sem, VLes_nil, VLes_cons, VLe_undef_iff, VLe_self]; try (repeat' first | (with_reducible refine And.intro ?_ ?_) | (refine VLe_int ?_; omega) | (refine VLe_bool ?_; rfl) | exact VLe.refl _))
    · have e : j = L'.length := by omega
      subst e
      have hsl := @slOf_strs v 5 (pieces w L' L'.length) (fun k => decide (h.length ≤ k)) (h ++ [.emp 1, ownO v 9 (strC (pieces w L' L'.length)), .mem 1 3 (intsC L'), .mem 1 3 (intsC L'), O, .emp 0, .emp 0])
      rw [pieces_len] at hsl
      simp (disch := omega) only [spar, List.foldl, List.replicate, madeA1, hcl, go_sem, wrap64_id, Int.tdiv_eq_ediv_of_nonneg, Int.tmod_eq_emod_of_nonneg]
      repeat' first
        | ((first | refine fnQ_pure1 ?_ ?_ | refine fnQ_pure0 ?_ ?_); (next => repeat' first | exact rvs_n | refine rvs_t ?_ | (simp [go_sem]; done)); simp only [go_sem]; (first | exact VLe.refl _ | refine VLe_int ?_ | refine VLe_bool ?_ | refine VLe_str ?_ | skip))
        | (with_reducible refine And.intro ?_ ?_)
        | with_reducible intro _
      all_goals first
        | omega
        | (rename_i hx; revert hx; simp; done)
        | (simp; done)
        | skip
      exact VLe_tup ⟨hsl, VLe.refl _, trivial⟩
  · have hl0 : L.length ≠ 0 := fun e => h0 (List.eq_nil_of_length_eq_zero e)
    have el0 := intsC_len L
    have et0 : List.take L.length (intsC L) = intsC L := List.take_of_length_le (by omega)
    obtain ⟨L', hLL⟩ : ∃ L', L' = L ++ [(w.length : Int)] := ⟨_, rfl⟩
    have hcs : intsC L ++ [AV.int .i64 (w.length : Int)] = intsC L' := by rw [hLL, intsC_snoc]
    have hln : L.length + 1 = L'.length := by rw [hLL]; simp
    rw [← hLL] at hcut ⊢
    refine acalls_of fn30e (by simp) ?_
    simp only [List.length_cons, List.length_nil, Nat.reduceAdd, Nat.reduceSub, List.replicate, List.cons_append, List.nil_append, List.append_nil]
    simp (disch := omega) only [c30e, madeA1, go_sem, wrap64_id, Int.tdiv_eq_ediv_of_nonneg, Int.tmod_eq_emod_of_nonneg]
    repeat' first
      | ((first | refine callA_pure (c112 _) ?_ ?_); (next => repeat' first | exact flags_n | refine flags_c (by first | rfl | assumption) ?_); simp (disch := omega) only [madeA1, go_sem, wrap64_id, Int.tdiv_eq_ediv_of_nonneg, Int.tmod_eq_emod_of_nonneg])
      | ((first | refine callG_pure (fun e => ⟨?_, c112 _⟩) ?_); (next => repeat' first | exact flags_n | refine flags_c (by first | rfl | assumption) ?_); simp (disch := omega) only [madeA1, go_sem, wrap64_id, Int.tdiv_eq_ediv_of_nonneg, Int.tmod_eq_emod_of_nonneg])
      | ((first | refine fnQ_pure1 ?_ ?_ | refine fnQ_pure0 ?_ ?_); (next => repeat' first | exact rvs_n | refine rvs_t ?_ | (simp [go_sem]; done)); simp only [go_sem]; (first | exact VLe.refl _ | refine VLe_int ?_ | refine VLe_bool ?_ | refine VLe_str ?_ | skip))
      | (with_reducible refine And.intro ?_ ?_)
      | with_reducible intro _
    all_goals first
      | omega
      | (rename_i hx; revert hx; simp; done)
      | (simp; done)
      | skip
    refine callA_eff (c113m _ (h.length + 6) (by simp only [go_sem]) h0) ⟨rfl, rfl, trivial⟩ ?_
    simp (disch := omega) only [madeA1, el0, et0, hcs, hln, go_sem, wrap64_id, Int.tdiv_eq_ediv_of_nonneg, Int.tmod_eq_emod_of_nonneg]
    repeat' first
      | ((first | refine fnQ_pure1 ?_ ?_ | refine fnQ_pure0 ?_ ?_); (next => repeat' first | exact rvs_n | refine rvs_t ?_ | (simp [go_sem]; done)); simp only [go_sem]; (first | exact VLe.refl _ | refine VLe_int ?_ | refine VLe_bool ?_ | refine VLe_str ?_ | skip))
      | (with_reducible refine And.intro ?_ ?_)
      | with_reducible intro _
    all_goals first
      | omega
      | (rename_i hx; revert hx; simp; done)
      | (simp; done)
      | skip
    have hcl := intsC_len L'
    refine loop_of (T := fun j : Nat × Nat × AObj => spar 45 [(1, .str w), (9, .osl (h.length + 1) j.2.1 1 0 j.1), (10, .int .i64 (prevI L' j.1)), (29, .osl (h.length + 6) 2 1 0 L'.length), (30, .int .i64 L'.length), (31, .int .i64 j.1)])
      (H := fun j => h ++ [.emp 1, ownO j.2.1 9 (strC (pieces w L' j.1)), .mem 1 3 [.int .i64 w.length], .emp 0, j.2.2, .emp 0, .mem 2 3 (intsC L')])
      (inv := fun j => j.1 ≤ L'.length ∧ site [j.2.2] 0 = true) (m := fun j => L'.length - j.1) (0, 1, .emp 0) ⟨by simp, rfl⟩ (Wk.temps ?_) ?_
    · simp only [prevI_zero]
      (simp only [spar, List.foldl, List.replicate, go_sem, VLes_nil, VLes_cons, VLe_undef_iff, VLe_self]; try (repeat' first | (with_reducible refine And.intro ?_ ?_) | (refine VLe_int ?_; omega) | (refine VLe_bool ?_; rfl) | exact VLe.refl _))
    rintro ⟨j, v, O⟩ ⟨j1, j2⟩ K hK
    simp only at j1 j2 hK
    have j2' : ∀ m, site (O :: m) 0 = true := fun _ => j2
    have el := strC_len (pieces w L' j)
    rw [pieces_len] at el
    have f1 : List.take j (strC (pieces w L' j)) = strC (pieces w L' j) := List.take_of_length_le (by omega)
    by_cases hj : j < L'.length
    · obtain ⟨q1, q2, q3⟩ := hcut j hj
      have hg := intsC_get hj
      have hp := pieces_succ w L' j
      have hpr := prevI_succ L' j
      simp (disch := omega) only [spar, List.foldl, List.replicate, madeA1, el, f1, hg, hcl, j2', go_sem, wrap64_id, Int.tdiv_eq_ediv_of_nonneg, Int.tmod_eq_emod_of_nonneg]
      repeat' first
        | ((first | refine fnQ_pure1 ?_ ?_ | refine fnQ_pure0 ?_ ?_); (next => repeat' first | exact rvs_n | refine rvs_t ?_ | (simp [go_sem]; done)); simp only [go_sem]; (first | exact VLe.refl _ | refine VLe_int ?_ | refine VLe_bool ?_ | refine VLe_str ?_ | skip))
        | (with_reducible refine And.intro ?_ ?_)
        | with_reducible intro _
      all_goals first
        | omega
        | (rename_i hx; revert hx; simp; done)
        | (simp; done)
        | skip
      rw [strC_snoc2, show List.take ((L'.getD j 0).toNat - (prevI L' j).toNat) (List.drop (prevI L' j).toNat w) = piece w L' j from rfl, ← hp, ← hpr]
      refine hK _ _ (j + 1, v + 1, .mem (verOf (some O) + 1) 9 [.str (piece w L' j)]) ⟨by simp only; omega, rfl⟩ (by simp only; omega) (Wk.temps ?_)
      (simp only [spar, List.foldl, List.replicate, go_sem, VLes_nil, VLes_cons, VLe_undef_iff, VLe_self]; try (repeat' first | (with_reducible refine And.intro ?_ ?_) | (refine VLe_int ?_; omega) | (refine VLe_bool ?_; rfl) | exact VLe.refl _))
    · have e : j = L'.length := by omega
      subst e
      have hsl := @slOf_strs v 5 (pieces w L' L'.length) (fun k => decide (h.length ≤ k)) (h ++ [.emp 1, ownO v 9 (strC (pieces w L' L'.length)), .mem 1 3 [.int .i64 w.length], .emp 0, O, .emp 0, .mem 2 3 (intsC L')])
      rw [pieces_len] at hsl
      simp (disch := omega) only [spar, List.foldl, List.replicate, madeA1, hcl, go_sem, wrap64_id, Int.tdiv_eq_ediv_of_nonneg, Int.tmod_eq_emod_of_nonneg]
      repeat' first
        | ((first | refine fnQ_pure1 ?_ ?_ | refine fnQ_pure0 ?_ ?_); (next => repeat' first | exact rvs_n | refine rvs_t ?_ | (simp [go_sem]; done)); simp only [go_sem]; (first | exact VLe.refl _ | refine VLe_int ?_ | refine VLe_bool ?_ | refine VLe_str ?_ | skip))
        | (with_reducible refine And.intro ?_ ?_)
        | with_reducible intro _
      all_goals first
        | omega
        | (rename_i hx; revert hx; simp; done)
        | (simp; done)
        | skip
      exact VLe_tup ⟨hsl, VLe.refl _, trivial⟩
end HY

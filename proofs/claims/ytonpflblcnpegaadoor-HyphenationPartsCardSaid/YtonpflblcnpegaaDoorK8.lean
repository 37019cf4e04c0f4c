import Derived.Test.YtonpflblcnpegaaDoorK7
import Derived.Test.YtonpflblcnpegaaDoorK1
import Derived.Test.YtonpflblcnpegaaDoorProg
import Derived.Test.YtonpflblcnpegaaDoorK2
import Derived.Below
import Derived.Shelf.Strings.OnBuilder
set_option linter.all false
set_option linter.unusedSimpArgs false
set_option linter.unusedVariables false
set_option linter.unusedSectionVars false
section
/-! the text E32 -/
set_option linter.all false
set_option linter.unusedSimpArgs false
set_option linter.unusedVariables false
set_option linter.unusedSectionVars false
open Go Go.Proofs AF HY
namespace HY
set_option maxRecDepth 100000
def prevI (L : List Int) (j : Nat) : Int := if j = 0 then 0 else L.getD (j - 1) 0
def piece (w : List UInt8) (L : List Int) (j : Nat) : List UInt8 := (w.drop (prevI L j).toNat).take ((L.getD j 0).toNat - (prevI L j).toNat)
/-- The first j pieces of a word that is cut at places. -/
def pieces (w : List UInt8) (L : List Int) (j : Nat) : List (List UInt8) := (List.range j).map (piece w L)
def okCuts (w : List UInt8) (L : List Int) : Prop := ∀ j, j < L.length → 0 ≤ prevI L j ∧ prevI L j ≤ L.getD j 0 ∧ L.getD j 0 ≤ w.length
theorem prevI_zero (L : List Int) : prevI L 0 = 0 := rfl
theorem prevI_succ (L : List Int) (j : Nat) : prevI L (j + 1) = L.getD j 0 := by simp [prevI]
theorem pieces_zero (w : List UInt8) (L : List Int) : pieces w L 0 = [] := rfl
theorem pieces_succ (w : List UInt8) (L : List Int) (j : Nat) : pieces w L (j + 1) = pieces w L j ++ [piece w L j] := by unfold pieces; rw [List.range_succ, List.map_append]; rfl
theorem pieces_len (w : List UInt8) (L : List Int) (j : Nat) : (pieces w L j).length = j := by simp [pieces]
theorem strC_snoc2 (L : List (List UInt8)) (x : List UInt8) : strC L ++ [.str x] = strC (L ++ [x]) := by simp [strC]
theorem slOf_strs {v n : Nat} {L : List (List UInt8)} {fz : Nat → Bool} {h : List AObj} : VLe (slOf (some (ownO v 9 (strC L))) v 1 0 L.length (rei fz h (n + 1))) (strs L) := by
  unfold ownO
  split
  · rename_i e
    have : L = [] := by cases L with
      | nil => rfl
      | cons a l => simp [strC] at e
    subst this
    rw [slOf_emp, if_pos rfl]
    exact VLe_nl
  · rw [slOf_mem, if_pos ⟨rfl, by rw [strC_len]; omega⟩]
    simp only [Nat.zero_add, Nat.mul_one]
    exact strs_of rfl
/-- The points as places to cut at. -/
def cutsOf (ps : List Pat) (w : List UInt8) : List Int := pointsR ps w ++ [(w.length : Int)]
theorem offN_mono (own : List (List UInt8)) {i j : Nat} (h : i ≤ j) : offN own i ≤ offN own j := by
  unfold offN
  have e : own.take i = (own.take j).take i := by rw [List.take_take, Nat.min_eq_left h]
  rw [e]
  exact flatten_take_le _ _
theorem ptAt_sorted (own : List (List UInt8)) (lv : List Int) (m : Nat) : List.Pairwise (· ≤ ·) (ptAt own lv m) := by
  unfold ptAt ptIdx
  rw [List.pairwise_map]
  refine List.Pairwise.imp ?_ ((List.pairwise_lt_range (n := m)).filter _)
  intro a b hab
  have := offN_mono own (show a + 1 ≤ b + 1 by omega)
  omega
theorem ptAt_bound (w : List UInt8) (lv : List Int) (m : Nat) : ∀ x ∈ ptAt (clus w) lv m, 0 ≤ x ∧ x ≤ w.length := by
  intro x hx
  unfold ptAt at hx
  rw [List.mem_map] at hx
  obtain ⟨i, _, rfl⟩ := hx
  have := offN_le (clus w) (i + 1)
  rw [clus_join] at this
  omega
theorem okCuts_of {w : List UInt8} {L : List Int} (hs : List.Pairwise (· ≤ ·) L) (hb : ∀ x ∈ L, 0 ≤ x ∧ x ≤ w.length) : okCuts w L := by
  intro j hj
  have g : ∀ i (hi : i < L.length), L.getD i 0 = L[i] := fun i hi => by simp [List.getD_eq_getElem?_getD, hi]
  have h1 := hb _ (List.getElem_mem hj)
  rw [g j hj]
  unfold prevI
  split
  · omega
  · have hj' : j - 1 < L.length := by omega
    have h2 := hb _ (List.getElem_mem hj')
    have h3 := (List.pairwise_iff_getElem.1 hs) (j - 1) j hj' hj (by omega)
    rw [g (j - 1) hj']
    omega
theorem okCuts_points (ps : List Pat) (w : List UInt8) : okCuts w (cutsOf ps w) := by
  unfold cutsOf pointsR
  have hb : ∀ x ∈ (if startE ps w = 0 then ptAt (clus w) (levelsOf ps w) ((clus w).length - 1) else []), 0 ≤ x ∧ x ≤ (w.length : Int) := by
    split
    · exact ptAt_bound w _ _
    · simp
  have hs : List.Pairwise (· ≤ ·) (if startE ps w = 0 then ptAt (clus w) (levelsOf ps w) ((clus w).length - 1) else []) := by
    split
    · exact ptAt_sorted _ _ _
    · exact .nil
  refine okCuts_of ?_ ?_
  · rw [List.pairwise_append]
    refine ⟨hs, by simp, fun a ha b hb' => ?_⟩
    simp at hb'
    subst hb'
    exact (hb a ha).2
  · intro x hx
    rcases List.mem_append.1 hx with h | h
    · exact hb x h
    · simp at h; subst h; omega
theorem points_len (ps : List Pat) (w : List UInt8) : (pointsR ps w).length ≤ w.length := by
  unfold pointsR
  split
  · rw [ptAt_len]
    have := ptIdx_le (clus w).length (levelsOf ps w) ((clus w).length - 1)
    have := clus_len w
    omega
  · simp
def splitR (ps : List Pat) (w : List UInt8) : List (List UInt8) := if startE ps w = 0 then pieces w (cutsOf ps w) (cutsOf ps w).length else []
set_option maxHeartbeats 4000000 in
theorem u30 (ps : List Pat) (w : List UInt8) (h : List AObj) (hok : okPats ps) (hw : w.length ≤ 100000) : ACalls Tryd.prog 30 [patsV ps, .str w] h (.tup [strs (splitR ps w), .int .i64 (startE ps w)]) h := by
  have c112 := fun h => t112 ps w h hok (by omega)
  have hcut := okCuts_points ps w
  have hpl := points_len ps w
  unfold splitR
  by_cases g : startE ps w = 0
  case neg =>
    rw [if_neg g]
    refine acalls_of fn30e (by simp) ?_
    simp only [List.length_cons, List.length_nil, Nat.reduceAdd, Nat.reduceSub, List.replicate, List.cons_append, List.nil_append, List.append_nil]
    simp (disch := omega) only [c30e, go_sem, wrap64_id, Int.tdiv_eq_ediv_of_nonneg, Int.tmod_eq_emod_of_nonneg]
    repeat' first
      | ((first | refine callA_pure (c112 _) ?_ ?_); (next => repeat' first | exact flags_n | refine flags_c (by first | rfl | assumption) ?_); simp (disch := omega) only [g, go_sem, wrap64_id, Int.tdiv_eq_ediv_of_nonneg, Int.tmod_eq_emod_of_nonneg])
      | ((first | refine callG_pure (fun e => ⟨?_, c112 _⟩) ?_); (next => repeat' first | exact flags_n | refine flags_c (by first | rfl | assumption) ?_); simp (disch := omega) only [g, go_sem, wrap64_id, Int.tdiv_eq_ediv_of_nonneg, Int.tmod_eq_emod_of_nonneg])
      | ((first | refine fnQ_pure1 ?_ ?_ | refine fnQ_pure0 ?_ ?_); (next => repeat' first | exact rvs_n | refine rvs_t ?_ | (simp [go_sem]; done)); simp only [go_sem]; (first | exact VLe.refl _ | refine VLe_int ?_ | refine VLe_bool ?_ | refine VLe_str ?_ | skip))
      | (with_reducible refine And.intro ?_ ?_)
      | with_reducible intro _
    all_goals first
      | omega
      | (rename_i hx; revert hx; simp; done)
      | (simp; done)
      | skip
    exact VLe_tup ⟨VLe_nl, VLe.refl _, trivial⟩
  obtain ⟨g1, g2⟩ := startE_zero g
  rw [if_pos g]
  rw [g] at c112 ⊢
  have hpts : pointsR ps w = ptAt (clus w) (levelsOf ps w) ((clus w).length - 1) := by unfold pointsR; rw [if_pos g]
  have c113 := fun h => t113 ps w h hok (by omega) (word_pos g2) g1
  have c113m := fun h k hk => u44m ps w h hok (by omega) (word_pos g2) g1 k hk
  unfold cutsOf at hcut ⊢
  rw [← hpts] at c113 c113m
  obtain ⟨HI, hHI⟩ : ∃ HI, HI = ptHi (clus w).length (levelsOf ps w) ((clus w).length - 1) := ⟨_, rfl⟩
  rw [← hHI] at c113 c113m
  obtain ⟨L, hL⟩ : ∃ L, L = pointsR ps w := ⟨_, rfl⟩
  rw [← hL] at c113 c113m hcut hpl ⊢
  by_cases h0 : L = []
  · obtain ⟨L', hLL⟩ : ∃ L', L' = L ++ [(w.length : Int)] := ⟨_, rfl⟩
    rw [← hLL] at hcut ⊢
    rw [h0] at hLL
    have hcs : [AV.int .i64 (w.length : Int)] = intsC L' := by rw [hLL]; rfl
    have hln : L'.length = 1 := by rw [hLL]; rfl
    rw [h0, intsN_nil] at c113
    refine acalls_of fn30e (by simp) ?_
    simp only [List.length_cons, List.length_nil, Nat.reduceAdd, Nat.reduceSub, List.replicate, List.cons_append, List.nil_append, List.append_nil]
    simp (disch := omega) only [c30e, madeA1, go_sem, wrap64_id, Int.tdiv_eq_ediv_of_nonneg, Int.tmod_eq_emod_of_nonneg]
    repeat' first
      | ((first | refine callA_pure (c112 _) ?_ ?_ | refine callA_pure (c113 _) ?_ ?_); (next => repeat' first | exact flags_n | refine flags_c (by first | rfl | assumption) ?_); simp (disch := omega) only [madeA1, go_sem, wrap64_id, Int.tdiv_eq_ediv_of_nonneg, Int.tmod_eq_emod_of_nonneg])
      | ((first | refine callG_pure (fun e => ⟨?_, c112 _⟩) ?_ | refine callG_pure (fun e => ⟨?_, c113 _⟩) ?_); (next => repeat' first | exact flags_n | refine flags_c (by first | rfl | assumption) ?_); simp (disch := omega) only [madeA1, go_sem, wrap64_id, Int.tdiv_eq_ediv_of_nonneg, Int.tmod_eq_emod_of_nonneg])
      | ((first | refine fnQ_pure1 ?_ ?_ | refine fnQ_pure0 ?_ ?_); (next => repeat' first | exact rvs_n | refine rvs_t ?_ | (simp [go_sem]; done)); simp only [go_sem]; (first | exact VLe.refl _ | refine VLe_int ?_ | refine VLe_bool ?_ | refine VLe_str ?_ | skip))
      | (with_reducible refine And.intro ?_ ?_)
      | with_reducible intro _
    all_goals first
      | omega
      | (rename_i hx; revert hx; simp; done)
      | (simp; done)
      | skip
    rw [hcs]
    have hcl := intsC_len L'
    refine loop_of (T := fun j : Nat × Nat × AObj => spar 45 [(1, .str w), (9, .osl (h.length + 1) j.2.1 1 0 j.1), (10, .int .i64 (prevI L' j.1)), (29, .osl (h.length + 3) 1 1 0 1), (30, .int .i64 L'.length), (31, .int .i64 j.1)])
      (H := fun j => h ++ [.emp 1, ownO j.2.1 9 (strC (pieces w L' j.1)), .mem 1 3 (intsC L'), .mem 1 3 (intsC L'), j.2.2, .emp 0, .emp 0])
      (inv := fun j => j.1 ≤ L'.length ∧ site [j.2.2] 0 = true) (m := fun j => L'.length - j.1) (0, 1, .emp 0) ⟨by simp, rfl⟩ (Wk.temps ?_) ?_
    · simp only [prevI_zero]
      (simp only [spar, List.foldl, List.replicate, go_sem, VLes_nil, VLes_cons, VLe_undef_iff, VLe_self]; try (repeat' first | (with_reducible refine And.intro ?_ ?_) | (refine VLe_int ?_; omega) | (refine VLe_bool ?_; rfl) | exact VLe.refl _))
    rintro ⟨j, v, O⟩ ⟨j1, j2⟩ K hK
    simp only at j1 j2 hK
    have j2' : ∀ m, site (O :: m) 0 = true := fun _ => j2
    have el := strC_len (pieces w L' j)
    rw [pieces_len] at el
    have f1 : List.take j (strC (pieces w L' j)) = strC (pieces w L' j) := List.take_of_length_le (by omega)
    by_cases hj : j < L'.length
    · obtain ⟨q1, q2, q3⟩ := hcut j hj
      have hg := intsC_get hj
      have hp := pieces_succ w L' j
      have hpr := prevI_succ L' j
      simp (disch := omega) only [spar, List.foldl, List.replicate, madeA1, el, f1, hg, hcl, j2', go_sem, wrap64_id, Int.tdiv_eq_ediv_of_nonneg, Int.tmod_eq_emod_of_nonneg]
      repeat' first
        | ((first | refine fnQ_pure1 ?_ ?_ | refine fnQ_pure0 ?_ ?_); (next => repeat' first | exact rvs_n | refine rvs_t ?_ | (simp [go_sem]; done)); simp only [go_sem]; (first | exact VLe.refl _ | refine VLe_int ?_ | refine VLe_bool ?_ | refine VLe_str ?_ | skip))
        | (with_reducible refine And.intro ?_ ?_)
        | with_reducible intro _
      all_goals first
        | omega
        | (rename_i hx; revert hx; simp; done)
        | (simp; done)
        | skip
      rw [strC_snoc2, show List.take ((L'.getD j 0).toNat - (prevI L' j).toNat) (List.drop (prevI L' j).toNat w) = piece w L' j from rfl, ← hp, ← hpr]
      refine hK _ _ (j + 1, v + 1, .mem (verOf (some O) + 1) 9 [.str (piece w L' j)]) ⟨by simp only; omega, rfl⟩ (by simp only; omega) (Wk.temps ?_)
      (simp only [spar, List.foldl, List.replicate, go_sem, VLes_nil, VLes_cons, VLe_undef_iff, VLe_self]; try (repeat' first | (with_reducible refine And.intro ?_ ?_) | (refine VLe_int ?_; omega) | (refine VLe_bool ?_; rfl) | exact VLe.refl _))
    · have e : j = L'.length := by omega
      subst e
      have hsl := @slOf_strs v 5 (pieces w L' L'.length) (fun k => decide (h.length ≤ k)) (h ++ [.emp 1, ownO v 9 (strC (pieces w L' L'.length)), .mem 1 3 (intsC L'), .mem 1 3 (intsC L'), O, .emp 0, .emp 0])
      rw [pieces_len] at hsl
      simp (disch := omega) only [spar, List.foldl, List.replicate, madeA1, hcl, go_sem, wrap64_id, Int.tdiv_eq_ediv_of_nonneg, Int.tmod_eq_emod_of_nonneg]
      repeat' first
        | ((first | refine fnQ_pure1 ?_ ?_ | refine fnQ_pure0 ?_ ?_); (next => repeat' first | exact rvs_n | refine rvs_t ?_ | (simp [go_sem]; done)); simp only [go_sem]; (first | exact VLe.refl _ | refine VLe_int ?_ | refine VLe_bool ?_ | refine VLe_str ?_ | skip))
        | (with_reducible refine And.intro ?_ ?_)
        | with_reducible intro _
      all_goals first
        | omega
        | (rename_i hx; revert hx; simp; done)
        | (simp; done)
        | skip
      exact VLe_tup ⟨hsl, VLe.refl _, trivial⟩
  · have hl0 : L.length ≠ 0 := fun e => h0 (List.eq_nil_of_length_eq_zero e)
    have el0 := intsC_len L
    have et0 : List.take L.length (intsC L) = intsC L := List.take_of_length_le (by omega)
    obtain ⟨L', hLL⟩ : ∃ L', L' = L ++ [(w.length : Int)] := ⟨_, rfl⟩
    have hcs : intsC L ++ [AV.int .i64 (w.length : Int)] = intsC L' := by rw [hLL, intsC_snoc]
    have hln : L.length + 1 = L'.length := by rw [hLL]; simp
    rw [← hLL] at hcut ⊢
    refine acalls_of fn30e (by simp) ?_
    simp only [List.length_cons, List.length_nil, Nat.reduceAdd, Nat.reduceSub, List.replicate, List.cons_append, List.nil_append, List.append_nil]
    simp (disch := omega) only [c30e, madeA1, go_sem, wrap64_id, Int.tdiv_eq_ediv_of_nonneg, Int.tmod_eq_emod_of_nonneg]
    repeat' first
      | ((first | refine callA_pure (c112 _) ?_ ?_); (next => repeat' first | exact flags_n | refine flags_c (by first | rfl | assumption) ?_); simp (disch := omega) only [madeA1, go_sem, wrap64_id, Int.tdiv_eq_ediv_of_nonneg, Int.tmod_eq_emod_of_nonneg])
      | ((first | refine callG_pure (fun e => ⟨?_, c112 _⟩) ?_); (next => repeat' first | exact flags_n | refine flags_c (by first | rfl | assumption) ?_); simp (disch := omega) only [madeA1, go_sem, wrap64_id, Int.tdiv_eq_ediv_of_nonneg, Int.tmod_eq_emod_of_nonneg])
      | ((first | refine fnQ_pure1 ?_ ?_ | refine fnQ_pure0 ?_ ?_); (next => repeat' first | exact rvs_n | refine rvs_t ?_ | (simp [go_sem]; done)); simp only [go_sem]; (first | exact VLe.refl _ | refine VLe_int ?_ | refine VLe_bool ?_ | refine VLe_str ?_ | skip))
      | (with_reducible refine And.intro ?_ ?_)
      | with_reducible intro _
    all_goals first
      | omega
      | (rename_i hx; revert hx; simp; done)
      | (simp; done)
      | skip
    refine callA_eff (c113m _ (h.length + 6) (by simp only [go_sem]) h0) ⟨rfl, rfl, trivial⟩ ?_
    simp (disch := omega) only [madeA1, el0, et0, hcs, hln, go_sem, wrap64_id, Int.tdiv_eq_ediv_of_nonneg, Int.tmod_eq_emod_of_nonneg]
    repeat' first
      | ((first | refine fnQ_pure1 ?_ ?_ | refine fnQ_pure0 ?_ ?_); (next => repeat' first | exact rvs_n | refine rvs_t ?_ | (simp [go_sem]; done)); simp only [go_sem]; (first | exact VLe.refl _ | refine VLe_int ?_ | refine VLe_bool ?_ | refine VLe_str ?_ | skip))
      | (with_reducible refine And.intro ?_ ?_)
      | with_reducible intro _
    all_goals first
      | omega
      | (rename_i hx; revert hx; simp; done)
      | (simp; done)
      | skip
    have hcl := intsC_len L'
    refine loop_of (T := fun j : Nat × Nat × AObj => spar 45 [(1, .str w), (9, .osl (h.length + 1) j.2.1 1 0 j.1), (10, .int .i64 (prevI L' j.1)), (29, .osl (h.length + 6) 2 1 0 L'.length), (30, .int .i64 L'.length), (31, .int .i64 j.1)])
      (H := fun j => h ++ [.emp 1, ownO j.2.1 9 (strC (pieces w L' j.1)), .mem 1 3 [.int .i64 w.length], .emp 0, j.2.2, .emp 0, .mem 2 3 (intsC L')])
      (inv := fun j => j.1 ≤ L'.length ∧ site [j.2.2] 0 = true) (m := fun j => L'.length - j.1) (0, 1, .emp 0) ⟨by simp, rfl⟩ (Wk.temps ?_) ?_
    · simp only [prevI_zero]
      (simp only [spar, List.foldl, List.replicate, go_sem, VLes_nil, VLes_cons, VLe_undef_iff, VLe_self]; try (repeat' first | (with_reducible refine And.intro ?_ ?_) | (refine VLe_int ?_; omega) | (refine VLe_bool ?_; rfl) | exact VLe.refl _))
    rintro ⟨j, v, O⟩ ⟨j1, j2⟩ K hK
    simp only at j1 j2 hK
    have j2' : ∀ m, site (O :: m) 0 = true := fun _ => j2
    have el := strC_len (pieces w L' j)
    rw [pieces_len] at el
    have f1 : List.take j (strC (pieces w L' j)) = strC (pieces w L' j) := List.take_of_length_le (by omega)
    by_cases hj : j < L'.length
    · obtain ⟨q1, q2, q3⟩ := hcut j hj
      have hg := intsC_get hj
      have hp := pieces_succ w L' j
      have hpr := prevI_succ L' j
      simp (disch := omega) only [spar, List.foldl, List.replicate, madeA1, el, f1, hg, hcl, j2', go_sem, wrap64_id, Int.tdiv_eq_ediv_of_nonneg, Int.tmod_eq_emod_of_nonneg]
      repeat' first
        | ((first | refine fnQ_pure1 ?_ ?_ | refine fnQ_pure0 ?_ ?_); (next => repeat' first | exact rvs_n | refine rvs_t ?_ | (simp [go_sem]; done)); simp only [go_sem]; (first | exact VLe.refl _ | refine VLe_int ?_ | refine VLe_bool ?_ | refine VLe_str ?_ | skip))
        | (with_reducible refine And.intro ?_ ?_)
        | with_reducible intro _
      all_goals first
        | omega
        | (rename_i hx; revert hx; simp; done)
        | (simp; done)
        | skip
      rw [strC_snoc2, show List.take ((L'.getD j 0).toNat - (prevI L' j).toNat) (List.drop (prevI L' j).toNat w) = piece w L' j from rfl, ← hp, ← hpr]
      refine hK _ _ (j + 1, v + 1, .mem (verOf (some O) + 1) 9 [.str (piece w L' j)]) ⟨by simp only; omega, rfl⟩ (by simp only; omega) (Wk.temps ?_)
      (simp only [spar, List.foldl, List.replicate, go_sem, VLes_nil, VLes_cons, VLe_undef_iff, VLe_self]; try (repeat' first | (with_reducible refine And.intro ?_ ?_) | (refine VLe_int ?_; omega) | (refine VLe_bool ?_; rfl) | exact VLe.refl _))
    · have e : j = L'.length := by omega
      subst e
      have hsl := @slOf_strs v 5 (pieces w L' L'.length) (fun k => decide (h.length ≤ k)) (h ++ [.emp 1, ownO v 9 (strC (pieces w L' L'.length)), .mem 1 3 [.int .i64 w.length], .emp 0, O, .emp 0, .mem 2 3 (intsC L')])
      rw [pieces_len] at hsl
      simp (disch := omega) only [spar, List.foldl, List.replicate, madeA1, hcl, go_sem, wrap64_id, Int.tdiv_eq_ediv_of_nonneg, Int.tmod_eq_emod_of_nonneg]
      repeat' first
        | ((first | refine fnQ_pure1 ?_ ?_ | refine fnQ_pure0 ?_ ?_); (next => repeat' first | exact rvs_n | refine rvs_t ?_ | (simp [go_sem]; done)); simp only [go_sem]; (first | exact VLe.refl _ | refine VLe_int ?_ | refine VLe_bool ?_ | refine VLe_str ?_ | skip))
        | (with_reducible refine And.intro ?_ ?_)
        | with_reducible intro _
      all_goals first
        | omega
        | (rename_i hx; revert hx; simp; done)
        | (simp; done)
        | skip
      exact VLe_tup ⟨hsl, VLe.refl _, trivial⟩
end HY
end

section
/-! the text E33 -/
set_option linter.all false
set_option linter.unusedSimpArgs false
set_option linter.unusedVariables false
set_option linter.unusedSectionVars false
open Go Go.Proofs AF HY
namespace HY
set_option maxRecDepth 100000
def exQ : List Pat := exP ++ [⟨[100, 101], [0, 3, 0]⟩]
def wX : List UInt8 := [120, 97, 98, 99, 100, 101]
def wC : List UInt8 := [99, 100, 101]
def txt : List UInt8 := [97, 49, 98, 32, 46, 99, 50, 100, 51, 101, 46]
theorem a_parse : parseB txt = exP := by decide +kernel
theorem a_check : checkPats exP = 0 := by decide +kernel
instance (s : List UInt8) : Decidable (okPart s) := by unfold okPart; infer_instance
theorem a_part : ∀ x ∈ splitL 32 txt, okPart x := by decide +kernel
theorem a_lv : levelsR exQ wX = [0, 1, 0, 0, 3] := by decide +kernel
theorem a_st : startE exQ wX = 0 ∧ startE exP wX = 0 ∧ startE exP wC = 0 := by decide +kernel
theorem a_sp : splitR exP wX = [[120, 97], [98, 99, 100, 101]] := by decide +kernel
theorem a_lc : levelsR exP wC = [2, 3] := by decide +kernel
theorem a_pc : pointsR exP wC = [] := by decide +kernel
theorem ok_of_small {ps : List Pat} (h : ps.length ≤ 8 ∧ ∀ p ∈ ps, p.letters.length ≤ 100 ∧ p.levels.length ≤ 100) : okPats ps := by
  refine ⟨by omega, fun i hi => ?_⟩
  have := h.2 _ (List.getElem_mem hi)
  rw [List.getD_eq_getElem?_getD, List.getElem?_eq_getElem hi]
  simp
  omega
theorem ok_exP : okPats exP := ok_of_small (by decide +kernel)
theorem ok_exQ : okPats exQ := ok_of_small (by decide +kernel)
end HY
end

section
/-! the text E34 -/
set_option linter.all false
set_option linter.unusedSimpArgs false
set_option linter.unusedVariables false
set_option linter.unusedSectionVars false
open Go Go.Proofs AF HY
namespace HY
set_option maxRecDepth 100000
theorem u21x (h : List AObj) : ACalls Tryd.prog 21 [.str txt] h (.tup [patsV exP, .int .i64 0]) h := by
  have := u21 txt h (by decide) (by decide) a_part (by rw [a_parse]; exact a_check)
  rwa [a_parse] at this
theorem u14q (h : List AObj) : ACalls Tryd.prog 14 [patsV exP, .str wC] h (.tup [intsV [2, 3], .int .i64 0]) h := by
  have := u14 exP wC h ok_exP (by decide)
  rwa [a_lc, a_st.2.2] at this
theorem u19q (h : List AObj) : ACalls Tryd.prog 19 [patsV exP, .str wC] h (.tup [.nl, .int .i64 0]) h := by
  have := t89 exP wC h ok_exP (by decide)
  rwa [a_pc, a_st.2.2, intsN_nil] at this
theorem u30q (h : List AObj) : ACalls Tryd.prog 30 [patsV exP, .str wX] h (.tup [strs [[120, 97], [98, 99, 100, 101]], .int .i64 0]) h := by
  have := u30 exP wX h ok_exP (by decide)
  rwa [a_sp, a_st.2.1] at this
theorem vleQ {h : List AObj} {r : AV → AV} (hs : ∀ s, r (.str s) = .str s) (hv : ∀ l, r (intsV l) = intsV l) (ho : ILe (r (.osl h.length 1 1 0 3)) (intsV [0, 3, 0])) :
    VLe (.sl 3 fun i => List.map r (List.take 2 (List.drop (i * 2) (patsC exP ++ [.str [100, 101], .osl h.length 1 1 0 3])))) (patsV exQ) := by
  refine VLe.sl (fun i hi => ?_)
  obtain rfl | rfl | rfl : i = 0 ∨ i = 1 ∨ i = 2 := by omega
  · show ILes [r (.str _), r (intsV _)] [.str _, intsV _]
    rw [hs, hv]
    exact ILes.refl _
  · show ILes [r (.str _), r (intsV _)] [.str _, intsV _]
    rw [hs, hv]
    exact ILes.refl _
  · show ILes [r (.str _), r (.osl h.length 1 1 0 3)] [.str _, intsV _]
    rw [hs]
    exact ⟨ILe.refl _, ho, trivial⟩
def hpQ (h : List AObj) : List AObj := h ++ [AObj.mem 1 3 [AV.int IntKind.i64 0, AV.int IntKind.i64 3, AV.int IntKind.i64 0],
        AObj.mem 1 32 [AV.str [100, 101], AV.osl h.length 1 1 0 3], AObj.emp 0, AObj.emp 0, AObj.emp 0, AObj.emp 0,
        AObj.mem 2 32 (patsC exP ++ [AV.str [100, 101], AV.osl h.length 1 1 0 3])]
theorem give {P : Program} {f : FuncId} {args : List AV} {h h' : List AObj} {r : AV} (ks : List Nat) (hs : sitesOk ks h = true) (hc : ACalls P f (args.map (frz (fun k => ks.contains k) h 8)) (killO ks h) r h') : ACalls P f args h r h' := by
  refine ⟨hc.1, fun w σ xs H hv => ?_⟩
  obtain ⟨σ', g1, g2, g3, g4⟩ := kill_spec ks H hs
  refine (hc.2 w σ' xs g1 ⟨by rw [hv.1]; simp, fun i c x hcc hx => ?_⟩).mono ?_
  · rw [List.getElem?_map, Option.map_eq_some_iff] at hcc
    obtain ⟨c0, hcc, rfl⟩ := hcc
    exact frz_vr H (fun b hb => (g4 b hb).elim fun j ⟨o, h1, h2, h3⟩ => ⟨j, o, by simpa using h1, h2, h3⟩) (fun j o hj ho => g3 j o (by simpa using hj) ho) 8 (hv.2 i c0 x hcc hx)
  · rintro e w' ⟨v, σ2, rfl, k1, k2, k3⟩
    exact ⟨v, σ2, rfl, k1, k2, g2.trans k3⟩
theorem mm5 : valP (.mm true) [.int .i64 0, .int .i64 0, .int .i64 0, .int .i64 0, .int .i64 0] = .int .i64 0 := rfl
theorem okmm5 : okP (.mm true) [.int .i64 0, .int .i64 0, .int .i64 0, .int .i64 0, .int .i64 0] = True := by simp [okP, intC]
theorem u17o (L M : List Int) (k v : Nat) (h : List AObj) (hk : getO k h = some (ownO v 3 (intsC M))) (hl : L.length ≤ 1000000) : ACalls Tryd.prog 17 [intsV L, .osl k v 1 0 M.length] h (.bool (decide (L = M))) h := by
  refine ACalls.borrow ?_ rfl
  refine ACalls.le (u17v L M [] (by omega)) ?_ (VLe.refl _)
  simp only [List.map_cons, List.map_nil, rei_osl, if_true, hk]
  exact VLes2 (VLe.refl _) (VLes2 slOf_ints VLes.nil)
theorem u34o (L M : List (List UInt8)) (k v : Nat) (h : List AObj) (hk : getO k h = some (ownO v 9 (strC M))) (hl : L.length ≤ 1000000) : ACalls Tryd.prog 34 [strs L, .osl k v 1 0 M.length] h (.bool (eqS L.length M.length (fun i => L.getD i []) (fun i => M.getD i []))) h := by
  refine ACalls.borrow ?_ rfl
  refine ACalls.le (t143 L.length M.length (fun i => L.getD i []) (fun i => M.getD i []) [] (by omega)) ?_ (VLe.refl _)
  simp only [List.map_cons, List.map_nil, rei_osl, if_true, hk]
  exact VLes2 (VLe.refl _) (VLes2 slOf_strs VLes.nil)
theorem e5 : decide ([0, 1, 0, 0, 3] = ([0, 1, 0, 0, 3] : List Int)) = true := by decide
theorem e2 : decide ([2, 3] = ([2, 3] : List Int)) = true := by decide
theorem eS : eqS ([[120, 97], [98, 99, 100, 101]] : List (List UInt8)).length ([[120, 97], [98, 99, 100, 101]] : List (List UInt8)).length (fun i => ([[120, 97], [98, 99, 100, 101]] : List (List UInt8)).getD i []) (fun i => ([[120, 97], [98, 99, 100, 101]] : List (List UInt8)).getD i []) = true := by decide
theorem u17x (h : List AObj) (k : Nat) (hk : getO k h = some (.mem 1 3 [.int .i64 0, .int .i64 1, .int .i64 0, .int .i64 0, .int .i64 3])) : ACalls Tryd.prog 17 [intsV [0, 1, 0, 0, 3], .osl k 1 1 0 5] h (.bool true) h := by
  have := u17o [0, 1, 0, 0, 3] [0, 1, 0, 0, 3] k 1 h (by rw [hk]; rfl) (by decide)
  rwa [e5] at this
theorem u17y (h : List AObj) (k : Nat) (hk : getO k h = some (.mem 1 3 [.int .i64 2, .int .i64 3])) : ACalls Tryd.prog 17 [intsV [2, 3], .osl k 1 1 0 2] h (.bool true) h := by
  have := u17o [2, 3] [2, 3] k 1 h (by rw [hk]; rfl) (by decide)
  rwa [e2] at this
theorem u34x (h : List AObj) (k : Nat) (hk : getO k h = some (.mem 1 9 [.str [120, 97], .str [98, 99, 100, 101]])) : ACalls Tryd.prog 34 [strs [[120, 97], [98, 99, 100, 101]], .osl k 1 1 0 2] h (.bool true) h := by
  have := u34o [[120, 97], [98, 99, 100, 101]] [[120, 97], [98, 99, 100, 101]] k 1 h (by rw [hk]; rfl) (by decide)
  rwa [eS] at this
def hpK (h : List AObj) : List AObj := h ++ [AObj.emp 2,
        AObj.mem 1 32 [AV.str [100, 101], AV.osl h.length 1 1 0 3], AObj.emp 0, AObj.emp 0, AObj.emp 0, AObj.emp 0,
        AObj.emp 3]
theorem getO0 {h : List AObj} {o : AObj} {l : List AObj} : getO h.length (h ++ o :: l) = some o := by simp [getO]
theorem u14x (h : List AObj) : ACalls Tryd.prog 14 [.osl (h.length + 6) 2 2 0 3, .str wX] (hpQ h) (.tup [intsV [0, 1, 0, 0, 3], .int .i64 0]) (hpK h) := by
  refine give [h.length + 6, h.length] ?_ ?_
  · unfold hpQ sitesOk sitesOk sitesOk
    simp (disch := omega) only [getO0, go_sem, wrap64_id, Int.tdiv_eq_ediv_of_nonneg, Int.tmod_eq_emod_of_nonneg]
  have hk : killO [h.length + 6, h.length] (hpQ h) = hpK h := by
    unfold hpQ hpK killO killO killO
    simp (disch := omega) only [getO0, go_sem, wrap64_id, Int.tdiv_eq_ediv_of_nonneg, Int.tmod_eq_emod_of_nonneg]
  rw [hk]
  have hx := u14 exQ wX (hpK h) ok_exQ (by decide)
  rw [a_lv, a_st.1] at hx
  refine ACalls.le hx ?_ (VLe.refl _)
  unfold hpQ
  simp only [List.map_cons, List.map_nil]
  refine VLes2 ?_ (VLes2 (VLe.refl _) VLes.nil)
  have hc1 : [h.length + 6, h.length].contains (h.length + 6) = true := by simp
  have hc2 : [h.length + 6, h.length].contains h.length = true := by simp
  simp (disch := omega) only [frz_osl, rei_osl, go_sem, wrap64_id, Int.tdiv_eq_ediv_of_nonneg, Int.tmod_eq_emod_of_nonneg]
  rw [if_pos hc1, if_pos hc1, if_pos (show 6 ≤ (patsC exP ++ [AV.str [100, 101], AV.osl h.length 1 1 0 3]).length from Nat.le_refl 6)]
  refine vleQ (fun s => rei_str) (fun l => rei_intsV l) ?_
  simp (disch := omega) only [rei_osl, getO0, go_sem, wrap64_id, Int.tdiv_eq_ediv_of_nonneg, Int.tmod_eq_emod_of_nonneg]
  rw [if_pos hc2]
  exact ile3 (fun x => rei_int)
set_option maxHeartbeats 4000000 in
theorem u13 (h : List AObj) : ACalls Tryd.prog 13 [] h (.bool true) h := by
  refine acalls_of fn13e (by simp) ?_
  simp only [List.length_cons, List.length_nil, Nat.reduceAdd, Nat.reduceSub, List.replicate, List.cons_append, List.nil_append, List.append_nil]
  simp (disch := omega) only [c13e, madeA, go_sem, wrap64_id, Int.tdiv_eq_ediv_of_nonneg, Int.tmod_eq_emod_of_nonneg]
  repeat' first
    | ((first | refine callA_pure (u21x _) ?_ ?_); (next => repeat' first | exact flags_n | refine flags_c (by first | rfl | assumption) ?_); simp (disch := omega) only [madeA, go_sem, wrap64_id, Int.tdiv_eq_ediv_of_nonneg, Int.tmod_eq_emod_of_nonneg])
    | ((first | refine callG_pure (fun e => ⟨?_, u21x _⟩) ?_); (next => repeat' first | exact flags_n | refine flags_c (by first | rfl | assumption) ?_); simp (disch := omega) only [madeA, go_sem, wrap64_id, Int.tdiv_eq_ediv_of_nonneg, Int.tmod_eq_emod_of_nonneg])
    | ((first | refine fnQ_pure1 ?_ ?_ | refine fnQ_pure0 ?_ ?_); (next => repeat' first | exact rvs_n | refine rvs_t ?_ | (simp [go_sem]; done)); simp only [go_sem]; (first | exact VLe.refl _ | refine VLe_int ?_ | refine VLe_bool ?_ | refine VLe_str ?_ | skip))
    | (with_reducible refine And.intro ?_ ?_)
    | with_reducible intro _
  all_goals first
    | omega
    | (rename_i hx; revert hx; simp; done)
    | (simp; done)
    | skip
  have eX : (patsC exP).length = 4 := rfl
  have eT : List.take 4 (patsC exP) = patsC exP := rfl
  refine callA_eff (u39m _ (h.length + 6) (by simp only [go_sem])) trivial ?_
  simp (disch := omega) only [madeA, eX, eT, go_sem, wrap64_id, Int.tdiv_eq_ediv_of_nonneg, Int.tmod_eq_emod_of_nonneg]
  repeat' first
    | ((first | refine fnQ_pure1 ?_ ?_ | refine fnQ_pure0 ?_ ?_); (next => repeat' first | exact rvs_n | refine rvs_t ?_ | (simp [go_sem]; done)); simp only [go_sem]; (first | exact VLe.refl _ | refine VLe_int ?_ | refine VLe_bool ?_ | refine VLe_str ?_ | skip))
    | (with_reducible refine And.intro ?_ ?_)
    | with_reducible intro _
  all_goals first
    | omega
    | (rename_i hx; revert hx; simp; done)
    | (simp; done)
    | skip
  refine callA_eff (u14x h) ⟨rfl, rfl, trivial⟩ ?_
  unfold hpK
  have c27 := fun h => u27 exP exP h ok_exP
  rw [decide_eq_true rfl] at c27
  have k5 : decide ([0, 1, 0, 0, 3] = ([0, 1, 0, 0, 3] : List Int)) = true := by decide
  simp (disch := omega) only [madeA, mm5, okmm5, go_sem, wrap64_id, Int.tdiv_eq_ediv_of_nonneg, Int.tmod_eq_emod_of_nonneg]
  repeat' first
    | ((first | refine callA_pure (u39 _) ?_ ?_ | refine callA_pure (u30q _) ?_ ?_ | refine callA_pure (u14q _) ?_ ?_ | refine callA_pure (u19q _) ?_ ?_ | refine callA_pure (c27 _) ?_ ?_ | refine callA_pure (u17x _ _ (by simp only [go_sem])) ?_ ?_ | refine callA_pure (u34x _ _ (by simp only [go_sem])) ?_ ?_ | refine callA_pure (u17y _ _ (by simp only [go_sem])) ?_ ?_); (next => repeat' first | exact flags_n | refine flags_c (by first | rfl | assumption) ?_); simp (disch := omega) only [madeA, mm5, okmm5, go_sem, wrap64_id, Int.tdiv_eq_ediv_of_nonneg, Int.tmod_eq_emod_of_nonneg])
    | ((first | refine callG_pure (fun e => ⟨?_, u39 _⟩) ?_ | refine callG_pure (fun e => ⟨?_, u30q _⟩) ?_ | refine callG_pure (fun e => ⟨?_, u14q _⟩) ?_ | refine callG_pure (fun e => ⟨?_, u19q _⟩) ?_ | refine callG_pure (fun e => ⟨?_, c27 _⟩) ?_ | refine callG_pure (fun e => ⟨?_, u17x _ _ (by simp only [go_sem])⟩) ?_ | refine callG_pure (fun e => ⟨?_, u34x _ _ (by simp only [go_sem])⟩) ?_ | refine callG_pure (fun e => ⟨?_, u17y _ _ (by simp only [go_sem])⟩) ?_); (next => repeat' first | exact flags_n | refine flags_c (by first | rfl | assumption) ?_); simp (disch := omega) only [madeA, mm5, okmm5, go_sem, wrap64_id, Int.tdiv_eq_ediv_of_nonneg, Int.tmod_eq_emod_of_nonneg])
    | ((first | refine fnQ_pure1 ?_ ?_ | refine fnQ_pure0 ?_ ?_); (next => repeat' first | exact rvs_n | refine rvs_t ?_ | (simp [go_sem]; done)); simp only [go_sem]; (first | exact VLe.refl _ | refine VLe_int ?_ | refine VLe_bool ?_ | refine VLe_str ?_ | skip))
    | (with_reducible refine And.intro ?_ ?_)
    | with_reducible intro _
  all_goals first
    | omega
    | (rename_i hx; revert hx; simp; done)
    | (simp; done)
    | skip
end HY
end

section
/-! the text E35 -/
set_option linter.all false
set_option linter.unusedSimpArgs false
set_option linter.unusedVariables false
set_option linter.unusedSectionVars false
open Go Go.Proofs AF HY
namespace HY
set_option maxRecDepth 100000
/-- A change of levels that raises every one to a level of its own. -/
def MaxLike (N : Nat) (T : List Int → List Int) (c : Nat → Int) : Prop := (∀ i, 0 ≤ c i ∧ c i ≤ 9) ∧ ∀ all, all.length = N → (∀ i, i < N → 0 ≤ all.getD i 0) → (T all).length = N ∧ ∀ i, i < N → (T all).getD i 0 = max (all.getD i 0) (c i)
theorem MaxLike.id (N : Nat) : MaxLike N (fun a => a) (fun _ => 0) := ⟨fun _ => by dsimp only; omega, fun all hl h0 => ⟨hl, fun i hi => by have := h0 i hi; dsimp only; omega⟩⟩
theorem MaxLike.comp {N : Nat} {T U : List Int → List Int} {c d : Nat → Int} (hT : MaxLike N T c) (hU : MaxLike N U d) : MaxLike N (fun a => U (T a)) (fun i => max (c i) (d i)) := by
  refine ⟨fun i => by have := hT.1 i; have := hU.1 i; dsimp only; omega, fun all hl h0 => ?_⟩
  obtain ⟨t1, t2⟩ := hT.2 all hl h0
  obtain ⟨u1, u2⟩ := hU.2 (T all) t1 (fun i hi => by rw [t2 i hi]; have := h0 i hi; omega)
  exact ⟨u1, fun i hi => by rw [u2 i hi, t2 i hi]; dsimp only; omega⟩
theorem getD_set (l : List Int) (a i : Nat) (x : Int) : (l.set a x).getD i 0 = if a = i ∧ i < l.length then x else l.getD i 0 := by
  rw [List.getD_eq_getElem?_getD, List.getD_eq_getElem?_getD, List.getElem?_set]
  by_cases e : a = i
  · subst e
    by_cases h : a < l.length
    · simp [h]
    · simp [h]
  · simp [e]
theorem MaxLike.set (N a : Nat) {x : Int} (h0 : 0 ≤ x) (h9 : x ≤ 9) : MaxLike N (fun all => all.set a (max (all.getD a 0) x)) (fun i => if a = i then x else 0) := by
  refine ⟨fun i => by dsimp only; split <;> omega, fun all hl hn => ⟨by simp [hl], fun i hi => ?_⟩⟩
  rw [getD_set]
  have := hn i hi
  by_cases e : a = i
  · subst e; rw [if_pos ⟨rfl, by omega⟩]; dsimp only; rw [if_pos rfl]
  · rw [if_neg (fun h => e h.1)]; dsimp only; rw [if_neg e]; omega
def okLev (r : List Int) : Prop := ∀ x ∈ r, 0 ≤ x ∧ x ≤ 9
theorem MaxLike.addAt {N : Nat} : ∀ (r : List Int) (a : Nat), okLev r → ∃ c, MaxLike N (fun all => addAt all a r) c := by
  intro r
  induction r with
  | nil => intro a _; exact ⟨_, MaxLike.id N⟩
  | cons x r ih =>
    intro a h
    obtain ⟨c, hc⟩ := ih (a + 1) (fun y hy => h y (List.mem_cons_of_mem _ hy))
    obtain ⟨h0, h9⟩ := h x List.mem_cons_self
    exact ⟨_, (MaxLike.set N a h0 h9).comp hc⟩
theorem MaxLike.foldl {α : Type} {N : Nat} {f : List Int → α → List Int} : ∀ (l : List α), (∀ x ∈ l, ∃ c, MaxLike N (fun a => f a x) c) → ∃ c, MaxLike N (fun a => l.foldl f a) c := by
  intro l
  induction l with
  | nil => intro _; exact ⟨_, MaxLike.id N⟩
  | cons x l ih =>
    intro h
    obtain ⟨c, hc⟩ := h x List.mem_cons_self
    obtain ⟨d, hd⟩ := ih (fun y hy => h y (List.mem_cons_of_mem _ hy))
    exact ⟨_, hc.comp hd⟩
def okLevs (ps : List Pat) : Prop := ∀ p ∈ ps, okLev p.levels
theorem MaxLike.pats {N : Nat} (l : List (List UInt8)) (ps : List Pat) (h : okLevs ps) : ∃ c, MaxLike N (fun a => ps.foldl (addPat l) a) c :=
  MaxLike.foldl ps (fun p hp => MaxLike.foldl _ (fun i _ => MaxLike.addAt p.levels i (h p hp)))
theorem zeros_get (N i : Nat) : (List.replicate N (0 : Int)).getD i 0 = 0 := by
  rw [List.getD_eq_getElem?_getD, List.getElem?_replicate]
  split <;> rfl
/-- The level of a place between two units. -/
theorem lev_get (ps : List Pat) (w : List UInt8) {k : Nat} (hk : k < (clus w).length - 1) : (levelsOf ps w).getD k 0 = (allLevels ps (unitsOf w)).getD (k + 2) 0 := by
  have hl := levelsOf_len ps w
  unfold levelsOf at hl ⊢
  rw [List.getD_eq_getElem?_getD, List.getElem?_take, List.getD_eq_getElem?_getD, List.getElem?_drop]
  rw [List.length_take] at hl
  rw [if_pos (by omega), Nat.add_comm 2 k]
theorem all_max (ps qs : List Pat) (l : List (List UInt8)) (hp : okLevs ps) (hq : okLevs qs) {i : Nat} (hi : i < l.length + 1) :
    (allLevels (ps ++ qs) l).getD i 0 = max ((allLevels ps l).getD i 0) ((allLevels qs l).getD i 0) ∧ 0 ≤ (allLevels ps l).getD i 0 ∧ (allLevels ps l).getD i 0 ≤ 9 := by
  obtain ⟨c, hc⟩ := MaxLike.pats (N := l.length + 1) l ps hp
  obtain ⟨d, hd⟩ := MaxLike.pats (N := l.length + 1) l qs hq
  have hz : (List.replicate (l.length + 1) (0 : Int)).length = l.length + 1 := by simp
  have hz0 : ∀ i, i < l.length + 1 → 0 ≤ (List.replicate (l.length + 1) (0 : Int)).getD i 0 := fun i _ => by rw [zeros_get]; omega
  have h1 := (hc.2 _ hz hz0).2 i hi
  have h2 := (hd.2 _ hz hz0).2 i hi
  have h3 := ((hc.comp hd).2 _ hz hz0).2 i hi
  rw [zeros_get] at h1 h2 h3
  have b1 := hc.1 i
  have b2 := hd.1 i
  unfold allLevels
  rw [List.foldl_append]
  simp only at h1 h2 h3
  rw [h1, h2, h3]
  omega
theorem lev_max (ps qs : List Pat) (w : List UInt8) (hp : okLevs ps) (hq : okLevs qs) {k : Nat} (hk : k < (clus w).length - 1) :
    (levelsOf (ps ++ qs) w).getD k 0 = max ((levelsOf ps w).getD k 0) ((levelsOf qs w).getD k 0) ∧ 0 ≤ (levelsOf ps w).getD k 0 ∧ (levelsOf ps w).getD k 0 ≤ 9 := by
  have hu : (unitsOf w).length = (clus w).length + 2 := by simp [unitsOf, clus_fold_len]
  have := all_max ps qs (unitsOf w) hp hq (i := k + 2) (by omega)
  rw [lev_get _ _ hk, lev_get _ _ hk, lev_get _ _ hk]
  exact this
theorem lev_none (w : List UInt8) {k : Nat} (hk : k < (clus w).length - 1) : (levelsOf [] w).getD k 0 = 0 := by
  rw [lev_get _ _ hk]
  exact zeros_get _ _
theorem list_ext {a b : List Int} (hl : a.length = b.length) (h : ∀ k, k < a.length → a.getD k 0 = b.getD k 0) : a = b := by
  apply List.ext_getElem hl
  intro j h1 h2
  have := h j h1
  rwa [List.getD_eq_getElem?_getD, List.getD_eq_getElem?_getD, List.getElem?_eq_getElem h1, List.getElem?_eq_getElem h2] at this
theorem lev_comm (ps qs : List Pat) (w : List UInt8) (hp : okLevs ps) (hq : okLevs qs) : levelsOf (ps ++ qs) w = levelsOf (qs ++ ps) w := by
  refine list_ext (by rw [levelsOf_len, levelsOf_len]) (fun k hk => ?_)
  rw [levelsOf_len] at hk
  rw [(lev_max ps qs w hp hq hk).1, (lev_max qs ps w hq hp hk).1]
  omega
theorem okLev_check {p : Pat} (h : checkPat p = 0) : okLev p.levels := by
  unfold checkPat at h
  repeat' (split at h; · cases h)
  rename_i h6
  intro x hx
  have : badLev x = false := by
    rw [Bool.eq_false_iff]
    intro hb
    exact h6 (.inl (List.any_eq_true.2 ⟨x, hx, hb⟩))
  unfold badLev at this
  simp at this
  omega
theorem firstE_all {ps : List Pat} (h : firstE ps = 0) : ∀ p ∈ ps, checkPat p = 0 := by
  induction ps with
  | nil => intro p hp; cases hp
  | cons a ps ih =>
    unfold firstE at h
    split at h
    · rename_i h0
      intro p hp
      rcases List.mem_cons.1 hp with rfl | hp
      · exact h0
      · exact ih h p hp
    · rename_i h0; exact absurd h h0
theorem firstE_of {ps : List Pat} (h : ∀ p ∈ ps, checkPat p = 0) : firstE ps = 0 := by
  induction ps with
  | nil => rfl
  | cons a ps ih =>
    unfold firstE
    rw [if_pos (h a List.mem_cons_self)]
    exact ih (fun p hp => h p (List.mem_cons_of_mem _ hp))
theorem check_all {ps : List Pat} (h : checkPats ps = 0) : ∀ p ∈ ps, checkPat p = 0 := by
  unfold checkPats at h
  split at h
  · cases h
  · exact firstE_all h
theorem check_of {ps : List Pat} (hl : ps.length ≤ 4096) (h : ∀ p ∈ ps, checkPat p = 0) : checkPats ps = 0 := by
  unfold checkPats
  rw [if_neg (by omega)]
  exact firstE_of h
structure Fine (ps : List Pat) : Prop where
  len : ps.length ≤ 8
  ok : okPats ps
  check : checkPats ps = 0
  all : ∀ p ∈ ps, checkPat p = 0
  lev : okLevs ps
theorem fine_of {ps : List Pat} (h : fineH ps = true) : Fine ps := by
  unfold fineH at h
  simp only [Bool.and_eq_true, decide_eq_true_eq, Bool.not_eq_true'] at h
  obtain ⟨h1, h2, h3⟩ := h
  have ha := check_all h3
  exact ⟨h1, okPats_great h1 h2, h3, ha, fun p hp => okLev_check (ha p hp)⟩
theorem okPats_app {ps qs : List Pat} (hp : okPats ps) (hq : okPats qs) (hl : ps.length + qs.length ≤ 1000) : okPats (ps ++ qs) := by
  refine ⟨by rw [List.length_append]; omega, fun i hi => ?_⟩
  rw [List.getD_eq_getElem?_getD, List.getElem?_append]
  split
  · rename_i h1
    have := hp.2 i h1
    rwa [List.getD_eq_getElem?_getD] at this
  · rename_i h1
    rw [List.length_append] at hi
    have := hq.2 (i - ps.length) (by omega)
    rwa [List.getD_eq_getElem?_getD] at this
theorem fine_app {ps qs : List Pat} (hp : Fine ps) (hq : Fine qs) : okPats (ps ++ qs) ∧ checkPats (ps ++ qs) = 0 := by
  refine ⟨okPats_app hp.ok hq.ok (by have := hp.len; have := hq.len; omega), check_of (by rw [List.length_append]; have := hp.len; have := hq.len; omega) (fun p h => ?_)⟩
  rcases List.mem_append.1 h with h | h
  · exact hp.all p h
  · exact hq.all p h
end HY
end

section
/-! the text E36 -/
set_option linter.all false
set_option linter.unusedSimpArgs false
set_option linter.unusedVariables false
set_option linter.unusedSectionVars false
open Go Go.Proofs AF HY
namespace HY
set_option maxRecDepth 100000
theorem cells_patsV (L : List Pat) : (patsV L).cells = [patsV L] := rfl
theorem solid_patsV (L : List Pat) : (patsV L).solid = true := rfl
theorem u14n (w : List UInt8) (h : List AObj) (hw : w.length ≤ 1000000) : ACalls Tryd.prog 14 [.nl, .str w] h (.tup [intsV (levelsR [] w), .int .i64 (startE [] w)]) h :=
  ACalls.le (u14 [] w h ⟨by simp, fun i hi => by simp at hi⟩ hw) (VLes2 VLe_nl (VLes2 (VLe.refl _) VLes.nil)) (VLe.refl _)
theorem start_fine {ps : List Pat} {w : List UInt8} (h : checkPats ps = 0) (hw : isWord w = true) : startE ps w = 0 := by unfold startE; rw [if_pos h, if_pos hw]
theorem levR_fine {ps : List Pat} {w : List UInt8} (h : startE ps w = 0) : levelsR ps w = levelsOf ps w := by unfold levelsR; rw [if_pos h]
set_option maxHeartbeats 16000000 in
theorem u3 (p q : List Pat) (w : List UInt8) (h : List AObj) (hp : p.length ≤ 9223372036854775807) (hq : q.length ≤ 9223372036854775807) : ACalls Tryd.prog 3 [patsV p, patsV q, .str w] h (.bool true) h := by
  have c11p := fun h => u11 p h hp
  have c11q := fun h => u11 q h hq
  have c12 := fun h => u12 w h
  cases hfp : fineH p with
  | false =>
    rw [hfp] at c11p
    refine acalls_of fn3d (by simp) ?_
    simp only [List.length_cons, List.length_nil, Nat.reduceAdd, Nat.reduceSub, List.replicate, List.cons_append, List.nil_append, List.append_nil]
    simp (disch := omega) only [c3d, go_sem, wrap64_id, Int.tdiv_eq_ediv_of_nonneg, Int.tmod_eq_emod_of_nonneg]
    repeat' first
      | (refine callG_false ((.bool false)) ?_; simp (disch := omega) only [go_sem, wrap64_id, Int.tdiv_eq_ediv_of_nonneg, Int.tmod_eq_emod_of_nonneg])
      | ((first | refine callA_pure (c11p _) ?_ ?_ | refine callA_pure (u13 _) ?_ ?_); (next => repeat' first | exact flags_n | refine flags_c (by first | rfl | assumption) ?_); simp (disch := omega) only [go_sem, wrap64_id, Int.tdiv_eq_ediv_of_nonneg, Int.tmod_eq_emod_of_nonneg])
      | ((first | refine callG_pure (fun e => ⟨?_, c11p _⟩) ?_ | refine callG_pure (fun e => ⟨?_, u13 _⟩) ?_); (next => repeat' first | exact flags_n | refine flags_c (by first | rfl | assumption) ?_); simp (disch := omega) only [go_sem, wrap64_id, Int.tdiv_eq_ediv_of_nonneg, Int.tmod_eq_emod_of_nonneg])
      | ((first | refine fnQ_pure1 ?_ ?_ | refine fnQ_pure0 ?_ ?_); (next => repeat' first | exact rvs_n | refine rvs_t ?_ | (simp [go_sem]; done)); simp only [go_sem]; (first | exact VLe.refl _ | refine VLe_int ?_ | refine VLe_bool ?_ | refine VLe_str ?_ | skip))
      | (with_reducible refine And.intro ?_ ?_)
      | with_reducible intro _
    all_goals first
      | omega
      | (rename_i hx; revert hx; simp; done)
      | (simp; done)
      | skip
  | true =>
  rw [hfp] at c11p
  cases hfq : fineH q with
  | false =>
    rw [hfq] at c11q
    refine acalls_of fn3d (by simp) ?_
    simp only [List.length_cons, List.length_nil, Nat.reduceAdd, Nat.reduceSub, List.replicate, List.cons_append, List.nil_append, List.append_nil]
    simp (disch := omega) only [c3d, go_sem, wrap64_id, Int.tdiv_eq_ediv_of_nonneg, Int.tmod_eq_emod_of_nonneg]
    repeat' first
      | (refine callG_false ((.bool false)) ?_; simp (disch := omega) only [go_sem, wrap64_id, Int.tdiv_eq_ediv_of_nonneg, Int.tmod_eq_emod_of_nonneg])
      | ((first | refine callA_pure (c11p _) ?_ ?_ | refine callA_pure (c11q _) ?_ ?_ | refine callA_pure (u13 _) ?_ ?_); (next => repeat' first | exact flags_n | refine flags_c (by first | rfl | assumption) ?_); simp (disch := omega) only [go_sem, wrap64_id, Int.tdiv_eq_ediv_of_nonneg, Int.tmod_eq_emod_of_nonneg])
      | ((first | refine callG_pure (fun e => ⟨?_, c11p _⟩) ?_ | refine callG_pure (fun e => ⟨?_, c11q _⟩) ?_ | refine callG_pure (fun e => ⟨?_, u13 _⟩) ?_); (next => repeat' first | exact flags_n | refine flags_c (by first | rfl | assumption) ?_); simp (disch := omega) only [go_sem, wrap64_id, Int.tdiv_eq_ediv_of_nonneg, Int.tmod_eq_emod_of_nonneg])
      | ((first | refine fnQ_pure1 ?_ ?_ | refine fnQ_pure0 ?_ ?_); (next => repeat' first | exact rvs_n | refine rvs_t ?_ | (simp [go_sem]; done)); simp only [go_sem]; (first | exact VLe.refl _ | refine VLe_int ?_ | refine VLe_bool ?_ | refine VLe_str ?_ | skip))
      | (with_reducible refine And.intro ?_ ?_)
      | with_reducible intro _
    all_goals first
      | omega
      | (rename_i hx; revert hx; simp; done)
      | (simp; done)
      | skip
  | true =>
  rw [hfq] at c11q
  cases hfw : wordH w with
  | false =>
    rw [hfw] at c12
    refine acalls_of fn3d (by simp) ?_
    simp only [List.length_cons, List.length_nil, Nat.reduceAdd, Nat.reduceSub, List.replicate, List.cons_append, List.nil_append, List.append_nil]
    simp (disch := omega) only [c3d, go_sem, wrap64_id, Int.tdiv_eq_ediv_of_nonneg, Int.tmod_eq_emod_of_nonneg]
    repeat' first
      | ((first | refine callA_pure (c11p _) ?_ ?_ | refine callA_pure (c11q _) ?_ ?_ | refine callA_pure (c12 _) ?_ ?_ | refine callA_pure (u13 _) ?_ ?_); (next => repeat' first | exact flags_n | refine flags_c (by first | rfl | assumption) ?_); simp (disch := omega) only [go_sem, wrap64_id, Int.tdiv_eq_ediv_of_nonneg, Int.tmod_eq_emod_of_nonneg])
      | ((first | refine callG_pure (fun e => ⟨?_, c11p _⟩) ?_ | refine callG_pure (fun e => ⟨?_, c11q _⟩) ?_ | refine callG_pure (fun e => ⟨?_, c12 _⟩) ?_ | refine callG_pure (fun e => ⟨?_, u13 _⟩) ?_); (next => repeat' first | exact flags_n | refine flags_c (by first | rfl | assumption) ?_); simp (disch := omega) only [go_sem, wrap64_id, Int.tdiv_eq_ediv_of_nonneg, Int.tmod_eq_emod_of_nonneg])
      | ((first | refine fnQ_pure1 ?_ ?_ | refine fnQ_pure0 ?_ ?_); (next => repeat' first | exact rvs_n | refine rvs_t ?_ | (simp [go_sem]; done)); simp only [go_sem]; (first | exact VLe.refl _ | refine VLe_int ?_ | refine VLe_bool ?_ | refine VLe_str ?_ | skip))
      | (with_reducible refine And.intro ?_ ?_)
      | with_reducible intro _
    all_goals first
      | omega
      | (rename_i hx; revert hx; simp; done)
      | (simp; done)
      | skip
  | true =>
  rw [hfw] at c12
  have Fp := fine_of hfp
  have Fq := fine_of hfq
  have hw := hfw
  unfold wordH at hw
  simp only [Bool.and_eq_true, decide_eq_true_eq] at hw
  obtain ⟨hw1, hw2⟩ := hw
  obtain ⟨o1, x1⟩ := fine_app Fp Fq
  obtain ⟨o2, x2⟩ := fine_app Fq Fp
  have s1 := start_fine Fp.check hw2
  have s2 := start_fine Fq.check hw2
  have s3 := start_fine x1 hw2
  have s4 := start_fine x2 hw2
  have s5 : startE [] w = 0 := start_fine (by decide) hw2
  have c1 := fun h => u14 p w h Fp.ok (by omega)
  have c2 := fun h => u14 q w h Fq.ok (by omega)
  have c3 := fun h => u14 (p ++ q) w h o1 (by omega)
  have c4 := fun h => u14 (q ++ p) w h o2 (by omega)
  have c5 := fun h => u14n w h (by omega)
  rw [levR_fine s1, s1] at c1
  rw [levR_fine s2, s2] at c2
  rw [levR_fine s3, s3] at c3
  rw [levR_fine s4, s4, ← lev_comm p q w Fp.lev Fq.lev] at c4
  rw [levR_fine s5, s5] at c5
  have l1 := levelsOf_len p w
  have l2 := levelsOf_len q w
  have l3 := levelsOf_len (p ++ q) w
  have l5 := levelsOf_len [] w
  have hmax := fun k hk => lev_max p q w Fp.lev Fq.lev (k := k) hk
  have hnone := fun k hk => lev_none w (k := k) hk
  have hpos := word_pos hw2
  have hcl := clus_len w
  have c16 := fun h => t67 w h (by omega)
  have e1 : ∀ (h l : List AObj), ACalls Tryd.prog 15 [.osl h.length 1 1 0 2] (h ++ .mem 1 22 [patsV p, patsV q] :: l) (patsV (p ++ q)) (h ++ .mem 1 22 [patsV p, patsV q] :: l) := fun h l => u15c p q _ _ 1 getO0 (by have := Fp.len; have := Fq.len; omega)
  have e2 : ∀ (h l : List AObj) (a : AObj), ACalls Tryd.prog 15 [.osl (h.length + 1) 1 1 0 2] (h ++ a :: .mem 1 22 [patsV q, patsV p] :: l) (patsV (q ++ p)) (h ++ a :: .mem 1 22 [patsV q, patsV p] :: l) := fun h l a => u15c q p _ _ 1 (by simp [getO]) (by have := Fp.len; have := Fq.len; omega)
  obtain ⟨A, hA⟩ : ∃ A, A = levelsOf p w := ⟨_, rfl⟩
  obtain ⟨B, hB⟩ : ∃ B, B = levelsOf q w := ⟨_, rfl⟩
  obtain ⟨D, hD⟩ : ∃ D, D = levelsOf (p ++ q) w := ⟨_, rfl⟩
  obtain ⟨Z, hZ⟩ : ∃ Z, Z = levelsOf [] w := ⟨_, rfl⟩
  rw [← hA] at c1 l1
  rw [← hB] at c2 l2
  rw [← hD] at c3 c4 l3
  rw [← hZ] at c5 l5
  rw [← hA, ← hB, ← hD] at hmax
  rw [← hZ] at hnone
  have c17 := fun h => u17v D D h (by omega)
  rw [decide_eq_true rfl] at c17
  have k1 : ((A.length : Int) = ((clus w).length : Int) - 1) = True := eq_true (by omega)
  have k2 : ((B.length : Int) = ((clus w).length : Int) - 1) = True := eq_true (by omega)
  have k3 : ((D.length : Int) = ((clus w).length : Int) - 1) = True := eq_true (by omega)
  have k4 : ((Z.length : Int) = ((clus w).length : Int) - 1) = True := eq_true (by omega)
  refine acalls_of fn3d (by simp) ?_
  simp only [List.length_cons, List.length_nil, Nat.reduceAdd, Nat.reduceSub, List.replicate, List.cons_append, List.nil_append, List.append_nil]
  simp (disch := omega) only [c3d, cells_patsV, solid_patsV, madeA, mm5, okmm5, intsV, strs, k1, k2, k3, k4, go_sem, wrap64_id, Int.tdiv_eq_ediv_of_nonneg, Int.tmod_eq_emod_of_nonneg]
  repeat' first
    | ((first | refine callA_pure (c11p _) ?_ ?_ | refine callA_pure (c11q _) ?_ ?_ | refine callA_pure (c12 _) ?_ ?_ | refine callA_pure (c1 _) ?_ ?_ | refine callA_pure (c2 _) ?_ ?_ | refine callA_pure (e1 _ _) ?_ ?_ | refine callA_pure (c3 _) ?_ ?_ | refine callA_pure (e2 _ _ _) ?_ ?_ | refine callA_pure (c4 _) ?_ ?_ | refine callA_pure (c5 _) ?_ ?_ | refine callA_pure (c16 _) ?_ ?_ | refine callA_pure (c17 _) ?_ ?_); (next => repeat' first | exact flags_n | refine flags_c (by first | rfl | assumption) ?_); simp (disch := omega) only [cells_patsV, solid_patsV, madeA, mm5, okmm5, intsV, strs, k1, k2, k3, k4, go_sem, wrap64_id, Int.tdiv_eq_ediv_of_nonneg, Int.tmod_eq_emod_of_nonneg])
    | ((first | refine callG_pure (fun e => ⟨?_, c11p _⟩) ?_ | refine callG_pure (fun e => ⟨?_, c11q _⟩) ?_ | refine callG_pure (fun e => ⟨?_, c12 _⟩) ?_ | refine callG_pure (fun e => ⟨?_, c1 _⟩) ?_ | refine callG_pure (fun e => ⟨?_, c2 _⟩) ?_ | refine callG_pure (fun e => ⟨?_, e1 _ _⟩) ?_ | refine callG_pure (fun e => ⟨?_, c3 _⟩) ?_ | refine callG_pure (fun e => ⟨?_, e2 _ _ _⟩) ?_ | refine callG_pure (fun e => ⟨?_, c4 _⟩) ?_ | refine callG_pure (fun e => ⟨?_, c5 _⟩) ?_ | refine callG_pure (fun e => ⟨?_, c16 _⟩) ?_ | refine callG_pure (fun e => ⟨?_, c17 _⟩) ?_); (next => repeat' first | exact flags_n | refine flags_c (by first | rfl | assumption) ?_); simp (disch := omega) only [cells_patsV, solid_patsV, madeA, mm5, okmm5, intsV, strs, k1, k2, k3, k4, go_sem, wrap64_id, Int.tdiv_eq_ediv_of_nonneg, Int.tmod_eq_emod_of_nonneg])
    | ((first | refine fnQ_pure1 ?_ ?_ | refine fnQ_pure0 ?_ ?_); (next => repeat' first | exact rvs_n | refine rvs_t ?_ | (simp [go_sem]; done)); simp only [go_sem]; (first | exact VLe.refl _ | refine VLe_int ?_ | refine VLe_bool ?_ | refine VLe_str ?_ | skip))
    | (with_reducible refine And.intro ?_ ?_)
    | with_reducible intro _
  all_goals first
    | omega
    | (rename_i hx; revert hx; simp; done)
    | (simp; done)
    | skip
  refine loop_of (T := fun k : Nat => spar 151 [(7, intsV A), (9, intsV B), (11, intsV D), (15, intsV Z), (109, intsV D), (110, .int .i64 D.length), (111, .int .i64 k)]) (H := fun _ => h ++ [.mem 1 22 [patsV p, patsV q], .mem 1 22 [patsV q, patsV p]]) (inv := fun k => k ≤ D.length) (m := fun k => D.length - k) 0 (by omega) (Wk.temps ?_) ?_
  · (simp only [intsV, spar, List.foldl, List.replicate, go_sem, VLes_nil, VLes_cons, VLe_undef_iff, VLe_self]; try (repeat' first | (with_reducible refine And.intro ?_ ?_) | (refine VLe_int ?_; omega) | (refine VLe_bool ?_; rfl) | exact VLe.refl _))
  rintro k q1 K hK
  by_cases hk : k < D.length
  · obtain ⟨m1, m2, m3⟩ := hmax k (by omega)
    have m4 := hnone k (by omega)
    have j1 : (D.getD k 0 = max (A.getD k 0) (B.getD k 0)) = True := eq_true m1
    have j4 : (Z.getD k 0 = 0) = True := eq_true m4
    have j2 : (A.getD k 0 < 0) = False := eq_false (by omega)
    have j3 : (9 < A.getD k 0) = False := eq_false (by omega)
    simp (disch := omega) only [spar, List.foldl, List.replicate, intsV, j1, j2, j3, j4, go_sem, wrap64_id, Int.tdiv_eq_ediv_of_nonneg, Int.tmod_eq_emod_of_nonneg]
    repeat' first
      | ((first | refine fnQ_pure1 ?_ ?_ | refine fnQ_pure0 ?_ ?_); (next => repeat' first | exact rvs_n | refine rvs_t ?_ | (simp [go_sem]; done)); simp only [go_sem]; (first | exact VLe.refl _ | refine VLe_int ?_ | refine VLe_bool ?_ | refine VLe_str ?_ | skip))
      | (with_reducible refine And.intro ?_ ?_)
      | with_reducible intro _
    all_goals first
      | omega
      | (rename_i hx; revert hx; simp; done)
      | (simp; done)
      | skip
    refine hK _ _ (k + 1) (by omega) (by omega) (Wk.temps ?_)
    (simp only [intsV, spar, List.foldl, List.replicate, go_sem, VLes_nil, VLes_cons, VLe_undef_iff, VLe_self]; try (repeat' first | (with_reducible refine And.intro ?_ ?_) | (refine VLe_int ?_; omega) | (refine VLe_bool ?_; rfl) | exact VLe.refl _))
  · have e : k = D.length := by omega
    subst e
    simp (disch := omega) only [spar, List.foldl, List.replicate, intsV, go_sem, wrap64_id, Int.tdiv_eq_ediv_of_nonneg, Int.tmod_eq_emod_of_nonneg]
    repeat' first
      | ((first | refine callA_pure (u13 _) ?_ ?_); (next => repeat' first | exact flags_n | refine flags_c (by first | rfl | assumption) ?_); simp (disch := omega) only [intsV, go_sem, wrap64_id, Int.tdiv_eq_ediv_of_nonneg, Int.tmod_eq_emod_of_nonneg])
      | ((first | refine callG_pure (fun e => ⟨?_, u13 _⟩) ?_); (next => repeat' first | exact flags_n | refine flags_c (by first | rfl | assumption) ?_); simp (disch := omega) only [intsV, go_sem, wrap64_id, Int.tdiv_eq_ediv_of_nonneg, Int.tmod_eq_emod_of_nonneg])
      | ((first | refine fnQ_pure1 ?_ ?_ | refine fnQ_pure0 ?_ ?_); (next => repeat' first | exact rvs_n | refine rvs_t ?_ | (simp [go_sem]; done)); simp only [go_sem]; (first | exact VLe.refl _ | refine VLe_int ?_ | refine VLe_bool ?_ | refine VLe_str ?_ | skip))
      | (with_reducible refine And.intro ?_ ?_)
      | with_reducible intro _
    all_goals first
      | omega
      | (rename_i hx; revert hx; simp; done)
      | (simp; done)
      | skip
end HY
end

section
/-! the text E37 -/
set_option linter.all false
set_option linter.unusedSimpArgs false
set_option linter.unusedVariables false
set_option linter.unusedSectionVars false
open Go Go.Proofs AF HY
namespace HY
set_option maxRecDepth 100000
end HY
end

section
/-! the text PgCodeE3 -/
set_option linter.all false
set_option linter.unusedSimpArgs false
set_option linter.unusedVariables false
set_option linter.unusedSectionVars false
open Go Go.Proofs AF
namespace HY
set_option maxRecDepth 100000
end HY
end

section
/-! the text E38 -/
set_option linter.all false
set_option linter.unusedSimpArgs false
set_option linter.unusedVariables false
set_option linter.unusedSectionVars false
open Go Go.Proofs AF HY
namespace HY
set_option maxRecDepth 100000
end HY
end

section
/-! the text E39 -/
open Go Go.Proofs AF HY
namespace HY
set_option maxRecDepth 100000
end HY
end

section
/-! the text AfX -/
/-
  AFX: calls whose contract is one of the kit's: below the memory's end all is as it was.
-/
namespace AF
open Go Go.RowKit
theorem Ext.ofBelow {w w' : World} {σ : List OB} {h : List AObj} (H : HR w σ h) (hb : Below w.heap.size w w') : HR w' σ h ∧ Ext w σ w' σ := by
  have e : Ext w σ w' σ := ⟨hb.os, hb.tape, hb.output, hb.size, fun b hl _ => hb.block b hl, fun _ h => .inl h, fun _ o h => ⟨o, h, Nat.le_refl _, fun _ => rfl⟩,
    fun b r h => ⟨r, (hb.block b (Array.getElem?_eq_some_iff.1 h).1).trans h⟩⟩
  exact ⟨⟨H.len, H.inj, fun k o b h1 h2 => Nat.lt_of_lt_of_le (H.lt k o b h1 h2) hb.size, fun k a o h1 h2 => (H.obj k a o h1 h2).ext e (fun b h3 => hb.block b (H.lt k o b h2 h3))⟩, e⟩
/-- The cells of a slice, where it is read as unchanging, or as an own object of flat values. -/
theorem vr_strs {w : World} {σ : List OB} {n : Nat} {g : Nat → List UInt8} {x : Value} (h : VR w σ (.sl n fun i => [.str (g i)]) x) :
    (n = 0 ∧ ∃ a, x = .slice a 0 0) ∨ ∃ (b off cap : Nat), x = .slice (some ⟨b, off, none⟩) n cap ∧ n ≤ cap ∧ b < w.heap.size ∧ ∀ i, i < n → w.cell? ⟨b, off + i, none⟩ = some (.string ⟨(g i).toArray⟩) := by
  rcases vr_sl h with h | ⟨sz, b, off, cap, vals, h1, h2, h3, h4, h5, h6, h7, h8, h9⟩
  · exact .inl h
  · refine .inr ⟨b, off, cap, h1, h2, h5, fun i hi => ?_⟩
    have hs : 1 = sz := h6 i hi
    subst hs
    have hv := h9 i 0 (.str (g i)) hi rfl
    have hc := h7 i 0 hi (by omega)
    rw [Nat.mul_one, Nat.add_zero] at hc
    rw [hc, vr_str (σ := σ) (.imm hv)]
end AF
end

section
/-! the text ES -/
set_option linter.all false
namespace Go.Proofs
open Go.Shelf
def Tryd.lays156_ren : Go.Shelf.Ren := ⟨fun | 156 => 37 | 165 => 69 | 166 => 50 | 169 => 52 | 240 => 81 | 241 => 96 | 276 => 102 | 277 => 110 | n => n, fun | 31 => 33 | 9 => 9 | 3 => 3 | 4 => 4 | 0 => 0 | 20 => 20 | 72 => 69 | 76 => 73 | 70 => 67 | 37 => 61 | 75 => 71 | 127 => 96 | 164 => 108 | 5 => 5 | 80 => 76 | n => n, fun | n => n⟩
theorem Tryd.lays156 : Go.Proofs.Lays.n156 Tryd.prog Tryd.lays156_ren := {
  mixed := by kernel_rfl
  f156 := Tryd.func37.trans (congrArg some (by kernel_rfl))
  f165 := Tryd.func69.trans (congrArg some (by kernel_rfl))
  f166 := Tryd.func50.trans (congrArg some (by kernel_rfl))
  f169 := Tryd.func52.trans (congrArg some (by kernel_rfl))
  f240 := Tryd.func81.trans (congrArg some (by kernel_rfl))
  f241 := Tryd.func96.trans (congrArg some (by kernel_rfl))
  f276 := Tryd.func102.trans (congrArg some (by kernel_rfl))
  f277 := Tryd.func110.trans (congrArg some (by kernel_rfl))
  t0 := Tryd.underlying0
  a0 := Tryd.isAgg0
  z0 := Tryd.sizeOf0
  v0 := Tryd.zeroValue0
  t3 := Tryd.underlying3
  a3 := Tryd.isAgg3
  z3 := Tryd.sizeOf3
  v3 := Tryd.zeroValue3
  t4 := Tryd.underlying4
  a4 := Tryd.isAgg4
  z4 := Tryd.sizeOf4
  v4 := Tryd.zeroValue4
  t9 := Tryd.underlying9
  a9 := Tryd.isAgg9
  z9 := Tryd.sizeOf9
  v9 := Tryd.zeroValue9
  t20 := Tryd.underlying20
  a20 := Tryd.isAgg20
  z20 := Tryd.sizeOf20
  v20 := Tryd.zeroValue20
  t31 := Tryd.underlying33
  a31 := Tryd.isAgg33
  z31 := Tryd.sizeOf33
  v31 := Tryd.zeroValue33
  t37 := Tryd.underlying61
  a37 := Tryd.isAgg61
  z37 := Tryd.sizeOf61
  v37 := Tryd.zeroValue61
  t70 := Tryd.underlying67
  a70 := Tryd.isAgg67
  z70 := Tryd.sizeOf67
  v70 := Tryd.zeroValue67
  t72 := Tryd.underlying69
  a72 := Tryd.isAgg69
  z72 := Tryd.sizeOf69
  v72 := Tryd.zeroValue69
  t75 := Tryd.underlying71
  a75 := Tryd.isAgg71
  z75 := Tryd.sizeOf71
  v75 := Tryd.zeroValue71
  t76 := Tryd.underlying73
  a76 := Tryd.isAgg73
  z76 := Tryd.sizeOf73
  v76 := Tryd.zeroValue73
  t127 := Tryd.underlying96
  a127 := Tryd.isAgg96
  z127 := Tryd.sizeOf96
  v127 := Tryd.zeroValue96
  t164 := Tryd.underlying108
  a164 := Tryd.isAgg108
  z164 := Tryd.sizeOf108
  v164 := Tryd.zeroValue108 }
theorem Tryd.Builder_Extra_156 : Builder.Extra Tryd.prog Tryd.lays156_ren := {
  sizeBuilder := by kernel_rfl
  liesBuilder := by kernel_rfl
  t5 := Tryd.underlying5
  a5 := Tryd.isAgg5
  z5 := Tryd.sizeOf5
  v5 := Tryd.zeroValue5
  infoByte := by kernel_rfl
  cellsByte := by kernel_rfl
  sizeByte := by kernel_rfl
  neB5 := by decide }
open Go.RowKit in
theorem Tryd.strings_Join_none (a : Option Addr) (c : Nat) (sep : ByteArray) (w : World) :
    Calls Tryd.prog 37 #[.slice a 0 c, .string sep] w fun e w' => e = .returned (.string ⟨#[]⟩) ∧ w' = w := Any.strings_Join_none Tryd.lays156 Tryd.Builder_Extra_156 a c sep w
open Go.RowKit in
theorem Tryd.strings_Join (bk o c : Nat) (xs : List ByteArray) (sep : ByteArray) (w : World) (hcells : ∀ (j : Nat) x, xs[j]? = some x → w.cell? ⟨bk, o + j, none⟩ = some (.string x)) (hbk : bk < w.heap.size) (hN : xs.length ≤ 140737488355328) (hcap : xs.length ≤ c) (hlen : (Lib.join (xs.map (·.data.toList)) sep.data.toList).length ≤ 140737488355328) :
    Calls Tryd.prog 37 #[.slice (some ⟨bk, o, none⟩) xs.length c, .string sep] w fun e w' => e = .returned (.string ⟨(Lib.join (xs.map (·.data.toList)) sep.data.toList).toArray⟩) ∧ Below w.heap.size w w' := Any.strings_Join Tryd.lays156 Tryd.Builder_Extra_156 bk o c xs sep w hcells hbk hN hcap hlen
end Go.Proofs
end

section
/-! the text E40 -/
open Go Go.Proofs AF HY
namespace HY
set_option maxRecDepth 100000
theorem join_nil_sep (L : List (List UInt8)) : Go.Lib.join L [] = L.flatten := by
  cases L with
  | nil => rfl
  | cons x r =>
    rw [Go.Lib.join_cons]
    unfold Go.Lib.joinTail
    simp
theorem data_mk (l : List UInt8) : (ByteArray.mk l.toArray).data.toList = l := by simp
/-- strings.Join without a separator. -/
theorem u37 (n : Nat) (g : Nat → List UInt8) (h : List AObj) (hl : ((List.range n).map g).flatten.length ≤ 1000000000) (hn : n ≤ 1000000000) : ACalls Tryd.prog 37 [.sl n fun i => [.str (g i)], .str []] h (.str ((List.range n).map g).flatten) h := by
  refine ⟨okF1 Tryd.func37 (by kernel_rfl) (by kernel_rfl), fun w σ xs H hv => ?_⟩
  obtain ⟨x, y, rfl, hx, hy⟩ := hv.two
  rw [vr_str hy]
  have hm : ((List.range n).map fun i => ByteArray.mk (g i).toArray).map (·.data.toList) = (List.range n).map g := by
    rw [List.map_map]
    exact List.map_congr_left (fun i _ => data_mk (g i))
  have hd : (ByteArray.mk ([] : List UInt8).toArray).data.toList = [] := rfl
  have key : CallsIn Fence.wide 0 Tryd.prog 37 #[x, .string ⟨([] : List UInt8).toArray⟩] w fun e w' => e = .returned (.string ⟨((List.range n).map g).flatten.toArray⟩) ∧ Go.RowKit.Below w.heap.size w w' := by
    rcases vr_strs hx with ⟨rfl, a, rfl⟩ | ⟨b, off, cap, rfl, h1, h2, h3⟩
    · refine (callsIn_wide.2 (Go.Proofs.Tryd.strings_Join_none a 0 ⟨#[]⟩ w)).mono ?_
      rintro e w' ⟨rfl, rfl⟩
      exact ⟨rfl, Go.RowKit.Below.refl _ _⟩
    · have hln : ((List.range n).map fun i => ByteArray.mk (g i).toArray).length = n := by simp
      have hc := Go.Proofs.Tryd.strings_Join b off cap ((List.range n).map fun i => ByteArray.mk (g i).toArray) ⟨#[]⟩ w (fun j x hj => by
        rw [List.getElem?_map, Option.map_eq_some_iff] at hj
        obtain ⟨i, hi, rfl⟩ := hj
        have hlt : j < n := by have := (List.getElem?_eq_some_iff.1 hi).1; simpa using this
        rw [List.getElem?_range hlt] at hi
        cases hi
        exact h3 j hlt) h2 (by omega) (by omega) (by rw [hm, show (ByteArray.mk #[]).data.toList = [] from rfl, join_nil_sep]; omega)
      rw [hln, hm, show (ByteArray.mk #[]).data.toList = [] from rfl, join_nil_sep] at hc
      exact callsIn_wide.2 hc
  refine key.mono ?_
  rintro e w' ⟨rfl, hb⟩
  obtain ⟨H', e'⟩ := Ext.ofBelow H hb
  exact ⟨_, σ, rfl, H', .imm .str, e'⟩
theorem take_map_getD (us : List (List UInt8)) : ∀ i, i ≤ us.length → (List.range i).map (fun j => us.getD j []) = us.take i := by
  intro i hi
  apply List.ext_getElem
  · simp; omega
  · intro j h1 h2
    simp at h1
    simp [List.getD_eq_getElem?_getD, show j < us.length by omega]
end HY
end

section
/-! the text E41 -/
open Go Go.Proofs AF HY
namespace HY
set_option maxRecDepth 100000
/-! Clusters are known by their form: what is cut at them has the same ones. -/
def okU (u : List UInt8) : Prop := ∃ c m, u = c :: m ∧ (∀ x ∈ m, kind x = 2) ∧ (m ≠ [] → kind c = 1)
def sepU (u v : List UInt8) : Prop := ¬ (kind (ch v 0) = 2 ∧ kind (ch u 0) = 1)
def Chn : List (List UInt8) → Prop
  | [] => True
  | u :: r => okU u ∧ (∀ v ∈ r.head?, sepU u v) ∧ Chn r
def cl (cur : List UInt8) : List UInt8 → List (List UInt8)
  | [] => [cur]
  | c :: r => if kind c = 2 ∧ kind (ch cur 0) = 1 then cl (cur ++ [c]) r else cur :: cl [c] r
theorem clusO_cl (r : List UInt8) : ∀ frm cur, (clusO frm cur r).map (·.2) = cl cur r := by
  induction r with
  | nil => intro frm cur; rfl
  | cons c r ih =>
    intro frm cur
    simp only [clusO, cl]
    split
    · exact ih _ _
    · rw [List.map_cons, ih]
theorem clus_cons (c : UInt8) (r : List UInt8) : clus (c :: r) = cl [c] r := clusO_cl r 0 [c]
theorem cl_head (r : List UInt8) : ∀ cur, ∃ t l, cl cur r = (cur ++ t) :: l := by
  induction r with
  | nil => intro cur; exact ⟨[], [], by simp [cl]⟩
  | cons c r ih =>
    intro cur
    unfold cl
    split
    · obtain ⟨t, l, h⟩ := ih (cur ++ [c])
      exact ⟨c :: t, l, by rw [h]; simp⟩
    · exact ⟨[], _, by simp; rfl⟩
theorem chn_cl (r : List UInt8) : ∀ cur, okU cur → Chn (cl cur r) := by
  induction r with
  | nil => intro cur h; exact ⟨h, by simp, trivial⟩
  | cons c r ih =>
    intro cur h
    unfold cl
    split
    · rename_i hc
      obtain ⟨a, m, rfl, h1, h2⟩ := h
      refine ih _ ⟨a, m ++ [c], rfl, fun x hx => ?_, fun _ => hc.2⟩
      rcases List.mem_append.1 hx with hx | hx
      · exact h1 x hx
      · simp at hx; subst hx; exact hc.1
    · rename_i hc
      refine ⟨h, fun v hv => ?_, ih _ ⟨c, [], rfl, by simp, by simp⟩⟩
      obtain ⟨t, l, e⟩ := cl_head r [c]
      rw [e] at hv
      simp at hv
      subst hv
      exact hc
theorem chn_clus (s : List UInt8) : Chn (clus s) := by
  cases s with
  | nil => trivial
  | cons c r => rw [clus_cons]; exact chn_cl r [c] ⟨c, [], rfl, by simp, by simp⟩
theorem cl_marks (c : UInt8) (hc : kind c = 1) : ∀ (m n r : List UInt8), (∀ x ∈ m, kind x = 2) → cl (c :: n) (m ++ r) = cl (c :: (n ++ m)) r := by
  intro m
  induction m with
  | nil => intro n r _; simp
  | cons x m ih =>
    intro n r h
    rw [List.cons_append]
    conv => lhs; unfold cl
    rw [if_pos ⟨h x (by simp), hc⟩]
    have := ih (n ++ [x]) r (fun y hy => h y (by simp [hy]))
    rw [show c :: n ++ [x] = c :: (n ++ [x]) from rfl, this]
    simp
theorem clus_chn : ∀ us, Chn us → clus us.flatten = us := by
  intro us
  induction us with
  | nil => intro _; rfl
  | cons u r ih =>
    rintro ⟨⟨c, m, rfl, h1, h2⟩, hs, hr⟩
    have ih := ih hr
    rw [List.flatten_cons, List.cons_append, clus_cons]
    have e : cl [c] (m ++ r.flatten) = cl (c :: m) r.flatten := by
      by_cases hm : m = []
      · subst hm; rfl
      · have := cl_marks c (h2 hm) m [] r.flatten h1
        simpa using this
    rw [e]
    cases r with
    | nil => rfl
    | cons v r =>
      obtain ⟨⟨d, n, rfl, _, _⟩, _, _⟩ := hr
      have hsep := hs (d :: n) (by simp)
      rw [List.flatten_cons, List.cons_append] at ih ⊢
      rw [clus_cons] at ih
      unfold cl
      rw [if_neg (show ¬ (kind d = 2 ∧ kind (ch (c :: m) 0) = 1) from hsep), ih]
theorem chn_drop : ∀ (us : List (List UInt8)) (k : Nat), Chn us → Chn (us.drop k) := by
  intro us
  induction us with
  | nil => intro k _; simp [Chn]
  | cons u r ih =>
    intro k h
    cases k with
    | zero => exact h
    | succ k => exact ih k h.2.2
theorem chn_take : ∀ (us : List (List UInt8)) (k : Nat), Chn us → Chn (us.take k) := by
  intro us
  induction us with
  | nil => intro k _; simp [Chn]
  | cons u r ih =>
    intro k h
    cases k with
    | zero => simp [Chn]
    | succ k =>
      refine ⟨h.1, fun v hv => h.2.1 v ?_, ih k h.2.2⟩
      cases r with
      | nil => simp at hv
      | cons w r =>
        cases k with
        | zero => simp at hv
        | succ k => simpa using hv
theorem take_offN (us : List (List UInt8)) (k : Nat) : us.flatten.take (offN us k) = (us.take k).flatten := by
  have e : us.flatten = (us.take k).flatten ++ (us.drop k).flatten := by rw [← List.flatten_append, List.take_append_drop]
  rw [e]
  exact List.take_left
theorem drop_offN (us : List (List UInt8)) (k : Nat) : us.flatten.drop (offN us k) = (us.drop k).flatten := by
  have e : us.flatten = (us.take k).flatten ++ (us.drop k).flatten := by rw [← List.flatten_append, List.take_append_drop]
  rw [e]
  exact List.drop_left
theorem clus_take (w : List UInt8) (k : Nat) : clus (w.take (offN (clus w) k)) = (clus w).take k := by
  have := take_offN (clus w) k
  rw [clus_join] at this
  rw [this]
  exact clus_chn _ (chn_take _ k (chn_clus w))
theorem clus_drop (w : List UInt8) (k : Nat) : clus (w.drop (offN (clus w) k)) = (clus w).drop k := by
  have := drop_offN (clus w) k
  rw [clus_join] at this
  rw [this]
  exact clus_chn _ (chn_drop _ k (chn_clus w))
/-- The pieces, one behind the other. -/
theorem pieces_join {w : List UInt8} {L : List Int} (hc : okCuts w L) : ∀ j, j ≤ L.length → (pieces w L j).flatten = w.take (prevI L j).toNat := by
  intro j
  induction j with
  | zero => intro _; simp [pieces_zero, prevI_zero]
  | succ j ih =>
    intro hj
    obtain ⟨h1, h2, h3⟩ := hc j (by omega)
    rw [pieces_succ, List.flatten_append, ih (by omega), prevI_succ]
    have e : w.take (L.getD j 0).toNat = w.take (prevI L j).toNat ++ (w.drop (prevI L j).toNat).take ((L.getD j 0).toNat - (prevI L j).toNat) := by
      have : (L.getD j 0).toNat = (prevI L j).toNat + ((L.getD j 0).toNat - (prevI L j).toNat) := by omega
      conv => lhs; rw [this, List.take_add]
    rw [e]
    simp [piece]
theorem pieces_get {w : List UInt8} {L : List Int} {n i : Nat} (hi : i < n) : (pieces w L n).getD i [] = piece w L i := by
  unfold pieces
  rw [List.getD_eq_getElem?_getD, List.getElem?_map, List.getElem?_range hi]
  rfl
theorem ptAt_form {us : List (List UInt8)} {A : List Int} {m : Nat} : ∀ x ∈ ptAt us A m, ∃ i, x = (offN us (i + 1) : Int) ∧ 1 ≤ i ∧ i + 3 ≤ us.length := by
  intro x hx
  unfold ptAt ptIdx at hx
  rw [List.mem_map] at hx
  obtain ⟨i, hi, rfl⟩ := hx
  rw [List.mem_filter] at hi
  have := hi.2
  unfold hitP at this
  simp only [Bool.and_eq_true, decide_eq_true_eq] at this
  exact ⟨i, rfl, this.2.1, this.2.2⟩
/-- The first and the last pieces have two clusters at least. -/
theorem first_two {w : List UInt8} {A L : List Int} {m : Nat} (hL : L = ptAt (clus w) A m ++ [(w.length : Int)]) (h : ptAt (clus w) A m ≠ []) : 2 ≤ (clus (piece w L 0)).length := by
  obtain ⟨x, l, e⟩ := List.exists_cons_of_ne_nil h
  obtain ⟨i, h1, h2, h3⟩ := ptAt_form x (by rw [e]; simp)
  have e0 : L.getD 0 0 = x := by rw [hL, e]; rfl
  unfold piece
  rw [e0, prevI_zero, h1]
  simp only [Int.toNat_natCast, Int.toNat_zero, List.drop_zero, Nat.sub_zero]
  rw [clus_take, List.length_take]
  omega
theorem last_two {w : List UInt8} {A L : List Int} {m : Nat} (hL : L = ptAt (clus w) A m ++ [(w.length : Int)]) (h : ptAt (clus w) A m ≠ []) : 2 ≤ (clus (piece w L (L.length - 1))).length := by
  obtain ⟨P, hP⟩ : ∃ P, P = ptAt (clus w) A m := ⟨_, rfl⟩
  have hf : ∀ x ∈ P, ∃ i, x = (offN (clus w) (i + 1) : Int) ∧ 1 ≤ i ∧ i + 3 ≤ (clus w).length := by rw [hP]; exact ptAt_form
  rw [← hP] at hL h
  have hl : 0 < P.length := List.length_pos_iff.2 h
  have h1 : L.length - 1 = P.length := by rw [hL]; simp
  have hlt : P.length - 1 < P.length := by omega
  obtain ⟨y, hy⟩ : ∃ y, y = P[P.length - 1] := ⟨_, rfl⟩
  obtain ⟨i, g1, g2, g3⟩ := hf y (by rw [hy]; exact List.getElem_mem _)
  have e1 : L.getD P.length 0 = (w.length : Int) := by rw [hL]; simp [List.getD_eq_getElem?_getD]
  have e2 : prevI L P.length = y := by
    unfold prevI
    rw [if_neg (by omega), hL, List.getD_eq_getElem?_getD, List.getElem?_append_left hlt, List.getElem?_eq_getElem hlt, hy]
    rfl
  rw [h1]
  unfold piece
  rw [e1, e2, g1]
  simp only [Int.toNat_natCast]
  rw [List.take_of_length_le (by rw [List.length_drop]; exact Nat.le_refl _), clus_drop, List.length_drop]
  omega
end HY
end

section
/-! the text E42 -/
open Go Go.Proofs AF HY
namespace HY
set_option maxRecDepth 100000
theorem prevI_len (L : List Int) (x : Int) : prevI (L ++ [x]) (L ++ [x]).length = x := by
  unfold prevI
  rw [if_neg (by simp)]
  simp [List.getD_eq_getElem?_getD]
theorem prev_get {L : List Int} {x : Int} {i : Nat} (h0 : i ≠ 0) (hi : i ≤ L.length) : prevI (L ++ [x]) i = L.getD (i - 1) 0 := by
  unfold prevI
  rw [if_neg h0, List.getD_eq_getElem?_getD, List.getElem?_append_left (by omega), List.getD_eq_getElem?_getD]
theorem piece_len {w : List UInt8} {L : List Int} (hc : okCuts w L) {i : Nat} (hi : i < L.length) : prevI L i + ((piece w L i).length : Int) = prevI L (i + 1) := by
  obtain ⟨h1, h2, h3⟩ := hc i hi
  unfold piece
  rw [prevI_succ, List.length_take, List.length_drop]
  omega
set_option maxHeartbeats 8000000 in
theorem u10 (p : List Pat) (w : List UInt8) (h : List AObj) (hp : p.length ≤ 9223372036854775807) : ACalls Tryd.prog 10 [patsV p, .str w] h (.bool true) h := by
  have c11p := fun h => u11 p h hp
  have c12 := fun h => u12 w h
  cases hfp : fineH p with
  | false =>
    rw [hfp] at c11p
    refine acalls_of fn10d (by simp) ?_
    simp only [List.length_cons, List.length_nil, Nat.reduceAdd, Nat.reduceSub, List.replicate, List.cons_append, List.nil_append, List.append_nil]
    simp (disch := omega) only [c10d, go_sem, wrap64_id, Int.tdiv_eq_ediv_of_nonneg, Int.tmod_eq_emod_of_nonneg]
    repeat' first
      | (refine callG_false ((.bool false)) ?_; simp (disch := omega) only [go_sem, wrap64_id, Int.tdiv_eq_ediv_of_nonneg, Int.tmod_eq_emod_of_nonneg])
      | ((first | refine callA_pure (c11p _) ?_ ?_ | refine callA_pure (u13 _) ?_ ?_); (next => repeat' first | exact flags_n | refine flags_c (by first | rfl | assumption) ?_); simp (disch := omega) only [go_sem, wrap64_id, Int.tdiv_eq_ediv_of_nonneg, Int.tmod_eq_emod_of_nonneg])
      | ((first | refine callG_pure (fun e => ⟨?_, c11p _⟩) ?_ | refine callG_pure (fun e => ⟨?_, u13 _⟩) ?_); (next => repeat' first | exact flags_n | refine flags_c (by first | rfl | assumption) ?_); simp (disch := omega) only [go_sem, wrap64_id, Int.tdiv_eq_ediv_of_nonneg, Int.tmod_eq_emod_of_nonneg])
      | ((first | refine fnQ_pure1 ?_ ?_ | refine fnQ_pure0 ?_ ?_); (next => repeat' first | exact rvs_n | refine rvs_t ?_ | (simp [go_sem]; done)); simp only [go_sem]; (first | exact VLe.refl _ | refine VLe_int ?_ | refine VLe_bool ?_ | refine VLe_str ?_ | skip))
      | (with_reducible refine And.intro ?_ ?_)
      | with_reducible intro _
    all_goals first
      | omega
      | (rename_i hx; revert hx; simp; done)
      | (simp; done)
      | skip
  | true =>
  rw [hfp] at c11p
  cases hfw : wordH w with
  | false =>
    rw [hfw] at c12
    refine acalls_of fn10d (by simp) ?_
    simp only [List.length_cons, List.length_nil, Nat.reduceAdd, Nat.reduceSub, List.replicate, List.cons_append, List.nil_append, List.append_nil]
    simp (disch := omega) only [c10d, go_sem, wrap64_id, Int.tdiv_eq_ediv_of_nonneg, Int.tmod_eq_emod_of_nonneg]
    repeat' first
      | ((first | refine callA_pure (c11p _) ?_ ?_ | refine callA_pure (c12 _) ?_ ?_ | refine callA_pure (u13 _) ?_ ?_); (next => repeat' first | exact flags_n | refine flags_c (by first | rfl | assumption) ?_); simp (disch := omega) only [go_sem, wrap64_id, Int.tdiv_eq_ediv_of_nonneg, Int.tmod_eq_emod_of_nonneg])
      | ((first | refine callG_pure (fun e => ⟨?_, c11p _⟩) ?_ | refine callG_pure (fun e => ⟨?_, c12 _⟩) ?_ | refine callG_pure (fun e => ⟨?_, u13 _⟩) ?_); (next => repeat' first | exact flags_n | refine flags_c (by first | rfl | assumption) ?_); simp (disch := omega) only [go_sem, wrap64_id, Int.tdiv_eq_ediv_of_nonneg, Int.tmod_eq_emod_of_nonneg])
      | ((first | refine fnQ_pure1 ?_ ?_ | refine fnQ_pure0 ?_ ?_); (next => repeat' first | exact rvs_n | refine rvs_t ?_ | (simp [go_sem]; done)); simp only [go_sem]; (first | exact VLe.refl _ | refine VLe_int ?_ | refine VLe_bool ?_ | refine VLe_str ?_ | skip))
      | (with_reducible refine And.intro ?_ ?_)
      | with_reducible intro _
    all_goals first
      | omega
      | (rename_i hx; revert hx; simp; done)
      | (simp; done)
      | skip
  | true =>
  rw [hfw] at c12
  have Fp := fine_of hfp
  have hw := hfw
  unfold wordH at hw
  simp only [Bool.and_eq_true, decide_eq_true_eq] at hw
  obtain ⟨hw1, hw2⟩ := hw
  have s1 := start_fine Fp.check hw2
  have c30 := fun h => u30 p w h Fp.ok (by omega)
  have c19 := fun h => t89 p w h Fp.ok (by omega)
  unfold splitR at c30
  rw [s1] at c19 c30
  rw [if_pos rfl] at c30
  have hcut := okCuts_points p w
  have lL := points_len p w
  have hpts : pointsR p w = ptAt (clus w) (levelsOf p w) ((clus w).length - 1) := by unfold pointsR; rw [if_pos s1]
  have hL0 : cutsOf p w = pointsR p w ++ [(w.length : Int)] := rfl
  have hlp := prevI_len (pointsR p w) (w.length : Int)
  rw [← hL0] at hlp
  have hft : pointsR p w ≠ [] → 2 ≤ (clus (piece w (cutsOf p w) 0)).length ∧ 2 ≤ (clus (piece w (cutsOf p w) ((cutsOf p w).length - 1))).length := fun hne => by
    rw [hpts] at hL0 hne
    exact ⟨first_two hL0 hne, last_two hL0 hne⟩
  obtain ⟨Q, hQ⟩ : ∃ Q, Q = pointsR p w := ⟨_, rfl⟩
  obtain ⟨L, hL⟩ : ∃ L, L = cutsOf p w := ⟨_, rfl⟩
  rw [← hQ] at c19 lL hL0 hft
  rw [← hL] at c30 hcut hL0 hlp hft
  have hLl : L.length = Q.length + 1 := by rw [hL0]; simp
  have hj := pieces_join hcut L.length (Nat.le_refl _)
  rw [hlp] at hj
  have hj : (pieces w L L.length).flatten = w := by rw [hj]; simp
  have hpl := pieces_len w L L.length
  have hmap : (List.range L.length).map (fun i => (pieces w L L.length).getD i []) = pieces w L L.length := by
    rw [take_map_getD _ _ (by omega)]
    exact List.take_of_length_le (by omega)
  have c37 := fun h => u37 L.length (fun i => (pieces w L L.length).getD i []) h (by rw [hmap, hj]; omega) (by omega)
  rw [hmap, hj] at c37
  unfold strs at c30
  rw [hpl] at c30
  have hg := fun i (hi : i < L.length) => pieces_get (w := w) (L := L) (n := L.length) hi
  have k1 : ((L.length : Int) = (Q.length : Int) + 1) = True := eq_true (by omega)
  have k2 : (w = w) = True := eq_true rfl
  have hlen : (fun n => n) Q.length = Q.length := rfl
  have e19 : ∃ V, V = intsN Q ∧ okL h .len [V] = True ∧ valL h .len [V] = .int .i64 Q.length ∧ V.strip = V ∧ V.flag = true := by
    by_cases e : Q = []
    · exact ⟨_, rfl, by rw [e]; simp only [intsN_nil, go_sem], by rw [e]; simp only [intsN_nil, go_sem]; rfl, strip_intsN _, flag_intsN _⟩
    · have e1 : intsN Q = intsV Q := by unfold intsN; rw [if_neg e]
      exact ⟨_, rfl, by rw [e1]; simp only [intsV, go_sem], by rw [e1]; simp only [intsV, go_sem], strip_intsN _, flag_intsN _⟩
  obtain ⟨V, hV, v1, v2, v3, v4⟩ := e19
  rw [← hV] at c19
  refine acalls_of fn10d (by simp) ?_
  simp only [List.length_cons, List.length_nil, Nat.reduceAdd, Nat.reduceSub, List.replicate, List.cons_append, List.nil_append, List.append_nil]
  simp (disch := omega) only [c10d, k1, k2, v1, v2, v3, v4, go_sem, wrap64_id, Int.tdiv_eq_ediv_of_nonneg, Int.tmod_eq_emod_of_nonneg]
  repeat' first
    | ((first | refine callA_pure (c11p _) ?_ ?_ | refine callA_pure (c12 _) ?_ ?_ | refine callA_pure (c30 _) ?_ ?_ | refine callA_pure (c19 _) ?_ ?_ | refine callA_pure (c37 _) ?_ ?_); (next => repeat' first | exact flags_n | refine flags_c (by first | rfl | assumption) ?_); simp (disch := omega) only [k1, k2, v1, v2, v3, v4, go_sem, wrap64_id, Int.tdiv_eq_ediv_of_nonneg, Int.tmod_eq_emod_of_nonneg])
    | ((first | refine callG_pure (fun e => ⟨?_, c11p _⟩) ?_ | refine callG_pure (fun e => ⟨?_, c12 _⟩) ?_ | refine callG_pure (fun e => ⟨?_, c30 _⟩) ?_ | refine callG_pure (fun e => ⟨?_, c19 _⟩) ?_ | refine callG_pure (fun e => ⟨?_, c37 _⟩) ?_); (next => repeat' first | exact flags_n | refine flags_c (by first | rfl | assumption) ?_); simp (disch := omega) only [k1, k2, v1, v2, v3, v4, go_sem, wrap64_id, Int.tdiv_eq_ediv_of_nonneg, Int.tmod_eq_emod_of_nonneg])
    | ((first | refine fnQ_pure1 ?_ ?_ | refine fnQ_pure0 ?_ ?_); (next => repeat' first | exact rvs_n | refine rvs_t ?_ | (simp [go_sem]; done)); simp only [go_sem]; (first | exact VLe.refl _ | refine VLe_int ?_ | refine VLe_bool ?_ | refine VLe_str ?_ | skip))
    | (with_reducible refine And.intro ?_ ?_)
    | with_reducible intro _
  all_goals first
    | omega
    | (rename_i hx; revert hx; simp; done)
    | (simp; done)
    | skip
  refine loop_of (T := fun i : Nat => spar 99 [(5, .sl L.length fun i => [.str ((pieces w L L.length).getD i [])]), (7, V), (9, .int .i64 (prevI L i)), (53, .sl L.length fun i => [.str ((pieces w L L.length).getD i [])]), (54, .int .i64 L.length), (55, .int .i64 i)])
    (H := fun i => h) (inv := fun i => i ≤ L.length) (m := fun i => L.length - i) 0 (by omega) (Wk.temps ?_) ?_
  · simp only [prevI_zero]
    (simp only [spar, List.foldl, List.replicate, go_sem, VLes_nil, VLes_cons, VLe_undef_iff, VLe_self]; try (repeat' first | (with_reducible refine And.intro ?_ ?_) | (refine VLe_int ?_; omega) | (refine VLe_bool ?_; rfl) | exact VLe.refl _))
  rintro i i1 K hK
  by_cases hi : i < L.length
  · have hgi := hg i hi
    obtain ⟨q1, q2, q3⟩ := hcut i hi
    have hpn := piece_len hcut hi
    have hnx := prevI_succ L i
    have hpil : (piece w L i).length ≤ w.length := by unfold piece; rw [List.length_take, List.length_drop]; omega
    obtain ⟨x, hx⟩ : ∃ x, x = piece w L i := ⟨_, rfl⟩
    rw [← hx] at hgi hpn hpil
    have c16 := fun h => t67 x h (by omega)
    have key : ∀ t', VLes t' (spar 99 [(5, .sl L.length fun i => [.str ((pieces w L L.length).getD i [])]), (7, V), (9, .int .i64 (prevI L (i + 1))), (53, .sl L.length fun i => [.str ((pieces w L L.length).getD i [])]), (54, .int .i64 L.length), (55, .int .i64 ((i + 1 : Nat) : Int))]) → K t' h := fun t' ht' => hK t' h (i + 1) hi (by omega) (Wk.temps ht')
    by_cases h0 : i = 0
    · subst h0
      rw [prevI_zero] at hpn q1 q2 ⊢
      rw [Int.zero_add] at hpn
      have g0 : ((0 : Int) < ((0 : Nat) : Int)) = False := eq_false (by omega)
      have g0' : (((0 : Nat) : Int) = 0) = True := eq_true rfl
      by_cases hQ0 : Q = []
      · have hL1 : L.length = 1 := by rw [hLl, hQ0]; rfl
        have g1 : ((1 : Int) < (L.length : Int)) = False := eq_false (by omega)
        simp (disch := omega) only [spar, List.foldl, List.replicate, hgi, g0, g1, g0', go_sem, wrap64_id, Int.tdiv_eq_ediv_of_nonneg, Int.tmod_eq_emod_of_nonneg]
        repeat' first
          | (refine callG_false ((.nl)) ?_; simp (disch := omega) only [hgi, g0, g1, g0', go_sem, wrap64_id, Int.tdiv_eq_ediv_of_nonneg, Int.tmod_eq_emod_of_nonneg])
          | ((first | refine fnQ_pure1 ?_ ?_ | refine fnQ_pure0 ?_ ?_); (next => repeat' first | exact rvs_n | refine rvs_t ?_ | (simp [go_sem]; done)); simp only [go_sem]; (first | exact VLe.refl _ | refine VLe_int ?_ | refine VLe_bool ?_ | refine VLe_str ?_ | skip))
          | (with_reducible refine And.intro ?_ ?_)
          | with_reducible intro _
        all_goals first
          | omega
          | (rename_i hx; revert hx; simp; done)
          | (simp; done)
          | skip
        refine key _ ?_
        (simp only [hpn, spar, List.foldl, List.replicate, go_sem, VLes_nil, VLes_cons, VLe_undef_iff, VLe_self]; try (repeat' first | (with_reducible refine And.intro ?_ ?_) | (refine VLe_int ?_; omega) | (refine VLe_bool ?_; rfl) | exact VLe.refl _))
      · have hL1 : 1 < L.length := by rw [hLl]; have := List.length_pos_iff.2 hQ0; omega
        have g1 : ((1 : Int) < (L.length : Int)) = True := eq_true (by omega)
        have h2 := (hft hQ0).1
        rw [← hx] at h2
        have g2 : (((clus x).length : Int) < 2) = False := eq_false (by omega)
        simp (disch := omega) only [spar, List.foldl, List.replicate, hgi, g0, g1, g0', go_sem, wrap64_id, Int.tdiv_eq_ediv_of_nonneg, Int.tmod_eq_emod_of_nonneg]
        repeat' first
          | ((first | refine callA_pure (c16 _) ?_ ?_); (next => repeat' first | exact flags_n | refine flags_c (by first | rfl | assumption) ?_); simp (disch := omega) only [hgi, g0, g1, g0', g2, strs, go_sem, wrap64_id, Int.tdiv_eq_ediv_of_nonneg, Int.tmod_eq_emod_of_nonneg])
          | ((first | refine callG_pure (fun e => ⟨?_, c16 _⟩) ?_); (next => repeat' first | exact flags_n | refine flags_c (by first | rfl | assumption) ?_); simp (disch := omega) only [hgi, g0, g1, g0', g2, strs, go_sem, wrap64_id, Int.tdiv_eq_ediv_of_nonneg, Int.tmod_eq_emod_of_nonneg])
          | ((first | refine fnQ_pure1 ?_ ?_ | refine fnQ_pure0 ?_ ?_); (next => repeat' first | exact rvs_n | refine rvs_t ?_ | (simp [go_sem]; done)); simp only [go_sem]; (first | exact VLe.refl _ | refine VLe_int ?_ | refine VLe_bool ?_ | refine VLe_str ?_ | skip))
          | (with_reducible refine And.intro ?_ ?_)
          | with_reducible intro _
        all_goals first
          | omega
          | (rename_i hx; revert hx; simp; done)
          | (simp; done)
          | skip
        refine key _ ?_
        (simp only [hpn, spar, List.foldl, List.replicate, go_sem, VLes_nil, VLes_cons, VLe_undef_iff, VLe_self]; try (repeat' first | (with_reducible refine And.intro ?_ ?_) | (refine VLe_int ?_; omega) | (refine VLe_bool ?_; rfl) | exact VLe.refl _))
    · have hQ0 : Q ≠ [] := by rintro rfl; simp at hLl; omega
      have e1 : V = intsV Q := by rw [hV]; unfold intsN; rw [if_neg hQ0]
      have hpg : prevI L i = Q.getD (i - 1) 0 := by rw [hL0]; exact prev_get h0 (by omega)
      have g0 : ((0 : Int) < (i : Int)) = True := eq_true (by omega)
      have g0' : ((i : Int) = 0) = False := eq_false (by omega)
      have hsub : ((i : Int) - 1).toNat = i - 1 := by omega
      have g1 : ((1 : Int) < (L.length : Int)) = True := eq_true (by omega)
      have g3 : (prevI L i = Q.getD (i - 1) 0) = True := eq_true hpg
      rw [e1] at key ⊢
      by_cases hla : i + 1 = L.length
      · have g4 : ((i : Int) = (L.length : Int) - 1) = True := eq_true (by omega)
        have h2 := (hft hQ0).2
        rw [show L.length - 1 = i by omega, ← hx] at h2
        have g2 : (((clus x).length : Int) < 2) = False := eq_false (by omega)
        simp (disch := omega) only [spar, List.foldl, List.replicate, hgi, g0, g1, g0', intsV, hsub, g3, g4, go_sem, wrap64_id, Int.tdiv_eq_ediv_of_nonneg, Int.tmod_eq_emod_of_nonneg]
        repeat' first
          | ((first | refine callA_pure (c16 _) ?_ ?_); (next => repeat' first | exact flags_n | refine flags_c (by first | rfl | assumption) ?_); simp (disch := omega) only [hgi, g0, g1, g0', g2, strs, intsV, hsub, g3, g4, go_sem, wrap64_id, Int.tdiv_eq_ediv_of_nonneg, Int.tmod_eq_emod_of_nonneg])
          | ((first | refine callG_pure (fun e => ⟨?_, c16 _⟩) ?_); (next => repeat' first | exact flags_n | refine flags_c (by first | rfl | assumption) ?_); simp (disch := omega) only [hgi, g0, g1, g0', g2, strs, intsV, hsub, g3, g4, go_sem, wrap64_id, Int.tdiv_eq_ediv_of_nonneg, Int.tmod_eq_emod_of_nonneg])
          | ((first | refine fnQ_pure1 ?_ ?_ | refine fnQ_pure0 ?_ ?_); (next => repeat' first | exact rvs_n | refine rvs_t ?_ | (simp [go_sem]; done)); simp only [go_sem]; (first | exact VLe.refl _ | refine VLe_int ?_ | refine VLe_bool ?_ | refine VLe_str ?_ | skip))
          | (with_reducible refine And.intro ?_ ?_)
          | with_reducible intro _
        all_goals first
          | omega
          | (rename_i hx; revert hx; simp; done)
          | (simp; done)
          | skip
        refine key _ ?_
        (simp only [hpn, intsV, spar, List.foldl, List.replicate, go_sem, VLes_nil, VLes_cons, VLe_undef_iff, VLe_self]; try (repeat' first | (with_reducible refine And.intro ?_ ?_) | (refine VLe_int ?_; omega) | (refine VLe_bool ?_; rfl) | exact VLe.refl _))
      · have g4 : ((i : Int) = (L.length : Int) - 1) = False := eq_false (by omega)
        simp (disch := omega) only [spar, List.foldl, List.replicate, hgi, g0, g1, g0', intsV, hsub, g3, g4, go_sem, wrap64_id, Int.tdiv_eq_ediv_of_nonneg, Int.tmod_eq_emod_of_nonneg]
        repeat' first
          | (refine callG_false ((.nl)) ?_; simp (disch := omega) only [hgi, g0, g1, g0', strs, intsV, hsub, g3, g4, go_sem, wrap64_id, Int.tdiv_eq_ediv_of_nonneg, Int.tmod_eq_emod_of_nonneg])
          | ((first | refine fnQ_pure1 ?_ ?_ | refine fnQ_pure0 ?_ ?_); (next => repeat' first | exact rvs_n | refine rvs_t ?_ | (simp [go_sem]; done)); simp only [go_sem]; (first | exact VLe.refl _ | refine VLe_int ?_ | refine VLe_bool ?_ | refine VLe_str ?_ | skip))
          | (with_reducible refine And.intro ?_ ?_)
          | with_reducible intro _
        all_goals first
          | omega
          | (rename_i hx; revert hx; simp; done)
          | (simp; done)
          | skip
        refine key _ ?_
        (simp only [hpn, intsV, spar, List.foldl, List.replicate, go_sem, VLes_nil, VLes_cons, VLe_undef_iff, VLe_self]; try (repeat' first | (with_reducible refine And.intro ?_ ?_) | (refine VLe_int ?_; omega) | (refine VLe_bool ?_; rfl) | exact VLe.refl _))
  · have e : i = L.length := by omega
    subst e
    simp (disch := omega) only [spar, List.foldl, List.replicate, go_sem, wrap64_id, Int.tdiv_eq_ediv_of_nonneg, Int.tmod_eq_emod_of_nonneg]
    repeat' first
      | ((first | refine callA_pure (u13 _) ?_ ?_); (next => repeat' first | exact flags_n | refine flags_c (by first | rfl | assumption) ?_); simp (disch := omega) only [go_sem, wrap64_id, Int.tdiv_eq_ediv_of_nonneg, Int.tmod_eq_emod_of_nonneg])
      | ((first | refine callG_pure (fun e => ⟨?_, u13 _⟩) ?_); (next => repeat' first | exact flags_n | refine flags_c (by first | rfl | assumption) ?_); simp (disch := omega) only [go_sem, wrap64_id, Int.tdiv_eq_ediv_of_nonneg, Int.tmod_eq_emod_of_nonneg])
      | ((first | refine fnQ_pure1 ?_ ?_ | refine fnQ_pure0 ?_ ?_); (next => repeat' first | exact rvs_n | refine rvs_t ?_ | (simp [go_sem]; done)); simp only [go_sem]; (first | exact VLe.refl _ | refine VLe_int ?_ | refine VLe_bool ?_ | refine VLe_str ?_ | skip))
      | (with_reducible refine And.intro ?_ ?_)
      | with_reducible intro _
    all_goals first
      | omega
      | (rename_i hx; revert hx; simp; done)
      | (simp; done)
      | skip
end HY
end

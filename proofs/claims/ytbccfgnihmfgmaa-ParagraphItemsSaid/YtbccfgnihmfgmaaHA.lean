import Derived.Test.YtbccfgnihmfgmaaH9
import Derived.Test.YtbccfgnihmfgmaaH6
set_option linter.all false
set_option linter.unusedSimpArgs false
set_option linter.unusedVariables false
set_option linter.unusedSectionVars false
section
/-! the text D23 -/
open Go Go.Proofs AF HY
namespace HY
set_option maxRecDepth 100000
theorem intsC_range (L : List Int) : (List.range L.length).flatMap (fun i => [AV.int .i64 (L.getD i 0)]) = intsC L := by
  rw [← List.map_eq_flatMap]
  unfold intsC
  apply List.ext_getElem
  · simp
  · intro i h1 h2
    simp at h1
    simp [List.getD_eq_getElem?_getD, h1]
theorem t90n (h : List AObj) : ACalls Try.prog 90 [.nl] h .nl h := by
  refine acalls_of fn90 (by simp) ?_
  simp only [List.length_cons, List.length_nil, Nat.reduceAdd, Nat.reduceSub, List.replicate, List.cons_append, List.nil_append, List.append_nil]
  simp (disch := omega) only [c90, go_sem, wrap64_id, Int.tdiv_eq_ediv_of_nonneg, Int.tmod_eq_emod_of_nonneg]
  repeat' first
    | ((first | refine fnQ_pure1 ?_ ?_ | refine fnQ_pure0 ?_ ?_); (next => repeat' first | exact rvs_n | refine rvs_t ?_ | (simp [go_sem]; done)); simp only [go_sem]; (first | exact VLe.refl _ | refine VLe_int ?_ | refine VLe_bool ?_ | refine VLe_str ?_ | skip))
    | (with_reducible refine And.intro ?_ ?_)
    | with_reducible intro _
  all_goals first
    | omega
    | (rename_i hx; revert hx; simp; done)
    | (simp; done)
    | skip
theorem t90 (L : List Int) (h : List AObj) (k : Nat) (hk : site h k = true) (h0 : L.length ≠ 0) (hl : L.length ≤ 1000000) :
    ACalls Try.prog 90 [intsV L] h (.osl k (verOf (getO k h) + 1) 1 0 L.length) (setO k h (.mem (verOf (getO k h) + 1) 3 (intsC L))) := by
  refine acallsM fn90 k (by simp) ?_
  simp only [List.length_cons, List.length_nil, Nat.reduceAdd, Nat.reduceSub, List.replicate, List.cons_append, List.nil_append, List.append_nil]
  have el := intsC_len L
  simp (disch := omega) only [c90, intsV, h0, madeA, intsC_range, el, go_sem, wrap64_id, Int.tdiv_eq_ediv_of_nonneg, Int.tmod_eq_emod_of_nonneg]
  exact ⟨by repeat' (first | rfl | omega | (with_reducible refine And.intro ?_ ?_)), h.length + 1, 2, 1, 0, L.length, 3, intsC L, [AObj.emp 1, AObj.mem 2 3 (intsC L), AObj.emp 0], ⟨trivial, trivial⟩, rfl, rfl, by omega, by simp only [go_sem], by
    intro c hc
    unfold intsC at hc
    rw [List.mem_map] at hc
    obtain ⟨x, _, rfl⟩ := hc
    rfl, hk, rfl, rfl⟩
def prevI (L : List Int) (j : Nat) : Int := if j = 0 then 0 else L.getD (j - 1) 0
def piece (w : List UInt8) (L : List Int) (j : Nat) : List UInt8 := (w.drop (prevI L j).toNat).take ((L.getD j 0).toNat - (prevI L j).toNat)
/-- The first j pieces of a word that is cut at places. -/
def pieces (w : List UInt8) (L : List Int) (j : Nat) : List (List UInt8) := (List.range j).map (piece w L)
def okCuts (w : List UInt8) (L : List Int) : Prop := ∀ j, j < L.length → 0 ≤ prevI L j ∧ prevI L j ≤ L.getD j 0 ∧ L.getD j 0 ≤ w.length
theorem prevI_zero (L : List Int) : prevI L 0 = 0 := rfl
theorem prevI_succ (L : List Int) (j : Nat) : prevI L (j + 1) = L.getD j 0 := by simp [prevI]
theorem pieces_zero (w : List UInt8) (L : List Int) : pieces w L 0 = [] := rfl
theorem pieces_succ (w : List UInt8) (L : List Int) (j : Nat) : pieces w L (j + 1) = pieces w L j ++ [piece w L j] := by unfold pieces; rw [List.range_succ, List.map_append]; rfl
theorem pieces_len (w : List UInt8) (L : List Int) (j : Nat) : (pieces w L j).length = j := by simp [pieces]
theorem strC_snoc2 (L : List (List UInt8)) (x : List UInt8) : strC L ++ [.str x] = strC (L ++ [x]) := by simp [strC]
theorem slOf_strs {v n : Nat} {L : List (List UInt8)} {fz : Nat → Bool} {h : List AObj} : VLe (slOf (some (ownO v 9 (strC L))) v 1 0 L.length (rei fz h (n + 1))) (strs L) := by
  unfold ownO
  split
  · rename_i e
    have : L = [] := by cases L with
      | nil => rfl
      | cons a l => simp [strC] at e
    subst this
    rw [slOf_emp, if_pos rfl]
    exact VLe_nl
  · rw [slOf_mem, if_pos ⟨rfl, by rw [strC_len]; omega⟩]
    simp only [Nat.zero_add, Nat.mul_one]
    exact strs_of rfl
/-- The points as places to cut at. -/
def cutsOf (ps : List Pat) (w : List UInt8) : List Int := pointsR ps w ++ [(w.length : Int)]
def partsP (ps : List Pat) (w : List UInt8) : List (List UInt8) := if isWord w = true then pieces w (cutsOf ps w) (cutsOf ps w).length else [w]
theorem offN_mono (own : List (List UInt8)) {i j : Nat} (h : i ≤ j) : offN own i ≤ offN own j := by
  unfold offN
  have e : own.take i = (own.take j).take i := by rw [List.take_take, Nat.min_eq_left h]
  rw [e]
  exact flatten_take_le _ _
theorem ptAt_sorted (own : List (List UInt8)) (lv : List Int) (m : Nat) : List.Pairwise (· ≤ ·) (ptAt own lv m) := by
  unfold ptAt ptIdx
  rw [List.pairwise_map]
  refine List.Pairwise.imp ?_ ((List.pairwise_lt_range (n := m)).filter _)
  intro a b hab
  have := offN_mono own (show a + 1 ≤ b + 1 by omega)
  omega
theorem ptAt_bound (w : List UInt8) (lv : List Int) (m : Nat) : ∀ x ∈ ptAt (clus w) lv m, 0 ≤ x ∧ x ≤ w.length := by
  intro x hx
  unfold ptAt at hx
  rw [List.mem_map] at hx
  obtain ⟨i, _, rfl⟩ := hx
  have := offN_le (clus w) (i + 1)
  rw [clus_join] at this
  omega
theorem okCuts_of {w : List UInt8} {L : List Int} (hs : List.Pairwise (· ≤ ·) L) (hb : ∀ x ∈ L, 0 ≤ x ∧ x ≤ w.length) : okCuts w L := by
  intro j hj
  have g : ∀ i (hi : i < L.length), L.getD i 0 = L[i] := fun i hi => by simp [List.getD_eq_getElem?_getD, hi]
  have h1 := hb _ (List.getElem_mem hj)
  rw [g j hj]
  unfold prevI
  split
  · omega
  · have hj' : j - 1 < L.length := by omega
    have h2 := hb _ (List.getElem_mem hj')
    have h3 := (List.pairwise_iff_getElem.1 hs) (j - 1) j hj' hj (by omega)
    rw [g (j - 1) hj']
    omega
theorem okCuts_points (ps : List Pat) (w : List UInt8) : okCuts w (cutsOf ps w) := by
  unfold cutsOf pointsR
  have hb : ∀ x ∈ (if startE ps w = 0 then ptAt (clus w) (levelsOf ps w) ((clus w).length - 1) else []), 0 ≤ x ∧ x ≤ (w.length : Int) := by
    split
    · exact ptAt_bound w _ _
    · simp
  have hs : List.Pairwise (· ≤ ·) (if startE ps w = 0 then ptAt (clus w) (levelsOf ps w) ((clus w).length - 1) else []) := by
    split
    · exact ptAt_sorted _ _ _
    · exact .nil
  refine okCuts_of ?_ ?_
  · rw [List.pairwise_append]
    refine ⟨hs, by simp, fun a ha b hb' => ?_⟩
    simp at hb'
    subst hb'
    exact (hb a ha).2
  · intro x hx
    rcases List.mem_append.1 hx with h | h
    · exact hb x h
    · simp at h; subst h; omega
theorem points_len (ps : List Pat) (w : List UInt8) : (pointsR ps w).length ≤ w.length := by
  unfold pointsR
  split
  · rw [ptAt_len]
    have := ptIdx_le (clus w).length (levelsOf ps w) ((clus w).length - 1)
    have := clus_len w
    omega
  · simp
set_option maxHeartbeats 4000000 in
theorem t66 (ps : List Pat) (w : List UInt8) (h : List AObj) (hok : okPats ps) (hw : w.length ≤ 100000) (hc : checkPats ps = 0) : ACalls Try.prog 66 [patsV ps, .str w] h (.tup [strs (partsP ps w), .int .i64 0]) h := by
  have c88 := fun h => t88 w h (by omega)
  have c89 := fun h => t89 ps w h hok (by omega)
  have hcut := okCuts_points ps w
  have hpl := points_len ps w
  unfold partsP
  by_cases g : isWord w = true
  case neg =>
    rw [if_neg g]
    have g' : isWord w = false := by simpa using g
    rw [g'] at c88
    refine acalls_of fn66 (by simp) ?_
    simp only [List.length_cons, List.length_nil, Nat.reduceAdd, Nat.reduceSub, List.replicate, List.cons_append, List.nil_append, List.append_nil]
    simp (disch := omega) only [c66, madeA1, go_sem, wrap64_id, Int.tdiv_eq_ediv_of_nonneg, Int.tmod_eq_emod_of_nonneg]
    repeat' first
      | ((first | refine callA_pure (c88 _) ?_ ?_); (next => repeat' first | exact flags_n | refine flags_c (by first | rfl | assumption) ?_); simp (disch := omega) only [madeA1, go_sem, wrap64_id, Int.tdiv_eq_ediv_of_nonneg, Int.tmod_eq_emod_of_nonneg])
      | ((first | refine callG_pure (fun e => ⟨?_, c88 _⟩) ?_); (next => repeat' first | exact flags_n | refine flags_c (by first | rfl | assumption) ?_); simp (disch := omega) only [madeA1, go_sem, wrap64_id, Int.tdiv_eq_ediv_of_nonneg, Int.tmod_eq_emod_of_nonneg])
      | ((first | refine fnQ_pure1 ?_ ?_ | refine fnQ_pure0 ?_ ?_); (next => repeat' first | exact rvs_n | refine rvs_t ?_ | (simp [go_sem]; done)); simp only [go_sem]; (first | exact VLe.refl _ | refine VLe_int ?_ | refine VLe_bool ?_ | refine VLe_str ?_ | skip))
      | (with_reducible refine And.intro ?_ ?_)
      | with_reducible intro _
    all_goals first
      | omega
      | (rename_i hx; revert hx; simp; done)
      | (simp; done)
      | skip
    exact VLe_tup ⟨VLe_sl rfl (fun i hi => by have : i = 0 := by have : i < 1 := hi; omega
                                              subst this; rfl), VLe.refl _, trivial⟩
  rw [if_pos g]
  rw [g] at c88
  have hs : startE ps w = 0 := by unfold startE; rw [if_pos hc, if_pos g]
  rw [hs] at c89
  unfold cutsOf at hcut ⊢
  obtain ⟨L, hL⟩ : ∃ L, L = pointsR ps w := ⟨_, rfl⟩
  rw [← hL] at c89 hcut hpl ⊢
  by_cases h0 : L = []
  · obtain ⟨L', hLL⟩ : ∃ L', L' = L ++ [(w.length : Int)] := ⟨_, rfl⟩
    rw [← hLL] at hcut ⊢
    rw [h0] at hLL
    have hcs : [AV.int .i64 (w.length : Int)] = intsC L' := by rw [hLL]; rfl
    have hln : L'.length = 1 := by rw [hLL]; rfl
    rw [h0, intsN_nil] at c89
    refine acalls_of fn66 (by simp) ?_
    simp only [List.length_cons, List.length_nil, Nat.reduceAdd, Nat.reduceSub, List.replicate, List.cons_append, List.nil_append, List.append_nil]
    simp (disch := omega) only [c66, madeA1, go_sem, wrap64_id, Int.tdiv_eq_ediv_of_nonneg, Int.tmod_eq_emod_of_nonneg]
    repeat' first
      | ((first | refine callA_pure (c88 _) ?_ ?_ | refine callA_pure (c89 _) ?_ ?_ | refine callA_pure (t90n _) ?_ ?_); (next => repeat' first | exact flags_n | refine flags_c (by first | rfl | assumption) ?_); simp (disch := omega) only [madeA1, go_sem, wrap64_id, Int.tdiv_eq_ediv_of_nonneg, Int.tmod_eq_emod_of_nonneg])
      | ((first | refine callG_pure (fun e => ⟨?_, c88 _⟩) ?_ | refine callG_pure (fun e => ⟨?_, c89 _⟩) ?_ | refine callG_pure (fun e => ⟨?_, t90n _⟩) ?_); (next => repeat' first | exact flags_n | refine flags_c (by first | rfl | assumption) ?_); simp (disch := omega) only [madeA1, go_sem, wrap64_id, Int.tdiv_eq_ediv_of_nonneg, Int.tmod_eq_emod_of_nonneg])
      | ((first | refine fnQ_pure1 ?_ ?_ | refine fnQ_pure0 ?_ ?_); (next => repeat' first | exact rvs_n | refine rvs_t ?_ | (simp [go_sem]; done)); simp only [go_sem]; (first | exact VLe.refl _ | refine VLe_int ?_ | refine VLe_bool ?_ | refine VLe_str ?_ | skip))
      | (with_reducible refine And.intro ?_ ?_)
      | with_reducible intro _
    all_goals first
      | omega
      | (rename_i hx; revert hx; simp; done)
      | (simp; done)
      | skip
    rw [hcs]
    have hcl := intsC_len L'
    refine loop_of (T := fun j : Nat × Nat × AObj => spar 47 [(1, .str w), (8, .osl (h.length + 2) j.2.1 1 0 j.1), (9, .int .i64 (prevI L' j.1)), (31, .osl (h.length + 4) 1 1 0 1), (32, .int .i64 L'.length), (33, .int .i64 j.1)])
      (H := fun j => h ++ [.emp 1, .emp 0, ownO j.2.1 9 (strC (pieces w L' j.1)), .mem 1 3 (intsC L'), .mem 1 3 (intsC L'), j.2.2, .emp 0, .emp 0])
      (inv := fun j => j.1 ≤ L'.length ∧ site [j.2.2] 0 = true) (m := fun j => L'.length - j.1) (0, 1, .emp 0) ⟨by simp, rfl⟩ (Wk.temps ?_) ?_
    · simp only [prevI_zero]
      (simp only [spar, List.foldl, List.replicate, go_sem, VLes_nil, VLes_cons, VLe_undef_iff, VLe_self]; try (repeat' first | (with_reducible refine And.intro ?_ ?_) | (refine VLe_int ?_; omega) | (refine VLe_bool ?_; rfl) | exact VLe.refl _))
    rintro ⟨j, v, O⟩ ⟨j1, j2⟩ K hK
    simp only at j1 j2 hK
    have j2' : ∀ m, site (O :: m) 0 = true := fun _ => j2
    have el := strC_len (pieces w L' j)
    rw [pieces_len] at el
    have f1 : List.take j (strC (pieces w L' j)) = strC (pieces w L' j) := List.take_of_length_le (by omega)
    by_cases hj : j < L'.length
    · obtain ⟨q1, q2, q3⟩ := hcut j hj
      have hg := intsC_get hj
      have hp := pieces_succ w L' j
      have hpr := prevI_succ L' j
      simp (disch := omega) only [spar, List.foldl, List.replicate, madeA1, el, f1, hg, hcl, j2', go_sem, wrap64_id, Int.tdiv_eq_ediv_of_nonneg, Int.tmod_eq_emod_of_nonneg]
      repeat' first
        | ((first | refine fnQ_pure1 ?_ ?_ | refine fnQ_pure0 ?_ ?_); (next => repeat' first | exact rvs_n | refine rvs_t ?_ | (simp [go_sem]; done)); simp only [go_sem]; (first | exact VLe.refl _ | refine VLe_int ?_ | refine VLe_bool ?_ | refine VLe_str ?_ | skip))
        | (with_reducible refine And.intro ?_ ?_)
        | with_reducible intro _
      all_goals first
        | omega
        | (rename_i hx; revert hx; simp; done)
        | (simp; done)
        | skip
      rw [strC_snoc2, show List.take ((L'.getD j 0).toNat - (prevI L' j).toNat) (List.drop (prevI L' j).toNat w) = piece w L' j from rfl, ← hp, ← hpr]
      refine hK _ _ (j + 1, v + 1, .mem (verOf (some O) + 1) 9 [.str (piece w L' j)]) ⟨by simp only; omega, rfl⟩ (by simp only; omega) (Wk.temps ?_)
      (simp only [spar, List.foldl, List.replicate, go_sem, VLes_nil, VLes_cons, VLe_undef_iff, VLe_self]; try (repeat' first | (with_reducible refine And.intro ?_ ?_) | (refine VLe_int ?_; omega) | (refine VLe_bool ?_; rfl) | exact VLe.refl _))
    · have e : j = L'.length := by omega
      subst e
      have hsl := @slOf_strs v 5 (pieces w L' L'.length) (fun k => decide (h.length ≤ k)) (h ++ [.emp 1, .emp 0, ownO v 9 (strC (pieces w L' L'.length)), .mem 1 3 (intsC L'), .mem 1 3 (intsC L'), O, .emp 0, .emp 0])
      rw [pieces_len] at hsl
      simp (disch := omega) only [spar, List.foldl, List.replicate, madeA1, hcl, go_sem, wrap64_id, Int.tdiv_eq_ediv_of_nonneg, Int.tmod_eq_emod_of_nonneg]
      repeat' first
        | ((first | refine fnQ_pure1 ?_ ?_ | refine fnQ_pure0 ?_ ?_); (next => repeat' first | exact rvs_n | refine rvs_t ?_ | (simp [go_sem]; done)); simp only [go_sem]; (first | exact VLe.refl _ | refine VLe_int ?_ | refine VLe_bool ?_ | refine VLe_str ?_ | skip))
        | (with_reducible refine And.intro ?_ ?_)
        | with_reducible intro _
      all_goals first
        | omega
        | (rename_i hx; revert hx; simp; done)
        | (simp; done)
        | skip
      exact VLe_tup ⟨hsl, VLe.refl _, trivial⟩
  · have c89' : ∀ h : List AObj, ACalls Try.prog 89 [patsV ps, .str w] h (.tup [intsV L, .int .i64 0]) h := fun h => by
      have := c89 h
      unfold intsN at this
      rwa [if_neg h0] at this
    have hl0 : L.length ≠ 0 := fun e => h0 (List.eq_nil_of_length_eq_zero e)
    have el0 := intsC_len L
    have et0 : List.take L.length (intsC L) = intsC L := List.take_of_length_le (by omega)
    obtain ⟨L', hLL⟩ : ∃ L', L' = L ++ [(w.length : Int)] := ⟨_, rfl⟩
    have hcs : intsC L ++ [AV.int .i64 (w.length : Int)] = intsC L' := by rw [hLL, intsC_snoc]
    have hln : L.length + 1 = L'.length := by rw [hLL]; simp
    rw [← hLL] at hcut ⊢
    refine acalls_of fn66 (by simp) ?_
    simp only [List.length_cons, List.length_nil, Nat.reduceAdd, Nat.reduceSub, List.replicate, List.cons_append, List.nil_append, List.append_nil]
    simp (disch := omega) only [c66, madeA1, go_sem, wrap64_id, Int.tdiv_eq_ediv_of_nonneg, Int.tmod_eq_emod_of_nonneg]
    repeat' first
      | ((first | refine callA_pure (c88 _) ?_ ?_ | refine callA_pure (c89' _) ?_ ?_); (next => repeat' first | exact flags_n | refine flags_c (by first | rfl | assumption) ?_); simp (disch := omega) only [madeA1, go_sem, wrap64_id, Int.tdiv_eq_ediv_of_nonneg, Int.tmod_eq_emod_of_nonneg])
      | ((first | refine callG_pure (fun e => ⟨?_, c88 _⟩) ?_ | refine callG_pure (fun e => ⟨?_, c89' _⟩) ?_); (next => repeat' first | exact flags_n | refine flags_c (by first | rfl | assumption) ?_); simp (disch := omega) only [madeA1, go_sem, wrap64_id, Int.tdiv_eq_ediv_of_nonneg, Int.tmod_eq_emod_of_nonneg])
      | ((first | refine fnQ_pure1 ?_ ?_ | refine fnQ_pure0 ?_ ?_); (next => repeat' first | exact rvs_n | refine rvs_t ?_ | (simp [go_sem]; done)); simp only [go_sem]; (first | exact VLe.refl _ | refine VLe_int ?_ | refine VLe_bool ?_ | refine VLe_str ?_ | skip))
      | (with_reducible refine And.intro ?_ ?_)
      | with_reducible intro _
    all_goals first
      | omega
      | (rename_i hx; revert hx; simp; done)
      | (simp; done)
      | skip
    refine callA_eff (t90 L _ (h.length + 7) (by simp only [go_sem]) hl0 (by omega)) ⟨rfl, trivial⟩ ?_
    simp (disch := omega) only [madeA1, el0, et0, hcs, hln, go_sem, wrap64_id, Int.tdiv_eq_ediv_of_nonneg, Int.tmod_eq_emod_of_nonneg]
    repeat' first
      | ((first | refine fnQ_pure1 ?_ ?_ | refine fnQ_pure0 ?_ ?_); (next => repeat' first | exact rvs_n | refine rvs_t ?_ | (simp [go_sem]; done)); simp only [go_sem]; (first | exact VLe.refl _ | refine VLe_int ?_ | refine VLe_bool ?_ | refine VLe_str ?_ | skip))
      | (with_reducible refine And.intro ?_ ?_)
      | with_reducible intro _
    all_goals first
      | omega
      | (rename_i hx; revert hx; simp; done)
      | (simp; done)
      | skip
    have hcl := intsC_len L'
    refine loop_of (T := fun j : Nat × Nat × AObj => spar 47 [(1, .str w), (8, .osl (h.length + 2) j.2.1 1 0 j.1), (9, .int .i64 (prevI L' j.1)), (31, .osl (h.length + 7) 2 1 0 L'.length), (32, .int .i64 L'.length), (33, .int .i64 j.1)])
      (H := fun j => h ++ [.emp 1, .emp 0, ownO j.2.1 9 (strC (pieces w L' j.1)), .mem 1 3 [.int .i64 w.length], .emp 0, j.2.2, .emp 0, .mem 2 3 (intsC L')])
      (inv := fun j => j.1 ≤ L'.length ∧ site [j.2.2] 0 = true) (m := fun j => L'.length - j.1) (0, 1, .emp 0) ⟨by simp, rfl⟩ (Wk.temps ?_) ?_
    · simp only [prevI_zero]
      (simp only [spar, List.foldl, List.replicate, go_sem, VLes_nil, VLes_cons, VLe_undef_iff, VLe_self]; try (repeat' first | (with_reducible refine And.intro ?_ ?_) | (refine VLe_int ?_; omega) | (refine VLe_bool ?_; rfl) | exact VLe.refl _))
    rintro ⟨j, v, O⟩ ⟨j1, j2⟩ K hK
    simp only at j1 j2 hK
    have j2' : ∀ m, site (O :: m) 0 = true := fun _ => j2
    have el := strC_len (pieces w L' j)
    rw [pieces_len] at el
    have f1 : List.take j (strC (pieces w L' j)) = strC (pieces w L' j) := List.take_of_length_le (by omega)
    by_cases hj : j < L'.length
    · obtain ⟨q1, q2, q3⟩ := hcut j hj
      have hg := intsC_get hj
      have hp := pieces_succ w L' j
      have hpr := prevI_succ L' j
      simp (disch := omega) only [spar, List.foldl, List.replicate, madeA1, el, f1, hg, hcl, j2', go_sem, wrap64_id, Int.tdiv_eq_ediv_of_nonneg, Int.tmod_eq_emod_of_nonneg]
      repeat' first
        | ((first | refine fnQ_pure1 ?_ ?_ | refine fnQ_pure0 ?_ ?_); (next => repeat' first | exact rvs_n | refine rvs_t ?_ | (simp [go_sem]; done)); simp only [go_sem]; (first | exact VLe.refl _ | refine VLe_int ?_ | refine VLe_bool ?_ | refine VLe_str ?_ | skip))
        | (with_reducible refine And.intro ?_ ?_)
        | with_reducible intro _
      all_goals first
        | omega
        | (rename_i hx; revert hx; simp; done)
        | (simp; done)
        | skip
      rw [strC_snoc2, show List.take ((L'.getD j 0).toNat - (prevI L' j).toNat) (List.drop (prevI L' j).toNat w) = piece w L' j from rfl, ← hp, ← hpr]
      refine hK _ _ (j + 1, v + 1, .mem (verOf (some O) + 1) 9 [.str (piece w L' j)]) ⟨by simp only; omega, rfl⟩ (by simp only; omega) (Wk.temps ?_)
      (simp only [spar, List.foldl, List.replicate, go_sem, VLes_nil, VLes_cons, VLe_undef_iff, VLe_self]; try (repeat' first | (with_reducible refine And.intro ?_ ?_) | (refine VLe_int ?_; omega) | (refine VLe_bool ?_; rfl) | exact VLe.refl _))
    · have e : j = L'.length := by omega
      subst e
      have hsl := @slOf_strs v 5 (pieces w L' L'.length) (fun k => decide (h.length ≤ k)) (h ++ [.emp 1, .emp 0, ownO v 9 (strC (pieces w L' L'.length)), .mem 1 3 [.int .i64 w.length], .emp 0, O, .emp 0, .mem 2 3 (intsC L')])
      rw [pieces_len] at hsl
      simp (disch := omega) only [spar, List.foldl, List.replicate, madeA1, hcl, go_sem, wrap64_id, Int.tdiv_eq_ediv_of_nonneg, Int.tmod_eq_emod_of_nonneg]
      repeat' first
        | ((first | refine fnQ_pure1 ?_ ?_ | refine fnQ_pure0 ?_ ?_); (next => repeat' first | exact rvs_n | refine rvs_t ?_ | (simp [go_sem]; done)); simp only [go_sem]; (first | exact VLe.refl _ | refine VLe_int ?_ | refine VLe_bool ?_ | refine VLe_str ?_ | skip))
        | (with_reducible refine And.intro ?_ ?_)
        | with_reducible intro _
      all_goals first
        | omega
        | (rename_i hx; revert hx; simp; done)
        | (simp; done)
        | skip
      exact VLe_tup ⟨hsl, VLe.refl _, trivial⟩
end HY
end

section
/-! the text D24 -/
open Go Go.Proofs AF HY
namespace HY
set_option maxRecDepth 100000
theorem strs1 (w : List UInt8) {f : Nat → List AV} (hf : f 0 = [.str w]) : VLe (.sl 1 f) (strs [w]) := VLe_sl rfl (fun i hi => by
  have : i = 0 := by have : i < 1 := hi; omega
  subst this
  exact hf)
set_option maxHeartbeats 4000000 in
theorem t70 (ps : List Pat) (w : List UInt8) (h : List AObj) (hok : okPats ps) (hw : w.length ≤ 100000) (hc : checkPats ps = 0) : ACalls Try.prog 70 [patsV ps, .str w] h (strs (partsP ps w)) h := by
  have c93 := fun h => t93 w h (by omega)
  have c94 := fun h => t94 ps w h hok (by omega)
  have hcut := okCuts_points ps w
  have hpl := points_len ps w
  unfold partsP
  by_cases g : isWord w = true
  case neg =>
    rw [if_neg g]
    have g' : isWord w = false := by simpa using g
    rw [g'] at c93
    refine acalls_of fn70 (by simp) ?_
    simp only [List.length_cons, List.length_nil, Nat.reduceAdd, Nat.reduceSub, List.replicate, List.cons_append, List.nil_append, List.append_nil]
    simp (disch := omega) only [c70, madeA1, go_sem, wrap64_id, Int.tdiv_eq_ediv_of_nonneg, Int.tmod_eq_emod_of_nonneg]
    repeat' first
      | ((first | refine callA_pure (c93 _) ?_ ?_); (next => repeat' first | exact flags_n | refine flags_c (by first | rfl | assumption) ?_); simp (disch := omega) only [madeA1, go_sem, wrap64_id, Int.tdiv_eq_ediv_of_nonneg, Int.tmod_eq_emod_of_nonneg])
      | ((first | refine callG_pure (fun e => ⟨?_, c93 _⟩) ?_); (next => repeat' first | exact flags_n | refine flags_c (by first | rfl | assumption) ?_); simp (disch := omega) only [madeA1, go_sem, wrap64_id, Int.tdiv_eq_ediv_of_nonneg, Int.tmod_eq_emod_of_nonneg])
      | ((first | refine fnQ_pure1 ?_ ?_ | refine fnQ_pure0 ?_ ?_); (next => repeat' first | exact rvs_n | refine rvs_t ?_ | (simp [go_sem]; done)); simp only [go_sem]; (first | exact VLe.refl _ | refine VLe_int ?_ | refine VLe_bool ?_ | refine VLe_str ?_ | skip))
      | (with_reducible refine And.intro ?_ ?_)
      | with_reducible intro _
    all_goals first
      | omega
      | (rename_i hx; revert hx; simp; done)
      | (simp; done)
      | skip
    exact strs1 w rfl
  rw [if_pos g]
  rw [g] at c93
  have hs : startE ps w = 0 := by unfold startE; rw [if_pos hc, if_pos g]
  rw [hs] at c94
  unfold cutsOf at hcut ⊢
  obtain ⟨L, hL⟩ : ∃ L, L = pointsR ps w := ⟨_, rfl⟩
  rw [← hL] at c94 hcut hpl ⊢
  obtain ⟨L', hLL⟩ : ∃ L', L' = L ++ [(w.length : Int)] := ⟨_, rfl⟩
  have hln : L'.length = L.length + 1 := by rw [hLL]; simp
  have hget : ∀ j, j < L.length → L.getD j 0 = L'.getD j 0 := fun j hj => by rw [hLL, List.getD_eq_getElem?_getD, List.getD_eq_getElem?_getD, List.getElem?_append_left hj]
  have hlast : L'.getD L.length 0 = (w.length : Int) := by rw [hLL]; simp [List.getD_eq_getElem?_getD]
  rw [← hLL] at hcut ⊢
  rw [hln]
  refine acalls_of fn70 (by simp) ?_
  simp only [List.length_cons, List.length_nil, Nat.reduceAdd, Nat.reduceSub, List.replicate, List.cons_append, List.nil_append, List.append_nil]
  simp (disch := omega) only [c70, madeA1, madeA, go_sem, wrap64_id, Int.tdiv_eq_ediv_of_nonneg, Int.tmod_eq_emod_of_nonneg]
  repeat' first
    | ((first | refine callA_pure (c93 _) ?_ ?_ | refine callA_pure (c94 _) ?_ ?_); (next => repeat' first | exact flags_n | refine flags_c (by first | rfl | assumption) ?_); simp (disch := omega) only [madeA1, madeA, go_sem, wrap64_id, Int.tdiv_eq_ediv_of_nonneg, Int.tmod_eq_emod_of_nonneg])
    | ((first | refine callG_pure (fun e => ⟨?_, c93 _⟩) ?_ | refine callG_pure (fun e => ⟨?_, c94 _⟩) ?_); (next => repeat' first | exact flags_n | refine flags_c (by first | rfl | assumption) ?_); simp (disch := omega) only [madeA1, madeA, go_sem, wrap64_id, Int.tdiv_eq_ediv_of_nonneg, Int.tmod_eq_emod_of_nonneg])
    | ((first | refine fnQ_pure1 ?_ ?_ | refine fnQ_pure0 ?_ ?_); (next => repeat' first | exact rvs_n | refine rvs_t ?_ | (simp [go_sem]; done)); simp only [go_sem]; (first | exact VLe.refl _ | refine VLe_int ?_ | refine VLe_bool ?_ | refine VLe_str ?_ | skip))
    | (with_reducible refine And.intro ?_ ?_)
    | with_reducible intro _
  all_goals first
    | omega
    | (rename_i hx; revert hx; simp; done)
    | (simp; done)
    | skip
  refine loop_of (T := fun j : Nat × Nat × AObj => spar 52 [(1, .str w), (5, intsV L), (7, .osl (h.length + 3) j.2.1 1 0 j.1), (8, .int .i64 (prevI L' j.1)), (9, .int .i64 j.1)])
    (H := fun j => h ++ [.emp 1, .emp 0, .emp 0, .mem j.2.1 9 (strC (pieces w L' j.1)), j.2.2, .emp 0, .emp 0, .emp 0])
    (inv := fun j => j.1 ≤ L.length ∧ site [j.2.2] 0 = true) (m := fun j => L.length - j.1) (0, 1, .emp 0) ⟨by simp, rfl⟩ (Wk.temps ?_) ?_
  · simp only [prevI_zero]
    (simp only [spar, List.foldl, List.replicate, go_sem, VLes_nil, VLes_cons, VLe_undef_iff, VLe_self]; try (repeat' first | (with_reducible refine And.intro ?_ ?_) | (refine VLe_int ?_; omega) | (refine VLe_bool ?_; rfl) | exact VLe.refl _))
  rintro ⟨j, v, O⟩ ⟨j1, j2⟩ K hK
  simp only at j1 j2 hK
  have j2' : ∀ m, site (O :: m) 0 = true := fun _ => j2
  have el := strC_len (pieces w L' j)
  rw [pieces_len] at el
  have f1 : List.take j (strC (pieces w L' j)) = strC (pieces w L' j) := List.take_of_length_le (by omega)
  have hp := pieces_succ w L' j
  by_cases hj : j < L.length
  · obtain ⟨q1, q2, q3⟩ := hcut j (by omega)
    have hg := hget j hj
    have hpr := prevI_succ L' j
    simp (disch := omega) only [spar, List.foldl, List.replicate, madeA1, intsV, el, f1, hg, j2', go_sem, wrap64_id, Int.tdiv_eq_ediv_of_nonneg, Int.tmod_eq_emod_of_nonneg]
    repeat' first
      | ((first | refine fnQ_pure1 ?_ ?_ | refine fnQ_pure0 ?_ ?_); (next => repeat' first | exact rvs_n | refine rvs_t ?_ | (simp [go_sem]; done)); simp only [go_sem]; (first | exact VLe.refl _ | refine VLe_int ?_ | refine VLe_bool ?_ | refine VLe_str ?_ | skip))
      | (with_reducible refine And.intro ?_ ?_)
      | with_reducible intro _
    all_goals first
      | omega
      | (rename_i hx; revert hx; simp; done)
      | (simp; done)
      | skip
    rw [strC_snoc2, show List.take ((L'.getD j 0).toNat - (prevI L' j).toNat) (List.drop (prevI L' j).toNat w) = piece w L' j from rfl, ← hp, ← hpr]
    refine hK _ _ (j + 1, v + 1, .mem (verOf (some O) + 1) 9 [.str (piece w L' j)]) ⟨by simp only; omega, rfl⟩ (by simp only; omega) (Wk.temps ?_)
    (simp only [intsV, spar, List.foldl, List.replicate, go_sem, VLes_nil, VLes_cons, VLe_undef_iff, VLe_self]; try (repeat' first | (with_reducible refine And.intro ?_ ?_) | (refine VLe_int ?_; omega) | (refine VLe_bool ?_; rfl) | exact VLe.refl _))
  · have e : j = L.length := by omega
    subst e
    obtain ⟨q1, q2, q3⟩ := hcut L.length (by omega)
    have hpc : List.take (w.length - (prevI L' L.length).toNat) (List.drop (prevI L' L.length).toNat w) = piece w L' L.length := by
      unfold piece; rw [hlast]; rfl
    rw [hlast] at q2
    simp (disch := omega) only [spar, List.foldl, List.replicate, madeA1, intsV, el, f1, j2', go_sem, wrap64_id, Int.tdiv_eq_ediv_of_nonneg, Int.tmod_eq_emod_of_nonneg]
    repeat' first
      | ((first | refine fnQ_pure1 ?_ ?_ | refine fnQ_pure0 ?_ ?_); (next => repeat' first | exact rvs_n | refine rvs_t ?_ | (simp [go_sem]; done)); simp only [go_sem]; (first | exact VLe.refl _ | refine VLe_int ?_ | refine VLe_bool ?_ | refine VLe_str ?_ | skip))
      | (with_reducible refine And.intro ?_ ?_)
      | with_reducible intro _
    all_goals first
      | omega
      | (rename_i hx; revert hx; simp; done)
      | (simp; done)
      | skip
    rw [hpc, strC_snoc2, ← hp, if_pos (by rw [strC_len, pieces_len]; omega)]
    exact strs_of (pieces_len _ _ _)
end HY
end

section
/-! the text D25 -/
open Go Go.Proofs AF HY P48
namespace HY
set_option maxRecDepth 100000
structure Wd where
  text : List UInt8
  col : Int
  unit : Int
  dec : Int
  joined : Bool
  verse : Bool
  name : List UInt8
  deriving DecidableEq, Inhabited
def wordC (w : Wd) : List AV := [.str w.text, .int .i64 w.col, .int .i64 w.unit, .int .i64 w.dec, .bool w.joined, .bool w.verse, .str w.name]
def wordsV (ws : List Wd) : AV := .sl ws.length fun i => wordC (ws.getD i default)
theorem drop_wd {ws : List Wd} {i : Nat} (h : i < ws.length) : ws.drop i = ws.getD i default :: ws.drop (i + 1) := by
  rw [List.drop_eq_getElem_cons h]; simp [List.getD_eq_getElem?_getD, h]
def findL {α : Type} (p : α → Bool) : List α → Nat → Int
  | [], _ => -1
  | c :: r, i => if p c = true then i else findL p r (i + 1)
theorem findL_iff {α : Type} (p : α → Bool) : ∀ (s : List α) (i : Nat), (0 ≤ findL p s i ↔ s.any p = true) ∧ -1 ≤ findL p s i := by
  intro s
  induction s with
  | nil => intro i; simp [findL]
  | cons c r ih =>
    intro i
    by_cases hc : p c = true
    · have e : findL p (c :: r) i = i := if_pos hc
      rw [e, List.any_cons, hc]
      simp
      try omega
    · have e : findL p (c :: r) i = findL p r (i + 1) := if_neg hc
      rw [e, List.any_cons]
      have hc' : p c = false := by simpa using hc
      rw [hc', Bool.false_or]
      exact ih (i + 1)
theorem findL_any {α : Type} (p : α → Bool) (s : List α) (i : Nat) : decide (0 ≤ findL p s i) = s.any p := by
  rw [Bool.eq_iff_iff, decide_eq_true_eq]; exact (findL_iff p s i).1
theorem t85 (s : List Wd) (p : Wd → Bool) (F : Nat) (h : List AObj) (hs : s.length ≤ 1000000000) (hp : ∀ (c : Wd) (h : List AObj), ACalls Try.prog F [.agg (wordC c)] h (.bool (p c)) h) : ACalls Try.prog 85 [wordsV s, .fn (.func F) [] []] h (.int .i64 (findL p s 0)) h := by
  refine acalls_of fn85 (by simp) ?_
  simp only [List.length_cons, List.length_nil, Nat.reduceAdd, Nat.reduceSub, List.replicate, List.cons_append, List.nil_append, List.append_nil]
  simp (disch := omega) only [c85, wordsV, go_sem, wrap64_id, Int.tdiv_eq_ediv_of_nonneg, Int.tmod_eq_emod_of_nonneg]
  repeat' first
    | ((first | refine fnQ_pure1 ?_ ?_ | refine fnQ_pure0 ?_ ?_); (next => repeat' first | exact rvs_n | refine rvs_t ?_ | (simp [go_sem]; done)); simp only [go_sem]; (first | exact VLe.refl _ | refine VLe_int ?_ | refine VLe_bool ?_ | refine VLe_str ?_ | skip))
    | (with_reducible refine And.intro ?_ ?_)
    | with_reducible intro _
  all_goals first
    | omega
    | (rename_i hx; revert hx; simp; done)
    | (simp; done)
    | skip
  refine loop_of (T := fun i : Nat => spar 19 [(0, wordsV s), (1, .fn (.func F) [] []), (6, wordsV s), (7, .int .i64 s.length), (8, .int .i64 i)]) (H := fun _ => h) (inv := fun i => i ≤ s.length ∧ findL p s 0 = findL p (s.drop i) i) (m := fun i => s.length - i) 0 ⟨by omega, by simp⟩ (Wk.temps ?_) ?_
  · (simp only [wordsV, spar, List.foldl, List.replicate, go_sem, VLes_nil, VLes_cons, VLe_undef_iff, VLe_self]; try (repeat' first | (with_reducible refine And.intro ?_ ?_) | (refine VLe_int ?_; omega) | (refine VLe_bool ?_; rfl) | exact VLe.refl _))
  · rintro i ⟨i1, i2⟩ K hK
    rw [i2]
    by_cases hi : i < s.length
    · rw [drop_wd hi] at i2 ⊢
      simp only [findL] at i2 ⊢
      have hpc := fun h => hp (s.getD i default) h
      cases hb : p (s.getD i default) with
      | true =>
        rw [hb] at hpc
        simp (disch := omega) only [spar, List.foldl, List.replicate, wordsV, wordC, go_sem, wrap64_id, Int.tdiv_eq_ediv_of_nonneg, Int.tmod_eq_emod_of_nonneg]
        repeat' first
          | (refine callV_pure (hpc _) ?_; simp (disch := omega) only [wordsV, wordC, go_sem, wrap64_id, Int.tdiv_eq_ediv_of_nonneg, Int.tmod_eq_emod_of_nonneg])
          | ((first | refine fnQ_pure1 ?_ ?_ | refine fnQ_pure0 ?_ ?_); (next => repeat' first | exact rvs_n | refine rvs_t ?_ | (simp [go_sem]; done)); simp only [go_sem]; (first | exact VLe.refl _ | refine VLe_int ?_ | refine VLe_bool ?_ | refine VLe_str ?_ | skip))
          | (with_reducible refine And.intro ?_ ?_)
          | with_reducible intro _
        all_goals first
          | omega
          | (rename_i hx; revert hx; simp; done)
          | (simp; done)
          | skip
      | false =>
        rw [hb] at hpc i2
        simp (disch := omega) only [spar, List.foldl, List.replicate, wordsV, wordC, go_sem, wrap64_id, Int.tdiv_eq_ediv_of_nonneg, Int.tmod_eq_emod_of_nonneg]
        repeat' first
          | (refine callV_pure (hpc _) ?_; simp (disch := omega) only [wordsV, wordC, go_sem, wrap64_id, Int.tdiv_eq_ediv_of_nonneg, Int.tmod_eq_emod_of_nonneg])
          | ((first | refine fnQ_pure1 ?_ ?_ | refine fnQ_pure0 ?_ ?_); (next => repeat' first | exact rvs_n | refine rvs_t ?_ | (simp [go_sem]; done)); simp only [go_sem]; (first | exact VLe.refl _ | refine VLe_int ?_ | refine VLe_bool ?_ | refine VLe_str ?_ | skip))
          | (with_reducible refine And.intro ?_ ?_)
          | with_reducible intro _
        all_goals first
          | omega
          | (rename_i hx; revert hx; simp; done)
          | (simp; done)
          | skip
        refine hK _ _ (i + 1) ⟨by omega, by rw [i2]; simp⟩ (by omega) (Wk.temps ?_)
        (simp only [wordsV, wordC, spar, List.foldl, List.replicate, go_sem, VLes_nil, VLes_cons, VLe_undef_iff, VLe_self]; try (repeat' first | (with_reducible refine And.intro ?_ ?_) | (refine VLe_int ?_; omega) | (refine VLe_bool ?_; rfl) | exact VLe.refl _))
    · have e : i = s.length := by omega
      subst e
      rw [List.drop_length]
      simp (disch := omega) only [spar, List.foldl, List.replicate, wordsV, go_sem, wrap64_id, Int.tdiv_eq_ediv_of_nonneg, Int.tmod_eq_emod_of_nonneg]
      repeat' first
        | ((first | refine fnQ_pure1 ?_ ?_ | refine fnQ_pure0 ?_ ?_); (next => repeat' first | exact rvs_n | refine rvs_t ?_ | (simp [go_sem]; done)); simp only [go_sem]; (first | exact VLe.refl _ | refine VLe_int ?_ | refine VLe_bool ?_ | refine VLe_str ?_ | skip))
        | (with_reducible refine And.intro ?_ ?_)
        | with_reducible intro _
      all_goals first
        | omega
        | (rename_i hx; revert hx; simp; done)
        | (simp; done)
        | skip
theorem t59 (s : List Wd) (p : Wd → Bool) (F : Nat) (h : List AObj) (hs : s.length ≤ 1000000000) (hp : ∀ (c : Wd) (h : List AObj), ACalls Try.prog F [.agg (wordC c)] h (.bool (p c)) h) : ACalls Try.prog 59 [wordsV s, .fn (.func F) [] []] h (.bool (s.any p)) h := by
  rw [← findL_any p s 0]
  refine acalls_of fn59 (by simp) ?_
  simp only [List.length_cons, List.length_nil, Nat.reduceAdd, Nat.reduceSub, List.replicate, List.cons_append, List.nil_append, List.append_nil]
  simp (disch := omega) only [c59, wordsV, go_sem, wrap64_id, Int.tdiv_eq_ediv_of_nonneg, Int.tmod_eq_emod_of_nonneg]
  repeat' first
    | ((first | refine callA_pure (t85 s p F _ hs hp) ?_ ?_); (next => repeat' first | exact flags_n | refine flags_c (by first | rfl | assumption) ?_); simp (disch := omega) only [wordsV, go_sem, wrap64_id, Int.tdiv_eq_ediv_of_nonneg, Int.tmod_eq_emod_of_nonneg])
    | ((first | refine callG_pure (fun e => ⟨?_, t85 s p F _ hs hp⟩) ?_); (next => repeat' first | exact flags_n | refine flags_c (by first | rfl | assumption) ?_); simp (disch := omega) only [wordsV, go_sem, wrap64_id, Int.tdiv_eq_ediv_of_nonneg, Int.tmod_eq_emod_of_nonneg])
    | ((first | refine fnQ_pure1 ?_ ?_ | refine fnQ_pure0 ?_ ?_); (next => repeat' first | exact rvs_n | refine rvs_t ?_ | (simp [go_sem]; done)); simp only [go_sem]; (first | exact VLe.refl _ | refine VLe_int ?_ | refine VLe_bool ?_ | refine VLe_str ?_ | skip))
    | (with_reducible refine And.intro ?_ ?_)
    | with_reducible intro _
  all_goals first
    | omega
    | (rename_i hx; revert hx; simp; done)
    | (simp; done)
    | skip
theorem t86 (s : List Pat) (p : Pat → Bool) (F : Nat) (h : List AObj) (hs : s.length ≤ 1000000000) (hp : ∀ (i : Nat) (h : List AObj), i < s.length → ACalls Try.prog F [.agg (patC (s.getD i default))] h (.bool (p (s.getD i default))) h) : ACalls Try.prog 86 [patsV s, .fn (.func F) [] []] h (.int .i64 (findL p s 0)) h := by
  refine acalls_of fn86 (by simp) ?_
  simp only [List.length_cons, List.length_nil, Nat.reduceAdd, Nat.reduceSub, List.replicate, List.cons_append, List.nil_append, List.append_nil]
  simp (disch := omega) only [c86, patsV, go_sem, wrap64_id, Int.tdiv_eq_ediv_of_nonneg, Int.tmod_eq_emod_of_nonneg]
  repeat' first
    | ((first | refine fnQ_pure1 ?_ ?_ | refine fnQ_pure0 ?_ ?_); (next => repeat' first | exact rvs_n | refine rvs_t ?_ | (simp [go_sem]; done)); simp only [go_sem]; (first | exact VLe.refl _ | refine VLe_int ?_ | refine VLe_bool ?_ | refine VLe_str ?_ | skip))
    | (with_reducible refine And.intro ?_ ?_)
    | with_reducible intro _
  all_goals first
    | omega
    | (rename_i hx; revert hx; simp; done)
    | (simp; done)
    | skip
  refine loop_of (T := fun i : Nat => spar 19 [(0, patsV s), (1, .fn (.func F) [] []), (6, patsV s), (7, .int .i64 s.length), (8, .int .i64 i)]) (H := fun _ => h) (inv := fun i => i ≤ s.length ∧ findL p s 0 = findL p (s.drop i) i) (m := fun i => s.length - i) 0 ⟨by omega, by simp⟩ (Wk.temps ?_) ?_
  · (simp only [patsV, spar, List.foldl, List.replicate, go_sem, VLes_nil, VLes_cons, VLe_undef_iff, VLe_self]; try (repeat' first | (with_reducible refine And.intro ?_ ?_) | (refine VLe_int ?_; omega) | (refine VLe_bool ?_; rfl) | exact VLe.refl _))
  · rintro i ⟨i1, i2⟩ K hK
    rw [i2]
    by_cases hi : i < s.length
    · rw [drop_pat hi] at i2 ⊢
      simp only [findL] at i2 ⊢
      have hpc := fun h => hp i h hi
      cases hb : p (s.getD i default) with
      | true =>
        rw [hb] at hpc
        simp (disch := omega) only [spar, List.foldl, List.replicate, patsV, patC, go_sem, wrap64_id, Int.tdiv_eq_ediv_of_nonneg, Int.tmod_eq_emod_of_nonneg]
        repeat' first
          | (refine callV_pure (hpc _) ?_; simp (disch := omega) only [patsV, patC, go_sem, wrap64_id, Int.tdiv_eq_ediv_of_nonneg, Int.tmod_eq_emod_of_nonneg])
          | ((first | refine fnQ_pure1 ?_ ?_ | refine fnQ_pure0 ?_ ?_); (next => repeat' first | exact rvs_n | refine rvs_t ?_ | (simp [go_sem]; done)); simp only [go_sem]; (first | exact VLe.refl _ | refine VLe_int ?_ | refine VLe_bool ?_ | refine VLe_str ?_ | skip))
          | (with_reducible refine And.intro ?_ ?_)
          | with_reducible intro _
        all_goals first
          | omega
          | (rename_i hx; revert hx; simp; done)
          | (simp; done)
          | skip
      | false =>
        rw [hb] at hpc i2
        simp (disch := omega) only [spar, List.foldl, List.replicate, patsV, patC, go_sem, wrap64_id, Int.tdiv_eq_ediv_of_nonneg, Int.tmod_eq_emod_of_nonneg]
        repeat' first
          | (refine callV_pure (hpc _) ?_; simp (disch := omega) only [patsV, patC, go_sem, wrap64_id, Int.tdiv_eq_ediv_of_nonneg, Int.tmod_eq_emod_of_nonneg])
          | ((first | refine fnQ_pure1 ?_ ?_ | refine fnQ_pure0 ?_ ?_); (next => repeat' first | exact rvs_n | refine rvs_t ?_ | (simp [go_sem]; done)); simp only [go_sem]; (first | exact VLe.refl _ | refine VLe_int ?_ | refine VLe_bool ?_ | refine VLe_str ?_ | skip))
          | (with_reducible refine And.intro ?_ ?_)
          | with_reducible intro _
        all_goals first
          | omega
          | (rename_i hx; revert hx; simp; done)
          | (simp; done)
          | skip
        refine hK _ _ (i + 1) ⟨by omega, by rw [i2]; simp⟩ (by omega) (Wk.temps ?_)
        (simp only [patsV, patC, spar, List.foldl, List.replicate, go_sem, VLes_nil, VLes_cons, VLe_undef_iff, VLe_self]; try (repeat' first | (with_reducible refine And.intro ?_ ?_) | (refine VLe_int ?_; omega) | (refine VLe_bool ?_; rfl) | exact VLe.refl _))
    · have e : i = s.length := by omega
      subst e
      rw [List.drop_length]
      simp (disch := omega) only [spar, List.foldl, List.replicate, patsV, go_sem, wrap64_id, Int.tdiv_eq_ediv_of_nonneg, Int.tmod_eq_emod_of_nonneg]
      repeat' first
        | ((first | refine fnQ_pure1 ?_ ?_ | refine fnQ_pure0 ?_ ?_); (next => repeat' first | exact rvs_n | refine rvs_t ?_ | (simp [go_sem]; done)); simp only [go_sem]; (first | exact VLe.refl _ | refine VLe_int ?_ | refine VLe_bool ?_ | refine VLe_str ?_ | skip))
        | (with_reducible refine And.intro ?_ ?_)
        | with_reducible intro _
      all_goals first
        | omega
        | (rename_i hx; revert hx; simp; done)
        | (simp; done)
        | skip
theorem t61 (s : List Pat) (p : Pat → Bool) (F : Nat) (h : List AObj) (hs : s.length ≤ 1000000000) (hp : ∀ (i : Nat) (h : List AObj), i < s.length → ACalls Try.prog F [.agg (patC (s.getD i default))] h (.bool (p (s.getD i default))) h) : ACalls Try.prog 61 [patsV s, .fn (.func F) [] []] h (.bool (s.any p)) h := by
  rw [← findL_any p s 0]
  refine acalls_of fn61 (by simp) ?_
  simp only [List.length_cons, List.length_nil, Nat.reduceAdd, Nat.reduceSub, List.replicate, List.cons_append, List.nil_append, List.append_nil]
  simp (disch := omega) only [c61, patsV, go_sem, wrap64_id, Int.tdiv_eq_ediv_of_nonneg, Int.tmod_eq_emod_of_nonneg]
  repeat' first
    | ((first | refine callA_pure (t86 s p F _ hs hp) ?_ ?_); (next => repeat' first | exact flags_n | refine flags_c (by first | rfl | assumption) ?_); simp (disch := omega) only [patsV, go_sem, wrap64_id, Int.tdiv_eq_ediv_of_nonneg, Int.tmod_eq_emod_of_nonneg])
    | ((first | refine callG_pure (fun e => ⟨?_, t86 s p F _ hs hp⟩) ?_); (next => repeat' first | exact flags_n | refine flags_c (by first | rfl | assumption) ?_); simp (disch := omega) only [patsV, go_sem, wrap64_id, Int.tdiv_eq_ediv_of_nonneg, Int.tmod_eq_emod_of_nonneg])
    | ((first | refine fnQ_pure1 ?_ ?_ | refine fnQ_pure0 ?_ ?_); (next => repeat' first | exact rvs_n | refine rvs_t ?_ | (simp [go_sem]; done)); simp only [go_sem]; (first | exact VLe.refl _ | refine VLe_int ?_ | refine VLe_bool ?_ | refine VLe_str ?_ | skip))
    | (with_reducible refine And.intro ?_ ?_)
    | with_reducible intro _
  all_goals first
    | omega
    | (rename_i hx; revert hx; simp; done)
    | (simp; done)
    | skip
def badWd (w : Wd) : Bool := decide (w.text = []) || decide (64 < w.text.length)
def bigWd (w : Wd) : Bool := (decide (10 < w.text.length) && decide (w.text.length ≤ 64)) || decide (67 < w.text.length)
def bigPat (p : Pat) : Bool := decide (12 < p.letters.length) || decide (14 < p.levels.length)
theorem t65 (w : Wd) (h : List AObj) : ACalls Try.prog 65 [.agg (wordC w)] h (.bool (badWd w)) h := by
  unfold badWd
  by_cases g : w.text = []
  · have k : (w.text = []) = True := eq_true g
    refine acalls_of fn65 (by simp) ?_
    simp only [List.length_cons, List.length_nil, Nat.reduceAdd, Nat.reduceSub, List.replicate, List.cons_append, List.nil_append, List.append_nil]
    simp (disch := omega) only [c65, wordC, k, go_sem, wrap64_id, Int.tdiv_eq_ediv_of_nonneg, Int.tmod_eq_emod_of_nonneg]
    repeat' first
      | ((first | refine fnQ_pure1 ?_ ?_ | refine fnQ_pure0 ?_ ?_); (next => repeat' first | exact rvs_n | refine rvs_t ?_ | (simp [go_sem]; done)); simp only [go_sem]; (first | exact VLe.refl _ | refine VLe_int ?_ | refine VLe_bool ?_ | refine VLe_str ?_ | skip))
      | (with_reducible refine And.intro ?_ ?_)
      | with_reducible intro _
    all_goals first
      | omega
      | (rename_i hx; revert hx; simp; done)
      | (simp; done)
      | skip
    all_goals (rw [Bool.eq_iff_iff]; simp only [Bool.or_eq_true, Bool.and_eq_true, decide_eq_true_eq]; omega)
  · have k : (w.text = []) = False := eq_false g
    refine acalls_of fn65 (by simp) ?_
    simp only [List.length_cons, List.length_nil, Nat.reduceAdd, Nat.reduceSub, List.replicate, List.cons_append, List.nil_append, List.append_nil]
    simp (disch := omega) only [c65, wordC, k, go_sem, wrap64_id, Int.tdiv_eq_ediv_of_nonneg, Int.tmod_eq_emod_of_nonneg]
    repeat' first
      | ((first | refine fnQ_pure1 ?_ ?_ | refine fnQ_pure0 ?_ ?_); (next => repeat' first | exact rvs_n | refine rvs_t ?_ | (simp [go_sem]; done)); simp only [go_sem]; (first | exact VLe.refl _ | refine VLe_int ?_ | refine VLe_bool ?_ | refine VLe_str ?_ | skip))
      | (with_reducible refine And.intro ?_ ?_)
      | with_reducible intro _
    all_goals first
      | omega
      | (rename_i hx; revert hx; simp; done)
      | (simp; done)
      | skip
    all_goals (rw [Bool.eq_iff_iff]; simp only [Bool.or_eq_true, Bool.and_eq_true, decide_eq_true_eq]; omega)
theorem t60 (w : Wd) (h : List AObj) : ACalls Try.prog 60 [.agg (wordC w)] h (.bool (bigWd w)) h := by
  unfold bigWd
  refine acalls_of fn60 (by simp) ?_
  simp only [List.length_cons, List.length_nil, Nat.reduceAdd, Nat.reduceSub, List.replicate, List.cons_append, List.nil_append, List.append_nil]
  simp (disch := omega) only [c60, wordC, go_sem, wrap64_id, Int.tdiv_eq_ediv_of_nonneg, Int.tmod_eq_emod_of_nonneg]
  repeat' first
    | ((first | refine fnQ_pure1 ?_ ?_ | refine fnQ_pure0 ?_ ?_); (next => repeat' first | exact rvs_n | refine rvs_t ?_ | (simp [go_sem]; done)); simp only [go_sem]; (first | exact VLe.refl _ | refine VLe_int ?_ | refine VLe_bool ?_ | refine VLe_str ?_ | skip))
    | (with_reducible refine And.intro ?_ ?_)
    | with_reducible intro _
  all_goals first
    | omega
    | (rename_i hx; revert hx; simp; done)
    | (simp; done)
    | skip
  all_goals (rw [Bool.eq_iff_iff]; simp only [Bool.or_eq_true, Bool.and_eq_true, decide_eq_true_eq]; omega)
theorem t62 (p : Pat) (h : List AObj) : ACalls Try.prog 62 [.agg (patC p)] h (.bool (bigPat p)) h := by
  unfold bigPat
  refine acalls_of fn62 (by simp) ?_
  simp only [List.length_cons, List.length_nil, Nat.reduceAdd, Nat.reduceSub, List.replicate, List.cons_append, List.nil_append, List.append_nil]
  simp (disch := omega) only [c62, patC, intsV, go_sem, wrap64_id, Int.tdiv_eq_ediv_of_nonneg, Int.tmod_eq_emod_of_nonneg]
  repeat' first
    | ((first | refine fnQ_pure1 ?_ ?_ | refine fnQ_pure0 ?_ ?_); (next => repeat' first | exact rvs_n | refine rvs_t ?_ | (simp [go_sem]; done)); simp only [go_sem]; (first | exact VLe.refl _ | refine VLe_int ?_ | refine VLe_bool ?_ | refine VLe_str ?_ | skip))
    | (with_reducible refine And.intro ?_ ?_)
    | with_reducible intro _
  all_goals first
    | omega
    | (rename_i hx; revert hx; simp; done)
    | (simp; done)
    | skip
  all_goals (rw [Bool.eq_iff_iff]; simp only [Bool.or_eq_true, Bool.and_eq_true, decide_eq_true_eq]; omega)
end HY
end

section
/-! the text D26 -/
open Go Go.Proofs AF HY P48
namespace HY
set_option maxRecDepth 100000
structure Sty where
  sp : Int
  st : Int
  sh : Int
  le : Int
  hy : Int
  deriving DecidableEq, Inhabited
/-- A style's cells; those in front and behind do not matter. -/
def styC (s : Sty) (x : List AV) : List AV := [x.getD 0 .undef, x.getD 1 .undef, x.getD 2 .undef, x.getD 3 .undef, x.getD 4 .undef, .int .i64 s.sp, .int .i64 s.st, .int .i64 s.sh, .int .i64 s.le, .int .i64 s.hy, x.getD 5 .undef, x.getD 6 .undef, x.getD 7 .undef]
def greatS (ps : List Pat) (ws : List Wd) : Bool := decide (5 < ps.length) || (decide (6 < ws.length) || (ws.any bigWd || ps.any bigPat))
theorem t31 (s : Sty) (x : List AV) (ps : List Pat) (ws : List Wd) (h : List AObj) (hps : ps.length ≤ 9223372036854775807) (hws : ws.length ≤ 9223372036854775807) :
    ACalls Try.prog 31 [.agg (styC s x ++ [patsV ps, wordsV ws])] h (.bool (greatS ps ws)) h := by
  unfold greatS
  by_cases g1 : 5 < ps.length
  · have k1 : (5 < (ps.length : Int)) = True := eq_true (by omega)
    rw [decide_eq_true g1, Bool.true_or]
    refine acalls_of fn31 (by simp) ?_
    simp only [List.length_cons, List.length_nil, Nat.reduceAdd, Nat.reduceSub, List.replicate, List.cons_append, List.nil_append, List.append_nil]
    simp (disch := omega) only [c31, styC, patsV, wordsV, k1, go_sem, wrap64_id, Int.tdiv_eq_ediv_of_nonneg, Int.tmod_eq_emod_of_nonneg]
    repeat' first
      | (refine callG_false ((.bool false)) ?_; simp (disch := omega) only [styC, patsV, wordsV, k1, go_sem, wrap64_id, Int.tdiv_eq_ediv_of_nonneg, Int.tmod_eq_emod_of_nonneg])
      | (refine callG_false ((.bool false)) ?_; simp (disch := omega) only [styC, patsV, wordsV, k1, go_sem, wrap64_id, Int.tdiv_eq_ediv_of_nonneg, Int.tmod_eq_emod_of_nonneg])
      | ((first | refine fnQ_pure1 ?_ ?_ | refine fnQ_pure0 ?_ ?_); (next => repeat' first | exact rvs_n | refine rvs_t ?_ | (simp [go_sem]; done)); simp only [go_sem]; (first | exact VLe.refl _ | refine VLe_int ?_ | refine VLe_bool ?_ | refine VLe_str ?_ | skip))
      | (with_reducible refine And.intro ?_ ?_)
      | with_reducible intro _
    all_goals first
      | omega
      | (rename_i hx; revert hx; simp; done)
      | (simp; done)
      | skip
    all_goals trace_state
  · have k1 : (5 < (ps.length : Int)) = False := eq_false (by omega)
    rw [decide_eq_false g1, Bool.false_or]
    by_cases g2 : 6 < ws.length
    · have k2 : (6 < (ws.length : Int)) = True := eq_true (by omega)
      rw [decide_eq_true g2, Bool.true_or]
      refine acalls_of fn31 (by simp) ?_
      simp only [List.length_cons, List.length_nil, Nat.reduceAdd, Nat.reduceSub, List.replicate, List.cons_append, List.nil_append, List.append_nil]
      simp (disch := omega) only [c31, styC, patsV, wordsV, k1, k2, go_sem, wrap64_id, Int.tdiv_eq_ediv_of_nonneg, Int.tmod_eq_emod_of_nonneg]
      repeat' first
        | (refine callG_false ((.bool false)) ?_; simp (disch := omega) only [styC, patsV, wordsV, k1, k2, go_sem, wrap64_id, Int.tdiv_eq_ediv_of_nonneg, Int.tmod_eq_emod_of_nonneg])
        | (refine callG_false ((.bool false)) ?_; simp (disch := omega) only [styC, patsV, wordsV, k1, k2, go_sem, wrap64_id, Int.tdiv_eq_ediv_of_nonneg, Int.tmod_eq_emod_of_nonneg])
        | ((first | refine fnQ_pure1 ?_ ?_ | refine fnQ_pure0 ?_ ?_); (next => repeat' first | exact rvs_n | refine rvs_t ?_ | (simp [go_sem]; done)); simp only [go_sem]; (first | exact VLe.refl _ | refine VLe_int ?_ | refine VLe_bool ?_ | refine VLe_str ?_ | skip))
        | (with_reducible refine And.intro ?_ ?_)
        | with_reducible intro _
      all_goals first
        | omega
        | (rename_i hx; revert hx; simp; done)
        | (simp; done)
        | skip
      all_goals trace_state
    · have k2 : (6 < (ws.length : Int)) = False := eq_false (by omega)
      rw [decide_eq_false g2, Bool.false_or]
      have c59 := fun h => t59 ws bigWd 60 h (by omega) t60
      have c61 := fun h => t61 ps bigPat 62 h (by omega) (fun i h _ => t62 _ h)
      refine acalls_of fn31 (by simp) ?_
      simp only [List.length_cons, List.length_nil, Nat.reduceAdd, Nat.reduceSub, List.replicate, List.cons_append, List.nil_append, List.append_nil]
      simp (disch := omega) only [c31, styC, patsV, wordsV, k1, k2, go_sem, wrap64_id, Int.tdiv_eq_ediv_of_nonneg, Int.tmod_eq_emod_of_nonneg]
      repeat' first
        | ((first | refine callA_pure (c59 _) ?_ ?_ | refine callA_pure (c61 _) ?_ ?_); (next => repeat' first | exact flags_n | refine flags_c (by first | rfl | assumption) ?_); simp (disch := omega) only [styC, patsV, wordsV, k1, k2, go_sem, wrap64_id, Int.tdiv_eq_ediv_of_nonneg, Int.tmod_eq_emod_of_nonneg])
        | ((first | refine callG_pure (fun e => ⟨?_, c59 _⟩) ?_ | refine callG_pure (fun e => ⟨?_, c61 _⟩) ?_); (next => repeat' first | exact flags_n | refine flags_c (by first | rfl | assumption) ?_); simp (disch := omega) only [styC, patsV, wordsV, k1, k2, go_sem, wrap64_id, Int.tdiv_eq_ediv_of_nonneg, Int.tmod_eq_emod_of_nonneg])
        | ((first | refine fnQ_pure1 ?_ ?_ | refine fnQ_pure0 ?_ ?_); (next => repeat' first | exact rvs_n | refine rvs_t ?_ | (simp [go_sem]; done)); simp only [go_sem]; (first | exact VLe.refl _ | refine VLe_int ?_ | refine VLe_bool ?_ | refine VLe_str ?_ | skip))
        | (with_reducible refine And.intro ?_ ?_)
        | with_reducible intro _
      all_goals first
        | omega
        | (rename_i hx; revert hx; simp; done)
        | (simp; done)
        | skip
      all_goals trace_state
end HY
end

section
/-! the text D27 -/
open Go Go.Proofs AF HY P48
namespace HY
set_option maxRecDepth 100000
theorem item_ext {x y : It} (h : x.kind = y.kind ∧ x.width = y.width ∧ x.stretch = y.stretch ∧ x.shrink = y.shrink ∧ x.penalty = y.penalty ∧ x.text = y.text) : x = y := by
  obtain ⟨a, b, c, d, e, f⟩ := x
  obtain ⟨a', b', c', d', e', f'⟩ := y
  simp only at h
  obtain ⟨rfl, rfl, rfl, rfl, rfl, rfl⟩ := h
  rfl
theorem t34 (a b : List It) (h : List AObj) (hl : a.length ≤ 1000000) : ACalls Try.prog 34 [items a, items b] h (.bool (decide (a = b))) h := by
  by_cases g0 : a.length = b.length
  · have k0 : ((a.length : Int) = b.length) = True := eq_true (by omega)
    refine acalls_of fn34 (by simp) ?_
    simp only [List.length_cons, List.length_nil, Nat.reduceAdd, Nat.reduceSub, List.replicate, List.cons_append, List.nil_append, List.append_nil]
    simp (disch := omega) only [c34, items, k0, go_sem, wrap64_id, Int.tdiv_eq_ediv_of_nonneg, Int.tmod_eq_emod_of_nonneg]
    repeat' first
      | ((first | refine fnQ_pure1 ?_ ?_ | refine fnQ_pure0 ?_ ?_); (next => repeat' first | exact rvs_n | refine rvs_t ?_ | (simp [go_sem]; done)); simp only [go_sem]; (first | exact VLe.refl _ | refine VLe_int ?_ | refine VLe_bool ?_ | refine VLe_str ?_ | skip))
      | (with_reducible refine And.intro ?_ ?_)
      | with_reducible intro _
    all_goals first
      | omega
      | (rename_i hx; revert hx; simp; done)
      | (simp; done)
      | skip
    refine loop_of (T := fun i : Nat => spar 26 [(0, items a), (1, items b), (5, .int .i64 i)]) (H := fun _ => h) (inv := fun i => i ≤ a.length ∧ ∀ j, j < i → it a j = it b j) (m := fun i => a.length - i) 0 ⟨by omega, by omega⟩ (Wk.temps ?_) ?_
    · (simp only [items, spar, List.foldl, List.replicate, go_sem, VLes_nil, VLes_cons, VLe_undef_iff, VLe_self]; try (repeat' first | (with_reducible refine And.intro ?_ ?_) | (refine VLe_int ?_; omega) | (refine VLe_bool ?_; rfl) | exact VLe.refl _))
    rintro i ⟨i1, i2⟩ K hK
    by_cases hi : i < a.length
    · by_cases hb : it a i = it b i
      · simp (disch := omega) only [spar, List.foldl, List.replicate, items, itemC, go_sem, wrap64_id, Int.tdiv_eq_ediv_of_nonneg, Int.tmod_eq_emod_of_nonneg]
        repeat' first
          | ((first | refine fnQ_pure1 ?_ ?_ | refine fnQ_pure0 ?_ ?_); (next => repeat' first | exact rvs_n | refine rvs_t ?_ | (simp [go_sem]; done)); simp only [go_sem]; (first | exact VLe.refl _ | refine VLe_int ?_ | refine VLe_bool ?_ | refine VLe_str ?_ | skip))
          | (with_reducible refine And.intro ?_ ?_)
          | with_reducible intro _
        all_goals first
          | omega
          | (rename_i hx; revert hx; simp; done)
          | (simp; done)
          | skip
        · rename_i hx
          exact absurd (hx (by rw [hb]) (by rw [hb]) (by rw [hb]) (by rw [hb]) (by rw [hb])) (by rw [hb]; simp)
        · refine hK _ _ (i + 1) ⟨by omega, fun j hj => ?_⟩ (by omega) (Wk.temps ?_)
          · by_cases e : j = i
            · subst e; exact hb
            · exact i2 j (by omega)
          · (simp only [items, itemC, spar, List.foldl, List.replicate, go_sem, VLes_nil, VLes_cons, VLe_undef_iff, VLe_self]; try (repeat' first | (with_reducible refine And.intro ?_ ?_) | (refine VLe_int ?_; omega) | (refine VLe_bool ?_; rfl) | exact VLe.refl _))
      · have hne : ¬ a = b := by rintro rfl; exact hb rfl
        rw [decide_eq_false hne]
        simp (disch := omega) only [spar, List.foldl, List.replicate, items, itemC, go_sem, wrap64_id, Int.tdiv_eq_ediv_of_nonneg, Int.tmod_eq_emod_of_nonneg]
        repeat' first
          | ((first | refine fnQ_pure1 ?_ ?_ | refine fnQ_pure0 ?_ ?_); (next => repeat' first | exact rvs_n | refine rvs_t ?_ | (simp [go_sem]; done)); simp only [go_sem]; (first | exact VLe.refl _ | refine VLe_int ?_ | refine VLe_bool ?_ | refine VLe_str ?_ | skip))
          | (with_reducible refine And.intro ?_ ?_)
          | with_reducible intro _
        all_goals first
          | omega
          | (rename_i hx; revert hx; simp; done)
          | (simp; done)
          | skip
        rename_i hx
        exact absurd (item_ext hx) hb
    · have e : i = a.length := by omega
      subst e
      have heq : a = b := by
        apply List.ext_getElem g0
        intro j h1 h2
        have := i2 j h1
        rwa [it_eq h1, it_eq h2] at this
      rw [decide_eq_true heq]
      simp (disch := omega) only [spar, List.foldl, List.replicate, items, go_sem, wrap64_id, Int.tdiv_eq_ediv_of_nonneg, Int.tmod_eq_emod_of_nonneg]
      repeat' first
        | ((first | refine fnQ_pure1 ?_ ?_ | refine fnQ_pure0 ?_ ?_); (next => repeat' first | exact rvs_n | refine rvs_t ?_ | (simp [go_sem]; done)); simp only [go_sem]; (first | exact VLe.refl _ | refine VLe_int ?_ | refine VLe_bool ?_ | refine VLe_str ?_ | skip))
        | (with_reducible refine And.intro ?_ ?_)
        | with_reducible intro _
      all_goals first
        | omega
        | (rename_i hx; revert hx; simp; done)
        | (simp; done)
        | skip
  · have k0 : ((a.length : Int) = b.length) = False := eq_false (by omega)
    have hne : ¬ a = b := by rintro rfl; exact g0 rfl
    rw [decide_eq_false hne]
    refine acalls_of fn34 (by simp) ?_
    simp only [List.length_cons, List.length_nil, Nat.reduceAdd, Nat.reduceSub, List.replicate, List.cons_append, List.nil_append, List.append_nil]
    simp (disch := omega) only [c34, items, k0, go_sem, wrap64_id, Int.tdiv_eq_ediv_of_nonneg, Int.tmod_eq_emod_of_nonneg]
    repeat' first
      | ((first | refine fnQ_pure1 ?_ ?_ | refine fnQ_pure0 ?_ ?_); (next => repeat' first | exact rvs_n | refine rvs_t ?_ | (simp [go_sem]; done)); simp only [go_sem]; (first | exact VLe.refl _ | refine VLe_int ?_ | refine VLe_bool ?_ | refine VLe_str ?_ | skip))
      | (with_reducible refine And.intro ?_ ?_)
      | with_reducible intro _
    all_goals first
      | omega
      | (rename_i hx; revert hx; simp; done)
      | (simp; done)
      | skip
/-! Items of words. -/
def sepI (s : Sty) (i : Nat) (w : Wd) : List It := if i = 0 then [] else if w.verse = true then [⟨3, 0, 0, 0, -10000, []⟩] else if w.joined = true then [] else [⟨2, s.sp, s.st, s.sh, 0, []⟩]
def partI (s : Sty) (k : Nat) (u : List UInt8) : List It := (if k = 0 then [] else [⟨3, s.le, 0, 0, s.hy, [61]⟩]) ++ [⟨1, s.le * ((clus u).length : Int), 0, 0, 0, u⟩]
/-- The items of the first k parts. -/
def partsI (s : Sty) (l : List (List UInt8)) (k : Nat) : List It := ((List.range k).map fun i => partI s i (l.getD i [])).flatten
def wordI (s : Sty) (ps : List Pat) (i : Nat) (w : Wd) : List It := sepI s i w ++ partsI s (partsP ps w.text) (partsP ps w.text).length
/-- The items of the first n words. -/
def wordsI (s : Sty) (ps : List Pat) (ws : List Wd) (n : Nat) : List It := ((List.range n).map fun i => wordI s ps i (ws.getD i default)).flatten
def rangeOk (s : Sty) : Bool := isLen s.le && (isLen s.sp && (isLen s.st && (isLen s.sh && (decide (0 ≤ s.hy) && decide (s.hy ≤ 10000)))))
def itemsE (s : Sty) (ps : List Pat) (ws : List Wd) : Int :=
  if rangeOk s = false then 2 else if checkPats ps ≠ 0 ∨ ws.any badWd = true then 1 else if 4096 < ws.length then 4 else if check (wordsI s ps ws ws.length) ≠ 0 then 4 else 0
def itemsR (s : Sty) (ps : List Pat) (ws : List Wd) : List It := if itemsE s ps ws = 0 then wordsI s ps ws ws.length else []
theorem partsI_zero (s : Sty) (l : List (List UInt8)) : partsI s l 0 = [] := rfl
theorem wordsI_zero (s : Sty) (ps : List Pat) (ws : List Wd) : wordsI s ps ws 0 = [] := rfl
theorem partsI_succ (s : Sty) (l : List (List UInt8)) (k : Nat) : partsI s l (k + 1) = partsI s l k ++ partI s k (l.getD k []) := by unfold partsI; rw [List.range_succ, List.map_append, List.flatten_append]; simp
theorem wordsI_succ (s : Sty) (ps : List Pat) (ws : List Wd) (n : Nat) : wordsI s ps ws (n + 1) = wordsI s ps ws n ++ wordI s ps n (ws.getD n default) := by unfold wordsI; rw [List.range_succ, List.map_append, List.flatten_append]; simp
theorem sepI_len (s : Sty) (i : Nat) (w : Wd) : (sepI s i w).length ≤ 1 := by unfold sepI; split <;> (try split) <;> (try split) <;> simp
theorem partI_len (s : Sty) (k : Nat) (u : List UInt8) : (partI s k u).length ≤ 2 := by unfold partI; split <;> simp
theorem partsI_len (s : Sty) (l : List (List UInt8)) (k : Nat) : (partsI s l k).length ≤ 2 * k := by
  induction k with
  | zero => simp [partsI]
  | succ k ih => rw [partsI_succ, List.length_append]; have := partI_len s k (l.getD k []); omega
theorem partsP_len (ps : List Pat) (w : List UInt8) : (partsP ps w).length ≤ w.length + 1 := by
  unfold partsP
  split
  · rw [pieces_len]; unfold cutsOf; rw [List.length_append]; have := points_len ps w; simp; omega
  · simp
theorem wordI_len (s : Sty) (ps : List Pat) (i : Nat) (w : Wd) (h : w.text.length ≤ 64) : (wordI s ps i w).length ≤ 200 := by
  unfold wordI
  rw [List.length_append]
  have := sepI_len s i w
  have := partsI_len s (partsP ps w.text) (partsP ps w.text).length
  have := partsP_len ps w.text
  omega
theorem wordsI_len (s : Sty) (ps : List Pat) (ws : List Wd) (hb : ∀ i, i < ws.length → (ws.getD i default).text.length ≤ 64) (n : Nat) (hn : n ≤ ws.length) : (wordsI s ps ws n).length ≤ 200 * n := by
  induction n with
  | zero => simp [wordsI]
  | succ n ih =>
    rw [wordsI_succ, List.length_append]
    have := wordI_len s ps n (ws.getD n default) (hb n (by omega))
    have := ih (by omega)
    omega
end HY
end

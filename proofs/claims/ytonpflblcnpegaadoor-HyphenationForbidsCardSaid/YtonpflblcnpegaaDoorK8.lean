import Derived.Test.YtonpflblcnpegaaDoorK7
import Derived.Test.YtonpflblcnpegaaDoorK1
import Derived.Test.YtonpflblcnpegaaDoorProg
import Derived.Test.YtonpflblcnpegaaDoorK2
import Derived.Below
import Derived.Shelf.Strings.OnBuilder
import Derived.Shelf.Strings.BuilderX
import Derived.Shelf.RegionOpenPlain
import Derived.Lib.Strings
import Derived.Lib.Slices
import Derived.Lib.Walk
import Derived.Lib.Builder
import Derived.Lib.AppendStr
import Derived.Lib.UnsafeStr
import Derived.Lib.MakeNoZero
import Derived.WalkKit
import Derived.Laws.Externs
import Derived.RangeFuncBox
import Derived.Laws.Rows
set_option linter.all false
set_option linter.unusedSimpArgs false
set_option linter.unusedVariables false
set_option linter.unusedSectionVars false
section
set_option linter.all false
set_option linter.unusedSimpArgs false
set_option linter.unusedVariables false
set_option linter.unusedSectionVars false
open Go Go.Proofs AF HY
namespace HY
set_option maxRecDepth 100000
def prevI (L : List Int) (j : Nat) : Int := if j = 0 then 0 else L.getD (j - 1) 0
def piece (w : List UInt8) (L : List Int) (j : Nat) : List UInt8 := (w.drop (prevI L j).toNat).take ((L.getD j 0).toNat - (prevI L j).toNat)
def pieces (w : List UInt8) (L : List Int) (j : Nat) : List (List UInt8) := (List.range j).map (piece w L)
def okCuts (w : List UInt8) (L : List Int) : Prop := ∀ j, j < L.length → 0 ≤ prevI L j ∧ prevI L j ≤ L.getD j 0 ∧ L.getD j 0 ≤ w.length
theorem prevI_zero (L : List Int) : prevI L 0 = 0 := rfl
theorem prevI_succ (L : List Int) (j : Nat) : prevI L (j + 1) = L.getD j 0 := by simp [prevI]
theorem pieces_succ (w : List UInt8) (L : List Int) (j : Nat) : pieces w L (j + 1) = pieces w L j ++ [piece w L j] := by unfold pieces; rw [List.range_succ, List.map_append]; rfl
theorem pieces_len (w : List UInt8) (L : List Int) (j : Nat) : (pieces w L j).length = j := by simp [pieces]
theorem strC_snoc2 (L : List (List UInt8)) (x : List UInt8) : strC L ++ [.str x] = strC (L ++ [x]) := by simp [strC]
theorem slOf_strs {v n : Nat} {L : List (List UInt8)} {fz : Nat → Bool} {h : List AObj} : VLe (slOf (some (ownO v 9 (strC L))) v 1 0 L.length (rei fz h (n + 1))) (strs L) := by
  unfold ownO
  split
  · rename_i e
    have : L = [] := by cases L with
      | nil => rfl
      | cons a l => simp [strC] at e
    subst this
    rw [slOf_emp, if_pos rfl]
    exact VLe_nl
  · rw [slOf_mem, if_pos ⟨rfl, by rw [strC_len]; omega⟩]
    simp only [Nat.zero_add, Nat.mul_one]
    exact strs_of rfl
def cutsOf (ps : List Pat) (w : List UInt8) : List Int := pointsR ps w ++ [(w.length : Int)]
theorem offN_mono (own : List (List UInt8)) {i j : Nat} (h : i ≤ j) : offN own i ≤ offN own j := by
  unfold offN
  have e : own.take i = (own.take j).take i := by rw [List.take_take, Nat.min_eq_left h]
  rw [e]
  exact flatten_take_le _ _
theorem ptAt_sorted (own : List (List UInt8)) (lv : List Int) (m : Nat) : List.Pairwise (· ≤ ·) (ptAt own lv m) := by
  unfold ptAt ptIdx
  rw [List.pairwise_map]
  refine List.Pairwise.imp ?_ ((List.pairwise_lt_range (n := m)).filter _)
  intro a b hab
  have := offN_mono own (show a + 1 ≤ b + 1 by omega)
  omega
theorem ptAt_bound (w : List UInt8) (lv : List Int) (m : Nat) : ∀ x ∈ ptAt (clus w) lv m, 0 ≤ x ∧ x ≤ w.length := by
  intro x hx
  unfold ptAt at hx
  rw [List.mem_map] at hx
  obtain ⟨i, _, rfl⟩ := hx
  have := offN_le (clus w) (i + 1)
  rw [clus_join] at this
  omega
theorem okCuts_of {w : List UInt8} {L : List Int} (hs : List.Pairwise (· ≤ ·) L) (hb : ∀ x ∈ L, 0 ≤ x ∧ x ≤ w.length) : okCuts w L := by
  intro j hj
  have g : ∀ i (hi : i < L.length), L.getD i 0 = L[i] := fun i hi => by simp [List.getD_eq_getElem?_getD, hi]
  have h1 := hb _ (List.getElem_mem hj)
  rw [g j hj]
  unfold prevI
  split
  · omega
  · have hj' : j - 1 < L.length := by omega
    have h2 := hb _ (List.getElem_mem hj')
    have h3 := (List.pairwise_iff_getElem.1 hs) (j - 1) j hj' hj (by omega)
    rw [g (j - 1) hj']
    omega
theorem okCuts_points (ps : List Pat) (w : List UInt8) : okCuts w (cutsOf ps w) := by
  unfold cutsOf pointsR
  have hb : ∀ x ∈ (if startE ps w = 0 then ptAt (clus w) (levelsOf ps w) ((clus w).length - 1) else []), 0 ≤ x ∧ x ≤ (w.length : Int) := by
    split
    · exact ptAt_bound w _ _
    · simp
  have hs : List.Pairwise (· ≤ ·) (if startE ps w = 0 then ptAt (clus w) (levelsOf ps w) ((clus w).length - 1) else []) := by
    split
    · exact ptAt_sorted _ _ _
    · exact .nil
  refine okCuts_of ?_ ?_
  · rw [List.pairwise_append]
    refine ⟨hs, by simp, fun a ha b hb' => ?_⟩
    simp at hb'
    subst hb'
    exact (hb a ha).2
  · intro x hx
    rcases List.mem_append.1 hx with h | h
    · exact hb x h
    · simp at h; subst h; omega
theorem points_len (ps : List Pat) (w : List UInt8) : (pointsR ps w).length ≤ w.length := by
  unfold pointsR
  split
  · rw [ptAt_len]
    have := ptIdx_le (clus w).length (levelsOf ps w) ((clus w).length - 1)
    have := clus_len w
    omega
  · simp
def splitR (ps : List Pat) (w : List UInt8) : List (List UInt8) := if startE ps w = 0 then pieces w (cutsOf ps w) (cutsOf ps w).length else []
set_option maxHeartbeats 4000000 in
theorem u30 (ps : List Pat) (w : List UInt8) (h : List AObj) (hok : okPats ps) (hw : w.length ≤ 100000) : ACalls Tryd.prog 30 [patsV ps, .str w] h (.tup [strs (splitR ps w), .int .i64 (startE ps w)]) h := by
  have c112 := fun h => t112 ps w h hok (by omega)
  have hcut := okCuts_points ps w
  have hpl := points_len ps w
  unfold splitR
  by_cases g : startE ps w = 0
  case neg =>
    rw [if_neg g]
    refine acalls_of fn30e (by simp) ?_
    simp only [List.length_cons, List.length_nil, Nat.reduceAdd, Nat.reduceSub, List.replicate, List.cons_append, List.nil_append, List.append_nil]
    simp (disch := omega) only [c30e, go_sem, wrap64_id, Int.tdiv_eq_ediv_of_nonneg, Int.tmod_eq_emod_of_nonneg]
    repeat' first
      | ((first | refine callA_pure (c112 _) ?_ ?_); (next => repeat' first | exact flags_n | refine flags_c (by first | rfl | assumption) ?_); simp (disch := omega) only [g, go_sem, wrap64_id, Int.tdiv_eq_ediv_of_nonneg, Int.tmod_eq_emod_of_nonneg])
      | ((first | refine callG_pure (fun e => ⟨?_, c112 _⟩) ?_); (next => repeat' first | exact flags_n | refine flags_c (by first | rfl | assumption) ?_); simp (disch := omega) only [g, go_sem, wrap64_id, Int.tdiv_eq_ediv_of_nonneg, Int.tmod_eq_emod_of_nonneg])
      | ((first | refine fnQ_pure1 ?_ ?_ | refine fnQ_pure0 ?_ ?_); (next => repeat' first | exact rvs_n | refine rvs_t ?_ | (simp [go_sem]; done)); simp only [go_sem]; (first | exact VLe.refl _ | refine VLe_int ?_ | refine VLe_bool ?_ | refine VLe_str ?_ | skip))
      | (with_reducible refine And.intro ?_ ?_)
      | with_reducible intro _
    all_goals first
      | omega
      | (rename_i hx; revert hx; simp; done)
      | (simp; done)
      | skip
    exact VLe_tup ⟨VLe_nl, VLe.refl _, trivial⟩
  obtain ⟨g1, g2⟩ := startE_zero g
  rw [if_pos g]
  rw [g] at c112 ⊢
  have hpts : pointsR ps w = ptAt (clus w) (levelsOf ps w) ((clus w).length - 1) := by unfold pointsR; rw [if_pos g]
  have c113 := fun h => t113 ps w h hok (by omega) (word_pos g2) g1
  have c113m := fun h k hk => u44m ps w h hok (by omega) (word_pos g2) g1 k hk
  unfold cutsOf at hcut ⊢
  rw [← hpts] at c113 c113m
  obtain ⟨HI, hHI⟩ : ∃ HI, HI = ptHi (clus w).length (levelsOf ps w) ((clus w).length - 1) := ⟨_, rfl⟩
  rw [← hHI] at c113 c113m
  obtain ⟨L, hL⟩ : ∃ L, L = pointsR ps w := ⟨_, rfl⟩
  rw [← hL] at c113 c113m hcut hpl ⊢
  by_cases h0 : L = []
  · obtain ⟨L', hLL⟩ : ∃ L', L' = L ++ [(w.length : Int)] := ⟨_, rfl⟩
    rw [← hLL] at hcut ⊢
    rw [h0] at hLL
    have hcs : [AV.int .i64 (w.length : Int)] = intsC L' := by rw [hLL]; rfl
    have hln : L'.length = 1 := by rw [hLL]; rfl
    rw [h0, intsN_nil] at c113
    refine acalls_of fn30e (by simp) ?_
    simp only [List.length_cons, List.length_nil, Nat.reduceAdd, Nat.reduceSub, List.replicate, List.cons_append, List.nil_append, List.append_nil]
    simp (disch := omega) only [c30e, madeA1, go_sem, wrap64_id, Int.tdiv_eq_ediv_of_nonneg, Int.tmod_eq_emod_of_nonneg]
    repeat' first
      | ((first | refine callA_pure (c112 _) ?_ ?_ | refine callA_pure (c113 _) ?_ ?_); (next => repeat' first | exact flags_n | refine flags_c (by first | rfl | assumption) ?_); simp (disch := omega) only [madeA1, go_sem, wrap64_id, Int.tdiv_eq_ediv_of_nonneg, Int.tmod_eq_emod_of_nonneg])
      | ((first | refine callG_pure (fun e => ⟨?_, c112 _⟩) ?_ | refine callG_pure (fun e => ⟨?_, c113 _⟩) ?_); (next => repeat' first | exact flags_n | refine flags_c (by first | rfl | assumption) ?_); simp (disch := omega) only [madeA1, go_sem, wrap64_id, Int.tdiv_eq_ediv_of_nonneg, Int.tmod_eq_emod_of_nonneg])
      | ((first | refine fnQ_pure1 ?_ ?_ | refine fnQ_pure0 ?_ ?_); (next => repeat' first | exact rvs_n | refine rvs_t ?_ | (simp [go_sem]; done)); simp only [go_sem]; (first | exact VLe.refl _ | refine VLe_int ?_ | refine VLe_bool ?_ | refine VLe_str ?_ | skip))
      | (with_reducible refine And.intro ?_ ?_)
      | with_reducible intro _
    all_goals first
      | omega
      | (rename_i hx; revert hx; simp; done)
      | (simp; done)
      | skip
    rw [hcs]
    have hcl := intsC_len L'
    refine loop_of (T := fun j : Nat × Nat × AObj => spar 45 [(1, .str w), (9, .osl (h.length + 1) j.2.1 1 0 j.1), (10, .int .i64 (prevI L' j.1)), (29, .osl (h.length + 3) 1 1 0 1), (30, .int .i64 L'.length), (31, .int .i64 j.1)])
      (H := fun j => h ++ [.emp 1, ownO j.2.1 9 (strC (pieces w L' j.1)), .mem 1 3 (intsC L'), .mem 1 3 (intsC L'), j.2.2, .emp 0, .emp 0])
      (inv := fun j => j.1 ≤ L'.length ∧ site [j.2.2] 0 = true) (m := fun j => L'.length - j.1) (0, 1, .emp 0) ⟨by simp, rfl⟩ (Wk.temps ?_) ?_
    · simp only [prevI_zero]
      (simp only [spar, List.foldl, List.replicate, go_sem, VLes_nil, VLes_cons, VLe_undef_iff, VLe_self]; try (repeat' first | (with_reducible refine And.intro ?_ ?_) | (refine VLe_int ?_; omega) | (refine VLe_bool ?_; rfl) | exact VLe.refl _))
    rintro ⟨j, v, O⟩ ⟨j1, j2⟩ K hK
    simp only at j1 j2 hK
    have j2' : ∀ m, site (O :: m) 0 = true := fun _ => j2
    have el := strC_len (pieces w L' j)
    rw [pieces_len] at el
    have f1 : List.take j (strC (pieces w L' j)) = strC (pieces w L' j) := List.take_of_length_le (by omega)
    by_cases hj : j < L'.length
    · obtain ⟨q1, q2, q3⟩ := hcut j hj
      have hg := intsC_get hj
      have hp := pieces_succ w L' j
      have hpr := prevI_succ L' j
      simp (disch := omega) only [spar, List.foldl, List.replicate, madeA1, el, f1, hg, hcl, j2', go_sem, wrap64_id, Int.tdiv_eq_ediv_of_nonneg, Int.tmod_eq_emod_of_nonneg]
      repeat' first
        | ((first | refine fnQ_pure1 ?_ ?_ | refine fnQ_pure0 ?_ ?_); (next => repeat' first | exact rvs_n | refine rvs_t ?_ | (simp [go_sem]; done)); simp only [go_sem]; (first | exact VLe.refl _ | refine VLe_int ?_ | refine VLe_bool ?_ | refine VLe_str ?_ | skip))
        | (with_reducible refine And.intro ?_ ?_)
        | with_reducible intro _
      all_goals first
        | omega
        | (rename_i hx; revert hx; simp; done)
        | (simp; done)
        | skip
      rw [strC_snoc2, show List.take ((L'.getD j 0).toNat - (prevI L' j).toNat) (List.drop (prevI L' j).toNat w) = piece w L' j from rfl, ← hp, ← hpr]
      refine hK _ _ (j + 1, v + 1, .mem (verOf (some O) + 1) 9 [.str (piece w L' j)]) ⟨by simp only; omega, rfl⟩ (by simp only; omega) (Wk.temps ?_)
      (simp only [spar, List.foldl, List.replicate, go_sem, VLes_nil, VLes_cons, VLe_undef_iff, VLe_self]; try (repeat' first | (with_reducible refine And.intro ?_ ?_) | (refine VLe_int ?_; omega) | (refine VLe_bool ?_; rfl) | exact VLe.refl _))
    · have e : j = L'.length := by omega
      subst e
      have hsl := @slOf_strs v 5 (pieces w L' L'.length) (fun k => decide (h.length ≤ k)) (h ++ [.emp 1, ownO v 9 (strC (pieces w L' L'.length)), .mem 1 3 (intsC L'), .mem 1 3 (intsC L'), O, .emp 0, .emp 0])
      rw [pieces_len] at hsl
      simp (disch := omega) only [spar, List.foldl, List.replicate, madeA1, hcl, go_sem, wrap64_id, Int.tdiv_eq_ediv_of_nonneg, Int.tmod_eq_emod_of_nonneg]
      repeat' first
        | ((first | refine fnQ_pure1 ?_ ?_ | refine fnQ_pure0 ?_ ?_); (next => repeat' first | exact rvs_n | refine rvs_t ?_ | (simp [go_sem]; done)); simp only [go_sem]; (first | exact VLe.refl _ | refine VLe_int ?_ | refine VLe_bool ?_ | refine VLe_str ?_ | skip))
        | (with_reducible refine And.intro ?_ ?_)
        | with_reducible intro _
      all_goals first
        | omega
        | (rename_i hx; revert hx; simp; done)
        | (simp; done)
        | skip
      exact VLe_tup ⟨hsl, VLe.refl _, trivial⟩
  · have hl0 : L.length ≠ 0 := fun e => h0 (List.eq_nil_of_length_eq_zero e)
    have el0 := intsC_len L
    have et0 : List.take L.length (intsC L) = intsC L := List.take_of_length_le (by omega)
    obtain ⟨L', hLL⟩ : ∃ L', L' = L ++ [(w.length : Int)] := ⟨_, rfl⟩
    have hcs : intsC L ++ [AV.int .i64 (w.length : Int)] = intsC L' := by rw [hLL, intsC_snoc]
    have hln : L.length + 1 = L'.length := by rw [hLL]; simp
    rw [← hLL] at hcut ⊢
    refine acalls_of fn30e (by simp) ?_
    simp only [List.length_cons, List.length_nil, Nat.reduceAdd, Nat.reduceSub, List.replicate, List.cons_append, List.nil_append, List.append_nil]
    simp (disch := omega) only [c30e, madeA1, go_sem, wrap64_id, Int.tdiv_eq_ediv_of_nonneg, Int.tmod_eq_emod_of_nonneg]
    repeat' first
      | ((first | refine callA_pure (c112 _) ?_ ?_); (next => repeat' first | exact flags_n | refine flags_c (by first | rfl | assumption) ?_); simp (disch := omega) only [madeA1, go_sem, wrap64_id, Int.tdiv_eq_ediv_of_nonneg, Int.tmod_eq_emod_of_nonneg])
      | ((first | refine callG_pure (fun e => ⟨?_, c112 _⟩) ?_); (next => repeat' first | exact flags_n | refine flags_c (by first | rfl | assumption) ?_); simp (disch := omega) only [madeA1, go_sem, wrap64_id, Int.tdiv_eq_ediv_of_nonneg, Int.tmod_eq_emod_of_nonneg])
      | ((first | refine fnQ_pure1 ?_ ?_ | refine fnQ_pure0 ?_ ?_); (next => repeat' first | exact rvs_n | refine rvs_t ?_ | (simp [go_sem]; done)); simp only [go_sem]; (first | exact VLe.refl _ | refine VLe_int ?_ | refine VLe_bool ?_ | refine VLe_str ?_ | skip))
      | (with_reducible refine And.intro ?_ ?_)
      | with_reducible intro _
    all_goals first
      | omega
      | (rename_i hx; revert hx; simp; done)
      | (simp; done)
      | skip
    refine callA_eff (c113m _ (h.length + 6) (by simp only [go_sem]) h0) ⟨rfl, rfl, trivial⟩ ?_
    simp (disch := omega) only [madeA1, el0, et0, hcs, hln, go_sem, wrap64_id, Int.tdiv_eq_ediv_of_nonneg, Int.tmod_eq_emod_of_nonneg]
    repeat' first
      | ((first | refine fnQ_pure1 ?_ ?_ | refine fnQ_pure0 ?_ ?_); (next => repeat' first | exact rvs_n | refine rvs_t ?_ | (simp [go_sem]; done)); simp only [go_sem]; (first | exact VLe.refl _ | refine VLe_int ?_ | refine VLe_bool ?_ | refine VLe_str ?_ | skip))
      | (with_reducible refine And.intro ?_ ?_)
      | with_reducible intro _
    all_goals first
      | omega
      | (rename_i hx; revert hx; simp; done)
      | (simp; done)
      | skip
    have hcl := intsC_len L'
    refine loop_of (T := fun j : Nat × Nat × AObj => spar 45 [(1, .str w), (9, .osl (h.length + 1) j.2.1 1 0 j.1), (10, .int .i64 (prevI L' j.1)), (29, .osl (h.length + 6) 2 1 0 L'.length), (30, .int .i64 L'.length), (31, .int .i64 j.1)])
      (H := fun j => h ++ [.emp 1, ownO j.2.1 9 (strC (pieces w L' j.1)), .mem 1 3 [.int .i64 w.length], .emp 0, j.2.2, .emp 0, .mem 2 3 (intsC L')])
      (inv := fun j => j.1 ≤ L'.length ∧ site [j.2.2] 0 = true) (m := fun j => L'.length - j.1) (0, 1, .emp 0) ⟨by simp, rfl⟩ (Wk.temps ?_) ?_
    · simp only [prevI_zero]
      (simp only [spar, List.foldl, List.replicate, go_sem, VLes_nil, VLes_cons, VLe_undef_iff, VLe_self]; try (repeat' first | (with_reducible refine And.intro ?_ ?_) | (refine VLe_int ?_; omega) | (refine VLe_bool ?_; rfl) | exact VLe.refl _))
    rintro ⟨j, v, O⟩ ⟨j1, j2⟩ K hK
    simp only at j1 j2 hK
    have j2' : ∀ m, site (O :: m) 0 = true := fun _ => j2
    have el := strC_len (pieces w L' j)
    rw [pieces_len] at el
    have f1 : List.take j (strC (pieces w L' j)) = strC (pieces w L' j) := List.take_of_length_le (by omega)
    by_cases hj : j < L'.length
    · obtain ⟨q1, q2, q3⟩ := hcut j hj
      have hg := intsC_get hj
      have hp := pieces_succ w L' j
      have hpr := prevI_succ L' j
      simp (disch := omega) only [spar, List.foldl, List.replicate, madeA1, el, f1, hg, hcl, j2', go_sem, wrap64_id, Int.tdiv_eq_ediv_of_nonneg, Int.tmod_eq_emod_of_nonneg]
      repeat' first
        | ((first | refine fnQ_pure1 ?_ ?_ | refine fnQ_pure0 ?_ ?_); (next => repeat' first | exact rvs_n | refine rvs_t ?_ | (simp [go_sem]; done)); simp only [go_sem]; (first | exact VLe.refl _ | refine VLe_int ?_ | refine VLe_bool ?_ | refine VLe_str ?_ | skip))
        | (with_reducible refine And.intro ?_ ?_)
        | with_reducible intro _
      all_goals first
        | omega
        | (rename_i hx; revert hx; simp; done)
        | (simp; done)
        | skip
      rw [strC_snoc2, show List.take ((L'.getD j 0).toNat - (prevI L' j).toNat) (List.drop (prevI L' j).toNat w) = piece w L' j from rfl, ← hp, ← hpr]
      refine hK _ _ (j + 1, v + 1, .mem (verOf (some O) + 1) 9 [.str (piece w L' j)]) ⟨by simp only; omega, rfl⟩ (by simp only; omega) (Wk.temps ?_)
      (simp only [spar, List.foldl, List.replicate, go_sem, VLes_nil, VLes_cons, VLe_undef_iff, VLe_self]; try (repeat' first | (with_reducible refine And.intro ?_ ?_) | (refine VLe_int ?_; omega) | (refine VLe_bool ?_; rfl) | exact VLe.refl _))
    · have e : j = L'.length := by omega
      subst e
      have hsl := @slOf_strs v 5 (pieces w L' L'.length) (fun k => decide (h.length ≤ k)) (h ++ [.emp 1, ownO v 9 (strC (pieces w L' L'.length)), .mem 1 3 [.int .i64 w.length], .emp 0, O, .emp 0, .mem 2 3 (intsC L')])
      rw [pieces_len] at hsl
      simp (disch := omega) only [spar, List.foldl, List.replicate, madeA1, hcl, go_sem, wrap64_id, Int.tdiv_eq_ediv_of_nonneg, Int.tmod_eq_emod_of_nonneg]
      repeat' first
        | ((first | refine fnQ_pure1 ?_ ?_ | refine fnQ_pure0 ?_ ?_); (next => repeat' first | exact rvs_n | refine rvs_t ?_ | (simp [go_sem]; done)); simp only [go_sem]; (first | exact VLe.refl _ | refine VLe_int ?_ | refine VLe_bool ?_ | refine VLe_str ?_ | skip))
        | (with_reducible refine And.intro ?_ ?_)
        | with_reducible intro _
      all_goals first
        | omega
        | (rename_i hx; revert hx; simp; done)
        | (simp; done)
        | skip
      exact VLe_tup ⟨hsl, VLe.refl _, trivial⟩
end HY
end

section
set_option linter.all false
set_option linter.unusedSimpArgs false
set_option linter.unusedVariables false
set_option linter.unusedSectionVars false
open Go Go.Proofs AF HY
namespace HY
set_option maxRecDepth 100000
def exQ : List Pat := exP ++ [⟨[100, 101], [0, 3, 0]⟩]
def wX : List UInt8 := [120, 97, 98, 99, 100, 101]
def wC : List UInt8 := [99, 100, 101]
def txt : List UInt8 := [97, 49, 98, 32, 46, 99, 50, 100, 51, 101, 46]
theorem a_parse : parseB txt = exP := by decide +kernel
theorem a_check : checkPats exP = 0 := by decide +kernel
instance (s : List UInt8) : Decidable (okPart s) := by unfold okPart; infer_instance
theorem a_part : ∀ x ∈ splitL 32 txt, okPart x := by decide +kernel
theorem a_lv : levelsR exQ wX = [0, 1, 0, 0, 3] := by decide +kernel
theorem a_st : startE exQ wX = 0 ∧ startE exP wX = 0 ∧ startE exP wC = 0 := by decide +kernel
theorem a_sp : splitR exP wX = [[120, 97], [98, 99, 100, 101]] := by decide +kernel
theorem a_lc : levelsR exP wC = [2, 3] := by decide +kernel
theorem a_pc : pointsR exP wC = [] := by decide +kernel
theorem ok_of_small {ps : List Pat} (h : ps.length ≤ 8 ∧ ∀ p ∈ ps, p.letters.length ≤ 100 ∧ p.levels.length ≤ 100) : okPats ps := by
  refine ⟨by omega, fun i hi => ?_⟩
  have := h.2 _ (List.getElem_mem hi)
  rw [List.getD_eq_getElem?_getD, List.getElem?_eq_getElem hi]
  simp
  omega
theorem ok_exP : okPats exP := ok_of_small (by decide +kernel)
theorem ok_exQ : okPats exQ := ok_of_small (by decide +kernel)
end HY
end

section
set_option linter.all false
set_option linter.unusedSimpArgs false
set_option linter.unusedVariables false
set_option linter.unusedSectionVars false
open Go Go.Proofs AF HY
namespace HY
set_option maxRecDepth 100000
theorem u21x (h : List AObj) : ACalls Tryd.prog 21 [.str txt] h (.tup [patsV exP, .int .i64 0]) h := by
  have := u21 txt h (by decide) (by decide) a_part (by rw [a_parse]; exact a_check)
  rwa [a_parse] at this
theorem u14q (h : List AObj) : ACalls Tryd.prog 14 [patsV exP, .str wC] h (.tup [intsV [2, 3], .int .i64 0]) h := by
  have := u14 exP wC h ok_exP (by decide)
  rwa [a_lc, a_st.2.2] at this
theorem u19q (h : List AObj) : ACalls Tryd.prog 19 [patsV exP, .str wC] h (.tup [.nl, .int .i64 0]) h := by
  have := t89 exP wC h ok_exP (by decide)
  rwa [a_pc, a_st.2.2, intsN_nil] at this
theorem u30q (h : List AObj) : ACalls Tryd.prog 30 [patsV exP, .str wX] h (.tup [strs [[120, 97], [98, 99, 100, 101]], .int .i64 0]) h := by
  have := u30 exP wX h ok_exP (by decide)
  rwa [a_sp, a_st.2.1] at this
theorem vleQ {h : List AObj} {r : AV → AV} (hs : ∀ s, r (.str s) = .str s) (hv : ∀ l, r (intsV l) = intsV l) (ho : ILe (r (.osl h.length 1 1 0 3)) (intsV [0, 3, 0])) :
    VLe (.sl 3 fun i => List.map r (List.take 2 (List.drop (i * 2) (patsC exP ++ [.str [100, 101], .osl h.length 1 1 0 3])))) (patsV exQ) := by
  refine VLe.sl (fun i hi => ?_)
  obtain rfl | rfl | rfl : i = 0 ∨ i = 1 ∨ i = 2 := by omega
  · show ILes [r (.str _), r (intsV _)] [.str _, intsV _]
    rw [hs, hv]
    exact ILes.refl _
  · show ILes [r (.str _), r (intsV _)] [.str _, intsV _]
    rw [hs, hv]
    exact ILes.refl _
  · show ILes [r (.str _), r (.osl h.length 1 1 0 3)] [.str _, intsV _]
    rw [hs]
    exact ⟨ILe.refl _, ho, trivial⟩
def hpQ (h : List AObj) : List AObj := h ++ [AObj.mem 1 3 [AV.int IntKind.i64 0, AV.int IntKind.i64 3, AV.int IntKind.i64 0],
        AObj.mem 1 32 [AV.str [100, 101], AV.osl h.length 1 1 0 3], AObj.emp 0, AObj.emp 0, AObj.emp 0, AObj.emp 0,
        AObj.mem 2 32 (patsC exP ++ [AV.str [100, 101], AV.osl h.length 1 1 0 3])]
theorem give {P : Program} {f : FuncId} {args : List AV} {h h' : List AObj} {r : AV} (ks : List Nat) (hs : sitesOk ks h = true) (hc : ACalls P f (args.map (frz (fun k => ks.contains k) h 8)) (killO ks h) r h') : ACalls P f args h r h' := by
  refine ⟨hc.1, fun w σ xs H hv => ?_⟩
  obtain ⟨σ', g1, g2, g3, g4⟩ := kill_spec ks H hs
  refine (hc.2 w σ' xs g1 ⟨by rw [hv.1]; simp, fun i c x hcc hx => ?_⟩).mono ?_
  · rw [List.getElem?_map, Option.map_eq_some_iff] at hcc
    obtain ⟨c0, hcc, rfl⟩ := hcc
    exact frz_vr H (fun b hb => (g4 b hb).elim fun j ⟨o, h1, h2, h3⟩ => ⟨j, o, by simpa using h1, h2, h3⟩) (fun j o hj ho => g3 j o (by simpa using hj) ho) 8 (hv.2 i c0 x hcc hx)
  · rintro e w' ⟨v, σ2, rfl, k1, k2, k3⟩
    exact ⟨v, σ2, rfl, k1, k2, g2.trans k3⟩
theorem mm5 : valP (.mm true) [.int .i64 0, .int .i64 0, .int .i64 0, .int .i64 0, .int .i64 0] = .int .i64 0 := rfl
theorem okmm5 : okP (.mm true) [.int .i64 0, .int .i64 0, .int .i64 0, .int .i64 0, .int .i64 0] = True := by simp [okP, intC]
theorem u17o (L M : List Int) (k v : Nat) (h : List AObj) (hk : getO k h = some (ownO v 3 (intsC M))) (hl : L.length ≤ 1000000) : ACalls Tryd.prog 17 [intsV L, .osl k v 1 0 M.length] h (.bool (decide (L = M))) h := by
  refine ACalls.borrow ?_ rfl
  refine ACalls.le (u17v L M [] (by omega)) ?_ (VLe.refl _)
  simp only [List.map_cons, List.map_nil, rei_osl, if_true, hk]
  exact VLes2 (VLe.refl _) (VLes2 slOf_ints VLes.nil)
theorem u34o (L M : List (List UInt8)) (k v : Nat) (h : List AObj) (hk : getO k h = some (ownO v 9 (strC M))) (hl : L.length ≤ 1000000) : ACalls Tryd.prog 34 [strs L, .osl k v 1 0 M.length] h (.bool (eqS L.length M.length (fun i => L.getD i []) (fun i => M.getD i []))) h := by
  refine ACalls.borrow ?_ rfl
  refine ACalls.le (t143 L.length M.length (fun i => L.getD i []) (fun i => M.getD i []) [] (by omega)) ?_ (VLe.refl _)
  simp only [List.map_cons, List.map_nil, rei_osl, if_true, hk]
  exact VLes2 (VLe.refl _) (VLes2 slOf_strs VLes.nil)
theorem e5 : decide ([0, 1, 0, 0, 3] = ([0, 1, 0, 0, 3] : List Int)) = true := by decide
theorem e2 : decide ([2, 3] = ([2, 3] : List Int)) = true := by decide
theorem eS : eqS ([[120, 97], [98, 99, 100, 101]] : List (List UInt8)).length ([[120, 97], [98, 99, 100, 101]] : List (List UInt8)).length (fun i => ([[120, 97], [98, 99, 100, 101]] : List (List UInt8)).getD i []) (fun i => ([[120, 97], [98, 99, 100, 101]] : List (List UInt8)).getD i []) = true := by decide
theorem u17x (h : List AObj) (k : Nat) (hk : getO k h = some (.mem 1 3 [.int .i64 0, .int .i64 1, .int .i64 0, .int .i64 0, .int .i64 3])) : ACalls Tryd.prog 17 [intsV [0, 1, 0, 0, 3], .osl k 1 1 0 5] h (.bool true) h := by
  have := u17o [0, 1, 0, 0, 3] [0, 1, 0, 0, 3] k 1 h (by rw [hk]; rfl) (by decide)
  rwa [e5] at this
theorem u17y (h : List AObj) (k : Nat) (hk : getO k h = some (.mem 1 3 [.int .i64 2, .int .i64 3])) : ACalls Tryd.prog 17 [intsV [2, 3], .osl k 1 1 0 2] h (.bool true) h := by
  have := u17o [2, 3] [2, 3] k 1 h (by rw [hk]; rfl) (by decide)
  rwa [e2] at this
theorem u34x (h : List AObj) (k : Nat) (hk : getO k h = some (.mem 1 9 [.str [120, 97], .str [98, 99, 100, 101]])) : ACalls Tryd.prog 34 [strs [[120, 97], [98, 99, 100, 101]], .osl k 1 1 0 2] h (.bool true) h := by
  have := u34o [[120, 97], [98, 99, 100, 101]] [[120, 97], [98, 99, 100, 101]] k 1 h (by rw [hk]; rfl) (by decide)
  rwa [eS] at this
def hpK (h : List AObj) : List AObj := h ++ [AObj.emp 2,
        AObj.mem 1 32 [AV.str [100, 101], AV.osl h.length 1 1 0 3], AObj.emp 0, AObj.emp 0, AObj.emp 0, AObj.emp 0,
        AObj.emp 3]
theorem getO0 {h : List AObj} {o : AObj} {l : List AObj} : getO h.length (h ++ o :: l) = some o := by simp [getO]
theorem u14x (h : List AObj) : ACalls Tryd.prog 14 [.osl (h.length + 6) 2 2 0 3, .str wX] (hpQ h) (.tup [intsV [0, 1, 0, 0, 3], .int .i64 0]) (hpK h) := by
  refine give [h.length + 6, h.length] ?_ ?_
  · unfold hpQ sitesOk sitesOk sitesOk
    simp (disch := omega) only [getO0, go_sem, wrap64_id, Int.tdiv_eq_ediv_of_nonneg, Int.tmod_eq_emod_of_nonneg]
  have hk : killO [h.length + 6, h.length] (hpQ h) = hpK h := by
    unfold hpQ hpK killO killO killO
    simp (disch := omega) only [getO0, go_sem, wrap64_id, Int.tdiv_eq_ediv_of_nonneg, Int.tmod_eq_emod_of_nonneg]
  rw [hk]
  have hx := u14 exQ wX (hpK h) ok_exQ (by decide)
  rw [a_lv, a_st.1] at hx
  refine ACalls.le hx ?_ (VLe.refl _)
  unfold hpQ
  simp only [List.map_cons, List.map_nil]
  refine VLes2 ?_ (VLes2 (VLe.refl _) VLes.nil)
  have hc1 : [h.length + 6, h.length].contains (h.length + 6) = true := by simp
  have hc2 : [h.length + 6, h.length].contains h.length = true := by simp
  simp (disch := omega) only [frz_osl, rei_osl, go_sem, wrap64_id, Int.tdiv_eq_ediv_of_nonneg, Int.tmod_eq_emod_of_nonneg]
  rw [if_pos hc1, if_pos hc1, if_pos (show 6 ≤ (patsC exP ++ [AV.str [100, 101], AV.osl h.length 1 1 0 3]).length from Nat.le_refl 6)]
  refine vleQ (fun s => rei_str) (fun l => rei_intsV l) ?_
  simp (disch := omega) only [rei_osl, getO0, go_sem, wrap64_id, Int.tdiv_eq_ediv_of_nonneg, Int.tmod_eq_emod_of_nonneg]
  rw [if_pos hc2]
  exact ile3 (fun x => rei_int)
set_option maxHeartbeats 4000000 in
theorem u13 (h : List AObj) : ACalls Tryd.prog 13 [] h (.bool true) h := by
  refine acalls_of fn13e (by simp) ?_
  simp only [List.length_cons, List.length_nil, Nat.reduceAdd, Nat.reduceSub, List.replicate, List.cons_append, List.nil_append, List.append_nil]
  simp (disch := omega) only [c13e, madeA, go_sem, wrap64_id, Int.tdiv_eq_ediv_of_nonneg, Int.tmod_eq_emod_of_nonneg]
  repeat' first
    | ((first | refine callA_pure (u21x _) ?_ ?_); (next => repeat' first | exact flags_n | refine flags_c (by first | rfl | assumption) ?_); simp (disch := omega) only [madeA, go_sem, wrap64_id, Int.tdiv_eq_ediv_of_nonneg, Int.tmod_eq_emod_of_nonneg])
    | ((first | refine callG_pure (fun e => ⟨?_, u21x _⟩) ?_); (next => repeat' first | exact flags_n | refine flags_c (by first | rfl | assumption) ?_); simp (disch := omega) only [madeA, go_sem, wrap64_id, Int.tdiv_eq_ediv_of_nonneg, Int.tmod_eq_emod_of_nonneg])
    | ((first | refine fnQ_pure1 ?_ ?_ | refine fnQ_pure0 ?_ ?_); (next => repeat' first | exact rvs_n | refine rvs_t ?_ | (simp [go_sem]; done)); simp only [go_sem]; (first | exact VLe.refl _ | refine VLe_int ?_ | refine VLe_bool ?_ | refine VLe_str ?_ | skip))
    | (with_reducible refine And.intro ?_ ?_)
    | with_reducible intro _
  all_goals first
    | omega
    | (rename_i hx; revert hx; simp; done)
    | (simp; done)
    | skip
  have eX : (patsC exP).length = 4 := rfl
  have eT : List.take 4 (patsC exP) = patsC exP := rfl
  refine callA_eff (u39m _ (h.length + 6) (by simp only [go_sem])) trivial ?_
  simp (disch := omega) only [madeA, eX, eT, go_sem, wrap64_id, Int.tdiv_eq_ediv_of_nonneg, Int.tmod_eq_emod_of_nonneg]
  repeat' first
    | ((first | refine fnQ_pure1 ?_ ?_ | refine fnQ_pure0 ?_ ?_); (next => repeat' first | exact rvs_n | refine rvs_t ?_ | (simp [go_sem]; done)); simp only [go_sem]; (first | exact VLe.refl _ | refine VLe_int ?_ | refine VLe_bool ?_ | refine VLe_str ?_ | skip))
    | (with_reducible refine And.intro ?_ ?_)
    | with_reducible intro _
  all_goals first
    | omega
    | (rename_i hx; revert hx; simp; done)
    | (simp; done)
    | skip
  refine callA_eff (u14x h) ⟨rfl, rfl, trivial⟩ ?_
  unfold hpK
  have c27 := fun h => u27 exP exP h ok_exP
  rw [decide_eq_true rfl] at c27
  have k5 : decide ([0, 1, 0, 0, 3] = ([0, 1, 0, 0, 3] : List Int)) = true := by decide
  simp (disch := omega) only [madeA, mm5, okmm5, go_sem, wrap64_id, Int.tdiv_eq_ediv_of_nonneg, Int.tmod_eq_emod_of_nonneg]
  repeat' first
    | ((first | refine callA_pure (u39 _) ?_ ?_ | refine callA_pure (u30q _) ?_ ?_ | refine callA_pure (u14q _) ?_ ?_ | refine callA_pure (u19q _) ?_ ?_ | refine callA_pure (c27 _) ?_ ?_ | refine callA_pure (u17x _ _ (by simp only [go_sem])) ?_ ?_ | refine callA_pure (u34x _ _ (by simp only [go_sem])) ?_ ?_ | refine callA_pure (u17y _ _ (by simp only [go_sem])) ?_ ?_); (next => repeat' first | exact flags_n | refine flags_c (by first | rfl | assumption) ?_); simp (disch := omega) only [madeA, mm5, okmm5, go_sem, wrap64_id, Int.tdiv_eq_ediv_of_nonneg, Int.tmod_eq_emod_of_nonneg])
    | ((first | refine callG_pure (fun e => ⟨?_, u39 _⟩) ?_ | refine callG_pure (fun e => ⟨?_, u30q _⟩) ?_ | refine callG_pure (fun e => ⟨?_, u14q _⟩) ?_ | refine callG_pure (fun e => ⟨?_, u19q _⟩) ?_ | refine callG_pure (fun e => ⟨?_, c27 _⟩) ?_ | refine callG_pure (fun e => ⟨?_, u17x _ _ (by simp only [go_sem])⟩) ?_ | refine callG_pure (fun e => ⟨?_, u34x _ _ (by simp only [go_sem])⟩) ?_ | refine callG_pure (fun e => ⟨?_, u17y _ _ (by simp only [go_sem])⟩) ?_); (next => repeat' first | exact flags_n | refine flags_c (by first | rfl | assumption) ?_); simp (disch := omega) only [madeA, mm5, okmm5, go_sem, wrap64_id, Int.tdiv_eq_ediv_of_nonneg, Int.tmod_eq_emod_of_nonneg])
    | ((first | refine fnQ_pure1 ?_ ?_ | refine fnQ_pure0 ?_ ?_); (next => repeat' first | exact rvs_n | refine rvs_t ?_ | (simp [go_sem]; done)); simp only [go_sem]; (first | exact VLe.refl _ | refine VLe_int ?_ | refine VLe_bool ?_ | refine VLe_str ?_ | skip))
    | (with_reducible refine And.intro ?_ ?_)
    | with_reducible intro _
  all_goals first
    | omega
    | (rename_i hx; revert hx; simp; done)
    | (simp; done)
    | skip
end HY
end

section
set_option linter.all false
set_option linter.unusedSimpArgs false
set_option linter.unusedVariables false
set_option linter.unusedSectionVars false
open Go Go.Proofs AF HY
namespace HY
set_option maxRecDepth 100000
def MaxLike (N : Nat) (T : List Int → List Int) (c : Nat → Int) : Prop := (∀ i, 0 ≤ c i ∧ c i ≤ 9) ∧ ∀ all, all.length = N → (∀ i, i < N → 0 ≤ all.getD i 0) → (T all).length = N ∧ ∀ i, i < N → (T all).getD i 0 = max (all.getD i 0) (c i)
theorem MaxLike.id (N : Nat) : MaxLike N (fun a => a) (fun _ => 0) := ⟨fun _ => by dsimp only; omega, fun all hl h0 => ⟨hl, fun i hi => by have := h0 i hi; dsimp only; omega⟩⟩
theorem MaxLike.comp {N : Nat} {T U : List Int → List Int} {c d : Nat → Int} (hT : MaxLike N T c) (hU : MaxLike N U d) : MaxLike N (fun a => U (T a)) (fun i => max (c i) (d i)) := by
  refine ⟨fun i => by have := hT.1 i; have := hU.1 i; dsimp only; omega, fun all hl h0 => ?_⟩
  obtain ⟨t1, t2⟩ := hT.2 all hl h0
  obtain ⟨u1, u2⟩ := hU.2 (T all) t1 (fun i hi => by rw [t2 i hi]; have := h0 i hi; omega)
  exact ⟨u1, fun i hi => by rw [u2 i hi, t2 i hi]; dsimp only; omega⟩
theorem getD_set (l : List Int) (a i : Nat) (x : Int) : (l.set a x).getD i 0 = if a = i ∧ i < l.length then x else l.getD i 0 := by
  rw [List.getD_eq_getElem?_getD, List.getD_eq_getElem?_getD, List.getElem?_set]
  by_cases e : a = i
  · subst e
    by_cases h : a < l.length
    · simp [h]
    · simp [h]
  · simp [e]
theorem MaxLike.set (N a : Nat) {x : Int} (h0 : 0 ≤ x) (h9 : x ≤ 9) : MaxLike N (fun all => all.set a (max (all.getD a 0) x)) (fun i => if a = i then x else 0) := by
  refine ⟨fun i => by dsimp only; split <;> omega, fun all hl hn => ⟨by simp [hl], fun i hi => ?_⟩⟩
  rw [getD_set]
  have := hn i hi
  by_cases e : a = i
  · subst e; rw [if_pos ⟨rfl, by omega⟩]; dsimp only; rw [if_pos rfl]
  · rw [if_neg (fun h => e h.1)]; dsimp only; rw [if_neg e]; omega
def okLev (r : List Int) : Prop := ∀ x ∈ r, 0 ≤ x ∧ x ≤ 9
theorem MaxLike.addAt {N : Nat} : ∀ (r : List Int) (a : Nat), okLev r → ∃ c, MaxLike N (fun all => addAt all a r) c := by
  intro r
  induction r with
  | nil => intro a _; exact ⟨_, MaxLike.id N⟩
  | cons x r ih =>
    intro a h
    obtain ⟨c, hc⟩ := ih (a + 1) (fun y hy => h y (List.mem_cons_of_mem _ hy))
    obtain ⟨h0, h9⟩ := h x List.mem_cons_self
    exact ⟨_, (MaxLike.set N a h0 h9).comp hc⟩
theorem MaxLike.foldl {α : Type} {N : Nat} {f : List Int → α → List Int} : ∀ (l : List α), (∀ x ∈ l, ∃ c, MaxLike N (fun a => f a x) c) → ∃ c, MaxLike N (fun a => l.foldl f a) c := by
  intro l
  induction l with
  | nil => intro _; exact ⟨_, MaxLike.id N⟩
  | cons x l ih =>
    intro h
    obtain ⟨c, hc⟩ := h x List.mem_cons_self
    obtain ⟨d, hd⟩ := ih (fun y hy => h y (List.mem_cons_of_mem _ hy))
    exact ⟨_, hc.comp hd⟩
def okLevs (ps : List Pat) : Prop := ∀ p ∈ ps, okLev p.levels
theorem MaxLike.pats {N : Nat} (l : List (List UInt8)) (ps : List Pat) (h : okLevs ps) : ∃ c, MaxLike N (fun a => ps.foldl (addPat l) a) c :=
  MaxLike.foldl ps (fun p hp => MaxLike.foldl _ (fun i _ => MaxLike.addAt p.levels i (h p hp)))
theorem zeros_get (N i : Nat) : (List.replicate N (0 : Int)).getD i 0 = 0 := by
  rw [List.getD_eq_getElem?_getD, List.getElem?_replicate]
  split <;> rfl
theorem lev_get (ps : List Pat) (w : List UInt8) {k : Nat} (hk : k < (clus w).length - 1) : (levelsOf ps w).getD k 0 = (allLevels ps (unitsOf w)).getD (k + 2) 0 := by
  have hl := levelsOf_len ps w
  unfold levelsOf at hl ⊢
  rw [List.getD_eq_getElem?_getD, List.getElem?_take, List.getD_eq_getElem?_getD, List.getElem?_drop]
  rw [List.length_take] at hl
  rw [if_pos (by omega), Nat.add_comm 2 k]
theorem all_max (ps qs : List Pat) (l : List (List UInt8)) (hp : okLevs ps) (hq : okLevs qs) {i : Nat} (hi : i < l.length + 1) :
    (allLevels (ps ++ qs) l).getD i 0 = max ((allLevels ps l).getD i 0) ((allLevels qs l).getD i 0) ∧ 0 ≤ (allLevels ps l).getD i 0 ∧ (allLevels ps l).getD i 0 ≤ 9 := by
  obtain ⟨c, hc⟩ := MaxLike.pats (N := l.length + 1) l ps hp
  obtain ⟨d, hd⟩ := MaxLike.pats (N := l.length + 1) l qs hq
  have hz : (List.replicate (l.length + 1) (0 : Int)).length = l.length + 1 := by simp
  have hz0 : ∀ i, i < l.length + 1 → 0 ≤ (List.replicate (l.length + 1) (0 : Int)).getD i 0 := fun i _ => by rw [zeros_get]; omega
  have h1 := (hc.2 _ hz hz0).2 i hi
  have h2 := (hd.2 _ hz hz0).2 i hi
  have h3 := ((hc.comp hd).2 _ hz hz0).2 i hi
  rw [zeros_get] at h1 h2 h3
  have b1 := hc.1 i
  have b2 := hd.1 i
  unfold allLevels
  rw [List.foldl_append]
  simp only at h1 h2 h3
  rw [h1, h2, h3]
  omega
theorem lev_max (ps qs : List Pat) (w : List UInt8) (hp : okLevs ps) (hq : okLevs qs) {k : Nat} (hk : k < (clus w).length - 1) :
    (levelsOf (ps ++ qs) w).getD k 0 = max ((levelsOf ps w).getD k 0) ((levelsOf qs w).getD k 0) ∧ 0 ≤ (levelsOf ps w).getD k 0 ∧ (levelsOf ps w).getD k 0 ≤ 9 := by
  have hu : (unitsOf w).length = (clus w).length + 2 := by simp [unitsOf, clus_fold_len]
  have := all_max ps qs (unitsOf w) hp hq (i := k + 2) (by omega)
  rw [lev_get _ _ hk, lev_get _ _ hk, lev_get _ _ hk]
  exact this
theorem lev_none (w : List UInt8) {k : Nat} (hk : k < (clus w).length - 1) : (levelsOf [] w).getD k 0 = 0 := by
  rw [lev_get _ _ hk]
  exact zeros_get _ _
theorem list_ext {a b : List Int} (hl : a.length = b.length) (h : ∀ k, k < a.length → a.getD k 0 = b.getD k 0) : a = b := by
  apply List.ext_getElem hl
  intro j h1 h2
  have := h j h1
  rwa [List.getD_eq_getElem?_getD, List.getD_eq_getElem?_getD, List.getElem?_eq_getElem h1, List.getElem?_eq_getElem h2] at this
theorem lev_comm (ps qs : List Pat) (w : List UInt8) (hp : okLevs ps) (hq : okLevs qs) : levelsOf (ps ++ qs) w = levelsOf (qs ++ ps) w := by
  refine list_ext (by rw [levelsOf_len, levelsOf_len]) (fun k hk => ?_)
  rw [levelsOf_len] at hk
  rw [(lev_max ps qs w hp hq hk).1, (lev_max qs ps w hq hp hk).1]
  omega
theorem okLev_check {p : Pat} (h : checkPat p = 0) : okLev p.levels := by
  unfold checkPat at h
  repeat' (split at h; · cases h)
  rename_i h6
  intro x hx
  have : badLev x = false := by
    rw [Bool.eq_false_iff]
    intro hb
    exact h6 (.inl (List.any_eq_true.2 ⟨x, hx, hb⟩))
  unfold badLev at this
  simp at this
  omega
theorem firstE_all {ps : List Pat} (h : firstE ps = 0) : ∀ p ∈ ps, checkPat p = 0 := by
  induction ps with
  | nil => intro p hp; cases hp
  | cons a ps ih =>
    unfold firstE at h
    split at h
    · rename_i h0
      intro p hp
      rcases List.mem_cons.1 hp with rfl | hp
      · exact h0
      · exact ih h p hp
    · rename_i h0; exact absurd h h0
theorem firstE_of {ps : List Pat} (h : ∀ p ∈ ps, checkPat p = 0) : firstE ps = 0 := by
  induction ps with
  | nil => rfl
  | cons a ps ih =>
    unfold firstE
    rw [if_pos (h a List.mem_cons_self)]
    exact ih (fun p hp => h p (List.mem_cons_of_mem _ hp))
theorem check_all {ps : List Pat} (h : checkPats ps = 0) : ∀ p ∈ ps, checkPat p = 0 := by
  unfold checkPats at h
  split at h
  · cases h
  · exact firstE_all h
theorem check_of {ps : List Pat} (hl : ps.length ≤ 4096) (h : ∀ p ∈ ps, checkPat p = 0) : checkPats ps = 0 := by
  unfold checkPats
  rw [if_neg (by omega)]
  exact firstE_of h
structure Fine (ps : List Pat) : Prop where
  len : ps.length ≤ 8
  ok : okPats ps
  check : checkPats ps = 0
  all : ∀ p ∈ ps, checkPat p = 0
  lev : okLevs ps
theorem fine_of {ps : List Pat} (h : fineH ps = true) : Fine ps := by
  unfold fineH at h
  simp only [Bool.and_eq_true, decide_eq_true_eq, Bool.not_eq_true'] at h
  obtain ⟨h1, h2, h3⟩ := h
  have ha := check_all h3
  exact ⟨h1, okPats_great h1 h2, h3, ha, fun p hp => okLev_check (ha p hp)⟩
theorem okPats_app {ps qs : List Pat} (hp : okPats ps) (hq : okPats qs) (hl : ps.length + qs.length ≤ 1000) : okPats (ps ++ qs) := by
  refine ⟨by rw [List.length_append]; omega, fun i hi => ?_⟩
  rw [List.getD_eq_getElem?_getD, List.getElem?_append]
  split
  · rename_i h1
    have := hp.2 i h1
    rwa [List.getD_eq_getElem?_getD] at this
  · rename_i h1
    rw [List.length_append] at hi
    have := hq.2 (i - ps.length) (by omega)
    rwa [List.getD_eq_getElem?_getD] at this
theorem fine_app {ps qs : List Pat} (hp : Fine ps) (hq : Fine qs) : okPats (ps ++ qs) ∧ checkPats (ps ++ qs) = 0 := by
  refine ⟨okPats_app hp.ok hq.ok (by have := hp.len; have := hq.len; omega), check_of (by rw [List.length_append]; have := hp.len; have := hq.len; omega) (fun p h => ?_)⟩
  rcases List.mem_append.1 h with h | h
  · exact hp.all p h
  · exact hq.all p h
end HY
end

section
set_option linter.all false
set_option linter.unusedSimpArgs false
set_option linter.unusedVariables false
set_option linter.unusedSectionVars false
open Go Go.Proofs AF HY
namespace HY
set_option maxRecDepth 100000
theorem cells_patsV (L : List Pat) : (patsV L).cells = [patsV L] := rfl
theorem solid_patsV (L : List Pat) : (patsV L).solid = true := rfl
theorem u14n (w : List UInt8) (h : List AObj) (hw : w.length ≤ 1000000) : ACalls Tryd.prog 14 [.nl, .str w] h (.tup [intsV (levelsR [] w), .int .i64 (startE [] w)]) h :=
  ACalls.le (u14 [] w h ⟨by simp, fun i hi => by simp at hi⟩ hw) (VLes2 VLe_nl (VLes2 (VLe.refl _) VLes.nil)) (VLe.refl _)
theorem start_fine {ps : List Pat} {w : List UInt8} (h : checkPats ps = 0) (hw : isWord w = true) : startE ps w = 0 := by unfold startE; rw [if_pos h, if_pos hw]
theorem levR_fine {ps : List Pat} {w : List UInt8} (h : startE ps w = 0) : levelsR ps w = levelsOf ps w := by unfold levelsR; rw [if_pos h]
set_option maxHeartbeats 16000000 in
theorem u3 (p q : List Pat) (w : List UInt8) (h : List AObj) (hp : p.length ≤ 9223372036854775807) (hq : q.length ≤ 9223372036854775807) : ACalls Tryd.prog 3 [patsV p, patsV q, .str w] h (.bool true) h := by
  have c11p := fun h => u11 p h hp
  have c11q := fun h => u11 q h hq
  have c12 := fun h => u12 w h
  cases hfp : fineH p with
  | false =>
    rw [hfp] at c11p
    refine acalls_of fn3d (by simp) ?_
    simp only [List.length_cons, List.length_nil, Nat.reduceAdd, Nat.reduceSub, List.replicate, List.cons_append, List.nil_append, List.append_nil]
    simp (disch := omega) only [c3d, go_sem, wrap64_id, Int.tdiv_eq_ediv_of_nonneg, Int.tmod_eq_emod_of_nonneg]
    repeat' first
      | (refine callG_false ((.bool false)) ?_; simp (disch := omega) only [go_sem, wrap64_id, Int.tdiv_eq_ediv_of_nonneg, Int.tmod_eq_emod_of_nonneg])
      | ((first | refine callA_pure (c11p _) ?_ ?_ | refine callA_pure (u13 _) ?_ ?_); (next => repeat' first | exact flags_n | refine flags_c (by first | rfl | assumption) ?_); simp (disch := omega) only [go_sem, wrap64_id, Int.tdiv_eq_ediv_of_nonneg, Int.tmod_eq_emod_of_nonneg])
      | ((first | refine callG_pure (fun e => ⟨?_, c11p _⟩) ?_ | refine callG_pure (fun e => ⟨?_, u13 _⟩) ?_); (next => repeat' first | exact flags_n | refine flags_c (by first | rfl | assumption) ?_); simp (disch := omega) only [go_sem, wrap64_id, Int.tdiv_eq_ediv_of_nonneg, Int.tmod_eq_emod_of_nonneg])
      | ((first | refine fnQ_pure1 ?_ ?_ | refine fnQ_pure0 ?_ ?_); (next => repeat' first | exact rvs_n | refine rvs_t ?_ | (simp [go_sem]; done)); simp only [go_sem]; (first | exact VLe.refl _ | refine VLe_int ?_ | refine VLe_bool ?_ | refine VLe_str ?_ | skip))
      | (with_reducible refine And.intro ?_ ?_)
      | with_reducible intro _
    all_goals first
      | omega
      | (rename_i hx; revert hx; simp; done)
      | (simp; done)
      | skip
  | true =>
  rw [hfp] at c11p
  cases hfq : fineH q with
  | false =>
    rw [hfq] at c11q
    refine acalls_of fn3d (by simp) ?_
    simp only [List.length_cons, List.length_nil, Nat.reduceAdd, Nat.reduceSub, List.replicate, List.cons_append, List.nil_append, List.append_nil]
    simp (disch := omega) only [c3d, go_sem, wrap64_id, Int.tdiv_eq_ediv_of_nonneg, Int.tmod_eq_emod_of_nonneg]
    repeat' first
      | (refine callG_false ((.bool false)) ?_; simp (disch := omega) only [go_sem, wrap64_id, Int.tdiv_eq_ediv_of_nonneg, Int.tmod_eq_emod_of_nonneg])
      | ((first | refine callA_pure (c11p _) ?_ ?_ | refine callA_pure (c11q _) ?_ ?_ | refine callA_pure (u13 _) ?_ ?_); (next => repeat' first | exact flags_n | refine flags_c (by first | rfl | assumption) ?_); simp (disch := omega) only [go_sem, wrap64_id, Int.tdiv_eq_ediv_of_nonneg, Int.tmod_eq_emod_of_nonneg])
      | ((first | refine callG_pure (fun e => ⟨?_, c11p _⟩) ?_ | refine callG_pure (fun e => ⟨?_, c11q _⟩) ?_ | refine callG_pure (fun e => ⟨?_, u13 _⟩) ?_); (next => repeat' first | exact flags_n | refine flags_c (by first | rfl | assumption) ?_); simp (disch := omega) only [go_sem, wrap64_id, Int.tdiv_eq_ediv_of_nonneg, Int.tmod_eq_emod_of_nonneg])
      | ((first | refine fnQ_pure1 ?_ ?_ | refine fnQ_pure0 ?_ ?_); (next => repeat' first | exact rvs_n | refine rvs_t ?_ | (simp [go_sem]; done)); simp only [go_sem]; (first | exact VLe.refl _ | refine VLe_int ?_ | refine VLe_bool ?_ | refine VLe_str ?_ | skip))
      | (with_reducible refine And.intro ?_ ?_)
      | with_reducible intro _
    all_goals first
      | omega
      | (rename_i hx; revert hx; simp; done)
      | (simp; done)
      | skip
  | true =>
  rw [hfq] at c11q
  cases hfw : wordH w with
  | false =>
    rw [hfw] at c12
    refine acalls_of fn3d (by simp) ?_
    simp only [List.length_cons, List.length_nil, Nat.reduceAdd, Nat.reduceSub, List.replicate, List.cons_append, List.nil_append, List.append_nil]
    simp (disch := omega) only [c3d, go_sem, wrap64_id, Int.tdiv_eq_ediv_of_nonneg, Int.tmod_eq_emod_of_nonneg]
    repeat' first
      | ((first | refine callA_pure (c11p _) ?_ ?_ | refine callA_pure (c11q _) ?_ ?_ | refine callA_pure (c12 _) ?_ ?_ | refine callA_pure (u13 _) ?_ ?_); (next => repeat' first | exact flags_n | refine flags_c (by first | rfl | assumption) ?_); simp (disch := omega) only [go_sem, wrap64_id, Int.tdiv_eq_ediv_of_nonneg, Int.tmod_eq_emod_of_nonneg])
      | ((first | refine callG_pure (fun e => ⟨?_, c11p _⟩) ?_ | refine callG_pure (fun e => ⟨?_, c11q _⟩) ?_ | refine callG_pure (fun e => ⟨?_, c12 _⟩) ?_ | refine callG_pure (fun e => ⟨?_, u13 _⟩) ?_); (next => repeat' first | exact flags_n | refine flags_c (by first | rfl | assumption) ?_); simp (disch := omega) only [go_sem, wrap64_id, Int.tdiv_eq_ediv_of_nonneg, Int.tmod_eq_emod_of_nonneg])
      | ((first | refine fnQ_pure1 ?_ ?_ | refine fnQ_pure0 ?_ ?_); (next => repeat' first | exact rvs_n | refine rvs_t ?_ | (simp [go_sem]; done)); simp only [go_sem]; (first | exact VLe.refl _ | refine VLe_int ?_ | refine VLe_bool ?_ | refine VLe_str ?_ | skip))
      | (with_reducible refine And.intro ?_ ?_)
      | with_reducible intro _
    all_goals first
      | omega
      | (rename_i hx; revert hx; simp; done)
      | (simp; done)
      | skip
  | true =>
  rw [hfw] at c12
  have Fp := fine_of hfp
  have Fq := fine_of hfq
  have hw := hfw
  unfold wordH at hw
  simp only [Bool.and_eq_true, decide_eq_true_eq] at hw
  obtain ⟨hw1, hw2⟩ := hw
  obtain ⟨o1, x1⟩ := fine_app Fp Fq
  obtain ⟨o2, x2⟩ := fine_app Fq Fp
  have s1 := start_fine Fp.check hw2
  have s2 := start_fine Fq.check hw2
  have s3 := start_fine x1 hw2
  have s4 := start_fine x2 hw2
  have s5 : startE [] w = 0 := start_fine (by decide) hw2
  have c1 := fun h => u14 p w h Fp.ok (by omega)
  have c2 := fun h => u14 q w h Fq.ok (by omega)
  have c3 := fun h => u14 (p ++ q) w h o1 (by omega)
  have c4 := fun h => u14 (q ++ p) w h o2 (by omega)
  have c5 := fun h => u14n w h (by omega)
  rw [levR_fine s1, s1] at c1
  rw [levR_fine s2, s2] at c2
  rw [levR_fine s3, s3] at c3
  rw [levR_fine s4, s4, ← lev_comm p q w Fp.lev Fq.lev] at c4
  rw [levR_fine s5, s5] at c5
  have l1 := levelsOf_len p w
  have l2 := levelsOf_len q w
  have l3 := levelsOf_len (p ++ q) w
  have l5 := levelsOf_len [] w
  have hmax := fun k hk => lev_max p q w Fp.lev Fq.lev (k := k) hk
  have hnone := fun k hk => lev_none w (k := k) hk
  have hpos := word_pos hw2
  have hcl := clus_len w
  have c16 := fun h => t67 w h (by omega)
  have e1 : ∀ (h l : List AObj), ACalls Tryd.prog 15 [.osl h.length 1 1 0 2] (h ++ .mem 1 22 [patsV p, patsV q] :: l) (patsV (p ++ q)) (h ++ .mem 1 22 [patsV p, patsV q] :: l) := fun h l => u15c p q _ _ 1 getO0 (by have := Fp.len; have := Fq.len; omega)
  have e2 : ∀ (h l : List AObj) (a : AObj), ACalls Tryd.prog 15 [.osl (h.length + 1) 1 1 0 2] (h ++ a :: .mem 1 22 [patsV q, patsV p] :: l) (patsV (q ++ p)) (h ++ a :: .mem 1 22 [patsV q, patsV p] :: l) := fun h l a => u15c q p _ _ 1 (by simp [getO]) (by have := Fp.len; have := Fq.len; omega)
  obtain ⟨A, hA⟩ : ∃ A, A = levelsOf p w := ⟨_, rfl⟩
  obtain ⟨B, hB⟩ : ∃ B, B = levelsOf q w := ⟨_, rfl⟩
  obtain ⟨D, hD⟩ : ∃ D, D = levelsOf (p ++ q) w := ⟨_, rfl⟩
  obtain ⟨Z, hZ⟩ : ∃ Z, Z = levelsOf [] w := ⟨_, rfl⟩
  rw [← hA] at c1 l1
  rw [← hB] at c2 l2
  rw [← hD] at c3 c4 l3
  rw [← hZ] at c5 l5
  rw [← hA, ← hB, ← hD] at hmax
  rw [← hZ] at hnone
  have c17 := fun h => u17v D D h (by omega)
  rw [decide_eq_true rfl] at c17
  have k1 : ((A.length : Int) = ((clus w).length : Int) - 1) = True := eq_true (by omega)
  have k2 : ((B.length : Int) = ((clus w).length : Int) - 1) = True := eq_true (by omega)
  have k3 : ((D.length : Int) = ((clus w).length : Int) - 1) = True := eq_true (by omega)
  have k4 : ((Z.length : Int) = ((clus w).length : Int) - 1) = True := eq_true (by omega)
  refine acalls_of fn3d (by simp) ?_
  simp only [List.length_cons, List.length_nil, Nat.reduceAdd, Nat.reduceSub, List.replicate, List.cons_append, List.nil_append, List.append_nil]
  simp (disch := omega) only [c3d, cells_patsV, solid_patsV, madeA, mm5, okmm5, intsV, strs, k1, k2, k3, k4, go_sem, wrap64_id, Int.tdiv_eq_ediv_of_nonneg, Int.tmod_eq_emod_of_nonneg]
  repeat' first
    | ((first | refine callA_pure (c11p _) ?_ ?_ | refine callA_pure (c11q _) ?_ ?_ | refine callA_pure (c12 _) ?_ ?_ | refine callA_pure (c1 _) ?_ ?_ | refine callA_pure (c2 _) ?_ ?_ | refine callA_pure (e1 _ _) ?_ ?_ | refine callA_pure (c3 _) ?_ ?_ | refine callA_pure (e2 _ _ _) ?_ ?_ | refine callA_pure (c4 _) ?_ ?_ | refine callA_pure (c5 _) ?_ ?_ | refine callA_pure (c16 _) ?_ ?_ | refine callA_pure (c17 _) ?_ ?_); (next => repeat' first | exact flags_n | refine flags_c (by first | rfl | assumption) ?_); simp (disch := omega) only [cells_patsV, solid_patsV, madeA, mm5, okmm5, intsV, strs, k1, k2, k3, k4, go_sem, wrap64_id, Int.tdiv_eq_ediv_of_nonneg, Int.tmod_eq_emod_of_nonneg])
    | ((first | refine callG_pure (fun e => ⟨?_, c11p _⟩) ?_ | refine callG_pure (fun e => ⟨?_, c11q _⟩) ?_ | refine callG_pure (fun e => ⟨?_, c12 _⟩) ?_ | refine callG_pure (fun e => ⟨?_, c1 _⟩) ?_ | refine callG_pure (fun e => ⟨?_, c2 _⟩) ?_ | refine callG_pure (fun e => ⟨?_, e1 _ _⟩) ?_ | refine callG_pure (fun e => ⟨?_, c3 _⟩) ?_ | refine callG_pure (fun e => ⟨?_, e2 _ _ _⟩) ?_ | refine callG_pure (fun e => ⟨?_, c4 _⟩) ?_ | refine callG_pure (fun e => ⟨?_, c5 _⟩) ?_ | refine callG_pure (fun e => ⟨?_, c16 _⟩) ?_ | refine callG_pure (fun e => ⟨?_, c17 _⟩) ?_); (next => repeat' first | exact flags_n | refine flags_c (by first | rfl | assumption) ?_); simp (disch := omega) only [cells_patsV, solid_patsV, madeA, mm5, okmm5, intsV, strs, k1, k2, k3, k4, go_sem, wrap64_id, Int.tdiv_eq_ediv_of_nonneg, Int.tmod_eq_emod_of_nonneg])
    | ((first | refine fnQ_pure1 ?_ ?_ | refine fnQ_pure0 ?_ ?_); (next => repeat' first | exact rvs_n | refine rvs_t ?_ | (simp [go_sem]; done)); simp only [go_sem]; (first | exact VLe.refl _ | refine VLe_int ?_ | refine VLe_bool ?_ | refine VLe_str ?_ | skip))
    | (with_reducible refine And.intro ?_ ?_)
    | with_reducible intro _
  all_goals first
    | omega
    | (rename_i hx; revert hx; simp; done)
    | (simp; done)
    | skip
  refine loop_of (T := fun k : Nat => spar 151 [(7, intsV A), (9, intsV B), (11, intsV D), (15, intsV Z), (109, intsV D), (110, .int .i64 D.length), (111, .int .i64 k)]) (H := fun _ => h ++ [.mem 1 22 [patsV p, patsV q], .mem 1 22 [patsV q, patsV p]]) (inv := fun k => k ≤ D.length) (m := fun k => D.length - k) 0 (by omega) (Wk.temps ?_) ?_
  · (simp only [intsV, spar, List.foldl, List.replicate, go_sem, VLes_nil, VLes_cons, VLe_undef_iff, VLe_self]; try (repeat' first | (with_reducible refine And.intro ?_ ?_) | (refine VLe_int ?_; omega) | (refine VLe_bool ?_; rfl) | exact VLe.refl _))
  rintro k q1 K hK
  by_cases hk : k < D.length
  · obtain ⟨m1, m2, m3⟩ := hmax k (by omega)
    have m4 := hnone k (by omega)
    have j1 : (D.getD k 0 = max (A.getD k 0) (B.getD k 0)) = True := eq_true m1
    have j4 : (Z.getD k 0 = 0) = True := eq_true m4
    have j2 : (A.getD k 0 < 0) = False := eq_false (by omega)
    have j3 : (9 < A.getD k 0) = False := eq_false (by omega)
    simp (disch := omega) only [spar, List.foldl, List.replicate, intsV, j1, j2, j3, j4, go_sem, wrap64_id, Int.tdiv_eq_ediv_of_nonneg, Int.tmod_eq_emod_of_nonneg]
    repeat' first
      | ((first | refine fnQ_pure1 ?_ ?_ | refine fnQ_pure0 ?_ ?_); (next => repeat' first | exact rvs_n | refine rvs_t ?_ | (simp [go_sem]; done)); simp only [go_sem]; (first | exact VLe.refl _ | refine VLe_int ?_ | refine VLe_bool ?_ | refine VLe_str ?_ | skip))
      | (with_reducible refine And.intro ?_ ?_)
      | with_reducible intro _
    all_goals first
      | omega
      | (rename_i hx; revert hx; simp; done)
      | (simp; done)
      | skip
    refine hK _ _ (k + 1) (by omega) (by omega) (Wk.temps ?_)
    (simp only [intsV, spar, List.foldl, List.replicate, go_sem, VLes_nil, VLes_cons, VLe_undef_iff, VLe_self]; try (repeat' first | (with_reducible refine And.intro ?_ ?_) | (refine VLe_int ?_; omega) | (refine VLe_bool ?_; rfl) | exact VLe.refl _))
  · have e : k = D.length := by omega
    subst e
    simp (disch := omega) only [spar, List.foldl, List.replicate, intsV, go_sem, wrap64_id, Int.tdiv_eq_ediv_of_nonneg, Int.tmod_eq_emod_of_nonneg]
    repeat' first
      | ((first | refine callA_pure (u13 _) ?_ ?_); (next => repeat' first | exact flags_n | refine flags_c (by first | rfl | assumption) ?_); simp (disch := omega) only [intsV, go_sem, wrap64_id, Int.tdiv_eq_ediv_of_nonneg, Int.tmod_eq_emod_of_nonneg])
      | ((first | refine callG_pure (fun e => ⟨?_, u13 _⟩) ?_); (next => repeat' first | exact flags_n | refine flags_c (by first | rfl | assumption) ?_); simp (disch := omega) only [intsV, go_sem, wrap64_id, Int.tdiv_eq_ediv_of_nonneg, Int.tmod_eq_emod_of_nonneg])
      | ((first | refine fnQ_pure1 ?_ ?_ | refine fnQ_pure0 ?_ ?_); (next => repeat' first | exact rvs_n | refine rvs_t ?_ | (simp [go_sem]; done)); simp only [go_sem]; (first | exact VLe.refl _ | refine VLe_int ?_ | refine VLe_bool ?_ | refine VLe_str ?_ | skip))
      | (with_reducible refine And.intro ?_ ?_)
      | with_reducible intro _
    all_goals first
      | omega
      | (rename_i hx; revert hx; simp; done)
      | (simp; done)
      | skip
end HY
end

section
set_option linter.all false
set_option linter.unusedSimpArgs false
set_option linter.unusedVariables false
set_option linter.unusedSectionVars false
open Go Go.Proofs AF HY
namespace HY
set_option maxRecDepth 100000
theorem foldB_idem (c : UInt8) : foldB (foldB c) = foldB c := by
  apply UInt8.toNat_inj.1
  have h1 := foldB_nat c
  have h2 := foldB_nat (foldB c)
  have hc := c.toNat_lt
  split at h1 <;> split at h2 <;> omega
theorem fold_idem (s : List UInt8) : fold (fold s) = fold s := by
  unfold fold
  rw [List.map_map]
  exact List.map_congr_left (fun c _ => foldB_idem c)
theorem units_fold (w : List UInt8) : unitsOf (fold w) = unitsOf w := by unfold unitsOf; rw [fold_idem]
theorem levelsOf_foldw (ps : List Pat) (w : List UInt8) : levelsOf ps (fold w) = levelsOf ps w := by unfold levelsOf; rw [units_fold]
theorem foldB_dot (c : UInt8) : (foldB c = 46) ↔ (c = 46) := by
  rw [← UInt8.toNat_inj, ← UInt8.toNat_inj]
  have h1 := foldB_nat c
  have hc := c.toNat_lt
  have e : (46 : UInt8).toNat = 46 := rfl
  rw [e]
  split at h1 <;> omega
theorem head_fold (c : List UInt8) : kind (ch (fold c) 0) = kind (ch c 0) := by
  cases c with
  | nil => rfl
  | cons a r => rw [ch_fold _ 0 (by simp), kind_foldB]
theorem checkC_fold (s : List UInt8) : checkC (fold s) = checkC s := by
  unfold checkC
  rw [fold_len, clus_fold, List.any_map]
  have : (badHead ∘ fold) = badHead := by
    funext c
    unfold Function.comp badHead
    rw [head_fold]
  rw [this]
theorem any_fold {p : UInt8 → Bool} (hp : ∀ c, p (foldB c) = p c) (s : List UInt8) : (fold s).any p = s.any p := by
  unfold fold
  rw [List.any_map]
  congr 1
  funext c
  exact hp c
theorem fold_nil (s : List UInt8) : (fold s = []) ↔ (s = []) := by unfold fold; exact List.map_eq_nil_iff
theorem isWord_fold (w : List UInt8) : isWord (fold w) = isWord w := by
  unfold isWord
  rw [fold_len, checkC_fold, head_fold, any_fold (fun c => by rw [kind_foldB])]
theorem offN_fold (own : List (List UInt8)) (i : Nat) : offN (own.map fold) i = offN own i := by
  unfold offN
  rw [← List.map_take, List.length_flatten, List.length_flatten, List.map_map]
  congr 1
  exact List.map_congr_left (fun c _ => fold_len c)
theorem points_fold (ps : List Pat) (w : List UInt8) (h : startE ps w = 0) (h2 : startE ps (fold w) = 0) : pointsR ps (fold w) = pointsR ps w := by
  unfold pointsR
  rw [if_pos h, if_pos h2, levelsOf_foldw, clus_fold, List.length_map]
  unfold ptAt
  rw [List.length_map]
  simp only [offN_fold]
end HY
end

section
set_option linter.all false
set_option linter.unusedSimpArgs false
set_option linter.unusedVariables false
set_option linter.unusedSectionVars false
open Go Go.Proofs AF
namespace HY
set_option maxRecDepth 100000
end HY
end

section
set_option linter.all false
set_option linter.unusedSimpArgs false
set_option linter.unusedVariables false
set_option linter.unusedSectionVars false
open Go Go.Proofs AF HY
namespace HY
set_option maxRecDepth 100000
theorem u17n (L : List Int) (h : List AObj) (hl : L.length ≤ 1000000) : ACalls Tryd.prog 17 [intsN L, intsN L] h (.bool true) h := by
  have := ACalls.le (u17v L L h (by omega)) (VLes2 (intsN_le L) (VLes2 (intsN_le L) VLes.nil)) (VLe.refl _)
  rwa [decide_eq_true rfl] at this
end HY
end

section
open Go Go.Proofs AF HY
namespace HY
set_option maxRecDepth 100000
set_option maxHeartbeats 4000000 in
theorem u46b (s : List UInt8) (h : List AObj) (hs : s.length ≤ 1000000000) (i0 : Nat) (hi0 : i0 < s.length) (hb0 : badD s i0 = true) (o1 : ∀ i, i < i0 → badD s i = false) : ACalls Tryd.prog 46 [.str s] h (.tup [.agg [.str (letB (s.take i0)), .nl], .bool false]) h := by
  have o0 : s ≠ [] := by rintro rfl; simp at hi0
  have k0 : (s = []) = False := eq_false o0
  refine acalls_of fn46d (by simp) ?_
  simp only [List.length_cons, List.length_nil, Nat.reduceAdd, Nat.reduceSub, List.replicate, List.cons_append, List.nil_append, List.append_nil]
  simp (disch := omega) only [c46d, k0, go_sem, wrap64_id, Int.tdiv_eq_ediv_of_nonneg, Int.tmod_eq_emod_of_nonneg]
  repeat' first
    | ((first | refine fnQ_pure1 ?_ ?_ | refine fnQ_pure0 ?_ ?_); (next => repeat' first | exact rvs_n | refine rvs_t ?_ | (simp [go_sem]; done)); simp only [go_sem]; (first | exact VLe.refl _ | refine VLe_int ?_ | refine VLe_bool ?_ | refine VLe_str ?_ | skip))
    | (with_reducible refine And.intro ?_ ?_)
    | with_reducible intro _
  all_goals first
    | omega
    | (rename_i hx; revert hx; simp; done)
    | (simp; done)
    | skip
  refine loop_of (T := fun i : Nat => spar 106 [(0, .str s), (2, .op h.length 1 0), (4, .op (h.length + 1) 1 0), (6, .int .i64 i)])
    (H := fun i => h ++ [.mem 1 32 [.str [], .nl], .mem 1 32 [.str (letB (s.take i)), .nl], .emp 0, .emp 0, .emp 0, .emp 0])
    (inv := fun i => i ≤ i0) (m := fun i => i0 - i) 0 (by omega) (Wk.temps ?_) ?_
  · (simp only [spar, List.foldl, List.replicate, go_sem, VLes_nil, VLes_cons, VLe_undef_iff, VLe_self]; try (repeat' first | (with_reducible refine And.intro ?_ ?_) | (refine VLe_int ?_; omega) | (refine VLe_bool ?_; rfl) | exact VLe.refl _))
  rintro i i1 K hK
  by_cases hii : i < i0
  · have hi : i < s.length := by omega
    have c79 := fun h => u79 (s.getD i 0) h
    have hlb := letB_le s i
    have hbad := o1 i hii
    unfold badD at hbad
    cases hd : dg (s.getD i 0) with
    | false =>
      rw [hd] at c79
      simp (disch := omega) only [spar, List.foldl, List.replicate, go_sem, wrap64_id, Int.tdiv_eq_ediv_of_nonneg, Int.tmod_eq_emod_of_nonneg]
      repeat' first
        | ((first | refine callA_pure (c79 _) ?_ ?_); (next => repeat' first | exact flags_n | refine flags_c (by first | rfl | assumption) ?_); simp (disch := omega) only [spar, go_sem, wrap64_id, Int.tdiv_eq_ediv_of_nonneg, Int.tmod_eq_emod_of_nonneg])
        | ((first | refine callG_pure (fun e => ⟨?_, c79 _⟩) ?_); (next => repeat' first | exact flags_n | refine flags_c (by first | rfl | assumption) ?_); simp (disch := omega) only [spar, go_sem, wrap64_id, Int.tdiv_eq_ediv_of_nonneg, Int.tmod_eq_emod_of_nonneg])
        | ((first | refine fnQ_pure1 ?_ ?_ | refine fnQ_pure0 ?_ ?_); (next => repeat' first | exact rvs_n | refine rvs_t ?_ | (simp [go_sem]; done)); simp only [go_sem]; (first | exact VLe.refl _ | refine VLe_int ?_ | refine VLe_bool ?_ | refine VLe_str ?_ | skip))
        | (with_reducible refine And.intro ?_ ?_)
        | with_reducible intro _
      all_goals first
        | omega
        | (rename_i hx; revert hx; simp; done)
        | (simp; done)
        | skip
      · rw [List.length_take, List.length_drop]; omega
      · have f1 : ((i : Int) + 1).toNat - i = 1 := by omega
        rw [f1, ← letB_f hi hd]
        refine hK _ _ (i + 1) (by omega) (by omega) (Wk.temps ?_)
        (simp only [spar, List.foldl, List.replicate, go_sem, VLes_nil, VLes_cons, VLe_undef_iff, VLe_self]; try (repeat' first | (with_reducible refine And.intro ?_ ?_) | (refine VLe_int ?_; omega) | (refine VLe_bool ?_; rfl) | exact VLe.refl _))
    | true =>
      rw [hd] at c79 hbad
      simp only [Bool.true_and, Bool.or_eq_false_iff, decide_eq_false_iff_not, Bool.and_eq_false_imp, decide_eq_true_eq] at hbad
      obtain ⟨b1, b2⟩ := hbad
      have k2 : (((s.getD i 0).toNat : Int) = 48) = False := eq_false (fun e => b1 (UInt8.toNat_inj.1 (by simpa using (show (s.getD i 0).toNat = 48 by omega))))
      have k2' : (((s[i]?.getD 0).toNat : Int) = 48) = False := k2
      by_cases hn : i + 1 < s.length
      · obtain ⟨b3, b4⟩ := b2 hn
        have k3 : ((i : Int) + 1 < s.length) = True := eq_true (by omega)
        have c79b := fun h => u79 (s.getD (i + 1) 0) h
        rw [b3] at c79b
        have hlt := (s.getD (i + 1) 0).toNat_lt
        have c71 := fun h => t103 ((s.getD (i + 1) 0).toNat : Int) h (by omega) (by omega)
        have k4 : (kindI ((s.getD (i + 1) 0).toNat : Int) = 2) = False := eq_false b4
        have k4' : (kindI ((s[i + 1]?.getD 0).toNat : Int) = 2) = False := k4
        have f0 : ((i : Int) + 1).toNat = i + 1 := by omega
        simp (disch := omega) only [spar, List.foldl, List.replicate, k2, k2', k3, k4, k4', go_sem, wrap64_id, Int.tdiv_eq_ediv_of_nonneg, Int.tmod_eq_emod_of_nonneg]
        repeat' first
          | ((first | refine callA_pure (c79 _) ?_ ?_ | refine callA_pure (c79b _) ?_ ?_ | refine callA_pure (c71 _) ?_ ?_); (next => repeat' first | exact flags_n | refine flags_c (by first | rfl | assumption) ?_); simp (disch := omega) only [spar, k2, k2', k3, k4, k4', go_sem, wrap64_id, Int.tdiv_eq_ediv_of_nonneg, Int.tmod_eq_emod_of_nonneg])
          | ((first | refine callG_pure (fun e => ⟨?_, c79 _⟩) ?_ | refine callG_pure (fun e => ⟨?_, c79b _⟩) ?_ | refine callG_pure (fun e => ⟨?_, c71 _⟩) ?_); (next => repeat' first | exact flags_n | refine flags_c (by first | rfl | assumption) ?_); simp (disch := omega) only [spar, k2, k2', k3, k4, k4', go_sem, wrap64_id, Int.tdiv_eq_ediv_of_nonneg, Int.tmod_eq_emod_of_nonneg])
          | ((first | refine fnQ_pure1 ?_ ?_ | refine fnQ_pure0 ?_ ?_); (next => repeat' first | exact rvs_n | refine rvs_t ?_ | (simp [go_sem]; done)); simp only [go_sem]; (first | exact VLe.refl _ | refine VLe_int ?_ | refine VLe_bool ?_ | refine VLe_str ?_ | skip))
          | (with_reducible refine And.intro ?_ ?_)
          | with_reducible intro _
        all_goals first
          | omega
          | (rename_i hx; revert hx; simp; done)
          | (simp; done)
          | skip
        rw [← letB_t hi hd]
        refine hK _ _ (i + 1) (by omega) (by omega) (Wk.temps ?_)
        (simp only [spar, List.foldl, List.replicate, go_sem, VLes_nil, VLes_cons, VLe_undef_iff, VLe_self]; try (repeat' first | (with_reducible refine And.intro ?_ ?_) | (refine VLe_int ?_; omega) | (refine VLe_bool ?_; rfl) | exact VLe.refl _))
      · omega
  have e : i = i0 := by omega
  subst e
  have c79 := fun h => u79 (s.getD i 0) h
  unfold badD at hb0
  simp only [Bool.and_eq_true, Bool.or_eq_true, decide_eq_true_eq] at hb0
  obtain ⟨hd, hb1⟩ := hb0
  rw [hd] at c79
  by_cases h48 : s.getD i 0 = 48
  · have k2 : (((s.getD i 0).toNat : Int) = 48) = True := eq_true (by rw [h48]; rfl)
    have k2' : (((s[i]?.getD 0).toNat : Int) = 48) = True := k2
    obtain ⟨d, hd3⟩ : ∃ d : Bool, d = decide ((i : Int) + 1 < s.length) := ⟨_, rfl⟩
    cases d with
    | true =>
      have k3 : ((i : Int) + 1 < s.length) = True := eq_true (by simpa using hd3.symm)
      simp (disch := omega) only [spar, List.foldl, List.replicate, k2, k2', k3, go_sem, wrap64_id, Int.tdiv_eq_ediv_of_nonneg, Int.tmod_eq_emod_of_nonneg]
      repeat' first
        | ((first | refine callA_pure (c79 _) ?_ ?_); (next => repeat' first | exact flags_n | refine flags_c (by first | rfl | assumption) ?_); simp (disch := omega) only [spar, k2, k2', k3, go_sem, wrap64_id, Int.tdiv_eq_ediv_of_nonneg, Int.tmod_eq_emod_of_nonneg])
        | ((first | refine callG_pure (fun e => ⟨?_, c79 _⟩) ?_); (next => repeat' first | exact flags_n | refine flags_c (by first | rfl | assumption) ?_); simp (disch := omega) only [spar, k2, k2', k3, go_sem, wrap64_id, Int.tdiv_eq_ediv_of_nonneg, Int.tmod_eq_emod_of_nonneg])
        | ((first | refine fnQ_pure1 ?_ ?_ | refine fnQ_pure0 ?_ ?_); (next => repeat' first | exact rvs_n | refine rvs_t ?_ | (simp [go_sem]; done)); simp only [go_sem]; (first | exact VLe.refl _ | refine VLe_int ?_ | refine VLe_bool ?_ | refine VLe_str ?_ | skip))
        | (with_reducible refine And.intro ?_ ?_)
        | with_reducible intro _
      all_goals first
        | omega
        | (rename_i hx; revert hx; simp; done)
        | (simp; done)
        | skip
      refine callG_false (.bool false) ?_
      simp (disch := omega) only [spar, k2, k2', k3, go_sem, wrap64_id, Int.tdiv_eq_ediv_of_nonneg, Int.tmod_eq_emod_of_nonneg]
      refine callG_false (.int .i64 0) ?_
      simp (disch := omega) only [spar, k2, k2', k3, go_sem, wrap64_id, Int.tdiv_eq_ediv_of_nonneg, Int.tmod_eq_emod_of_nonneg]
      repeat' first
        | ((first | refine fnQ_pure1 ?_ ?_ | refine fnQ_pure0 ?_ ?_); (next => repeat' first | exact rvs_n | refine rvs_t ?_ | (simp [go_sem]; done)); simp only [go_sem]; (first | exact VLe.refl _ | refine VLe_int ?_ | refine VLe_bool ?_ | refine VLe_str ?_ | skip))
        | (with_reducible refine And.intro ?_ ?_)
        | with_reducible intro _
      all_goals first
        | omega
        | (rename_i hx; revert hx; simp; done)
        | (simp; done)
        | skip
    | false =>
      have k3 : ((i : Int) + 1 < s.length) = False := eq_false (by simpa using hd3.symm)
      simp (disch := omega) only [spar, List.foldl, List.replicate, k2, k2', k3, go_sem, wrap64_id, Int.tdiv_eq_ediv_of_nonneg, Int.tmod_eq_emod_of_nonneg]
      repeat' first
        | ((first | refine callA_pure (c79 _) ?_ ?_); (next => repeat' first | exact flags_n | refine flags_c (by first | rfl | assumption) ?_); simp (disch := omega) only [spar, k2, k2', k3, go_sem, wrap64_id, Int.tdiv_eq_ediv_of_nonneg, Int.tmod_eq_emod_of_nonneg])
        | ((first | refine callG_pure (fun e => ⟨?_, c79 _⟩) ?_); (next => repeat' first | exact flags_n | refine flags_c (by first | rfl | assumption) ?_); simp (disch := omega) only [spar, k2, k2', k3, go_sem, wrap64_id, Int.tdiv_eq_ediv_of_nonneg, Int.tmod_eq_emod_of_nonneg])
        | ((first | refine fnQ_pure1 ?_ ?_ | refine fnQ_pure0 ?_ ?_); (next => repeat' first | exact rvs_n | refine rvs_t ?_ | (simp [go_sem]; done)); simp only [go_sem]; (first | exact VLe.refl _ | refine VLe_int ?_ | refine VLe_bool ?_ | refine VLe_str ?_ | skip))
        | (with_reducible refine And.intro ?_ ?_)
        | with_reducible intro _
      all_goals first
        | omega
        | (rename_i hx; revert hx; simp; done)
        | (simp; done)
        | skip
      refine callG_false (.bool false) ?_
      simp (disch := omega) only [spar, k2, k2', k3, go_sem, wrap64_id, Int.tdiv_eq_ediv_of_nonneg, Int.tmod_eq_emod_of_nonneg]
      refine callG_false (.int .i64 0) ?_
      simp (disch := omega) only [spar, k2, k2', k3, go_sem, wrap64_id, Int.tdiv_eq_ediv_of_nonneg, Int.tmod_eq_emod_of_nonneg]
      repeat' first
        | ((first | refine fnQ_pure1 ?_ ?_ | refine fnQ_pure0 ?_ ?_); (next => repeat' first | exact rvs_n | refine rvs_t ?_ | (simp [go_sem]; done)); simp only [go_sem]; (first | exact VLe.refl _ | refine VLe_int ?_ | refine VLe_bool ?_ | refine VLe_str ?_ | skip))
        | (with_reducible refine And.intro ?_ ?_)
        | with_reducible intro _
      all_goals first
        | omega
        | (rename_i hx; revert hx; simp; done)
        | (simp; done)
        | skip
  · obtain ⟨hn, hb2⟩ := hb1.resolve_left h48
    have k2 : (((s.getD i 0).toNat : Int) = 48) = False := eq_false (fun e => h48 (UInt8.toNat_inj.1 (by simpa using (show (s.getD i 0).toNat = 48 by omega))))
    have k2' : (((s[i]?.getD 0).toNat : Int) = 48) = False := k2
    have k3 : ((i : Int) + 1 < s.length) = True := eq_true (by omega)
    have c79b := fun h => u79 (s.getD (i + 1) 0) h
    have hlt := (s.getD (i + 1) 0).toNat_lt
    cases hd2 : dg (s.getD (i + 1) 0) with
    | true =>
      rw [hd2] at c79b
      simp (disch := omega) only [spar, List.foldl, List.replicate, k2, k2', k3, go_sem, wrap64_id, Int.tdiv_eq_ediv_of_nonneg, Int.tmod_eq_emod_of_nonneg]
      repeat' first
        | (refine callG_false ((.int .i64 0)) ?_; simp (disch := omega) only [spar, k2, k2', k3, go_sem, wrap64_id, Int.tdiv_eq_ediv_of_nonneg, Int.tmod_eq_emod_of_nonneg])
        | ((first | refine callA_pure (c79 _) ?_ ?_ | refine callA_pure (c79b _) ?_ ?_); (next => repeat' first | exact flags_n | refine flags_c (by first | rfl | assumption) ?_); simp (disch := omega) only [spar, k2, k2', k3, go_sem, wrap64_id, Int.tdiv_eq_ediv_of_nonneg, Int.tmod_eq_emod_of_nonneg])
        | ((first | refine callG_pure (fun e => ⟨?_, c79 _⟩) ?_ | refine callG_pure (fun e => ⟨?_, c79b _⟩) ?_); (next => repeat' first | exact flags_n | refine flags_c (by first | rfl | assumption) ?_); simp (disch := omega) only [spar, k2, k2', k3, go_sem, wrap64_id, Int.tdiv_eq_ediv_of_nonneg, Int.tmod_eq_emod_of_nonneg])
        | ((first | refine fnQ_pure1 ?_ ?_ | refine fnQ_pure0 ?_ ?_); (next => repeat' first | exact rvs_n | refine rvs_t ?_ | (simp [go_sem]; done)); simp only [go_sem]; (first | exact VLe.refl _ | refine VLe_int ?_ | refine VLe_bool ?_ | refine VLe_str ?_ | skip))
        | (with_reducible refine And.intro ?_ ?_)
        | with_reducible intro _
      all_goals first
        | omega
        | (rename_i hx; revert hx; simp; done)
        | (simp; done)
        | skip
    | false =>
      rw [hd2] at c79b hb2
      have c71 := fun h => t103 ((s.getD (i + 1) 0).toNat : Int) h (by omega) (by omega)
      have k4 : (kindI ((s.getD (i + 1) 0).toNat : Int) = 2) = True := eq_true (by simpa using hb2)
      have k4' : (kindI ((s[i + 1]?.getD 0).toNat : Int) = 2) = True := k4
      simp (disch := omega) only [spar, List.foldl, List.replicate, k2, k2', k3, k4, k4', go_sem, wrap64_id, Int.tdiv_eq_ediv_of_nonneg, Int.tmod_eq_emod_of_nonneg]
      repeat' first
        | ((first | refine callA_pure (c79 _) ?_ ?_ | refine callA_pure (c79b _) ?_ ?_ | refine callA_pure (c71 _) ?_ ?_); (next => repeat' first | exact flags_n | refine flags_c (by first | rfl | assumption) ?_); simp (disch := omega) only [spar, k2, k2', k3, k4, k4', go_sem, wrap64_id, Int.tdiv_eq_ediv_of_nonneg, Int.tmod_eq_emod_of_nonneg])
        | ((first | refine callG_pure (fun e => ⟨?_, c79 _⟩) ?_ | refine callG_pure (fun e => ⟨?_, c79b _⟩) ?_ | refine callG_pure (fun e => ⟨?_, c71 _⟩) ?_); (next => repeat' first | exact flags_n | refine flags_c (by first | rfl | assumption) ?_); simp (disch := omega) only [spar, k2, k2', k3, k4, k4', go_sem, wrap64_id, Int.tdiv_eq_ediv_of_nonneg, Int.tmod_eq_emod_of_nonneg])
        | ((first | refine fnQ_pure1 ?_ ?_ | refine fnQ_pure0 ?_ ?_); (next => repeat' first | exact rvs_n | refine rvs_t ?_ | (simp [go_sem]; done)); simp only [go_sem]; (first | exact VLe.refl _ | refine VLe_int ?_ | refine VLe_bool ?_ | refine VLe_str ?_ | skip))
        | (with_reducible refine And.intro ?_ ?_)
        | with_reducible intro _
      all_goals first
        | omega
        | (rename_i hx; revert hx; simp; done)
        | (simp; done)
        | skip
theorem u46n (h : List AObj) : ACalls Tryd.prog 46 [.str []] h (.tup [.agg [.str [], .nl], .bool false]) h := by
  have k0 : (([] : List UInt8) = []) = True := eq_true rfl
  refine acalls_of fn46d (by simp) ?_
  simp only [List.length_cons, List.length_nil, Nat.reduceAdd, Nat.reduceSub, List.replicate, List.cons_append, List.nil_append, List.append_nil]
  simp (disch := omega) only [c46d, k0, go_sem, wrap64_id, Int.tdiv_eq_ediv_of_nonneg, Int.tmod_eq_emod_of_nonneg]
  repeat' first
    | ((first | refine fnQ_pure1 ?_ ?_ | refine fnQ_pure0 ?_ ?_); (next => repeat' first | exact rvs_n | refine rvs_t ?_ | (simp [go_sem]; done)); simp only [go_sem]; (first | exact VLe.refl _ | refine VLe_int ?_ | refine VLe_bool ?_ | refine VLe_str ?_ | skip))
    | (with_reducible refine And.intro ?_ ?_)
    | with_reducible intro _
  all_goals first
    | omega
    | (rename_i hx; revert hx; simp; done)
    | (simp; done)
    | skip
end HY
end

section
namespace AF
open Go Go.RowKit
theorem Ext.ofBelow {w w' : World} {σ : List OB} {h : List AObj} (H : HR w σ h) (hb : Below w.heap.size w w') : HR w' σ h ∧ Ext w σ w' σ := by
  have e : Ext w σ w' σ := ⟨hb.os, hb.tape, hb.output, hb.size, fun b hl _ => hb.block b hl, fun _ h => .inl h, fun _ o h => ⟨o, h, Nat.le_refl _, fun _ => rfl⟩,
    fun b r h => ⟨r, (hb.block b (Array.getElem?_eq_some_iff.1 h).1).trans h⟩⟩
  exact ⟨⟨H.len, H.inj, fun k o b h1 h2 => Nat.lt_of_lt_of_le (H.lt k o b h1 h2) hb.size, fun k a o h1 h2 => (H.obj k a o h1 h2).ext e (fun b h3 => hb.block b (H.lt k o b h2 h3))⟩, e⟩
end AF
end

section
set_option linter.all false
namespace Go.Proofs
open Go.Shelf
end Go.Proofs
end

section
open Go Go.Proofs AF HY
namespace HY
set_option maxRecDepth 100000
end HY
end

section
open Go Go.Proofs AF HY
namespace HY
set_option maxRecDepth 100000
def okU (u : List UInt8) : Prop := ∃ c m, u = c :: m ∧ (∀ x ∈ m, kind x = 2) ∧ (m ≠ [] → kind c = 1)
def sepU (u v : List UInt8) : Prop := ¬ (kind (ch v 0) = 2 ∧ kind (ch u 0) = 1)
def Chn : List (List UInt8) → Prop
  | [] => True
  | u :: r => okU u ∧ (∀ v ∈ r.head?, sepU u v) ∧ Chn r
def cl (cur : List UInt8) : List UInt8 → List (List UInt8)
  | [] => [cur]
  | c :: r => if kind c = 2 ∧ kind (ch cur 0) = 1 then cl (cur ++ [c]) r else cur :: cl [c] r
theorem clusO_cl (r : List UInt8) : ∀ frm cur, (clusO frm cur r).map (·.2) = cl cur r := by
  induction r with
  | nil => intro frm cur; rfl
  | cons c r ih =>
    intro frm cur
    simp only [clusO, cl]
    split
    · exact ih _ _
    · rw [List.map_cons, ih]
theorem clus_cons (c : UInt8) (r : List UInt8) : clus (c :: r) = cl [c] r := clusO_cl r 0 [c]
theorem cl_head (r : List UInt8) : ∀ cur, ∃ t l, cl cur r = (cur ++ t) :: l := by
  induction r with
  | nil => intro cur; exact ⟨[], [], by simp [cl]⟩
  | cons c r ih =>
    intro cur
    unfold cl
    split
    · obtain ⟨t, l, h⟩ := ih (cur ++ [c])
      exact ⟨c :: t, l, by rw [h]; simp⟩
    · exact ⟨[], _, by simp; rfl⟩
theorem chn_cl (r : List UInt8) : ∀ cur, okU cur → Chn (cl cur r) := by
  induction r with
  | nil => intro cur h; exact ⟨h, by simp, trivial⟩
  | cons c r ih =>
    intro cur h
    unfold cl
    split
    · rename_i hc
      obtain ⟨a, m, rfl, h1, h2⟩ := h
      refine ih _ ⟨a, m ++ [c], rfl, fun x hx => ?_, fun _ => hc.2⟩
      rcases List.mem_append.1 hx with hx | hx
      · exact h1 x hx
      · simp at hx; subst hx; exact hc.1
    · rename_i hc
      refine ⟨h, fun v hv => ?_, ih _ ⟨c, [], rfl, by simp, by simp⟩⟩
      obtain ⟨t, l, e⟩ := cl_head r [c]
      rw [e] at hv
      simp at hv
      subst hv
      exact hc
theorem chn_clus (s : List UInt8) : Chn (clus s) := by
  cases s with
  | nil => trivial
  | cons c r => rw [clus_cons]; exact chn_cl r [c] ⟨c, [], rfl, by simp, by simp⟩
theorem cl_marks (c : UInt8) (hc : kind c = 1) : ∀ (m n r : List UInt8), (∀ x ∈ m, kind x = 2) → cl (c :: n) (m ++ r) = cl (c :: (n ++ m)) r := by
  intro m
  induction m with
  | nil => intro n r _; simp
  | cons x m ih =>
    intro n r h
    rw [List.cons_append]
    conv => lhs; unfold cl
    rw [if_pos ⟨h x (by simp), hc⟩]
    have := ih (n ++ [x]) r (fun y hy => h y (by simp [hy]))
    rw [show c :: n ++ [x] = c :: (n ++ [x]) from rfl, this]
    simp
theorem clus_chn : ∀ us, Chn us → clus us.flatten = us := by
  intro us
  induction us with
  | nil => intro _; rfl
  | cons u r ih =>
    rintro ⟨⟨c, m, rfl, h1, h2⟩, hs, hr⟩
    have ih := ih hr
    rw [List.flatten_cons, List.cons_append, clus_cons]
    have e : cl [c] (m ++ r.flatten) = cl (c :: m) r.flatten := by
      by_cases hm : m = []
      · subst hm; rfl
      · have := cl_marks c (h2 hm) m [] r.flatten h1
        simpa using this
    rw [e]
    cases r with
    | nil => rfl
    | cons v r =>
      obtain ⟨⟨d, n, rfl, _, _⟩, _, _⟩ := hr
      have hsep := hs (d :: n) (by simp)
      rw [List.flatten_cons, List.cons_append] at ih ⊢
      rw [clus_cons] at ih
      unfold cl
      rw [if_neg (show ¬ (kind d = 2 ∧ kind (ch (c :: m) 0) = 1) from hsep), ih]
end HY
end

section
open Go Go.Proofs AF HY
namespace HY
set_option maxRecDepth 100000
end HY
end

section
set_option linter.unusedVariables false
namespace Go.Proofs
open Go.Shelf Go.RowKit
set_option maxHeartbeats 1000000 in
set_option maxRecDepth 100000 in
theorem cc_used (b : Nat) (w : World) (h0 : w.cell? ⟨b, 0, none⟩ = some (.pointer (some ⟨b, 0, none⟩))) :
    Calls Tryd.prog 81 #[.pointer (some ⟨b, 0, none⟩)] w fun e w' => e = .returned (.tuple #[]) ∧ w' = w := by
  obtain ⟨j, hj, _⟩ := Option.map_eq_some_iff.1 (show (Tryd.prog.info? 69).map (·.size) = some 2 by kernel_rfl)
  go_enter Tryd.func81, Tryd.ntmps81
  go_wp2
  rw [Lib.run_neq_ptr_same w _ Tryd.underlying67 hj]
  go_wp2
  go_end0
  exact ⟨rfl, rfl⟩
theorem lies69 (n : Nat) (hn : 2 ≤ n) : liesAt Tryd.prog Tryd.prog.depth 69 (n / Tryd.prog.cellsOf 69) 0 69 1 = true := by
  have e : Tryd.prog.cellsOf 69 = 2 := by kernel_rfl
  have hf : sameLayout Tryd.prog Tryd.prog.depth 69 69 = true := by kernel_rfl
  have h1 : 1 ≤ n / 2 := by omega
  rw [e]
  obtain ⟨d, hd⟩ : ∃ d, Tryd.prog.depth = d + 1 := ⟨2 * (Tryd.prog.types.size + Made.depth) + 1, rfl⟩
  have hr : rowAt Tryd.prog (sameLayout Tryd.prog Tryd.prog.depth · 69) Tryd.prog.depth 69 (n / 2) 0 1 = true := by
    conv => lhs; arg 3; rw [hd]
    unfold rowAt
    simp only [e]
    rw [if_neg (by omega)]
    simp [hf, h1]
  conv => lhs; arg 2; rw [hd]
  unfold liesAt
  rw [hr]
  rfl
set_option maxHeartbeats 1000000 in
set_option maxRecDepth 100000 in
theorem cc_fresh (b : Nat) (w : World) (h0 : w.cell? ⟨b, 0, none⟩ = some (.pointer none)) (n : Nat) (hn : 2 ≤ n) (hsh : w.shape? b = some (69, n)) (hfz : w.frozen? ⟨b, 0, none⟩ = false) :
    Calls Tryd.prog 81 #[.pointer (some ⟨b, 0, none⟩)] w fun e w' => e = .returned (.tuple #[]) ∧ w' = w.setCell ⟨b, 0, none⟩ (.pointer (some ⟨b, 0, none⟩)) := by
  obtain ⟨j, hj, hjs⟩ := Option.map_eq_some_iff.1 (show (Tryd.prog.info? 69).map (·.size) = some 2 by kernel_rfl)
  go_enter Tryd.func81, Tryd.ntmps81
  go_wp2
  rw [Lib.run_to_unsafe w ⟨b, 0, none⟩ Tryd.underlying67 Tryd.underlying108 hj (by rw [hjs]; decide) hsh (Nat.lt_of_lt_of_le (Nat.zero_lt_succ 1) hn)]
  simp only [Result.andThen]
  rw [Oper.upon_value]
  go_wp2
  rw [run_callFunc_extern Tryd.func102 (by kernel_rfl) (by kernel_rfl) (by kernel_rfl) (e := Extern.AbiNoEscape.same) (by kernel_rfl)]
  rw [Lib.run_noEscape]
  simp only [Result.andThen]
  rw [Oper.upon_value]
  go_wp2
  rw [Lib.run_from_unsafe w ⟨b, 0, none⟩ Tryd.underlying108 Tryd.underlying67 hj hsh (lies69 n hn)]
  simp only [Result.andThen]
  rw [Oper.upon_value]
  go_wp2
  go_end0
  exact ⟨rfl, rfl⟩
set_option maxHeartbeats 1000000 in
set_option maxRecDepth 100000 in
theorem str_some (b g cap : Nat) (l : List UInt8) (cur : Array Value) (w : World) (h0 : l ≠ []) (c0 : w.cell? ⟨b, 1, none⟩ = some (.slice (some ⟨g, 0, none⟩) l.length cap)) (hg : w.heap[g]? = some (.cells cur 5 (0, 0)))
    (hnc : l.length ≤ cap) (hcm : cap ≤ maxLen) (hcs : cap ≤ cur.size) (hcell : ∀ (j : Nat) x, l[j]? = some x → w.cell? ⟨g, j, none⟩ = some (.int .u8 x.toNat)) :
    Calls Tryd.prog 52 #[.pointer (some ⟨b, 0, none⟩)] w fun e w' => e = .returned (.string ⟨l.toArray⟩) ∧ w' = w.drew.freeze ⟨g, 0, none⟩ l.length := by
  have hl0 : l.length ≠ 0 := by simpa using h0
  have c1 : w.drew.cell? ⟨b, 1, none⟩ = some (.slice (some ⟨g, 0, none⟩) l.length cap) := c0
  have hSD : (Builtin.unsafeSliceData_ #[61] 96 #[.slice (some ⟨g, 0, none⟩) l.length cap]).run Tryd.prog w.drew = .ok (.pointer (some ⟨g, 0, none⟩)) w.drew :=
    Lib.run_unsafeSliceData_row _ _ _ _ _ _ (by omega)
  have hUS : (Builtin.unsafeString_ #[96, 3] 9 #[.pointer (some ⟨g, 0, none⟩), .int .i64 l.length]).run Tryd.prog w.drew = .ok (.string ⟨l.toArray⟩) (w.drew.freeze ⟨g, 0, none⟩ l.length) := by
    refine Lib.run_unsafeString_row w.drew 96 3 9 5 Tryd.underlying96 (by kernel_rfl) g cur.size (by have hg' : w.drew.heap[g]? = some (.cells cur 5 (0, 0)) := hg; simp [World.shape?, hg']) l h0 (by omega) (by unfold maxLen at hcm; omega) ?_
    intro j x hx
    have := hcell j x hx
    cases j with
    | zero => exact this
    | succ j =>
      have e : (⟨g, 0, none⟩ : Addr).add (j + 1) = ⟨g, j + 1, none⟩ := by
        unfold Addr.add
        rw [if_neg (Nat.succ_ne_zero j)]
        simp only [Nat.zero_add]
      rw [e]
      exact this
  have mixed : Tryd.prog.follows .mixedOrders = true := by kernel_rfl
  go_enter Tryd.func52, Tryd.ntmps52
  go_wp2
  go_region_o
  all_goals (go_wp2; go_ret; exact ⟨rfl, rfl⟩)
set_option maxHeartbeats 2000000 in
set_option maxRecDepth 100000 in
theorem str_none (b : Nat) (w : World) (c0 : w.cell? ⟨b, 1, none⟩ = some (.slice none 0 0)) :
    Calls Tryd.prog 52 #[.pointer (some ⟨b, 0, none⟩)] w fun e w' => e = .returned (.string ⟨#[]⟩) ∧ w' = w.drew := by
  have hUS : ∀ (W : World) (q : Option Addr), (Builtin.unsafeString_ #[96, 3] 9 #[.pointer q, .int .i64 0]).run Tryd.prog W = .ok (.string .empty) W := fun W q => Lib.run_unsafeString_none W _ _ _ q
  have c1 : w.drew.cell? ⟨b, 1, none⟩ = some (.slice none 0 0) := c0
  have hSD : (Builtin.unsafeSliceData_ #[61] 96 #[.slice none 0 0]).run Tryd.prog w.drew = .ok (.pointer none) w.drew := rfl
  have mixed : Tryd.prog.follows .mixedOrders = true := by kernel_rfl
  go_enter Tryd.func52, Tryd.ntmps52
  go_wp2
  go_region_o
  all_goals (go_wp2; go_ret; exact ⟨rfl, rfl⟩)
end Go.Proofs
end

section
open Go Go.Proofs AF
set_option maxRecDepth 100000
def c48x : C :=
  ((C.ops [⟨some 4, none, .mv, [.c .nilif]⟩]).seq ((C.ops [⟨some 5, none, .mv, [.t 0]⟩, ⟨some 6, none, .call 81 false, [.t 5]⟩]).seq ((C.ops [⟨some 7, none, .mv, [.t 0]⟩, ⟨some 8,
  none, .mv, [.t 0]⟩, ⟨some 9, none, .nilchk, [.t 8]⟩, ⟨some 10, none, .fldA 1, [.t 9]⟩, ⟨some 11, none, .load none, [.t 10]⟩, ⟨some 12, none, .mv, [.t 1]⟩, ⟨some 13, none, .bslc 0 1
  1 5 [.int .u8 0] [(0, 1)], [.t 12]⟩, ⟨some 14, none, .app 1 1 5 1, [.t 11, .t 13]⟩, ⟨some 15, none, .nilchk, [.t 7]⟩, ⟨some 16, none, .fldA 1, [.t 15]⟩, ⟨none, none, .store 1, [.t
  16, .t 14]⟩]).seq ((C.ops [⟨some 4, none, .mv, [.c .nilif]⟩]).seq
  C.ret))))
theorem fn48x : FnIs Tryd.prog 48 17 2 [RV.tmp 4] c48x := ⟨Tryd.f48, Tryd.f48.body.getD .skip, [13, 14], [81, 48, 50, 52], [], by kernel_rfl, by kernel_rfl, by kernel_rfl, by kernel_rfl, by kernel_rfl, by kernel_rfl, by kernel_rfl⟩
def c50x : C :=
  ((C.ops [⟨some 4, none, .mv, [.c (.int .i64 0)]⟩, ⟨some 5, none, .mv, [.c .nilif]⟩]).seq ((C.ops [⟨some 6, none, .mv, [.t 0]⟩, ⟨some 7, none, .call 81 false, [.t 6]⟩]).seq ((C.ops
  [⟨some 8, none, .mv, [.t 0]⟩, ⟨some 9, none, .mv, [.t 0]⟩, ⟨some 10, none, .nilchk, [.t 9]⟩, ⟨some 11, none, .fldA 1, [.t 10]⟩, ⟨some 12, none, .load none, [.t 11]⟩, ⟨some 13,
  none, .mv, [.t 1]⟩, ⟨some 14, none, .apps 0 5, [.t 12, .t 13]⟩, ⟨some 15, none, .nilchk, [.t 8]⟩, ⟨some 16, none, .fldA 1, [.t 15]⟩, ⟨none, none, .store 1, [.t 16, .t 14]⟩]).seq
  ((C.ops [⟨some 17, none, .mv, [.t 1]⟩, ⟨some 18, none, .slen, [.t 17]⟩, ⟨some 4, none, .mv, [.t 18]⟩, ⟨some 5, none, .mv, [.c .nilif]⟩]).seq
  C.ret))))
theorem fn50x : FnIs Tryd.prog 50 19 1 [RV.tmp 4, RV.tmp 5] c50x := ⟨Tryd.f50, Tryd.f50.body.getD .skip, [14], [81, 48, 50, 52], [], by kernel_rfl, by kernel_rfl, by kernel_rfl, by kernel_rfl, by kernel_rfl, by kernel_rfl, by kernel_rfl⟩
def c51x : C :=
  ((C.ops [⟨some 2, none, .mv, [.c (.int .i64 0)]⟩]).seq ((C.ops [⟨some 3, none, .mv, [.t 0]⟩, ⟨some 4, none, .nilchk, [.t 3]⟩, ⟨some 5, none, .fldA 1, [.t 4]⟩, ⟨some 6, none, .load
  none, [.t 5]⟩, ⟨some 7, none, .len, [.t 6]⟩, ⟨some 2, none, .mv, [.t 7]⟩]).seq
  C.ret))
theorem fn51x : FnIs Tryd.prog 51 8 0 [RV.tmp 2] c51x := ⟨Tryd.f51, Tryd.f51.body.getD .skip, [], [81, 48, 50, 52], [], by kernel_rfl, by kernel_rfl, by kernel_rfl, by kernel_rfl, by kernel_rfl, by kernel_rfl, by kernel_rfl⟩
def c23x : C :=
  ((C.ops [⟨some 2, none, .mv, [.c (.str [])]⟩, ⟨some 3, none, .mv, [.c (.int .i64 0)]⟩]).seq (((C.ops [⟨some 10, none, .mv, [.t 0]⟩, ⟨some 11, none, .call 25 true, [.t 10]⟩, ⟨some
  12, none, .bin .neq, [.t 11, .c (.int .i64 0)]⟩]).seq (C.cond (.t 12) ((C.ops [⟨some 2, none, .mv, [.c (.str [])]⟩, ⟨some 3, none, .mv, [.c (.int .i64 1)]⟩]).seq C.ret)
  C.skip)).seq ((C.ops [⟨some 4, none, .alloc 0 69 [.nilp, .nl], []⟩]).seq (((C.wk.seq (C.ops [⟨some 13, none, .mv, [.t 0]⟩, ⟨some 14, none, .len, [.t 13]⟩, ⟨some 15, none, .mv, [.c
  (.int .i64 0)]⟩])).seq (C.block 0 ((C.ops [⟨some 16, none, .bin .lss, [.t 15, .t 14]⟩]).seq ((C.cond (.t 16) C.skip (C.exit 0)).seq ((C.block 1 ((C.ops [⟨some 17, none, .mv, [.t
  15]⟩, ⟨some 18, none, .idxA 2, [.t 13, .t 15]⟩, ⟨some 19, none, .load (some 2), [.t 18]⟩, ⟨some 6, none, .alloc 1 32 [.str [], .nl], []⟩, ⟨some 5, none, .mv, [.t 17]⟩, ⟨none, none,
  .store 2, [.t 6, .t 19]⟩]).seq (((C.ops [⟨some 20, none, .mv, [.t 5]⟩, ⟨some 21, none, .bin .gtr, [.t 20, .c (.int .i64 0)]⟩]).seq (C.cond (.t 21) (C.ops [⟨some 22, none, .call 48
  false, [.t 4, .c (.int .u8 32)]⟩]) C.skip)).seq ((C.ops [⟨some 23, none, .fldA 0, [.t 6]⟩, ⟨some 24, none, .load none, [.t 23]⟩, ⟨some 25, none, .call 49 true, [.t 24]⟩, ⟨some 7,
  none, .mv, [.t 25]⟩]).seq ((C.ops [⟨some 26, none, .fldA 1, [.t 6]⟩, ⟨some 27, none, .load none, [.t 26]⟩, ⟨some 28, none, .len, [.t 27]⟩, ⟨some 29, none, .mv, [.c (.int .i64
  0)]⟩]).seq (C.block 2 ((C.ops [⟨some 30, none, .bin .lss, [.t 29, .t 28]⟩]).seq ((C.cond (.t 30) C.skip (C.exit 2)).seq ((C.block 3 ((C.ops [⟨some 31, none, .mv, [.t 29]⟩, ⟨some
  32, none, .idxA 1, [.t 27, .t 29]⟩, ⟨some 33, none, .load none, [.t 32]⟩, ⟨some 8, none, .mv, [.t 31]⟩, ⟨some 9, none, .mv, [.t 33]⟩]).seq (((C.ops [⟨some 34, none, .mv, [.t 9]⟩,
  ⟨some 35, none, .bin .gtr, [.t 34, .c (.int .i64 0)]⟩]).seq (C.cond (.t 35) (C.ops [⟨some 36, none, .mv, [.t 9]⟩, ⟨some 37, none, .sidx, [.c (.str [48, 49, 50, 51, 52, 53, 54, 55,
  56, 57]), .t 36]⟩, ⟨some 38, none, .call 48 false, [.t 4, .t 37]⟩]) C.skip)).seq ((C.ops [⟨some 39, none, .mv, [.t 8]⟩, ⟨some 40, none, .mv, [.t 7]⟩, ⟨some 41, none, .len, [.t
  40]⟩, ⟨some 42, none, .bin .lss, [.t 39, .t 41]⟩]).seq (C.cond (.t 42) (C.ops [⟨some 43, none, .mv, [.t 7]⟩, ⟨some 44, none, .mv, [.t 8]⟩, ⟨some 45, none, .idxA 1, [.t 43, .t 44]⟩,
  ⟨some 46, none, .load none, [.t 45]⟩, ⟨some 47, none, .call 50 false, [.t 4, .t 46]⟩]) C.skip))))).seq (C.ops [⟨some 48, none, .bin .add, [.t 29, .c (.int .i64 1)]⟩, ⟨some 29,
  none, .mv, [.t 48]⟩])))).loop)))))).seq (C.ops [⟨some 49, none, .bin .add, [.t 15, .c (.int .i64 1)]⟩, ⟨some 15, none, .mv, [.t 49]⟩])))).loop)).seq (((C.ops [⟨some 50, none, .call
  51 true, [.t 4]⟩, ⟨some 51, none, .bin .gtr, [.t 50, .c (.int .i64 65536)]⟩]).seq (C.cond (.t 51) ((C.ops [⟨some 2, none, .mv, [.c (.str [])]⟩, ⟨some 3, none, .mv, [.c (.int .i64
  4)]⟩]).seq C.ret) C.skip)).seq ((C.ops [⟨some 52, none, .call 52 false, [.t 4]⟩, ⟨some 2, none, .mv, [.t 52]⟩, ⟨some 3, none, .mv, [.c (.int .i64 0)]⟩]).seq
  C.ret))))))
theorem fn23x : FnIs Tryd.prog 23 53 3 [RV.tmp 2, RV.tmp 3] c23x := ⟨Tryd.f23, Tryd.f23.body.getD .skip, [4, 6, 5], [81, 48, 50, 52], [4], by kernel_rfl, by kernel_rfl, by kernel_rfl, by kernel_rfl, by kernel_rfl, by kernel_rfl, by kernel_rfl⟩
end

section
open Go Go.Proofs AF HY
namespace HY
set_option maxRecDepth 100000
theorem v81 (kb vb : Nat) (A B : AV) (h : List AObj) (hk : getO kb h = some (.mem vb 69 [A, B])) (hA : A = .nilp ∨ A = .op kb vb 0) : ACalls Tryd.prog 81 [.op kb vb 0] h (.tup []) (setO kb h (.mem vb 69 [.op kb vb 0, B])) := by
  refine ⟨okF1 Tryd.func81 (by kernel_rfl) (by kernel_rfl), fun w σ xs H hv => ?_⟩
  obtain ⟨x, rfl, hx⟩ := hv.one
  have hc := cellsOf_of hk
  obtain ⟨cs, o, b, arr, g1, rfl, g2, g3, g4, g5, g6, g7, g9, g8⟩ := op_live H hx (by rw [hc]; rfl)
  rw [hc] at g1
  cases g1
  have hobj := H.obj kb _ o hk g2
  obtain ⟨_, hty, _⟩ := hobj
  rw [hty] at g5
  have g5b := g5
  have g5 := g5.plain (by decide)
  have hsz : 2 ≤ arr.size := g7
  have hc0 : w.cell? ⟨b, 0, none⟩ = some arr[0] := by rw [cell_of g5b]; simp
  have hA0 := g8 0 A arr[0] rfl (by simp)
  have hsh : w.shape? b = some (69, arr.size) := by simp [World.shape?, g5]
  have hfz : w.frozen? ⟨b, 0, none⟩ = false := by simp [World.frozen?, g5]
  have hkl := getO_lt hk
  rcases hA with rfl | rfl
  · rw [vr_nilp hA0] at hc0
    refine (callsIn_wide.2 (cc_fresh b w hc0 arr.size hsz hsh hfz)).mono ?_
    rintro e w' ⟨rfl, rfl⟩
    have hg : w.grownBy (w.setCell ⟨b, 0, none⟩ (.pointer (some ⟨b, 0, none⟩))) o.blk := by rw [g4]; exact grownBy_setCell' w b _
    have hh := heap_setCell_same w b 0 arr 69 (.pointer (some ⟨b, 0, none⟩)) g5
    obtain ⟨u1, u2⟩ := H.update (o' := o) (a' := .mem vb 69 [.op kb vb 0, B]) g2 hg (Nat.le_refl _) (fun _ => rfl)
      (by intro b' e; rw [g4] at e; cases e; exact ⟨.inl g4, (Array.getElem?_eq_some_iff.1 hh).1⟩) (fun b' r e hr => by rw [g4] at e; cases e; rw [g5] at hr; cases hr)
      (fun e => ⟨g3, hty, b, _, g4, by rw [hty]; exact .mk hh, by simp [g6], by simp; exact hsz, fun i y hi hy => by
        simp only [Array.getElem?_setIfInBounds] at hy
        split at hy
        · split at hy
          · cases hy; rfl
          · cases hy
        · exact g9 i y (by simpa using hi) hy, fun i c y hc hy => by
        simp only [Array.getElem?_setIfInBounds] at hy
        split at hy
        · rename_i e0
          split at hy
          · cases hy
            subst e0
            simp at hc
            subst hc
            have hko : (σ.set kb o)[kb]? = some o := by rw [List.getElem?_set_self (by rw [H.len]; exact hkl)]
            exact .op o hko ⟨_, rfl⟩ (by omega) (fun _ => ⟨b, g4, rfl⟩)
          · cases hy
        · rename_i e0
          have : i = 1 ∨ 2 ≤ i := by omega
          rcases this with rfl | h2
          · exact (g8 1 c y hc hy).ext e
          · match i, h2, hc with
            | i + 2, _, hc => simp at hc⟩)
    exact ⟨_, _, rfl, u1, .imm (.tup rfl (fun i c x hc => by simp at hc)), u2⟩
  · obtain ⟨o', q1, q2, q3⟩ := vr_op hA0
    rw [g2] at q1
    cases q1
    obtain ⟨b', q4, q5⟩ := q3 g3
    rw [g4] at q4
    cases q4
    rw [q5] at hc0
    refine (callsIn_wide.2 (cc_used b w hc0)).mono ?_
    rintro e w' ⟨rfl, rfl⟩
    rw [setO_same hk]
    exact ⟨_, σ, rfl, H, .imm (.tup rfl (fun i c x hc => by simp at hc)), Ext.refl w' σ⟩
def bufO (v : Nat) (s : List UInt8) : AObj := if s = [] then .emp v else .mem v 5 (bytesA s)
theorem bufO_nil (v : Nat) : bufO v [] = .emp v := rfl
theorem bufO_ne {s : List UInt8} (h : s ≠ []) (v : Nat) : bufO v s = .mem v 5 (bytesA s) := if_neg h
theorem bytesA_app (s u : List UInt8) : bytesA (s ++ u) = bytesA s ++ bytesA u := by simp [bytesA]
theorem bytesA_low (s : List UInt8) (n : Nat) : ∀ c ∈ bytesA s, lowV n c = true := by
  intro c hc
  unfold bytesA at hc
  rw [List.mem_map] at hc
  obtain ⟨a, _, rfl⟩ := hc
  rfl
theorem bufO_low (v : Nat) (s : List UInt8) (n : Nat) : lowO n (bufO v s) := by
  unfold bufO
  split
  · trivial
  · exact bytesA_low s n

theorem bld_set {kb kj : Nat} {h : List AObj} {X Y Z : AObj} (hne : kb ≠ kj) : setO kb (setO kj (setO kb h X) Y) Z = setO kj (setO kb h Z) Y := by
  rw [setO_comm hne, setO_setO]
theorem bld_low {kb vb kj v m : Nat} {h : List AObj} {s : List UInt8} (hkl : kb < h.length) (hjl : kj < h.length) : ∀ o ∈ setO kj (setO kb h (.mem vb 69 [.op kb vb 0, .osl kj v 1 0 m])) (bufO v s), o ∈ h ∨ lowO h.length o := by
  intro o ho
  rcases mem_setO ho with h1 | rfl
  · rcases mem_setO h1 with h2 | rfl
    · exact .inl h2
    · right
      intro c hc
      simp only [List.mem_cons, List.not_mem_nil, or_false] at hc
      rcases hc with rfl | rfl
      · simpa [lowV] using hkl
      · simpa [lowV] using hjl
  · exact .inr (bufO_low v s _)
theorem bufO_if (v : Nat) (u : List UInt8) : (if u.length = 0 then AObj.emp v else AObj.mem v 5 (bytesA u)) = bufO v u := by
  unfold bufO
  by_cases h : u = []
  · simp [h]
  · rw [if_neg h, if_neg (by simpa using h)]
theorem v50 (kb vb kj v : Nat) (A : AV) (s u : List UInt8) (h : List AObj) (hne : kj ≠ kb) (hk : getO kb h = some (.mem vb 69 [A, .osl kj v 1 0 s.length])) (hA : A = .nilp ∨ A = .op kb vb 0) (hj : getO kj h = some (bufO v s)) (hl : s.length + u.length ≤ 140737488355328) :
    ACalls Tryd.prog 50 [.op kb vb 0, .str u] h (.tup [.int .i64 u.length, .nilif]) (setO kj (setO kb h (.mem vb 69 [.op kb vb 0, .osl kj (v + 1) 1 0 (s.length + u.length)])) (bufO (v + 1) (s ++ u))) := by
  have hkl := getO_lt hk
  have hjl := getO_lt hj
  have hne' : kb ≠ kj := fun e => hne e.symm
  have hk1 : ∀ l, getO kb (h ++ l) = some (.mem vb 69 [A, .osl kj v 1 0 s.length]) := fun l => by rw [getO_left hkl, hk]
  refine acalls_of fn50x (by simp) ?_
  simp only [List.length_cons, List.length_nil, Nat.reduceAdd, Nat.reduceSub, List.replicate, List.cons_append, List.nil_append, List.append_nil]
  simp (disch := omega) only [c50x, go_sem, wrap64_id, Int.tdiv_eq_ediv_of_nonneg, Int.tmod_eq_emod_of_nonneg]
  refine callA_eff (v81 kb vb A _ _ (hk1 _) hA) ⟨rfl, trivial⟩ ?_
  by_cases hs : s = []
  · subst hs
    rw [bufO_nil] at hj
    simp (disch := omega) only [setO_left, getO_setO, getO_setO_ne, getO_L1, getO_L2, setO_L1, setO_L2, cellsOf_def, liveS_def, cellsIn_mem, liveIn_mem, liveIn_emp, hj, go_sem]
    refine ⟨by omega, ⟨by simp, by simp at hl; omega⟩, ?_⟩
    rw [bld_set hne', bufO_if]
    refine fnQ_eff ⟨trivial, trivial, trivial⟩ (by simp only [len_setO]) (bld_low hkl hjl) ⟨rfl, ?_⟩ (VLe.refl _)
    simp
  · rw [bufO_ne hs] at hj
    simp (disch := omega) only [setO_left, getO_setO, getO_setO_ne, getO_L1, getO_L2, setO_L1, setO_L2, cellsOf_def, liveS_def, cellsIn_mem, liveIn_mem, liveIn_emp, hj, bytesA_len, go_sem]
    repeat' first
      | (with_reducible refine And.intro ?_ ?_)
    all_goals first
      | omega
      | (simp [bytesA_len]; done)
      | skip
    rw [bld_set hne', List.take_of_length_le (by simp [bytesA_len]), ← bytesA_app, ← bufO_ne (by simp [hs])]
    exact fnQ_eff ⟨trivial, trivial, trivial⟩ (by simp only [len_setO]) (bld_low hkl hjl) ⟨rfl, rfl⟩ (VLe.refl _)
theorem v48 (kb vb kj v : Nat) (A : AV) (s : List UInt8) (u : UInt8) (h : List AObj) (hne : kj ≠ kb) (hk : getO kb h = some (.mem vb 69 [A, .osl kj v 1 0 s.length])) (hA : A = .nilp ∨ A = .op kb vb 0) (hj : getO kj h = some (bufO v s)) (hl : s.length + 1 ≤ 140737488355328) :
    ACalls Tryd.prog 48 [.op kb vb 0, .int .u8 u.toNat] h .nilif (setO kj (setO kb h (.mem vb 69 [.op kb vb 0, .osl kj (v + 1) 1 0 (s.length + 1)])) (bufO (v + 1) (s ++ [u]))) := by
  have hkl := getO_lt hk
  have hjl := getO_lt hj
  have hne' : kb ≠ kj := fun e => hne e.symm
  have hj0 : kj ≠ h.length := by omega
  have hj1 : kj ≠ h.length + 1 := by omega
  have hk1 : ∀ l, getO kb (h ++ l) = some (.mem vb 69 [A, .osl kj v 1 0 s.length]) := fun l => by rw [getO_left hkl, hk]
  refine acalls_of fn48x (by simp) ?_
  simp only [List.length_cons, List.length_nil, Nat.reduceAdd, Nat.reduceSub, List.replicate, List.cons_append, List.nil_append, List.append_nil]
  simp (disch := omega) only [c48x, go_sem, wrap64_id, Int.tdiv_eq_ediv_of_nonneg, Int.tmod_eq_emod_of_nonneg]
  refine callA_eff (v81 kb vb A _ _ (hk1 _) hA) ⟨rfl, trivial⟩ ?_
  by_cases hs : s = []
  · subst hs
    rw [bufO_nil] at hj
    simp (disch := omega) only [setO_left, getO_setO, getO_setO_ne, getO_L1, getO_L2, setO_L1, setO_L2, cellsOf_def, liveS_def, cellsIn_mem, liveIn_mem, liveIn_emp, hj, madeA, go_sem]
    repeat' first
      | (with_reducible refine And.intro ?_ ?_)
    all_goals first
      | omega
      | (rw [bne_iff_ne]; exact hj0)
      | (simp; done)
      | skip
    rw [bld_set hne', show AObj.mem (v + 1) 5 [AV.int IntKind.u8 u.toNat] = bufO (v + 1) [u] from (bufO_ne (s := [u]) (by simp) _).symm]
    exact fnQ_eff ⟨trivial, trivial⟩ (by simp only [len_setO]) (bld_low hkl hjl) ⟨rfl, rfl⟩ (VLe.refl _)
  · rw [bufO_ne hs] at hj
    simp (disch := omega) only [setO_left, getO_setO, getO_setO_ne, getO_L1, getO_L2, setO_L1, setO_L2, cellsOf_def, liveS_def, cellsIn_mem, liveIn_mem, liveIn_emp, hj, bytesA_len, madeA, go_sem]
    repeat' first
      | (with_reducible refine And.intro ?_ ?_)
    all_goals first
      | omega
      | (rw [bne_iff_ne]; exact hj0)
      | (simp [bytesA_len]; done)
      | skip
    rw [bld_set hne', List.take_of_length_le (by simp [bytesA_len]), show bytesA s ++ [AV.int IntKind.u8 u.toNat] = bytesA (s ++ [u]) from (bytesA_app s [u]).symm, ← bufO_ne (s := s ++ [u]) (by simp)]
    exact fnQ_eff ⟨trivial, trivial⟩ (by simp only [len_setO]) (bld_low hkl hjl) ⟨rfl, rfl⟩ (VLe.refl _)
theorem grown_freeze (w : World) (g n : Nat) : w.grownBy (w.drew.freeze ⟨g, 0, none⟩ n) (some g) := by
  unfold World.freeze
  split
  · exact ⟨rfl, rfl, rfl, Nat.le_refl _, fun _ _ _ => rfl⟩
  · refine ⟨rfl, rfl, rfl, ?_, fun k hk hne => ?_⟩
    · show w.heap.size ≤ (w.heap.modify g _).size
      rw [Array.size_modify]
      exact Nat.le_refl _
    · have : g ≠ k := fun e => hne (by rw [e])
      show (w.heap.modify g _)[k]? = w.heap[k]?
      rw [Array.getElem?_modify, if_neg this]
theorem v52 (kb vb kj v : Nat) (A : AV) (s : List UInt8) (h : List AObj) (hne : kj ≠ kb) (hk : getO kb h = some (.mem vb 69 [A, .osl kj v 1 0 s.length])) (hj : getO kj h = some (bufO v s)) :
    ACalls Tryd.prog 52 [.op kb vb 0] h (.str s) (setO kj h (.emp (v + 1))) := by
  refine ⟨okF1 Tryd.func52 (by kernel_rfl) (by kernel_rfl), fun w σ xs H hv => ?_⟩
  obtain ⟨x, rfl, hx⟩ := hv.one
  have hc := cellsOf_of hk
  obtain ⟨cs, o, b, arr, g1, rfl, g2, g3, g4, g5, g6, g7, g9, g8⟩ := op_live H hx (by rw [hc]; rfl)
  rw [hc] at g1
  cases g1
  have hty := (H.obj kb _ o hk g2).2.1
  rw [hty] at g5
  have g5b := g5
  have g5 := g5.plain (by decide)
  have hsz : 2 ≤ arr.size := g7
  have hc1 : w.cell? ⟨b, 1, none⟩ = some arr[1] := by rw [cell_of g5b]; simp
  have hB := g8 1 _ arr[1] rfl (by simp)
  obtain ⟨oj, j1, j2, j3⟩ := vr_osl hB
  have hobj := H.obj kj _ oj hj j1
  have hkj := getO_lt hj
  by_cases hs : s = []
  · subst hs
    rw [bufO_nil] at hj hobj
    obtain ⟨m1, m2⟩ := hobj
    rcases j3 m1 with ⟨_, _, _, e⟩ | ⟨b', cap, e, _⟩
    · rw [e] at hc1
      refine (callsIn_wide.2 (str_none b w hc1)).mono ?_
      rintro e w' ⟨rfl, rfl⟩
      obtain ⟨u1, u2⟩ := H.update (w' := w.drew) (o' := { oj with blk := none, ver := v + 1 }) (a' := .emp (v + 1)) j1 ⟨rfl, rfl, rfl, Nat.le_refl _, fun _ _ _ => rfl⟩ (by simp only; omega) (by simp only; omega) (by intro b' e; cases e) (fun b' r e hr => ⟨r, hr⟩) (fun _ => ⟨rfl, rfl⟩)
      exact ⟨_, _, rfl, u1, .imm .str, u2⟩
    · rw [m2] at e; cases e
  · rw [bufO_ne hs] at hj hobj
    obtain ⟨m1, m2, bj, arrj, m3, m4, m5, m6, m7, m8⟩ := hobj
    rcases j3 m1 with ⟨e, _⟩ | ⟨b', cap, e1, e2, e3, e4, e5⟩
    · rw [m3] at e; cases e
    · rw [m3] at e1
      cases e1
      rw [e2] at hc1
      rw [m2] at m4
      have m4b := m4
      have m4 := m4.plain (by decide)
      rw [bytesA_len] at m6
      refine (callsIn_wide.2 (str_some b bj cap s arrj w hs hc1 m4 e3 e4 (by omega) (fun j x hx => ?_))).mono ?_
      · have hjl : j < s.length := (List.getElem?_eq_some_iff.1 hx).1
        rw [cell_of m4b]
        have ea : arrj[j]? = some arrj[j] := by simp
        have := m8 j (.int .u8 x.toNat) arrj[j] (by simp [bytesA, hx]) ea
        rw [ea, vr_int this]
      · rintro e w' ⟨rfl, rfl⟩
        have hg : w.grownBy (w.drew.freeze ⟨bj, 0, none⟩ s.length) oj.blk := by
          rw [m3]
          exact grown_freeze w bj s.length
        obtain ⟨u1, u2⟩ := H.update (o' := { oj with blk := none, ver := v + 1 }) (a' := .emp (v + 1)) j1 hg (by simp only; omega) (by simp only; omega) (by intro b' e; cases e)
          (fun b' r e hr => by rw [m3] at e; cases e; rw [m4] at hr; cases hr) (fun _ => ⟨rfl, rfl⟩)
        exact ⟨_, _, rfl, u1, .imm .str, u2⟩
end HY
end

section
open Go Go.Proofs AF HY
namespace HY
set_option maxRecDepth 100000
def digB (n : Int) : UInt8 := (([48, 49, 50, 51, 52, 53, 54, 55, 56, 57] : List UInt8)[n.toNat]?).getD 0
def tokS (us : List (List UInt8)) (lv : List Int) (k : Nat) : List UInt8 := (if 0 < lv.getD k 0 then [digB (lv.getD k 0)] else []) ++ us.getD k []
def patGo (us : List (List UInt8)) (lv : List Int) : Nat → List UInt8
  | 0 => []
  | k + 1 => patGo us lv k ++ tokS us lv k
def patT (p : Pat) : List UInt8 := patGo (clus p.letters) p.levels p.levels.length
def sepT (i : Nat) : List UInt8 := if i = 0 then [] else [32]
def printGo (ps : List Pat) : Nat → List UInt8
  | 0 => []
  | i + 1 => printGo ps i ++ (sepT i ++ patT (ps.getD i default))
def printT (ps : List Pat) : List UInt8 := printGo ps ps.length
def printE (ps : List Pat) : Int := if checkPats ps = 0 then (if 65536 < (printT ps).length then 4 else 0) else 1
def printR (ps : List Pat) : List UInt8 := if printE ps = 0 then printT ps else []
theorem patGo_le {us : List (List UInt8)} {lv : List Int} {i j : Nat} (h : i ≤ j) : (patGo us lv i).length ≤ (patGo us lv j).length := by
  induction j with
  | zero => have : i = 0 := by omega
            subst this; exact Nat.le_refl _
  | succ j ih =>
    by_cases e : i = j + 1
    · rw [e]; exact Nat.le_refl _
    · have := ih (by omega)
      show _ ≤ (patGo us lv j ++ tokS us lv j).length
      rw [List.length_append]
      omega
theorem printGo_le {ps : List Pat} {i j : Nat} (h : i ≤ j) : (printGo ps i).length ≤ (printGo ps j).length := by
  induction j with
  | zero => have : i = 0 := by omega
            subst this; exact Nat.le_refl _
  | succ j ih =>
    by_cases e : i = j + 1
    · rw [e]; exact Nat.le_refl _
    · have := ih (by omega)
      show _ ≤ (printGo ps j ++ _).length
      rw [List.length_append]
      omega
theorem v51 (kb vb kj v : Nat) (A : AV) (s : List UInt8) (h : List AObj) (hk : getO kb h = some (.mem vb 69 [A, .osl kj v 1 0 s.length])) (hj : getO kj h = some (bufO v s)) :
    ACalls Tryd.prog 51 [.op kb vb 0] h (.int .i64 s.length) h := by
  have hc : cellsOf h kb vb = some [A, .osl kj v 1 0 s.length] := cellsOf_of hk
  have hl : liveS h kj v = true := by
    unfold liveS
    rw [hj]
    by_cases e : s = []
    · rw [e, bufO_nil]; simp
    · rw [bufO_ne e]; simp
  refine acalls_of fn51x (by simp) ?_
  simp only [List.length_cons, List.length_nil, Nat.reduceAdd, Nat.reduceSub, List.replicate, List.cons_append, List.nil_append, List.append_nil]
  simp (disch := omega) only [c51x, hc, hl, go_sem, wrap64_id, Int.tdiv_eq_ediv_of_nonneg, Int.tmod_eq_emod_of_nonneg]
  repeat' first
    | ((first | refine fnQ_pure1 ?_ ?_ | refine fnQ_pure0 ?_ ?_); (next => repeat' first | exact rvs_n | refine rvs_t ?_ | (simp [go_sem]; done)); simp only [go_sem]; (first | exact VLe.refl _ | refine VLe_int ?_ | refine VLe_bool ?_ | refine VLe_str ?_ | skip))
    | (with_reducible refine And.intro ?_ ?_)
    | with_reducible intro _
  all_goals first
    | omega
    | (rename_i hx; revert hx; simp; done)
    | (simp; done)
    | skip
theorem Wk.nilcell {t : List AV} {h : List AObj} {k j v ver : Nat} {ty : TypeId} {cs cs' : List AV} (hk : getO k h = some (.mem ver ty cs)) (hj : getO j h = some (.emp v)) (hl : cs'.length = cs.length)
    (hc : ∀ (i : Nat) c c', cs[i]? = some c → cs'[i]? = some c' → c' = c ∨ (c = .nl ∧ ∃ sz, c' = .osl j v sz 0 0)) : Wk t h t (setO k h (.mem ver ty cs')) := by
  intro N w σ a H
  refine ⟨σ, ⟨⟨by rw [H.hr.len, len_setO], H.hr.inj, H.hr.lt, fun i x o hx ho => ?_⟩, H.sz, H.tm, H.df⟩, Ext.refl w σ⟩
  have hkl := getO_lt hk
  by_cases e : i = k
  · subst e
    have := getO_setO (o := .mem ver ty cs') hkl
    unfold getO at this
    rw [this] at hx
    cases hx
    obtain ⟨m1, m2, b, arr, m3, m4, m5, m6, m7, m8⟩ := H.hr.obj i _ o hk ho
    refine ⟨m1, m2, b, arr, m3, m4, m5, by omega, fun n y hn hy => m7 n y (by omega) hy, fun n c' y hc' hy => ?_⟩
    have hn : n < cs.length := by have := (List.getElem?_eq_some_iff.1 hc').1; omega
    have e1 : cs[n]? = some cs[n] := List.getElem?_eq_getElem hn
    rcases hc n _ _ e1 hc' with rfl | ⟨e2, sz, rfl⟩
    · exact m8 n _ y e1 hy
    · have := m8 n _ y e1 hy
      rw [e2] at this
      have e3 := vr_nl this
      subst e3
      have hjl : j < σ.length := by rw [H.hr.len]; exact getO_lt hj
      have ej : σ[j]? = some σ[j] := List.getElem?_eq_getElem hjl
      obtain ⟨q1, q2⟩ := H.hr.obj j _ _ hj ej
      exact .osl _ ej ⟨_, _, _, rfl⟩ (by omega) (fun _ => .inl ⟨q2, rfl, rfl, rfl⟩)
  · unfold setO at hx
    rw [List.getElem?_set_ne (fun e' => e e'.symm)] at hx
    exact H.hr.obj i x o hx ho
theorem wkB {t : List AV} {h : List AObj} {O : AObj} : Wk t (h ++ [.mem 1 69 [.nilp, .nl], O, .emp 0]) t (h ++ [.mem 1 69 [.nilp, .osl (h.length + 2) 0 1 0 0], O, .emp 0]) := by
  have := Wk.nilcell (t := t) (h := h ++ [.mem 1 69 [.nilp, .nl], O, .emp 0]) (k := h.length) (j := h.length + 2) (v := 0) (ver := 1) (ty := 69) (cs := [.nilp, .nl]) (cs' := [.nilp, .osl (h.length + 2) 0 1 0 0]) (by simp only [go_sem]) (by simp only [go_sem]) rfl (fun i c c' hc hc' => by
    match i, hc, hc' with
    | 0, hc, hc' => left; simp at hc hc'; rw [← hc, ← hc']
    | 1, hc, hc' => right; simp at hc hc'; exact ⟨hc.symm, 1, hc'.symm⟩)
  simpa [setO] using this
end HY
end

section
open Go Go.Proofs AF HY
namespace HY
set_option maxRecDepth 100000
theorem okLev_all {ps : List Pat} (h : checkPats ps = 0) {i : Nat} (hi : i < ps.length) {k : Nat} (hk : k < (ps.getD i default).levels.length) : 0 ≤ (ps.getD i default).levels.getD k 0 ∧ (ps.getD i default).levels.getD k 0 ≤ 9 := by
  have hm : ps.getD i default ∈ ps := by rw [List.getD_eq_getElem?_getD, List.getElem?_eq_getElem hi]; exact List.getElem_mem hi
  have := okLev_check (check_all h _ hm)
  have h2 := this ((ps.getD i default).levels.getD k 0) (by rw [List.getD_eq_getElem?_getD (l := (ps.getD i default).levels), List.getElem?_eq_getElem hk]; exact List.getElem_mem hk)
  exact h2
def patA (s0 : List UInt8) (us : List (List UInt8)) (lv : List Int) : Nat → List UInt8
  | 0 => s0
  | k + 1 => patA s0 us lv k ++ tokS us lv k
theorem patA_eq (s0 : List UInt8) (us : List (List UInt8)) (lv : List Int) : ∀ k, patA s0 us lv k = s0 ++ patGo us lv k := by
  intro k
  induction k with
  | zero => simp [patA, patGo]
  | succ k ih => simp only [patA, patGo, ih, List.append_assoc]
theorem patA_le {s0 : List UInt8} {us : List (List UInt8)} {lv : List Int} {k m : Nat} (h : k ≤ m) : (patA s0 us lv k).length ≤ s0.length + (patGo us lv m).length := by
  rw [patA_eq, List.length_append]
  have := patGo_le (us := us) (lv := lv) h
  omega
theorem tok_len (us : List (List UInt8)) (lv : List Int) (k : Nat) : (us.getD k []).length ≤ (tokS us lv k).length := by unfold tokS; rw [List.length_append]; omega
theorem getD_none {us : List (List UInt8)} {k : Nat} (h : ¬ k < us.length) : us.getD k [] = [] := by
  rw [List.getD_eq_getElem?_getD, List.getElem?_eq_none (by omega)]; rfl
set_option maxHeartbeats 8000000 in
theorem v23 (ps : List Pat) (h : List AObj) (hok : okPats ps) (hB : (printT ps).length ≤ 1000000000) : ACalls Tryd.prog 23 [patsV ps] h (.tup [.str (printR ps), .int .i64 (printE ps)]) h := by
  have c25 := fun h => t64 ps h hok
  unfold printR printE
  by_cases g : checkPats ps = 0
  case neg =>
    rw [if_neg g]
    rw [if_neg (show ¬ ((1 : Int) = 0) by omega)]
    have k0 : (checkPats ps = 0) = False := eq_false g
    refine acalls_of fn23x (by simp) ?_
    simp only [List.length_cons, List.length_nil, Nat.reduceAdd, Nat.reduceSub, List.replicate, List.cons_append, List.nil_append, List.append_nil]
    simp (disch := omega) only [c23x, k0, go_sem, wrap64_id, Int.tdiv_eq_ediv_of_nonneg, Int.tmod_eq_emod_of_nonneg]
    repeat' first
      | ((first | refine callA_pure (c25 _) ?_ ?_); (next => repeat' first | exact flags_n | refine flags_c (by first | rfl | assumption) ?_); simp (disch := omega) only [k0, go_sem, wrap64_id, Int.tdiv_eq_ediv_of_nonneg, Int.tmod_eq_emod_of_nonneg])
      | ((first | refine callG_pure (fun e => ⟨?_, c25 _⟩) ?_); (next => repeat' first | exact flags_n | refine flags_c (by first | rfl | assumption) ?_); simp (disch := omega) only [k0, go_sem, wrap64_id, Int.tdiv_eq_ediv_of_nonneg, Int.tmod_eq_emod_of_nonneg])
      | ((first | refine fnQ_pure1 ?_ ?_ | refine fnQ_pure0 ?_ ?_); (next => repeat' first | exact rvs_n | refine rvs_t ?_ | (simp [go_sem]; done)); simp only [go_sem]; (first | exact VLe.refl _ | refine VLe_int ?_ | refine VLe_bool ?_ | refine VLe_str ?_ | skip))
      | (with_reducible refine And.intro ?_ ?_)
      | with_reducible intro _
    all_goals first
      | omega
      | (rename_i hx; revert hx; simp; done)
      | (simp; done)
      | skip
  rw [if_pos g]
  rw [g] at c25
  obtain ⟨hok1, hok2⟩ := hok
  have hlev := fun i (hi : i < ps.length) k hk => okLev_all g hi (k := k) hk
  refine acalls_of fn23x (by simp) ?_
  simp only [List.length_cons, List.length_nil, Nat.reduceAdd, Nat.reduceSub, List.replicate, List.cons_append, List.nil_append, List.append_nil]
  simp (disch := omega) only [c23x, go_sem, wrap64_id, Int.tdiv_eq_ediv_of_nonneg, Int.tmod_eq_emod_of_nonneg]
  repeat' first
    | ((first | refine callA_pure (c25 _) ?_ ?_); (next => repeat' first | exact flags_n | refine flags_c (by first | rfl | assumption) ?_); simp (disch := omega) only [go_sem, wrap64_id, Int.tdiv_eq_ediv_of_nonneg, Int.tmod_eq_emod_of_nonneg])
    | ((first | refine callG_pure (fun e => ⟨?_, c25 _⟩) ?_); (next => repeat' first | exact flags_n | refine flags_c (by first | rfl | assumption) ?_); simp (disch := omega) only [go_sem, wrap64_id, Int.tdiv_eq_ediv_of_nonneg, Int.tmod_eq_emod_of_nonneg])
    | ((first | refine fnQ_pure1 ?_ ?_ | refine fnQ_pure0 ?_ ?_); (next => repeat' first | exact rvs_n | refine rvs_t ?_ | (simp [go_sem]; done)); simp only [go_sem]; (first | exact VLe.refl _ | refine VLe_int ?_ | refine VLe_bool ?_ | refine VLe_str ?_ | skip))
    | (with_reducible refine And.intro ?_ ?_)
    | with_reducible intro _
  all_goals first
    | omega
    | (rename_i hx; revert hx; simp; done)
    | (simp; done)
    | skip
  refine ⟨_, _, wkB, ?_⟩
  simp (disch := omega) only [patsV, go_sem, wrap64_id, Int.tdiv_eq_ediv_of_nonneg, Int.tmod_eq_emod_of_nonneg]
  repeat' first
    | ((first | refine fnQ_pure1 ?_ ?_ | refine fnQ_pure0 ?_ ?_); (next => repeat' first | exact rvs_n | refine rvs_t ?_ | (simp [go_sem]; done)); simp only [go_sem]; (first | exact VLe.refl _ | refine VLe_int ?_ | refine VLe_bool ?_ | refine VLe_str ?_ | skip))
    | (with_reducible refine And.intro ?_ ?_)
    | with_reducible intro _
  all_goals first
    | omega
    | (rename_i hx; revert hx; simp; done)
    | (simp; done)
    | skip
  refine loop_of (T := fun i : Nat × AObj × AV × Nat × Nat => spar 53 [(4, .op h.length 1 0), (13, patsV ps), (14, .int .i64 ps.length), (15, .int .i64 i.1)])
    (H := fun i => h ++ [.mem 1 69 [i.2.2.1, .osl (h.length + 2) i.2.2.2.1 1 0 i.2.2.2.2], i.2.1, bufO i.2.2.2.1 (printGo ps i.1)])
    (inv := fun i => i.1 ≤ ps.length ∧ site [i.2.1] 0 = true ∧ (i.2.2.1 = .nilp ∨ i.2.2.1 = .op h.length 1 0) ∧ i.2.2.2.2 = (printGo ps i.1).length) (m := fun i => ps.length - i.1) (0, .emp 0, .nilp, 0, 0) ⟨Nat.zero_le _, rfl, .inl rfl, rfl⟩ (Wk.temps ?_) ?_
  · (simp only [patsV, spar, List.foldl, List.replicate, go_sem, VLes_nil, VLes_cons, VLe_undef_iff, VLe_self]; try (repeat' first | (with_reducible refine And.intro ?_ ?_) | (refine VLe_int ?_; omega) | (refine VLe_bool ?_; rfl) | exact VLe.refl _))
  rintro ⟨i, O, A, v, n⟩ ⟨i1, i2, i3, i4⟩ K hK
  simp only at i1 i2 i3 i4 hK
  subst i4
  have i2' : ∀ m, site (O :: m) 0 = true := fun _ => i2
  obtain ⟨s, hs⟩ : ∃ s, s = printGo ps i := ⟨_, rfl⟩
  have hsl := printGo_le (ps := ps) i1
  rw [← hs] at hsl
  have hsl : s.length ≤ (printT ps).length := hsl
  rw [← hs]
  by_cases hi : i < ps.length
  · have hnx : printGo ps (i + 1) = s ++ (sepT i ++ patT (ps.getD i default)) := by rw [hs]; rfl
    have hnl := printGo_le (ps := ps) (show i + 1 ≤ ps.length by omega)
    have hnl : (printGo ps (i + 1)).length ≤ (printT ps).length := hnl
    obtain ⟨q1, q2⟩ := hok2 i hi
    have hlv := hlev i hi
    obtain ⟨x, hx⟩ : ∃ x, x = ps.getD i default := ⟨_, rfl⟩
    have ex := hx.symm
    rw [ex] at hnx q1 q2 hlv
    have c49 := fun h => t105 x.letters h q1
    unfold patT at hnx
    have hcl := clus_len x.letters
    obtain ⟨us, hus⟩ : ∃ us, us = clus x.letters := ⟨_, rfl⟩
    rw [← hus] at c49 hnx hcl
    obtain ⟨lv, hlvv⟩ : ∃ lv, lv = x.levels := ⟨_, rfl⟩
    rw [← hlvv] at hnx q2 hlv
    have exC : patC x = [.str x.letters, intsV lv] := by rw [hlvv]; rfl
    rw [hnx] at hnl
    rw [List.length_append, List.length_append] at hnl
    by_cases h0 : i = 0
    · have g0 : (0 < (i : Int)) = False := eq_false (by omega)
      obtain ⟨s0, hs0, hs0n⟩ : ∃ s0, s0 = s ++ sepT i ∧ s0 = s := ⟨s, by rw [h0]; simp [sepT], rfl⟩
      have hs0l : s0.length + (patGo us lv lv.length).length ≤ 1000000000 := by rw [hlvv] at hnl ⊢; rw [hs0, List.length_append]; omega
      simp (disch := omega) only [spar, List.foldl, List.replicate, patsV, ex, exC, i2', g0, go_sem, wrap64_id, Int.tdiv_eq_ediv_of_nonneg, Int.tmod_eq_emod_of_nonneg]
      repeat' first
        | ((first | refine callA_pure (c49 _) ?_ ?_); (next => repeat' first | exact flags_n | refine flags_c (by first | rfl | assumption) ?_); simp (disch := omega) only [patsV, ex, exC, i2', g0, intsV, go_sem, wrap64_id, Int.tdiv_eq_ediv_of_nonneg, Int.tmod_eq_emod_of_nonneg])
        | ((first | refine callG_pure (fun e => ⟨?_, c49 _⟩) ?_); (next => repeat' first | exact flags_n | refine flags_c (by first | rfl | assumption) ?_); simp (disch := omega) only [patsV, ex, exC, i2', g0, intsV, go_sem, wrap64_id, Int.tdiv_eq_ediv_of_nonneg, Int.tmod_eq_emod_of_nonneg])
        | ((first | refine fnQ_pure1 ?_ ?_ | refine fnQ_pure0 ?_ ?_); (next => repeat' first | exact rvs_n | refine rvs_t ?_ | (simp [go_sem]; done)); simp only [go_sem]; (first | exact VLe.refl _ | refine VLe_int ?_ | refine VLe_bool ?_ | refine VLe_str ?_ | skip))
        | (with_reducible refine And.intro ?_ ?_)
        | with_reducible intro _
      all_goals first
        | omega
        | (rename_i hx; revert hx; simp; done)
        | (simp; done)
        | skip
      rw [← hs0n]
      refine loop_of (T := fun k : Nat × AV × Nat × Nat => spar 53 [(4, .op h.length 1 0), (7, strs us), (13, patsV ps), (14, .int .i64 ps.length), (15, .int .i64 i), (27, intsV lv), (28, .int .i64 lv.length), (29, .int .i64 k.1)])
        (H := fun k => h ++ [.mem 1 69 [k.2.1, .osl (h.length + 2) k.2.2.1 1 0 k.2.2.2], .mem (verOf (some O) + 1) 32 [.str x.letters, intsV lv], bufO k.2.2.1 (patA s0 us lv k.1)])
        (inv := fun k => k.1 ≤ lv.length ∧ (k.2.1 = .nilp ∨ k.2.1 = .op h.length 1 0) ∧ k.2.2.2 = (patA s0 us lv k.1).length) (m := fun k => lv.length - k.1) (0, A, v, s0.length) ⟨Nat.zero_le _, i3, rfl⟩ (Wk.temps ?_) ?_
      · (simp only [strs, patsV, intsV, spar, List.foldl, List.replicate, go_sem, VLes_nil, VLes_cons, VLe_undef_iff, VLe_self]; try (repeat' first | (with_reducible refine And.intro ?_ ?_) | (refine VLe_int ?_; omega) | (refine VLe_bool ?_; rfl) | exact VLe.refl _))
      rintro ⟨k, A2, v2, n2⟩ ⟨k1, k2, k3⟩ K2 hK2
      simp only at k1 k2 k3 hK2
      subst k3
      by_cases hk : k < lv.length
      · have hb := patA_le (s0 := s0) (us := us) (lv := lv) (show k + 1 ≤ lv.length by omega)
        have hA : patA s0 us lv (k + 1) = patA s0 us lv k ++ tokS us lv k := rfl
        rw [hA, List.length_append] at hb
        have htl := tok_len us lv k
        have hl9 := hlv k hk
        obtain ⟨S, hS⟩ : ∃ S, S = patA s0 us lv k := ⟨_, rfl⟩
        rw [← hS] at hA hb ⊢
        obtain ⟨u, hu⟩ : ∃ u, u = us.getD k [] := ⟨_, rfl⟩
        rw [← hu] at htl
        have eu := hu.symm
        have step : ∀ (A' : AV) (v' n' : Nat) (t' : List AV) (T' : List UInt8), (A' = .nilp ∨ A' = .op h.length 1 0) → T' = S ++ tokS us lv k → n' = T'.length →
            VLes t' (spar 53 [(4, .op h.length 1 0), (7, strs us), (13, patsV ps), (14, .int .i64 ps.length), (15, .int .i64 i), (27, intsV lv), (28, .int .i64 lv.length), (29, .int .i64 ((k + 1 : Nat) : Int))]) →
            K2 t' (h ++ [.mem 1 69 [A', .osl (h.length + 2) v' 1 0 n'], .mem (verOf (some O) + 1) 32 [.str x.letters, intsV lv], bufO v' T']) := by
          intro A' v' n' t' T' hA' hT' hn' ht'
          refine hK2 t' _ (k + 1, A', v', n') ⟨by simp only; omega, hA', by simp only; rw [hA, hn', hT']⟩ (by simp only; omega) ?_
          simp only
          rw [hA, ← hT']
          exact Wk.temps ht'
        have hlen : S.length + (tokS us lv k).length ≤ 1000000000 := by omega
        by_cases hp : 0 < lv.getD k 0
        · have g1 : (0 < lv.getD k 0) = True := eq_true hp
          have ht : tokS us lv k = [digB (lv.getD k 0)] ++ u := by unfold tokS; rw [if_pos hp, ← hu]
          rw [ht, List.length_append, List.length_singleton] at hlen
          by_cases hku : k < us.length
          · have g2 : ((k : Int) < us.length) = True := eq_true (by omega)
            simp (disch := omega) only [spar, List.foldl, List.replicate, intsV, g1, go_sem, wrap64_id, Int.tdiv_eq_ediv_of_nonneg, Int.tmod_eq_emod_of_nonneg]
            repeat' first
              | ((first | refine fnQ_pure1 ?_ ?_ | refine fnQ_pure0 ?_ ?_); (next => repeat' first | exact rvs_n | refine rvs_t ?_ | (simp [go_sem]; done)); simp only [go_sem]; (first | exact VLe.refl _ | refine VLe_int ?_ | refine VLe_bool ?_ | refine VLe_str ?_ | skip))
              | (with_reducible refine And.intro ?_ ?_)
              | with_reducible intro _
            all_goals first
              | omega
              | (rename_i hx; revert hx; simp; done)
              | (simp; done)
              | skip
            refine callA_eff (v48 h.length 1 (h.length + 2) v2 A2 S (digB (lv.getD k 0)) _ (by omega) (by simp only [go_sem]) k2 (by simp only [go_sem]) (by omega)) ⟨rfl, rfl, trivial⟩ ?_
            simp (disch := omega) only [strs, eu, go_sem, wrap64_id, Int.tdiv_eq_ediv_of_nonneg, Int.tmod_eq_emod_of_nonneg]
            repeat' first
              | ((first | refine fnQ_pure1 ?_ ?_ | refine fnQ_pure0 ?_ ?_); (next => repeat' first | exact rvs_n | refine rvs_t ?_ | (simp [go_sem]; done)); simp only [go_sem]; (first | exact VLe.refl _ | refine VLe_int ?_ | refine VLe_bool ?_ | refine VLe_str ?_ | skip))
              | (with_reducible refine And.intro ?_ ?_)
              | with_reducible intro _
            all_goals first
              | omega
              | (rename_i hx; revert hx; simp; done)
              | (simp; done)
              | skip
            refine callA_eff (v50 h.length 1 (h.length + 2) (v2 + 1) (.op h.length 1 0) (S ++ [digB (lv.getD k 0)]) u _ (by omega) (by simp only [go_sem, List.length_append, List.length_singleton]) (.inr rfl) (by simp only [go_sem]) (by simp only [List.length_append, List.length_singleton]; omega)) ⟨rfl, rfl, trivial⟩ ?_
            simp (disch := omega) only [go_sem, wrap64_id, Int.tdiv_eq_ediv_of_nonneg, Int.tmod_eq_emod_of_nonneg]
            refine step _ _ _ _ _ (.inr rfl) (by rw [ht, List.append_assoc]) (by simp; omega) ?_
            (simp only [strs, patsV, intsV, spar, List.foldl, List.replicate, go_sem, VLes_nil, VLes_cons, VLe_undef_iff, VLe_self]; try (repeat' first | (with_reducible refine And.intro ?_ ?_) | (refine VLe_int ?_; omega) | (refine VLe_bool ?_; rfl) | exact VLe.refl _))
          · have g2 : ((k : Int) < us.length) = False := eq_false (by omega)
            have hu0 : u = [] := by rw [hu]; exact getD_none hku
            simp (disch := omega) only [spar, List.foldl, List.replicate, intsV, g1, go_sem, wrap64_id, Int.tdiv_eq_ediv_of_nonneg, Int.tmod_eq_emod_of_nonneg]
            repeat' first
              | ((first | refine fnQ_pure1 ?_ ?_ | refine fnQ_pure0 ?_ ?_); (next => repeat' first | exact rvs_n | refine rvs_t ?_ | (simp [go_sem]; done)); simp only [go_sem]; (first | exact VLe.refl _ | refine VLe_int ?_ | refine VLe_bool ?_ | refine VLe_str ?_ | skip))
              | (with_reducible refine And.intro ?_ ?_)
              | with_reducible intro _
            all_goals first
              | omega
              | (rename_i hx; revert hx; simp; done)
              | (simp; done)
              | skip
            refine callA_eff (v48 h.length 1 (h.length + 2) v2 A2 S (digB (lv.getD k 0)) _ (by omega) (by simp only [go_sem]) k2 (by simp only [go_sem]) (by omega)) ⟨rfl, rfl, trivial⟩ ?_
            simp (disch := omega) only [strs, g2, go_sem, wrap64_id, Int.tdiv_eq_ediv_of_nonneg, Int.tmod_eq_emod_of_nonneg]
            repeat' first
              | ((first | refine fnQ_pure1 ?_ ?_ | refine fnQ_pure0 ?_ ?_); (next => repeat' first | exact rvs_n | refine rvs_t ?_ | (simp [go_sem]; done)); simp only [go_sem]; (first | exact VLe.refl _ | refine VLe_int ?_ | refine VLe_bool ?_ | refine VLe_str ?_ | skip))
              | (with_reducible refine And.intro ?_ ?_)
              | with_reducible intro _
            all_goals first
              | omega
              | (rename_i hx; revert hx; simp; done)
              | (simp; done)
              | skip
            refine step _ _ _ _ _ (.inr rfl) (by rw [ht, hu0]; simp) (by simp) ?_
            (simp only [strs, patsV, intsV, spar, List.foldl, List.replicate, go_sem, VLes_nil, VLes_cons, VLe_undef_iff, VLe_self]; try (repeat' first | (with_reducible refine And.intro ?_ ?_) | (refine VLe_int ?_; omega) | (refine VLe_bool ?_; rfl) | exact VLe.refl _))
        · have g1 : (0 < lv.getD k 0) = False := eq_false hp
          have ht : tokS us lv k = u := by unfold tokS; rw [if_neg hp, ← hu]; rfl
          rw [ht] at hlen
          by_cases hku : k < us.length
          · have g2 : ((k : Int) < us.length) = True := eq_true (by omega)
            simp (disch := omega) only [spar, List.foldl, List.replicate, intsV, g1, strs, eu, go_sem, wrap64_id, Int.tdiv_eq_ediv_of_nonneg, Int.tmod_eq_emod_of_nonneg]
            repeat' first
              | ((first | refine fnQ_pure1 ?_ ?_ | refine fnQ_pure0 ?_ ?_); (next => repeat' first | exact rvs_n | refine rvs_t ?_ | (simp [go_sem]; done)); simp only [go_sem]; (first | exact VLe.refl _ | refine VLe_int ?_ | refine VLe_bool ?_ | refine VLe_str ?_ | skip))
              | (with_reducible refine And.intro ?_ ?_)
              | with_reducible intro _
            all_goals first
              | omega
              | (rename_i hx; revert hx; simp; done)
              | (simp; done)
              | skip
            refine callA_eff (v50 h.length 1 (h.length + 2) v2 A2 S u _ (by omega) (by simp only [go_sem]) k2 (by simp only [go_sem]) (by omega)) ⟨rfl, rfl, trivial⟩ ?_
            simp (disch := omega) only [go_sem, wrap64_id, Int.tdiv_eq_ediv_of_nonneg, Int.tmod_eq_emod_of_nonneg]
            refine step _ _ _ _ _ (.inr rfl) (by rw [ht]) (by simp) ?_
            (simp only [strs, patsV, intsV, spar, List.foldl, List.replicate, go_sem, VLes_nil, VLes_cons, VLe_undef_iff, VLe_self]; try (repeat' first | (with_reducible refine And.intro ?_ ?_) | (refine VLe_int ?_; omega) | (refine VLe_bool ?_; rfl) | exact VLe.refl _))
          · have g2 : ((k : Int) < us.length) = False := eq_false (by omega)
            have hu0 : u = [] := by rw [hu]; exact getD_none hku
            simp (disch := omega) only [spar, List.foldl, List.replicate, intsV, g1, strs, g2, go_sem, wrap64_id, Int.tdiv_eq_ediv_of_nonneg, Int.tmod_eq_emod_of_nonneg]
            repeat' first
              | ((first | refine fnQ_pure1 ?_ ?_ | refine fnQ_pure0 ?_ ?_); (next => repeat' first | exact rvs_n | refine rvs_t ?_ | (simp [go_sem]; done)); simp only [go_sem]; (first | exact VLe.refl _ | refine VLe_int ?_ | refine VLe_bool ?_ | refine VLe_str ?_ | skip))
              | (with_reducible refine And.intro ?_ ?_)
              | with_reducible intro _
            all_goals first
              | omega
              | (rename_i hx; revert hx; simp; done)
              | (simp; done)
              | skip
            refine step _ _ _ _ _ k2 (by rw [ht, hu0]; simp) rfl ?_
            (simp only [strs, patsV, intsV, spar, List.foldl, List.replicate, go_sem, VLes_nil, VLes_cons, VLe_undef_iff, VLe_self]; try (repeat' first | (with_reducible refine And.intro ?_ ?_) | (refine VLe_int ?_; omega) | (refine VLe_bool ?_; rfl) | exact VLe.refl _))
      · have e : k = lv.length := by omega
        subst e
        have hfin : patA s0 us lv lv.length = printGo ps (i + 1) := by rw [patA_eq, hnx, hs0, List.append_assoc]
        rw [hfin]
        simp (disch := omega) only [spar, List.foldl, List.replicate, go_sem, wrap64_id, Int.tdiv_eq_ediv_of_nonneg, Int.tmod_eq_emod_of_nonneg]
        repeat' first
          | ((first | refine fnQ_pure1 ?_ ?_ | refine fnQ_pure0 ?_ ?_); (next => repeat' first | exact rvs_n | refine rvs_t ?_ | (simp [go_sem]; done)); simp only [go_sem]; (first | exact VLe.refl _ | refine VLe_int ?_ | refine VLe_bool ?_ | refine VLe_str ?_ | skip))
          | (with_reducible refine And.intro ?_ ?_)
          | with_reducible intro _
        all_goals first
          | omega
          | (rename_i hx; revert hx; simp; done)
          | (simp; done)
          | skip
        refine hK _ _ (i + 1, .mem (verOf (some O) + 1) 32 [.str x.letters, intsV lv], A2, v2, (printGo ps (i + 1)).length) ⟨hi, rfl, k2, rfl⟩ (by simp only; omega) (Wk.temps ?_)
        (simp only [strs, patsV, intsV, spar, List.foldl, List.replicate, go_sem, VLes_nil, VLes_cons, VLe_undef_iff, VLe_self]; try (repeat' first | (with_reducible refine And.intro ?_ ?_) | (refine VLe_int ?_; omega) | (refine VLe_bool ?_; rfl) | exact VLe.refl _))
    · have g0 : (0 < (i : Int)) = True := eq_true (by omega)
      obtain ⟨s0, hs0⟩ : ∃ s0, s0 = s ++ sepT i := ⟨_, rfl⟩
      have hs1 : s0 = s ++ [32] := by rw [hs0]; unfold sepT; rw [if_neg h0]
      have hs0l : s0.length + (patGo us lv lv.length).length ≤ 1000000000 := by rw [hlvv] at hnl ⊢; rw [hs0, List.length_append]; omega
      have hs1l : s0.length = s.length + 1 := by rw [hs1]; simp
      simp (disch := omega) only [spar, List.foldl, List.replicate, patsV, ex, exC, i2', g0, go_sem, wrap64_id, Int.tdiv_eq_ediv_of_nonneg, Int.tmod_eq_emod_of_nonneg]
      repeat' first
        | ((first | refine fnQ_pure1 ?_ ?_ | refine fnQ_pure0 ?_ ?_); (next => repeat' first | exact rvs_n | refine rvs_t ?_ | (simp [go_sem]; done)); simp only [go_sem]; (first | exact VLe.refl _ | refine VLe_int ?_ | refine VLe_bool ?_ | refine VLe_str ?_ | skip))
        | (with_reducible refine And.intro ?_ ?_)
        | with_reducible intro _
      all_goals first
        | omega
        | (rename_i hx; revert hx; simp; done)
        | (simp; done)
        | skip
      refine callA_eff (v48 h.length 1 (h.length + 2) v A s 32 _ (by omega) (by simp only [go_sem]) i3 (by simp only [go_sem]) (by omega)) ⟨rfl, rfl, trivial⟩ ?_
      simp (disch := omega) only [patsV, ex, exC, i2', g0, go_sem, wrap64_id, Int.tdiv_eq_ediv_of_nonneg, Int.tmod_eq_emod_of_nonneg]
      repeat' first
        | ((first | refine callA_pure (c49 _) ?_ ?_); (next => repeat' first | exact flags_n | refine flags_c (by first | rfl | assumption) ?_); simp (disch := omega) only [patsV, ex, exC, i2', g0, intsV, go_sem, wrap64_id, Int.tdiv_eq_ediv_of_nonneg, Int.tmod_eq_emod_of_nonneg])
        | ((first | refine callG_pure (fun e => ⟨?_, c49 _⟩) ?_); (next => repeat' first | exact flags_n | refine flags_c (by first | rfl | assumption) ?_); simp (disch := omega) only [patsV, ex, exC, i2', g0, intsV, go_sem, wrap64_id, Int.tdiv_eq_ediv_of_nonneg, Int.tmod_eq_emod_of_nonneg])
        | ((first | refine fnQ_pure1 ?_ ?_ | refine fnQ_pure0 ?_ ?_); (next => repeat' first | exact rvs_n | refine rvs_t ?_ | (simp [go_sem]; done)); simp only [go_sem]; (first | exact VLe.refl _ | refine VLe_int ?_ | refine VLe_bool ?_ | refine VLe_str ?_ | skip))
        | (with_reducible refine And.intro ?_ ?_)
        | with_reducible intro _
      all_goals first
        | omega
        | (rename_i hx; revert hx; simp; done)
        | (simp; done)
        | skip
      rw [← hs1]
      refine loop_of (T := fun k : Nat × AV × Nat × Nat => spar 53 [(4, .op h.length 1 0), (7, strs us), (13, patsV ps), (14, .int .i64 ps.length), (15, .int .i64 i), (27, intsV lv), (28, .int .i64 lv.length), (29, .int .i64 k.1)])
        (H := fun k => h ++ [.mem 1 69 [k.2.1, .osl (h.length + 2) k.2.2.1 1 0 k.2.2.2], .mem (verOf (some O) + 1) 32 [.str x.letters, intsV lv], bufO k.2.2.1 (patA s0 us lv k.1)])
        (inv := fun k => k.1 ≤ lv.length ∧ (k.2.1 = .nilp ∨ k.2.1 = .op h.length 1 0) ∧ k.2.2.2 = (patA s0 us lv k.1).length) (m := fun k => lv.length - k.1) (0, .op h.length 1 0, v + 1, s.length + 1) ⟨Nat.zero_le _, .inr rfl, hs1l.symm⟩ (Wk.temps ?_) ?_
      · (simp only [strs, patsV, intsV, spar, List.foldl, List.replicate, go_sem, VLes_nil, VLes_cons, VLe_undef_iff, VLe_self]; try (repeat' first | (with_reducible refine And.intro ?_ ?_) | (refine VLe_int ?_; omega) | (refine VLe_bool ?_; rfl) | exact VLe.refl _))
      rintro ⟨k, A2, v2, n2⟩ ⟨k1, k2, k3⟩ K2 hK2
      simp only at k1 k2 k3 hK2
      subst k3
      by_cases hk : k < lv.length
      · have hb := patA_le (s0 := s0) (us := us) (lv := lv) (show k + 1 ≤ lv.length by omega)
        have hA : patA s0 us lv (k + 1) = patA s0 us lv k ++ tokS us lv k := rfl
        rw [hA, List.length_append] at hb
        have htl := tok_len us lv k
        have hl9 := hlv k hk
        obtain ⟨S, hS⟩ : ∃ S, S = patA s0 us lv k := ⟨_, rfl⟩
        rw [← hS] at hA hb ⊢
        obtain ⟨u, hu⟩ : ∃ u, u = us.getD k [] := ⟨_, rfl⟩
        rw [← hu] at htl
        have eu := hu.symm
        have step : ∀ (A' : AV) (v' n' : Nat) (t' : List AV) (T' : List UInt8), (A' = .nilp ∨ A' = .op h.length 1 0) → T' = S ++ tokS us lv k → n' = T'.length →
            VLes t' (spar 53 [(4, .op h.length 1 0), (7, strs us), (13, patsV ps), (14, .int .i64 ps.length), (15, .int .i64 i), (27, intsV lv), (28, .int .i64 lv.length), (29, .int .i64 ((k + 1 : Nat) : Int))]) →
            K2 t' (h ++ [.mem 1 69 [A', .osl (h.length + 2) v' 1 0 n'], .mem (verOf (some O) + 1) 32 [.str x.letters, intsV lv], bufO v' T']) := by
          intro A' v' n' t' T' hA' hT' hn' ht'
          refine hK2 t' _ (k + 1, A', v', n') ⟨by simp only; omega, hA', by simp only; rw [hA, hn', hT']⟩ (by simp only; omega) ?_
          simp only
          rw [hA, ← hT']
          exact Wk.temps ht'
        have hlen : S.length + (tokS us lv k).length ≤ 1000000000 := by omega
        by_cases hp : 0 < lv.getD k 0
        · have g1 : (0 < lv.getD k 0) = True := eq_true hp
          have ht : tokS us lv k = [digB (lv.getD k 0)] ++ u := by unfold tokS; rw [if_pos hp, ← hu]
          rw [ht, List.length_append, List.length_singleton] at hlen
          by_cases hku : k < us.length
          · have g2 : ((k : Int) < us.length) = True := eq_true (by omega)
            simp (disch := omega) only [spar, List.foldl, List.replicate, intsV, g1, go_sem, wrap64_id, Int.tdiv_eq_ediv_of_nonneg, Int.tmod_eq_emod_of_nonneg]
            repeat' first
              | ((first | refine fnQ_pure1 ?_ ?_ | refine fnQ_pure0 ?_ ?_); (next => repeat' first | exact rvs_n | refine rvs_t ?_ | (simp [go_sem]; done)); simp only [go_sem]; (first | exact VLe.refl _ | refine VLe_int ?_ | refine VLe_bool ?_ | refine VLe_str ?_ | skip))
              | (with_reducible refine And.intro ?_ ?_)
              | with_reducible intro _
            all_goals first
              | omega
              | (rename_i hx; revert hx; simp; done)
              | (simp; done)
              | skip
            refine callA_eff (v48 h.length 1 (h.length + 2) v2 A2 S (digB (lv.getD k 0)) _ (by omega) (by simp only [go_sem]) k2 (by simp only [go_sem]) (by omega)) ⟨rfl, rfl, trivial⟩ ?_
            simp (disch := omega) only [strs, eu, go_sem, wrap64_id, Int.tdiv_eq_ediv_of_nonneg, Int.tmod_eq_emod_of_nonneg]
            repeat' first
              | ((first | refine fnQ_pure1 ?_ ?_ | refine fnQ_pure0 ?_ ?_); (next => repeat' first | exact rvs_n | refine rvs_t ?_ | (simp [go_sem]; done)); simp only [go_sem]; (first | exact VLe.refl _ | refine VLe_int ?_ | refine VLe_bool ?_ | refine VLe_str ?_ | skip))
              | (with_reducible refine And.intro ?_ ?_)
              | with_reducible intro _
            all_goals first
              | omega
              | (rename_i hx; revert hx; simp; done)
              | (simp; done)
              | skip
            refine callA_eff (v50 h.length 1 (h.length + 2) (v2 + 1) (.op h.length 1 0) (S ++ [digB (lv.getD k 0)]) u _ (by omega) (by simp only [go_sem, List.length_append, List.length_singleton]) (.inr rfl) (by simp only [go_sem]) (by simp only [List.length_append, List.length_singleton]; omega)) ⟨rfl, rfl, trivial⟩ ?_
            simp (disch := omega) only [go_sem, wrap64_id, Int.tdiv_eq_ediv_of_nonneg, Int.tmod_eq_emod_of_nonneg]
            refine step _ _ _ _ _ (.inr rfl) (by rw [ht, List.append_assoc]) (by simp; omega) ?_
            (simp only [strs, patsV, intsV, spar, List.foldl, List.replicate, go_sem, VLes_nil, VLes_cons, VLe_undef_iff, VLe_self]; try (repeat' first | (with_reducible refine And.intro ?_ ?_) | (refine VLe_int ?_; omega) | (refine VLe_bool ?_; rfl) | exact VLe.refl _))
          · have g2 : ((k : Int) < us.length) = False := eq_false (by omega)
            have hu0 : u = [] := by rw [hu]; exact getD_none hku
            simp (disch := omega) only [spar, List.foldl, List.replicate, intsV, g1, go_sem, wrap64_id, Int.tdiv_eq_ediv_of_nonneg, Int.tmod_eq_emod_of_nonneg]
            repeat' first
              | ((first | refine fnQ_pure1 ?_ ?_ | refine fnQ_pure0 ?_ ?_); (next => repeat' first | exact rvs_n | refine rvs_t ?_ | (simp [go_sem]; done)); simp only [go_sem]; (first | exact VLe.refl _ | refine VLe_int ?_ | refine VLe_bool ?_ | refine VLe_str ?_ | skip))
              | (with_reducible refine And.intro ?_ ?_)
              | with_reducible intro _
            all_goals first
              | omega
              | (rename_i hx; revert hx; simp; done)
              | (simp; done)
              | skip
            refine callA_eff (v48 h.length 1 (h.length + 2) v2 A2 S (digB (lv.getD k 0)) _ (by omega) (by simp only [go_sem]) k2 (by simp only [go_sem]) (by omega)) ⟨rfl, rfl, trivial⟩ ?_
            simp (disch := omega) only [strs, g2, go_sem, wrap64_id, Int.tdiv_eq_ediv_of_nonneg, Int.tmod_eq_emod_of_nonneg]
            repeat' first
              | ((first | refine fnQ_pure1 ?_ ?_ | refine fnQ_pure0 ?_ ?_); (next => repeat' first | exact rvs_n | refine rvs_t ?_ | (simp [go_sem]; done)); simp only [go_sem]; (first | exact VLe.refl _ | refine VLe_int ?_ | refine VLe_bool ?_ | refine VLe_str ?_ | skip))
              | (with_reducible refine And.intro ?_ ?_)
              | with_reducible intro _
            all_goals first
              | omega
              | (rename_i hx; revert hx; simp; done)
              | (simp; done)
              | skip
            refine step _ _ _ _ _ (.inr rfl) (by rw [ht, hu0]; simp) (by simp) ?_
            (simp only [strs, patsV, intsV, spar, List.foldl, List.replicate, go_sem, VLes_nil, VLes_cons, VLe_undef_iff, VLe_self]; try (repeat' first | (with_reducible refine And.intro ?_ ?_) | (refine VLe_int ?_; omega) | (refine VLe_bool ?_; rfl) | exact VLe.refl _))
        · have g1 : (0 < lv.getD k 0) = False := eq_false hp
          have ht : tokS us lv k = u := by unfold tokS; rw [if_neg hp, ← hu]; rfl
          rw [ht] at hlen
          by_cases hku : k < us.length
          · have g2 : ((k : Int) < us.length) = True := eq_true (by omega)
            simp (disch := omega) only [spar, List.foldl, List.replicate, intsV, g1, strs, eu, go_sem, wrap64_id, Int.tdiv_eq_ediv_of_nonneg, Int.tmod_eq_emod_of_nonneg]
            repeat' first
              | ((first | refine fnQ_pure1 ?_ ?_ | refine fnQ_pure0 ?_ ?_); (next => repeat' first | exact rvs_n | refine rvs_t ?_ | (simp [go_sem]; done)); simp only [go_sem]; (first | exact VLe.refl _ | refine VLe_int ?_ | refine VLe_bool ?_ | refine VLe_str ?_ | skip))
              | (with_reducible refine And.intro ?_ ?_)
              | with_reducible intro _
            all_goals first
              | omega
              | (rename_i hx; revert hx; simp; done)
              | (simp; done)
              | skip
            refine callA_eff (v50 h.length 1 (h.length + 2) v2 A2 S u _ (by omega) (by simp only [go_sem]) k2 (by simp only [go_sem]) (by omega)) ⟨rfl, rfl, trivial⟩ ?_
            simp (disch := omega) only [go_sem, wrap64_id, Int.tdiv_eq_ediv_of_nonneg, Int.tmod_eq_emod_of_nonneg]
            refine step _ _ _ _ _ (.inr rfl) (by rw [ht]) (by simp) ?_
            (simp only [strs, patsV, intsV, spar, List.foldl, List.replicate, go_sem, VLes_nil, VLes_cons, VLe_undef_iff, VLe_self]; try (repeat' first | (with_reducible refine And.intro ?_ ?_) | (refine VLe_int ?_; omega) | (refine VLe_bool ?_; rfl) | exact VLe.refl _))
          · have g2 : ((k : Int) < us.length) = False := eq_false (by omega)
            have hu0 : u = [] := by rw [hu]; exact getD_none hku
            simp (disch := omega) only [spar, List.foldl, List.replicate, intsV, g1, strs, g2, go_sem, wrap64_id, Int.tdiv_eq_ediv_of_nonneg, Int.tmod_eq_emod_of_nonneg]
            repeat' first
              | ((first | refine fnQ_pure1 ?_ ?_ | refine fnQ_pure0 ?_ ?_); (next => repeat' first | exact rvs_n | refine rvs_t ?_ | (simp [go_sem]; done)); simp only [go_sem]; (first | exact VLe.refl _ | refine VLe_int ?_ | refine VLe_bool ?_ | refine VLe_str ?_ | skip))
              | (with_reducible refine And.intro ?_ ?_)
              | with_reducible intro _
            all_goals first
              | omega
              | (rename_i hx; revert hx; simp; done)
              | (simp; done)
              | skip
            refine step _ _ _ _ _ k2 (by rw [ht, hu0]; simp) rfl ?_
            (simp only [strs, patsV, intsV, spar, List.foldl, List.replicate, go_sem, VLes_nil, VLes_cons, VLe_undef_iff, VLe_self]; try (repeat' first | (with_reducible refine And.intro ?_ ?_) | (refine VLe_int ?_; omega) | (refine VLe_bool ?_; rfl) | exact VLe.refl _))
      · have e : k = lv.length := by omega
        subst e
        have hfin : patA s0 us lv lv.length = printGo ps (i + 1) := by rw [patA_eq, hnx, hs0, List.append_assoc]
        rw [hfin]
        simp (disch := omega) only [spar, List.foldl, List.replicate, go_sem, wrap64_id, Int.tdiv_eq_ediv_of_nonneg, Int.tmod_eq_emod_of_nonneg]
        repeat' first
          | ((first | refine fnQ_pure1 ?_ ?_ | refine fnQ_pure0 ?_ ?_); (next => repeat' first | exact rvs_n | refine rvs_t ?_ | (simp [go_sem]; done)); simp only [go_sem]; (first | exact VLe.refl _ | refine VLe_int ?_ | refine VLe_bool ?_ | refine VLe_str ?_ | skip))
          | (with_reducible refine And.intro ?_ ?_)
          | with_reducible intro _
        all_goals first
          | omega
          | (rename_i hx; revert hx; simp; done)
          | (simp; done)
          | skip
        refine hK _ _ (i + 1, .mem (verOf (some O) + 1) 32 [.str x.letters, intsV lv], A2, v2, (printGo ps (i + 1)).length) ⟨hi, rfl, k2, rfl⟩ (by simp only; omega) (Wk.temps ?_)
        (simp only [strs, patsV, intsV, spar, List.foldl, List.replicate, go_sem, VLes_nil, VLes_cons, VLe_undef_iff, VLe_self]; try (repeat' first | (with_reducible refine And.intro ?_ ?_) | (refine VLe_int ?_; omega) | (refine VLe_bool ?_; rfl) | exact VLe.refl _))
  · have e : i = ps.length := by omega
    subst e
    have hs2 : printT ps = s := hs.symm
    rw [hs2]
    have c51 := v51 h.length 1 (h.length + 2) v A s (h ++ [.mem 1 69 [A, .osl (h.length + 2) v 1 0 s.length], O, bufO v s]) (by simp only [go_sem]) (by simp only [go_sem])
    by_cases hbig : 65536 < s.length
    · have k1 : (65536 < (s.length : Int)) = True := eq_true (by omega)
      rw [if_pos hbig, if_neg (by decide)]
      simp (disch := omega) only [spar, List.foldl, List.replicate, k1, go_sem, wrap64_id, Int.tdiv_eq_ediv_of_nonneg, Int.tmod_eq_emod_of_nonneg]
      repeat' first
        | ((first | refine callA_pure (c51) ?_ ?_); (next => repeat' first | exact flags_n | refine flags_c (by first | rfl | assumption) ?_); simp (disch := omega) only [k1, go_sem, wrap64_id, Int.tdiv_eq_ediv_of_nonneg, Int.tmod_eq_emod_of_nonneg])
        | ((first | refine callG_pure (fun e => ⟨?_, c51⟩) ?_); (next => repeat' first | exact flags_n | refine flags_c (by first | rfl | assumption) ?_); simp (disch := omega) only [k1, go_sem, wrap64_id, Int.tdiv_eq_ediv_of_nonneg, Int.tmod_eq_emod_of_nonneg])
        | ((first | refine fnQ_pure1 ?_ ?_ | refine fnQ_pure0 ?_ ?_); (next => repeat' first | exact rvs_n | refine rvs_t ?_ | (simp [go_sem]; done)); simp only [go_sem]; (first | exact VLe.refl _ | refine VLe_int ?_ | refine VLe_bool ?_ | refine VLe_str ?_ | skip))
        | (with_reducible refine And.intro ?_ ?_)
        | with_reducible intro _
      all_goals first
        | omega
        | (rename_i hx; revert hx; simp; done)
        | (simp; done)
        | skip
    · have k1 : (65536 < (s.length : Int)) = False := eq_false (by omega)
      rw [if_neg hbig, if_pos rfl]
      simp (disch := omega) only [spar, List.foldl, List.replicate, k1, go_sem, wrap64_id, Int.tdiv_eq_ediv_of_nonneg, Int.tmod_eq_emod_of_nonneg]
      repeat' first
        | ((first | refine callA_pure (c51) ?_ ?_); (next => repeat' first | exact flags_n | refine flags_c (by first | rfl | assumption) ?_); simp (disch := omega) only [k1, go_sem, wrap64_id, Int.tdiv_eq_ediv_of_nonneg, Int.tmod_eq_emod_of_nonneg])
        | ((first | refine callG_pure (fun e => ⟨?_, c51⟩) ?_); (next => repeat' first | exact flags_n | refine flags_c (by first | rfl | assumption) ?_); simp (disch := omega) only [k1, go_sem, wrap64_id, Int.tdiv_eq_ediv_of_nonneg, Int.tmod_eq_emod_of_nonneg])
        | ((first | refine fnQ_pure1 ?_ ?_ | refine fnQ_pure0 ?_ ?_); (next => repeat' first | exact rvs_n | refine rvs_t ?_ | (simp [go_sem]; done)); simp only [go_sem]; (first | exact VLe.refl _ | refine VLe_int ?_ | refine VLe_bool ?_ | refine VLe_str ?_ | skip))
        | (with_reducible refine And.intro ?_ ?_)
        | with_reducible intro _
      all_goals first
        | omega
        | (rename_i hx; revert hx; simp; done)
        | (simp; done)
        | skip
      refine callA_eff (v52 h.length 1 (h.length + 2) v A s _ (by omega) (by simp only [go_sem]) (by simp only [go_sem])) ⟨rfl, trivial⟩ ?_
      simp (disch := omega) only [go_sem, wrap64_id, Int.tdiv_eq_ediv_of_nonneg, Int.tmod_eq_emod_of_nonneg]
      repeat' first
        | ((first | refine fnQ_pure1 ?_ ?_ | refine fnQ_pure0 ?_ ?_); (next => repeat' first | exact rvs_n | refine rvs_t ?_ | (simp [go_sem]; done)); simp only [go_sem]; (first | exact VLe.refl _ | refine VLe_int ?_ | refine VLe_bool ?_ | refine VLe_str ?_ | skip))
        | (with_reducible refine And.intro ?_ ?_)
        | with_reducible intro _
      all_goals first
        | omega
        | (rename_i hx; revert hx; simp; done)
        | (simp; done)
        | skip
end HY
end

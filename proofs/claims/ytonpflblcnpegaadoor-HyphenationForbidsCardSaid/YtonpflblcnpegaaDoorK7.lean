import Derived.Test.YtonpflblcnpegaaDoorK5
import Derived.Test.YtonpflblcnpegaaDoorK6
import Derived.Test.YtonpflblcnpegaaDoorK1
import Derived.Test.YtonpflblcnpegaaDoorProg
import Derived.Test.YtonpflblcnpegaaDoorK3
import Derived.Lib.IndexMore
import Derived.Lib.CountLaws
import Derived.Laws.Strings3
set_option linter.all false
set_option linter.unusedSimpArgs false
set_option linter.unusedVariables false
set_option linter.unusedSectionVars false
section
set_option linter.all false
set_option linter.unusedSimpArgs false
set_option linter.unusedVariables false
set_option linter.unusedSectionVars false
open Go Go.Proofs AF HY
namespace HY
set_option maxRecDepth 100000
def levelsR (ps : List Pat) (w : List UInt8) : List Int := if startE ps w = 0 then levelsOf ps w else []
theorem u14 (ps : List Pat) (w : List UInt8) (h : List AObj) (hok : okPats ps) (hw : w.length ≤ 1000000) : ACalls Tryd.prog 14 [patsV ps, .str w] h (.tup [intsV (levelsR ps w), .int .i64 (startE ps w)]) h := by
  have c112 := fun h => t112 ps w h hok (by omega)
  unfold levelsR
  by_cases g : startE ps w = 0
  · obtain ⟨g1, g2⟩ := startE_zero g
    have c131 := fun h => t131 ps w h hok hw (by rw [clus_fold_len]; exact word_pos g2) g1
    rw [if_pos g]
    rw [g] at c112 ⊢
    refine acalls_of fn14d (by simp) ?_
    simp only [List.length_cons, List.length_nil, Nat.reduceAdd, Nat.reduceSub, List.replicate, List.cons_append, List.nil_append, List.append_nil]
    simp (disch := omega) only [c14d, go_sem, wrap64_id, Int.tdiv_eq_ediv_of_nonneg, Int.tmod_eq_emod_of_nonneg]
    repeat' first
      | ((first | refine callA_pure (c112 _) ?_ ?_ | refine callA_pure (c131 _) ?_ ?_); (next => repeat' first | exact flags_n | refine flags_c (by first | rfl | assumption) ?_); simp (disch := omega) only [go_sem, wrap64_id, Int.tdiv_eq_ediv_of_nonneg, Int.tmod_eq_emod_of_nonneg])
      | ((first | refine callG_pure (fun e => ⟨?_, c112 _⟩) ?_ | refine callG_pure (fun e => ⟨?_, c131 _⟩) ?_); (next => repeat' first | exact flags_n | refine flags_c (by first | rfl | assumption) ?_); simp (disch := omega) only [go_sem, wrap64_id, Int.tdiv_eq_ediv_of_nonneg, Int.tmod_eq_emod_of_nonneg])
      | ((first | refine fnQ_pure1 ?_ ?_ | refine fnQ_pure0 ?_ ?_); (next => repeat' first | exact rvs_n | refine rvs_t ?_ | (simp [go_sem]; done)); simp only [go_sem]; (first | exact VLe.refl _ | refine VLe_int ?_ | refine VLe_bool ?_ | refine VLe_str ?_ | skip))
      | (with_reducible refine And.intro ?_ ?_)
      | with_reducible intro _
    all_goals first
      | omega
      | (rename_i hx; revert hx; simp; done)
      | (simp; done)
      | skip
  · rw [if_neg g]
    refine acalls_of fn14d (by simp) ?_
    simp only [List.length_cons, List.length_nil, Nat.reduceAdd, Nat.reduceSub, List.replicate, List.cons_append, List.nil_append, List.append_nil]
    simp (disch := omega) only [c14d, go_sem, wrap64_id, Int.tdiv_eq_ediv_of_nonneg, Int.tmod_eq_emod_of_nonneg]
    repeat' first
      | ((first | refine callA_pure (c112 _) ?_ ?_); (next => repeat' first | exact flags_n | refine flags_c (by first | rfl | assumption) ?_); simp (disch := omega) only [g, go_sem, wrap64_id, Int.tdiv_eq_ediv_of_nonneg, Int.tmod_eq_emod_of_nonneg])
      | ((first | refine callG_pure (fun e => ⟨?_, c112 _⟩) ?_); (next => repeat' first | exact flags_n | refine flags_c (by first | rfl | assumption) ?_); simp (disch := omega) only [g, go_sem, wrap64_id, Int.tdiv_eq_ediv_of_nonneg, Int.tmod_eq_emod_of_nonneg])
      | ((first | refine fnQ_pure1 ?_ ?_ | refine fnQ_pure0 ?_ ?_); (next => repeat' first | exact rvs_n | refine rvs_t ?_ | (simp [go_sem]; done)); simp only [go_sem]; (first | exact VLe.refl _ | refine VLe_int ?_ | refine VLe_bool ?_ | refine VLe_str ?_ | skip))
      | (with_reducible refine And.intro ?_ ?_)
      | with_reducible intro _
    all_goals first
      | omega
      | (rename_i hx; revert hx; simp; done)
      | (simp; done)
      | skip
    exact VLe_tup ⟨VLe_nl, VLe.refl _, trivial⟩
def eqI (n m : Nat) (f g : Nat → Int) : Bool := decide (n = m) && (List.range n).all fun i => decide (f i = g i)
theorem alli_take {f g : Nat → Int} {n : Nat} (h : ∀ j, j < n → f j = g j) : ((List.range n).all fun i => decide (f i = g i)) = true := by
  rw [List.all_eq_true]
  intro j hj
  simpa using h j (by simpa using hj)
theorem alli_false {f g : Nat → Int} {n i : Nat} (hi : i < n) (h : ¬ f i = g i) : ((List.range n).all fun i => decide (f i = g i)) = false := by
  rw [Bool.eq_false_iff]
  intro hc
  rw [List.all_eq_true] at hc
  have := hc i (by simpa using hi)
  simp at this
  exact h this
theorem eqI_lists (a b : List Int) : eqI a.length b.length (fun i => a.getD i 0) (fun i => b.getD i 0) = decide (a = b) := by
  unfold eqI
  by_cases hl : a.length = b.length
  · by_cases he : a = b
    · subst he; rw [alli_take (fun _ _ => rfl)]; simp
    · rw [decide_eq_false he]
      have : ∃ i, i < a.length ∧ ¬ a.getD i 0 = b.getD i 0 := by
        apply Classical.byContradiction
        intro hn
        apply he
        apply List.ext_getElem hl
        intro i h1 h2
        have := Classical.not_not.1 (fun hx => hn ⟨i, h1, hx⟩)
        simpa [List.getD_eq_getElem?_getD, h1, h2] using this
      obtain ⟨i, h1, h2⟩ := this
      rw [alli_false h1 h2, Bool.and_false]
  · have hne : ¬ a = b := fun e => hl (by rw [e])
    rw [decide_eq_false hl, decide_eq_false hne]; rfl
theorem u17 (n m : Nat) (f g : Nat → Int) (h : List AObj) (hn : n ≤ 1000000000) : ACalls Tryd.prog 17 [.sl n fun i => [.int .i64 (f i)], .sl m fun i => [.int .i64 (g i)]] h (.bool (eqI n m f g)) h := by
  unfold eqI
  by_cases g0 : n = m
  · subst g0
    refine acalls_of fn17d (by simp) ?_
    simp only [List.length_cons, List.length_nil, Nat.reduceAdd, Nat.reduceSub, List.replicate, List.cons_append, List.nil_append, List.append_nil]
    simp (disch := omega) only [c17d, go_sem, wrap64_id, Int.tdiv_eq_ediv_of_nonneg, Int.tmod_eq_emod_of_nonneg]
    repeat' first
      | ((first | refine fnQ_pure1 ?_ ?_ | refine fnQ_pure0 ?_ ?_); (next => repeat' first | exact rvs_n | refine rvs_t ?_ | (simp [go_sem]; done)); simp only [go_sem]; (first | exact VLe.refl _ | refine VLe_int ?_ | refine VLe_bool ?_ | refine VLe_str ?_ | skip))
      | (with_reducible refine And.intro ?_ ?_)
      | with_reducible intro _
    all_goals first
      | omega
      | (rename_i hx; revert hx; simp; done)
      | (simp; done)
      | skip
    refine loop_of (T := fun i : Nat => spar 26 [(0, .sl n fun i => [.int .i64 (f i)]), (1, .sl n fun i => [.int .i64 (g i)]), (12, .int .i64 n), (13, .int .i64 i)]) (H := fun _ => h) (inv := fun i => i ≤ n ∧ ∀ j, j < i → f j = g j) (m := fun i => n - i) 0 ⟨by omega, by omega⟩ (Wk.temps ?_) ?_
    · (simp only [spar, List.foldl, List.replicate, go_sem, VLes_nil, VLes_cons, VLe_undef_iff, VLe_self]; try (repeat' first | (with_reducible refine And.intro ?_ ?_) | (refine VLe_int ?_; omega) | (refine VLe_bool ?_; rfl) | exact VLe.refl _))
    rintro i ⟨i1, i2⟩ K hK
    by_cases hi : i < n
    · by_cases hb : f i = g i
      · have k1 : (f i = g i) = True := eq_true hb
        simp (disch := omega) only [spar, List.foldl, List.replicate, k1, go_sem, wrap64_id, Int.tdiv_eq_ediv_of_nonneg, Int.tmod_eq_emod_of_nonneg]
        repeat' first
          | ((first | refine fnQ_pure1 ?_ ?_ | refine fnQ_pure0 ?_ ?_); (next => repeat' first | exact rvs_n | refine rvs_t ?_ | (simp [go_sem]; done)); simp only [go_sem]; (first | exact VLe.refl _ | refine VLe_int ?_ | refine VLe_bool ?_ | refine VLe_str ?_ | skip))
          | (with_reducible refine And.intro ?_ ?_)
          | with_reducible intro _
        all_goals first
          | omega
          | (rename_i hx; revert hx; simp; done)
          | (simp; done)
          | skip
        refine hK _ _ (i + 1) ⟨by omega, fun j hj => ?_⟩ (by omega) (Wk.temps ?_)
        · by_cases e : j = i
          · subst e; exact hb
          · exact i2 j (by omega)
        · (simp only [spar, List.foldl, List.replicate, go_sem, VLes_nil, VLes_cons, VLe_undef_iff, VLe_self]; try (repeat' first | (with_reducible refine And.intro ?_ ?_) | (refine VLe_int ?_; omega) | (refine VLe_bool ?_; rfl) | exact VLe.refl _))
      · have k1 : (f i = g i) = False := eq_false hb
        rw [alli_false hi hb]
        simp (disch := omega) only [spar, List.foldl, List.replicate, k1, go_sem, wrap64_id, Int.tdiv_eq_ediv_of_nonneg, Int.tmod_eq_emod_of_nonneg]
        repeat' first
          | ((first | refine fnQ_pure1 ?_ ?_ | refine fnQ_pure0 ?_ ?_); (next => repeat' first | exact rvs_n | refine rvs_t ?_ | (simp [go_sem]; done)); simp only [go_sem]; (first | exact VLe.refl _ | refine VLe_int ?_ | refine VLe_bool ?_ | refine VLe_str ?_ | skip))
          | (with_reducible refine And.intro ?_ ?_)
          | with_reducible intro _
        all_goals first
          | omega
          | (rename_i hx; revert hx; simp; done)
          | (simp; done)
          | skip
    · have e : i = n := by omega
      subst e
      rw [alli_take i2]
      simp (disch := omega) only [spar, List.foldl, List.replicate, go_sem, wrap64_id, Int.tdiv_eq_ediv_of_nonneg, Int.tmod_eq_emod_of_nonneg]
      repeat' first
        | ((first | refine fnQ_pure1 ?_ ?_ | refine fnQ_pure0 ?_ ?_); (next => repeat' first | exact rvs_n | refine rvs_t ?_ | (simp [go_sem]; done)); simp only [go_sem]; (first | exact VLe.refl _ | refine VLe_int ?_ | refine VLe_bool ?_ | refine VLe_str ?_ | skip))
        | (with_reducible refine And.intro ?_ ?_)
        | with_reducible intro _
      all_goals first
        | omega
        | (rename_i hx; revert hx; simp; done)
        | (simp; done)
        | skip
  · have k0 : ((n : Int) = m) = False := eq_false (by omega)
    rw [decide_eq_false g0]
    refine acalls_of fn17d (by simp) ?_
    simp only [List.length_cons, List.length_nil, Nat.reduceAdd, Nat.reduceSub, List.replicate, List.cons_append, List.nil_append, List.append_nil]
    simp (disch := omega) only [c17d, k0, go_sem, wrap64_id, Int.tdiv_eq_ediv_of_nonneg, Int.tmod_eq_emod_of_nonneg]
    repeat' first
      | ((first | refine fnQ_pure1 ?_ ?_ | refine fnQ_pure0 ?_ ?_); (next => repeat' first | exact rvs_n | refine rvs_t ?_ | (simp [go_sem]; done)); simp only [go_sem]; (first | exact VLe.refl _ | refine VLe_int ?_ | refine VLe_bool ?_ | refine VLe_str ?_ | skip))
      | (with_reducible refine And.intro ?_ ?_)
      | with_reducible intro _
    all_goals first
      | omega
      | (rename_i hx; revert hx; simp; done)
      | (simp; done)
      | skip
theorem u17v (a b : List Int) (h : List AObj) (hn : a.length ≤ 1000000000) : ACalls Tryd.prog 17 [intsV a, intsV b] h (.bool (decide (a = b))) h := by
  rw [← eqI_lists]; exact u17 _ _ _ _ h hn
theorem u56 (a b : List Int) (h : List AObj) (hn : a.length ≤ 1000000000) : ACalls Tryd.prog 56 [intsV a, intsV b] h (.bool (decide (a = b))) h := by
  rw [← eqI_lists]
  unfold eqI
  by_cases g0 : a.length = b.length
  · have k0 : ((a.length : Int) = b.length) = True := eq_true (by omega)
    rw [decide_eq_true g0, Bool.true_and]
    refine acalls_of fn56d (by simp) ?_
    simp only [List.length_cons, List.length_nil, Nat.reduceAdd, Nat.reduceSub, List.replicate, List.cons_append, List.nil_append, List.append_nil]
    simp (disch := omega) only [c56d, intsV, k0, go_sem, wrap64_id, Int.tdiv_eq_ediv_of_nonneg, Int.tmod_eq_emod_of_nonneg]
    repeat' first
      | ((first | refine fnQ_pure1 ?_ ?_ | refine fnQ_pure0 ?_ ?_); (next => repeat' first | exact rvs_n | refine rvs_t ?_ | (simp [go_sem]; done)); simp only [go_sem]; (first | exact VLe.refl _ | refine VLe_int ?_ | refine VLe_bool ?_ | refine VLe_str ?_ | skip))
      | (with_reducible refine And.intro ?_ ?_)
      | with_reducible intro _
    all_goals first
      | omega
      | (rename_i hx; revert hx; simp; done)
      | (simp; done)
      | skip
    refine loop_of (T := fun i : Nat => spar 26 [(0, intsV a), (1, intsV b), (5, .int .i64 i)]) (H := fun _ => h) (inv := fun i => i ≤ a.length ∧ ∀ j, j < i → a.getD j 0 = b.getD j 0) (m := fun i => a.length - i) 0 ⟨by omega, by omega⟩ (Wk.temps ?_) ?_
    · (simp only [intsV, spar, List.foldl, List.replicate, go_sem, VLes_nil, VLes_cons, VLe_undef_iff, VLe_self]; try (repeat' first | (with_reducible refine And.intro ?_ ?_) | (refine VLe_int ?_; omega) | (refine VLe_bool ?_; rfl) | exact VLe.refl _))
    rintro i ⟨i1, i2⟩ K hK
    by_cases hi : i < a.length
    · by_cases hb : a.getD i 0 = b.getD i 0
      · have k1 : (a.getD i 0 = b.getD i 0) = True := eq_true hb
        simp (disch := omega) only [spar, List.foldl, List.replicate, intsV, k1, go_sem, wrap64_id, Int.tdiv_eq_ediv_of_nonneg, Int.tmod_eq_emod_of_nonneg]
        repeat' first
          | ((first | refine fnQ_pure1 ?_ ?_ | refine fnQ_pure0 ?_ ?_); (next => repeat' first | exact rvs_n | refine rvs_t ?_ | (simp [go_sem]; done)); simp only [go_sem]; (first | exact VLe.refl _ | refine VLe_int ?_ | refine VLe_bool ?_ | refine VLe_str ?_ | skip))
          | (with_reducible refine And.intro ?_ ?_)
          | with_reducible intro _
        all_goals first
          | omega
          | (rename_i hx; revert hx; simp; done)
          | (simp; done)
          | skip
        refine hK _ _ (i + 1) ⟨by omega, fun j hj => ?_⟩ (by omega) (Wk.temps ?_)
        · by_cases e : j = i
          · subst e; exact hb
          · exact i2 j (by omega)
        · (simp only [intsV, spar, List.foldl, List.replicate, go_sem, VLes_nil, VLes_cons, VLe_undef_iff, VLe_self]; try (repeat' first | (with_reducible refine And.intro ?_ ?_) | (refine VLe_int ?_; omega) | (refine VLe_bool ?_; rfl) | exact VLe.refl _))
      · have k1 : (a.getD i 0 = b.getD i 0) = False := eq_false hb
        rw [alli_false (f := fun i => a.getD i 0) (g := fun i => b.getD i 0) hi hb]
        simp (disch := omega) only [spar, List.foldl, List.replicate, intsV, k1, go_sem, wrap64_id, Int.tdiv_eq_ediv_of_nonneg, Int.tmod_eq_emod_of_nonneg]
        repeat' first
          | ((first | refine fnQ_pure1 ?_ ?_ | refine fnQ_pure0 ?_ ?_); (next => repeat' first | exact rvs_n | refine rvs_t ?_ | (simp [go_sem]; done)); simp only [go_sem]; (first | exact VLe.refl _ | refine VLe_int ?_ | refine VLe_bool ?_ | refine VLe_str ?_ | skip))
          | (with_reducible refine And.intro ?_ ?_)
          | with_reducible intro _
        all_goals first
          | omega
          | (rename_i hx; revert hx; simp; done)
          | (simp; done)
          | skip
    · have e : i = a.length := by omega
      subst e
      rw [alli_take i2]
      simp (disch := omega) only [spar, List.foldl, List.replicate, intsV, go_sem, wrap64_id, Int.tdiv_eq_ediv_of_nonneg, Int.tmod_eq_emod_of_nonneg]
      repeat' first
        | ((first | refine fnQ_pure1 ?_ ?_ | refine fnQ_pure0 ?_ ?_); (next => repeat' first | exact rvs_n | refine rvs_t ?_ | (simp [go_sem]; done)); simp only [go_sem]; (first | exact VLe.refl _ | refine VLe_int ?_ | refine VLe_bool ?_ | refine VLe_str ?_ | skip))
        | (with_reducible refine And.intro ?_ ?_)
        | with_reducible intro _
      all_goals first
        | omega
        | (rename_i hx; revert hx; simp; done)
        | (simp; done)
        | skip
  · have k0 : ((a.length : Int) = b.length) = False := eq_false (by omega)
    rw [decide_eq_false g0]
    refine acalls_of fn56d (by simp) ?_
    simp only [List.length_cons, List.length_nil, Nat.reduceAdd, Nat.reduceSub, List.replicate, List.cons_append, List.nil_append, List.append_nil]
    simp (disch := omega) only [c56d, intsV, k0, go_sem, wrap64_id, Int.tdiv_eq_ediv_of_nonneg, Int.tmod_eq_emod_of_nonneg]
    repeat' first
      | ((first | refine fnQ_pure1 ?_ ?_ | refine fnQ_pure0 ?_ ?_); (next => repeat' first | exact rvs_n | refine rvs_t ?_ | (simp [go_sem]; done)); simp only [go_sem]; (first | exact VLe.refl _ | refine VLe_int ?_ | refine VLe_bool ?_ | refine VLe_str ?_ | skip))
      | (with_reducible refine And.intro ?_ ?_)
      | with_reducible intro _
    all_goals first
      | omega
      | (rename_i hx; revert hx; simp; done)
      | (simp; done)
      | skip
def greatP (p : Pat) : Bool := (decide (12 < p.letters.length) && decide (p.letters.length ≤ 64)) || (decide (66 < p.letters.length) || decide (16 < p.levels.length))
def greatH (ps : List Pat) : Bool := ((decide (8 < ps.length) && decide (ps.length ≤ 4096)) || decide (4098 < ps.length)) || ps.any greatP
theorem any_pat {ps : List Pat} {i : Nat} {p : Pat → Bool} (h : i < ps.length) (hb : p (ps.getD i default) = true) : ps.any p = true := by
  rw [List.any_eq_true]
  refine ⟨ps[i], List.getElem_mem h, ?_⟩
  rwa [List.getD_eq_getElem?_getD, List.getElem?_eq_getElem h] at hb
theorem none_pat {ps : List Pat} {p : Pat → Bool} (h : ∀ j, j < ps.length → p (ps.getD j default) = false) : ps.any p = false := by
  rw [List.any_eq_false]
  intro x hx
  obtain ⟨j, hj, rfl⟩ := List.mem_iff_getElem.1 hx
  have := h j hj
  rw [List.getD_eq_getElem?_getD, List.getElem?_eq_getElem hj] at this
  simpa using this
theorem u20 (ps : List Pat) (h : List AObj) (hl : ps.length ≤ 9223372036854775807) : ACalls Tryd.prog 20 [patsV ps] h (.bool (greatH ps)) h := by
  unfold greatH
  by_cases g0 : (8 < ps.length ∧ ps.length ≤ 4096) ∨ 4098 < ps.length
  · have e0 : ((decide (8 < ps.length) && decide (ps.length ≤ 4096)) || decide (4098 < ps.length)) = true := by simp only [Bool.or_eq_true, Bool.and_eq_true, decide_eq_true_eq]; exact g0
    rw [e0, Bool.true_or]
    refine acalls_of fn20d (by simp) ?_
    simp only [List.length_cons, List.length_nil, Nat.reduceAdd, Nat.reduceSub, List.replicate, List.cons_append, List.nil_append, List.append_nil]
    simp (disch := omega) only [c20d, patsV, go_sem, wrap64_id, Int.tdiv_eq_ediv_of_nonneg, Int.tmod_eq_emod_of_nonneg]
    repeat' first
      | ((first | refine fnQ_pure1 ?_ ?_ | refine fnQ_pure0 ?_ ?_); (next => repeat' first | exact rvs_n | refine rvs_t ?_ | (simp [go_sem]; done)); simp only [go_sem]; (first | exact VLe.refl _ | refine VLe_int ?_ | refine VLe_bool ?_ | refine VLe_str ?_ | skip))
      | (with_reducible refine And.intro ?_ ?_)
      | with_reducible intro _
    all_goals first
      | omega
      | (rename_i hx; revert hx; simp; done)
      | (simp; done)
      | skip
    all_goals (exfalso; rename_i hx; omega)
  · have e0 : ((decide (8 < ps.length) && decide (ps.length ≤ 4096)) || decide (4098 < ps.length)) = false := by
      rw [Bool.eq_false_iff]
      intro hc
      simp only [Bool.or_eq_true, Bool.and_eq_true, decide_eq_true_eq] at hc
      exact g0 hc
    rw [e0, Bool.false_or]
    refine acalls_of fn20d (by simp) ?_
    simp only [List.length_cons, List.length_nil, Nat.reduceAdd, Nat.reduceSub, List.replicate, List.cons_append, List.nil_append, List.append_nil]
    simp (disch := omega) only [c20d, patsV, go_sem, wrap64_id, Int.tdiv_eq_ediv_of_nonneg, Int.tmod_eq_emod_of_nonneg]
    repeat' first
      | ((first | refine fnQ_pure1 ?_ ?_ | refine fnQ_pure0 ?_ ?_); (next => repeat' first | exact rvs_n | refine rvs_t ?_ | (simp [go_sem]; done)); simp only [go_sem]; (first | exact VLe.refl _ | refine VLe_int ?_ | refine VLe_bool ?_ | refine VLe_str ?_ | skip))
      | (with_reducible refine And.intro ?_ ?_)
      | with_reducible intro _
    all_goals first
      | omega
      | (rename_i hx; revert hx; simp; done)
      | (simp; done)
      | skip
    refine loop_of (T := fun i : Nat => spar 57 [(0, patsV ps), (3, .int .i64 i)]) (H := fun _ => h) (inv := fun i => i ≤ ps.length ∧ ∀ j, j < i → greatP (ps.getD j default) = false) (m := fun i => ps.length - i) 0 ⟨by omega, by omega⟩ (Wk.temps ?_) ?_
    · (simp only [patsV, spar, List.foldl, List.replicate, go_sem, VLes_nil, VLes_cons, VLe_undef_iff, VLe_self]; try (repeat' first | (with_reducible refine And.intro ?_ ?_) | (refine VLe_int ?_; omega) | (refine VLe_bool ?_; rfl) | exact VLe.refl _))
    rintro i ⟨i1, i2⟩ K hK
    by_cases hi : i < ps.length
    · obtain ⟨p, hpp⟩ : ∃ p, p = ps.getD i default := ⟨_, rfl⟩
      have epp := hpp.symm
      cases hb : greatP p with
      | true =>
        rw [any_pat hi (by rw [epp]; exact hb)]
        unfold greatP at hb
        simp only [Bool.or_eq_true, Bool.and_eq_true, decide_eq_true_eq] at hb
        simp (disch := omega) only [spar, List.foldl, List.replicate, patsV, patC, epp, intsV, go_sem, wrap64_id, Int.tdiv_eq_ediv_of_nonneg, Int.tmod_eq_emod_of_nonneg]
        repeat' first
          | ((first | refine fnQ_pure1 ?_ ?_ | refine fnQ_pure0 ?_ ?_); (next => repeat' first | exact rvs_n | refine rvs_t ?_ | (simp [go_sem]; done)); simp only [go_sem]; (first | exact VLe.refl _ | refine VLe_int ?_ | refine VLe_bool ?_ | refine VLe_str ?_ | skip))
          | (with_reducible refine And.intro ?_ ?_)
          | with_reducible intro _
        all_goals first
          | omega
          | (rename_i hx; revert hx; simp; done)
          | (simp; done)
          | skip
        all_goals (exfalso; rename_i hx; omega)
      | false =>
        have hb' := hb
        unfold greatP at hb
        simp only [Bool.or_eq_false_iff, Bool.and_eq_false_imp, decide_eq_true_eq, decide_eq_false_iff_not] at hb
        simp (disch := omega) only [spar, List.foldl, List.replicate, patsV, patC, epp, intsV, go_sem, wrap64_id, Int.tdiv_eq_ediv_of_nonneg, Int.tmod_eq_emod_of_nonneg]
        repeat' first
          | ((first | refine fnQ_pure1 ?_ ?_ | refine fnQ_pure0 ?_ ?_); (next => repeat' first | exact rvs_n | refine rvs_t ?_ | (simp [go_sem]; done)); simp only [go_sem]; (first | exact VLe.refl _ | refine VLe_int ?_ | refine VLe_bool ?_ | refine VLe_str ?_ | skip))
          | (with_reducible refine And.intro ?_ ?_)
          | with_reducible intro _
        all_goals first
          | omega
          | (rename_i hx; revert hx; simp; done)
          | (simp; done)
          | skip
        refine hK _ _ (i + 1) ⟨by omega, fun j hj => ?_⟩ (by omega) (Wk.temps ?_)
        · by_cases e : j = i
          · subst e; rw [epp]; exact hb'
          · exact i2 j (by omega)
        · (simp only [patsV, patC, intsV, spar, List.foldl, List.replicate, go_sem, VLes_nil, VLes_cons, VLe_undef_iff, VLe_self]; try (repeat' first | (with_reducible refine And.intro ?_ ?_) | (refine VLe_int ?_; omega) | (refine VLe_bool ?_; rfl) | exact VLe.refl _))
    · have e : i = ps.length := by omega
      subst e
      rw [none_pat i2]
      simp (disch := omega) only [spar, List.foldl, List.replicate, patsV, go_sem, wrap64_id, Int.tdiv_eq_ediv_of_nonneg, Int.tmod_eq_emod_of_nonneg]
      repeat' first
        | ((first | refine fnQ_pure1 ?_ ?_ | refine fnQ_pure0 ?_ ?_); (next => repeat' first | exact rvs_n | refine rvs_t ?_ | (simp [go_sem]; done)); simp only [go_sem]; (first | exact VLe.refl _ | refine VLe_int ?_ | refine VLe_bool ?_ | refine VLe_str ?_ | skip))
        | (with_reducible refine And.intro ?_ ?_)
        | with_reducible intro _
      all_goals first
        | omega
        | (rename_i hx; revert hx; simp; done)
        | (simp; done)
        | skip
def fineH (ps : List Pat) : Bool := decide (ps.length ≤ 8) && (!greatH ps && decide (checkPats ps = 0))
theorem okPats_great {ps : List Pat} (h8 : ps.length ≤ 8) (h : greatH ps = false) : okPats ps := by
  unfold greatH at h
  rw [Bool.or_eq_false_iff] at h
  obtain ⟨_, h4⟩ := h
  refine ⟨by omega, fun i hi => ?_⟩
  rw [List.any_eq_false] at h4
  have := h4 _ (List.getElem_mem hi)
  unfold greatP at this
  simp only [Bool.or_eq_true, Bool.and_eq_true, decide_eq_true_eq] at this
  rw [List.getD_eq_getElem?_getD, List.getElem?_eq_getElem hi]
  simp
  omega
theorem u11 (ps : List Pat) (h : List AObj) (hl : ps.length ≤ 9223372036854775807) : ACalls Tryd.prog 11 [patsV ps] h (.bool (fineH ps)) h := by
  unfold fineH
  by_cases g8 : ps.length ≤ 8
  · have k8 : ((ps.length : Int) ≤ 8) = True := eq_true (by omega)
    have c20 := fun h => u20 ps h hl
    rw [decide_eq_true g8, Bool.true_and]
    cases hg : greatH ps with
    | true =>
      rw [hg] at c20
      refine acalls_of fn11d (by simp) ?_
      simp only [List.length_cons, List.length_nil, Nat.reduceAdd, Nat.reduceSub, List.replicate, List.cons_append, List.nil_append, List.append_nil]
      simp (disch := omega) only [c11d, patsV, k8, go_sem, wrap64_id, Int.tdiv_eq_ediv_of_nonneg, Int.tmod_eq_emod_of_nonneg]
      repeat' first
        | (refine callG_false ((.int .i64 0)) ?_; simp (disch := omega) only [patsV, k8, go_sem, wrap64_id, Int.tdiv_eq_ediv_of_nonneg, Int.tmod_eq_emod_of_nonneg])
        | ((first | refine callA_pure (c20 _) ?_ ?_); (next => repeat' first | exact flags_n | refine flags_c (by first | rfl | assumption) ?_); simp (disch := omega) only [patsV, k8, go_sem, wrap64_id, Int.tdiv_eq_ediv_of_nonneg, Int.tmod_eq_emod_of_nonneg])
        | ((first | refine callG_pure (fun e => ⟨?_, c20 _⟩) ?_); (next => repeat' first | exact flags_n | refine flags_c (by first | rfl | assumption) ?_); simp (disch := omega) only [patsV, k8, go_sem, wrap64_id, Int.tdiv_eq_ediv_of_nonneg, Int.tmod_eq_emod_of_nonneg])
        | ((first | refine fnQ_pure1 ?_ ?_ | refine fnQ_pure0 ?_ ?_); (next => repeat' first | exact rvs_n | refine rvs_t ?_ | (simp [go_sem]; done)); simp only [go_sem]; (first | exact VLe.refl _ | refine VLe_int ?_ | refine VLe_bool ?_ | refine VLe_str ?_ | skip))
        | (with_reducible refine And.intro ?_ ?_)
        | with_reducible intro _
      all_goals first
        | omega
        | (rename_i hx; revert hx; simp; done)
        | (simp; done)
        | skip
    | false =>
      rw [hg] at c20
      have c64 := fun h => t64 ps h (okPats_great g8 hg)
      refine acalls_of fn11d (by simp) ?_
      simp only [List.length_cons, List.length_nil, Nat.reduceAdd, Nat.reduceSub, List.replicate, List.cons_append, List.nil_append, List.append_nil]
      simp (disch := omega) only [c11d, patsV, k8, go_sem, wrap64_id, Int.tdiv_eq_ediv_of_nonneg, Int.tmod_eq_emod_of_nonneg]
      repeat' first
        | ((first | refine callA_pure (c20 _) ?_ ?_ | refine callA_pure (c64 _) ?_ ?_); (next => repeat' first | exact flags_n | refine flags_c (by first | rfl | assumption) ?_); simp (disch := omega) only [patsV, k8, go_sem, wrap64_id, Int.tdiv_eq_ediv_of_nonneg, Int.tmod_eq_emod_of_nonneg])
        | ((first | refine callG_pure (fun e => ⟨?_, c20 _⟩) ?_ | refine callG_pure (fun e => ⟨?_, c64 _⟩) ?_); (next => repeat' first | exact flags_n | refine flags_c (by first | rfl | assumption) ?_); simp (disch := omega) only [patsV, k8, go_sem, wrap64_id, Int.tdiv_eq_ediv_of_nonneg, Int.tmod_eq_emod_of_nonneg])
        | ((first | refine fnQ_pure1 ?_ ?_ | refine fnQ_pure0 ?_ ?_); (next => repeat' first | exact rvs_n | refine rvs_t ?_ | (simp [go_sem]; done)); simp only [go_sem]; (first | exact VLe.refl _ | refine VLe_int ?_ | refine VLe_bool ?_ | refine VLe_str ?_ | skip))
        | (with_reducible refine And.intro ?_ ?_)
        | with_reducible intro _
      all_goals first
        | omega
        | (rename_i hx; revert hx; simp; done)
        | (simp; done)
        | skip
  · have k8 : ((ps.length : Int) ≤ 8) = False := eq_false (by omega)
    rw [decide_eq_false g8, Bool.false_and]
    refine acalls_of fn11d (by simp) ?_
    simp only [List.length_cons, List.length_nil, Nat.reduceAdd, Nat.reduceSub, List.replicate, List.cons_append, List.nil_append, List.append_nil]
    simp (disch := omega) only [c11d, patsV, k8, go_sem, wrap64_id, Int.tdiv_eq_ediv_of_nonneg, Int.tmod_eq_emod_of_nonneg]
    repeat' first
      | (refine callG_false ((.bool false)) ?_; simp (disch := omega) only [patsV, k8, go_sem, wrap64_id, Int.tdiv_eq_ediv_of_nonneg, Int.tmod_eq_emod_of_nonneg])
      | (refine callG_false ((.int .i64 0)) ?_; simp (disch := omega) only [patsV, k8, go_sem, wrap64_id, Int.tdiv_eq_ediv_of_nonneg, Int.tmod_eq_emod_of_nonneg])
      | ((first | refine fnQ_pure1 ?_ ?_ | refine fnQ_pure0 ?_ ?_); (next => repeat' first | exact rvs_n | refine rvs_t ?_ | (simp [go_sem]; done)); simp only [go_sem]; (first | exact VLe.refl _ | refine VLe_int ?_ | refine VLe_bool ?_ | refine VLe_str ?_ | skip))
      | (with_reducible refine And.intro ?_ ?_)
      | with_reducible intro _
    all_goals first
      | omega
      | (rename_i hx; revert hx; simp; done)
      | (simp; done)
      | skip
def wordH (w : List UInt8) : Bool := decide (w.length ≤ 20) && isWord w
theorem u12 (w : List UInt8) (h : List AObj) : ACalls Tryd.prog 12 [.str w] h (.bool (wordH w)) h := by
  unfold wordH
  by_cases g : w.length ≤ 20
  · have k : ((w.length : Int) ≤ 20) = True := eq_true (by omega)
    have c88 := fun h => t88 w h (by omega)
    rw [decide_eq_true g, Bool.true_and]
    refine acalls_of fn12d (by simp) ?_
    simp only [List.length_cons, List.length_nil, Nat.reduceAdd, Nat.reduceSub, List.replicate, List.cons_append, List.nil_append, List.append_nil]
    simp (disch := omega) only [c12d, k, go_sem, wrap64_id, Int.tdiv_eq_ediv_of_nonneg, Int.tmod_eq_emod_of_nonneg]
    repeat' first
      | ((first | refine callA_pure (c88 _) ?_ ?_); (next => repeat' first | exact flags_n | refine flags_c (by first | rfl | assumption) ?_); simp (disch := omega) only [k, go_sem, wrap64_id, Int.tdiv_eq_ediv_of_nonneg, Int.tmod_eq_emod_of_nonneg])
      | ((first | refine callG_pure (fun e => ⟨?_, c88 _⟩) ?_); (next => repeat' first | exact flags_n | refine flags_c (by first | rfl | assumption) ?_); simp (disch := omega) only [k, go_sem, wrap64_id, Int.tdiv_eq_ediv_of_nonneg, Int.tmod_eq_emod_of_nonneg])
      | ((first | refine fnQ_pure1 ?_ ?_ | refine fnQ_pure0 ?_ ?_); (next => repeat' first | exact rvs_n | refine rvs_t ?_ | (simp [go_sem]; done)); simp only [go_sem]; (first | exact VLe.refl _ | refine VLe_int ?_ | refine VLe_bool ?_ | refine VLe_str ?_ | skip))
      | (with_reducible refine And.intro ?_ ?_)
      | with_reducible intro _
    all_goals first
      | omega
      | (rename_i hx; revert hx; simp; done)
      | (simp; done)
      | skip
  · have k : ((w.length : Int) ≤ 20) = False := eq_false (by omega)
    rw [decide_eq_false g, Bool.false_and]
    refine acalls_of fn12d (by simp) ?_
    simp only [List.length_cons, List.length_nil, Nat.reduceAdd, Nat.reduceSub, List.replicate, List.cons_append, List.nil_append, List.append_nil]
    simp (disch := omega) only [c12d, k, go_sem, wrap64_id, Int.tdiv_eq_ediv_of_nonneg, Int.tmod_eq_emod_of_nonneg]
    repeat' first
      | (refine callG_false ((.bool false)) ?_; simp (disch := omega) only [k, go_sem, wrap64_id, Int.tdiv_eq_ediv_of_nonneg, Int.tmod_eq_emod_of_nonneg])
      | ((first | refine fnQ_pure1 ?_ ?_ | refine fnQ_pure0 ?_ ?_); (next => repeat' first | exact rvs_n | refine rvs_t ?_ | (simp [go_sem]; done)); simp only [go_sem]; (first | exact VLe.refl _ | refine VLe_int ?_ | refine VLe_bool ?_ | refine VLe_str ?_ | skip))
      | (with_reducible refine And.intro ?_ ?_)
      | with_reducible intro _
    all_goals first
      | omega
      | (rename_i hx; revert hx; simp; done)
      | (simp; done)
      | skip
end HY
end

section
set_option linter.all false
set_option linter.unusedSimpArgs false
set_option linter.unusedVariables false
set_option linter.unusedSectionVars false
open Go Go.Proofs AF
namespace HY
set_option maxRecDepth 100000
def c13e : C :=
  ((C.ops [⟨some 0, none, .mv, [.c (.bool false)]⟩]).seq ((C.ops [⟨some 12, none, .call 21 true, [.c (.str [97, 49, 98, 32, 46, 99, 50, 100, 51, 101, 46])]⟩, ⟨some 11, none, .mv, [.t
  12]⟩, ⟨some 13, none, .ext 0, [.t 11]⟩, ⟨some 14, none, .ext 1, [.t 11]⟩, ⟨some 1, none, .mv, [.t 13]⟩, ⟨some 2, none, .mv, [.t 14]⟩]).seq ((C.ops [⟨some 16, none, .call 39 false,
  []⟩, ⟨some 17, none, .bslc 0 1 3 3 [.int .i64 0] [(0, 1), (1, 1), (2, 1)], [.c (.int .i64 0), .c (.int .i64 3), .c (.int .i64 0)]⟩, ⟨some 18, none, .build [.str [], .nl] [(0, 1),
  (1, 1)], [.c (.str [100, 101]), .t 17]⟩, ⟨some 19, none, .bslc 1 2 1 32 [.str [], .nl] [(0, 2)], [.t 18]⟩, ⟨some 20, none, .app 2 2 32 40, [.t 16, .t 19]⟩, ⟨some 21, none, .call 14
  false, [.t 20, .c (.str [120, 97, 98, 99, 100, 101])]⟩, ⟨some 15, none, .mv, [.t 21]⟩, ⟨some 22, none, .ext 0, [.t 15]⟩, ⟨some 23, none, .ext 1, [.t 15]⟩, ⟨some 3, none, .mv, [.t
  22]⟩, ⟨some 4, none, .mv, [.t 23]⟩]).seq ((C.ops [⟨some 25, none, .call 39 false, []⟩, ⟨some 26, none, .call 30 true, [.t 25, .c (.str [120, 97, 98, 99, 100, 101])]⟩, ⟨some 24,
  none, .mv, [.t 26]⟩, ⟨some 27, none, .ext 0, [.t 24]⟩, ⟨some 28, none, .ext 1, [.t 24]⟩, ⟨some 5, none, .mv, [.t 27]⟩, ⟨some 6, none, .mv, [.t 28]⟩]).seq ((C.ops [⟨some 30, none,
  .call 39 false, []⟩, ⟨some 31, none, .call 14 false, [.t 30, .c (.str [99, 100, 101])]⟩, ⟨some 29, none, .mv, [.t 31]⟩, ⟨some 32, none, .ext 0, [.t 29]⟩, ⟨some 33, none, .ext 1,
  [.t 29]⟩, ⟨some 7, none, .mv, [.t 32]⟩, ⟨some 8, none, .mv, [.t 33]⟩]).seq ((C.ops [⟨some 35, none, .call 39 false, []⟩, ⟨some 36, none, .call 19 true, [.t 35, .c (.str [99, 100,
  101])]⟩, ⟨some 34, none, .mv, [.t 36]⟩, ⟨some 37, none, .ext 0, [.t 34]⟩, ⟨some 38, none, .ext 1, [.t 34]⟩, ⟨some 9, none, .mv, [.t 37]⟩, ⟨some 10, none, .mv, [.t 38]⟩]).seq
  ((C.ops [⟨some 39, none, .mv, [.t 2]⟩, ⟨some 40, none, .mv, [.t 4]⟩, ⟨some 41, none, .mv, [.t 6]⟩, ⟨some 42, none, .mv, [.t 8]⟩, ⟨some 43, none, .mv, [.t 10]⟩, ⟨some 44, none, .mm
  true, [.t 39, .t 40, .t 41, .t 42, .t 43]⟩, ⟨some 45, none, .bin .eql, [.t 44, .c (.int .i64 0)]⟩, ⟨some 46, none, .mv, [.t 45]⟩, ⟨some 47, some (46, true), .mv, [.t 1]⟩, ⟨some 48,
  some (46, true), .call 39 false, []⟩, ⟨some 49, some (46, true), .call 27 true, [.t 47, .t 48]⟩, ⟨some 50, none, .pick, [.t 46, .t 49, .c (.bool false)]⟩, ⟨some 51, none, .mv, [.t
  50]⟩, ⟨some 52, some (51, true), .mv, [.t 3]⟩, ⟨some 53, some (51, true), .bslc 3 1 5 3 [.int .i64 0] [(0, 1), (1, 1), (2, 1), (3, 1), (4, 1)], [.c (.int .i64 0), .c (.int .i64 1),
  .c (.int .i64 0), .c (.int .i64 0), .c (.int .i64 3)]⟩, ⟨some 54, some (51, true), .call 17 true, [.t 52, .t 53]⟩, ⟨some 55, none, .pick, [.t 51, .t 54, .c (.bool false)]⟩, ⟨some
  56, none, .mv, [.t 55]⟩, ⟨some 57, some (56, true), .mv, [.t 5]⟩, ⟨some 58, some (56, true), .bslc 4 1 2 9 [.str []] [(0, 1), (1, 1)], [.c (.str [120, 97]), .c (.str [98, 99, 100,
  101])]⟩, ⟨some 59, some (56, true), .call 34 true, [.t 57, .t 58]⟩, ⟨some 60, none, .pick, [.t 56, .t 59, .c (.bool false)]⟩, ⟨some 61, none, .mv, [.t 60]⟩, ⟨some 62, some (61,
  true), .mv, [.t 7]⟩, ⟨some 63, some (61, true), .bslc 5 1 2 3 [.int .i64 0] [(0, 1), (1, 1)], [.c (.int .i64 2), .c (.int .i64 3)]⟩, ⟨some 64, some (61, true), .call 17 true, [.t
  62, .t 63]⟩, ⟨some 65, none, .pick, [.t 61, .t 64, .c (.bool false)]⟩, ⟨some 66, none, .mv, [.t 65]⟩, ⟨some 67, some (66, true), .mv, [.t 9]⟩, ⟨some 68, some (66, true), .len, [.t
  67]⟩, ⟨some 69, some (66, true), .bin .eql, [.t 68, .c (.int .i64 0)]⟩, ⟨some 70, none, .pick, [.t 66, .t 69, .c (.bool false)]⟩, ⟨some 0, none, .mv, [.t 70]⟩]).seq
  C.ret)))))))
theorem fn13e : FnIs Tryd.prog 13 71 7 [RV.tmp 0] c13e := ⟨Tryd.f13, Tryd.f13.body.getD .skip, [17, 19, 20, 53, 58, 63, 16], [74, 97, 42, 44, 59, 48, 50, 52, 69, 81, 96, 39, 14], [], by kernel_rfl, by kernel_rfl, by kernel_rfl, by kernel_rfl, by kernel_rfl, by kernel_rfl, by kernel_rfl⟩
def c15e : C :=
  ((C.ops [⟨some 2, none, .nilo 0 2 32, []⟩]).seq ((C.ops [⟨some 3, none, .mv, [.c (.int .i64 0)]⟩]).seq (((C.ops [⟨some 9, none, .mv, [.t 0]⟩, ⟨some 10, none, .len, [.t 9]⟩, ⟨some
  11, none, .mv, [.c (.int .i64 0)]⟩]).seq (C.block 0 ((C.ops [⟨some 12, none, .bin .lss, [.t 11, .t 10]⟩]).seq ((C.cond (.t 12) C.skip (C.exit 0)).seq ((C.block 1 ((C.ops [⟨some 13,
  none, .idxA 1, [.t 9, .t 11]⟩, ⟨some 14, none, .load none, [.t 13]⟩, ⟨some 5, none, .mv, [.t 14]⟩]).seq ((C.ops [⟨some 15, none, .mv, [.t 3]⟩, ⟨some 16, none, .mv, [.t 5]⟩, ⟨some
  17, none, .len, [.t 16]⟩, ⟨some 18, none, .bin .add, [.t 15, .t 17]⟩, ⟨some 3, none, .mv, [.t 18]⟩]).seq ((C.ops [⟨some 19, none, .mv, [.t 3]⟩, ⟨some 20, none, .bin .lss, [.t 19,
  .c (.int .i64 0)]⟩]).seq (C.cond (.t 20) C.bad C.skip))))).seq (C.ops [⟨some 22, none, .bin .add, [.t 11, .c (.int .i64 1)]⟩, ⟨some 11, none, .mv, [.t 22]⟩])))).loop)).seq ((C.ops
  [⟨some 23, none, .mv, [.t 3]⟩, ⟨some 24, none, .call 42 false, [.c .nl, .t 23]⟩, ⟨some 6, none, .mv, [.t 24]⟩]).seq (((C.ops [⟨some 25, none, .mv, [.t 0]⟩, ⟨some 26, none, .len,
  [.t 25]⟩, ⟨some 27, none, .mv, [.c (.int .i64 0)]⟩]).seq (C.block 2 ((C.ops [⟨some 28, none, .bin .lss, [.t 27, .t 26]⟩]).seq ((C.cond (.t 28) C.skip (C.exit 2)).seq ((C.block 3
  ((C.ops [⟨some 29, none, .idxA 1, [.t 25, .t 27]⟩, ⟨some 30, none, .load none, [.t 29]⟩, ⟨some 8, none, .mv, [.t 30]⟩]).seq (C.ops [⟨some 31, none, .mv, [.t 6]⟩, ⟨some 32, none,
  .mv, [.t 8]⟩, ⟨some 33, none, .app 1 2 32 40, [.t 31, .t 32]⟩, ⟨some 6, none, .mv, [.t 33]⟩]))).seq (C.ops [⟨some 34, none, .bin .add, [.t 27, .c (.int .i64 1)]⟩, ⟨some 27, none,
  .mv, [.t 34]⟩])))).loop)).seq ((C.ops [⟨some 35, none, .mv, [.t 6]⟩, ⟨some 2, none, .mv, [.t 35]⟩]).seq
  C.ret))))))
theorem fn15e : FnIs Tryd.prog 15 36 3 [RV.tmp 2] c15e := ⟨Tryd.f15, Tryd.f15.body.getD .skip, [2, 33, 24], [74, 97, 42, 44, 59, 48, 50, 52, 69, 81, 96, 39, 14], [], by kernel_rfl, by kernel_rfl, by kernel_rfl, by kernel_rfl, by kernel_rfl, by kernel_rfl, by kernel_rfl⟩
def c30e : C :=
  ((C.ops [⟨some 4, none, .nilo 0 1 9, []⟩, ⟨some 5, none, .mv, [.c (.int .i64 0)]⟩]).seq (((C.ops [⟨some 13, none, .mv, [.t 0]⟩, ⟨some 14, none, .mv, [.t 1]⟩, ⟨some 15, none, .call
  40 true, [.t 13, .t 14]⟩, ⟨some 6, none, .mv, [.t 15]⟩]).seq ((C.ops [⟨some 16, none, .mv, [.t 6]⟩, ⟨some 17, none, .bin .neq, [.t 16, .c (.int .i64 0)]⟩]).seq (C.cond (.t 17)
  ((C.ops [⟨some 18, none, .mv, [.t 6]⟩, ⟨some 4, none, .nilo 0 1 9, []⟩, ⟨some 5, none, .mv, [.t 18]⟩]).seq C.ret) C.skip))).seq ((C.ops [⟨some 20, none, .mv, [.t 0]⟩, ⟨some 21,
  none, .mv, [.t 1]⟩, ⟨some 22, none, .call 44 false, [.t 20, .t 21]⟩, ⟨some 19, none, .mv, [.t 22]⟩, ⟨some 23, none, .ext 0, [.t 19]⟩, ⟨some 24, none, .ext 1, [.t 19]⟩, ⟨some 7,
  none, .mv, [.t 23]⟩, ⟨some 8, none, .mv, [.t 24]⟩]).seq ((C.ops [⟨some 9, none, .nilo 1 1 9, []⟩]).seq ((C.ops [⟨some 10, none, .mv, [.c (.int .i64 0)]⟩]).seq (((C.ops [⟨some 25,
  none, .mv, [.t 7]⟩, ⟨some 26, none, .mv, [.t 1]⟩, ⟨some 27, none, .slen, [.t 26]⟩, ⟨some 28, none, .bslc 2 1 1 3 [.int .i64 0] [(0, 1)], [.t 27]⟩, ⟨some 29, none, .app 3 1 3 8, [.t
  25, .t 28]⟩, ⟨some 30, none, .len, [.t 29]⟩, ⟨some 31, none, .mv, [.c (.int .i64 0)]⟩]).seq (C.block 0 ((C.ops [⟨some 32, none, .bin .lss, [.t 31, .t 30]⟩]).seq ((C.cond (.t 32)
  C.skip (C.exit 0)).seq ((C.block 1 ((C.ops [⟨some 33, none, .idxA 1, [.t 29, .t 31]⟩, ⟨some 34, none, .load none, [.t 33]⟩, ⟨some 12, none, .mv, [.t 34]⟩]).seq ((C.ops [⟨some 35,
  none, .mv, [.t 9]⟩, ⟨some 36, none, .mv, [.t 1]⟩, ⟨some 37, none, .mv, [.t 10]⟩, ⟨some 38, none, .mv, [.t 12]⟩, ⟨some 39, none, .sslc true true, [.t 36, .t 37, .t 38]⟩, ⟨some 40,
  none, .bslc 4 1 1 9 [.str []] [(0, 1)], [.t 39]⟩, ⟨some 41, none, .app 5 1 9 16, [.t 35, .t 40]⟩, ⟨some 9, none, .mv, [.t 41]⟩]).seq (C.ops [⟨some 42, none, .mv, [.t 12]⟩, ⟨some
  10, none, .mv, [.t 42]⟩])))).seq (C.ops [⟨some 43, none, .bin .add, [.t 31, .c (.int .i64 1)]⟩, ⟨some 31, none, .mv, [.t 43]⟩])))).loop)).seq ((C.ops [⟨some 44, none, .mv, [.t 9]⟩,
  ⟨some 4, none, .mv, [.t 44]⟩, ⟨some 5, none, .mv, [.c (.int .i64 0)]⟩]).seq
  C.ret)))))))
theorem fn30e : FnIs Tryd.prog 30 45 7 [RV.tmp 4, RV.tmp 5] c30e := ⟨Tryd.f30, Tryd.f30.body.getD .skip, [4, 9, 28, 29, 40, 41, 22], [74, 97, 42, 44, 59, 48, 50, 52, 69, 81, 96, 39, 14], [], by kernel_rfl, by kernel_rfl, by kernel_rfl, by kernel_rfl, by kernel_rfl, by kernel_rfl, by kernel_rfl⟩
def c39e : C :=
  ((C.ops [⟨some 0, none, .nilo 0 2 32, []⟩]).seq ((C.ops [⟨some 1, none, .bslc 1 1 3 3 [.int .i64 0] [(0, 1), (1, 1), (2, 1)], [.c (.int .i64 0), .c (.int .i64 1), .c (.int .i64
  0)]⟩, ⟨some 2, none, .build [.str [], .nl] [(0, 1), (1, 1)], [.c (.str [97, 98]), .t 1]⟩, ⟨some 3, none, .bslc 2 1 6 3 [.int .i64 0] [(0, 1), (1, 1), (2, 1), (3, 1), (4, 1), (5,
  1)], [.c (.int .i64 0), .c (.int .i64 0), .c (.int .i64 2), .c (.int .i64 3), .c (.int .i64 0), .c (.int .i64 0)]⟩, ⟨some 4, none, .build [.str [], .nl] [(0, 1), (1, 1)], [.c (.str
  [46, 99, 100, 101, 46]), .t 3]⟩, ⟨some 5, none, .bslc 3 2 2 32 [.str [], .nl] [(0, 2), (2, 2)], [.t 2, .t 4]⟩, ⟨some 0, none, .mv, [.t 5]⟩]).seq
  C.ret))
theorem fn39e : FnIs Tryd.prog 39 6 4 [RV.tmp 0] c39e := ⟨Tryd.f39, Tryd.f39.body.getD .skip, [0, 1, 3, 5], [74, 97, 42, 44, 59, 48, 50, 52, 69, 81, 96, 39, 14], [], by kernel_rfl, by kernel_rfl, by kernel_rfl, by kernel_rfl, by kernel_rfl, by kernel_rfl, by kernel_rfl⟩
end HY
end

section
set_option linter.all false
set_option linter.unusedSimpArgs false
set_option linter.unusedVariables false
set_option linter.unusedSectionVars false
open Go Go.Proofs AF HY
namespace HY
set_option maxRecDepth 100000
def patsC (ps : List Pat) : List AV := ps.flatMap patC
theorem patsC_app (a b : List Pat) : patsC (a ++ b) = patsC a ++ patsC b := by simp [patsC]
theorem patsC_len (l : List Pat) : (patsC l).length = l.length * 2 := by
  induction l with
  | nil => rfl
  | cons x l ih => unfold patsC at *; rw [List.flatMap_cons, List.length_append, ih, List.length_cons]; show 2 + l.length * 2 = _; omega
theorem patsC_range (L : List Pat) : (List.range L.length).flatMap (fun i => patC (L.getD i default)) = patsC L := by
  have : L = (List.range L.length).map (fun i => L.getD i default) := by
    apply List.ext_getElem
    · simp
    · intro i h1 h2; simp [List.getD_eq_getElem?_getD, List.getElem?_eq_getElem h1]
  unfold patsC
  conv => rhs; rw [this]
  rw [List.flatMap_map]
theorem drop_pats {l : List Pat} {i : Nat} (hi : i < l.length) : List.take 2 (List.drop (i * 2) (patsC l)) = patC (l.getD i default) := by
  have h1 : l = l.take i ++ l.getD i default :: l.drop (i + 1) := by
    have : l.getD i default = l[i] := by rw [List.getD_eq_getElem?_getD, List.getElem?_eq_getElem hi]; rfl
    rw [this, ← List.drop_eq_getElem_cons hi, List.take_append_drop]
  conv => lhs; rw [h1]
  rw [patsC_app, List.drop_append_of_le_length (by rw [patsC_len, List.length_take]; omega), List.drop_of_length_le (by rw [patsC_len, List.length_take]; omega)]
  show List.take 2 (patC (l.getD i default) ++ patsC (l.drop (i + 1))) = _
  rfl
theorem patsV_of {l : List Pat} {n m : Nat} {fz : Nat → Bool} {h : List AObj} (e : l.length = m) : VLe (.sl m fun i => ((List.drop (i * 2) (patsC l)).take 2).map (rei fz h (n + 1))) (patsV l) := by
  subst e
  refine VLe_sl rfl (fun i hi => ?_)
  rw [drop_pats hi]
  rfl
theorem u42 (n : Nat) (h : List AObj) (k : Nat) (hk : site h k = true) (hn : 0 < n) (hn1 : n ≤ 1000000000) :
    ACalls Tryd.prog 42 [.nl, .int .i64 n] h (.osl k (verOf (getO k h) + 1) 2 0 0) (setO k h (.mem (verOf (getO k h) + 1) 32 (madeA [.str [], .nl] n))) := by
  refine acallsM fn42d k (by simp) ?_
  simp only [List.length_cons, List.length_nil, Nat.reduceAdd, Nat.reduceSub, List.replicate, List.cons_append, List.nil_append, List.append_nil]
  simp (disch := omega) only [c42d, go_sem, wrap64_id, Int.tdiv_eq_ediv_of_nonneg, Int.tmod_eq_emod_of_nonneg]
  repeat' first
    | (with_reducible refine And.intro ?_ ?_)
    | (with_reducible intro _)
  all_goals first
    | omega
    | skip
  have e0 : ((n : Int) - (0 - 0)).toNat = n := by omega
  rw [e0]
  exact ⟨h.length + 1, 1, 2, 0, 0, 32, madeA [.str [], .nl] n, [AObj.emp 1, AObj.mem 1 32 (madeA [.str [], .nl] n)], ⟨trivial, trivial⟩, rfl, rfl, by omega, by simp only [go_sem], fun c hc => by have := mem_madeA hc; simp at this; rcases this with rfl | rfl <;> rfl, hk, rfl, rfl⟩
theorem u42z (h : List AObj) : ACalls Tryd.prog 42 [.nl, .int .i64 0] h .nl h := by
  refine acalls_of fn42d (by simp) ?_
  simp only [List.length_cons, List.length_nil, Nat.reduceAdd, Nat.reduceSub, List.replicate, List.cons_append, List.nil_append, List.append_nil]
  simp (disch := omega) only [c42d, go_sem, wrap64_id, Int.tdiv_eq_ediv_of_nonneg, Int.tmod_eq_emod_of_nonneg]
  repeat' first
    | ((first | refine fnQ_pure1 ?_ ?_ | refine fnQ_pure0 ?_ ?_); (next => repeat' first | exact rvs_n | refine rvs_t ?_ | (simp [go_sem]; done)); simp only [go_sem]; (first | exact VLe.refl _ | refine VLe_int ?_ | refine VLe_bool ?_ | refine VLe_str ?_ | skip))
    | (with_reducible refine And.intro ?_ ?_)
    | with_reducible intro _
  all_goals first
    | omega
    | (rename_i hx; revert hx; simp; done)
    | (simp; done)
    | skip
set_option maxHeartbeats 4000000 in
theorem u15 (Ls : List (List Pat)) (E : Nat → AV) (h : List AObj) (k v : Nat) (cs : List AV) (hk : getO k h = some (.mem v 22 cs)) (hcl : cs.length = Ls.length) (hE : ∀ i, i < Ls.length → cs[i]? = some (E i) ∧ Src h (E i) (Ls.getD i []).length (patsC (Ls.getD i [])))
    (h0 : 0 < Ls.flatten.length) (h1 : Ls.flatten.length ≤ 1000000000) (h2 : Ls.length ≤ 1000000000) (hv : (v == v) = true) : ACalls Tryd.prog 15 [.osl k v 1 0 Ls.length] h (patsV Ls.flatten) h := by
  have hkl : k < h.length := getO_lt hk
  have hL : ∀ X, liveS (h ++ X) k v = true := fun X => by rw [liveS_left hkl]; unfold liveS; rw [hk]; simp
  have hC : ∀ X, cellsOf (h ++ X) k v = some cs := fun X => by rw [cellsOf_left hkl]; exact cellsOf_of hk
  have hLs : 0 < Ls.length := by
    cases Ls with
    | nil => simp at h0
    | cons => simp
  refine acalls_of fn15e (by simp) ?_
  simp only [List.length_cons, List.length_nil, Nat.reduceAdd, Nat.reduceSub, List.replicate, List.cons_append, List.nil_append, List.append_nil]
  simp (disch := omega) only [c15e, hL, hC, go_sem, wrap64_id, Int.tdiv_eq_ediv_of_nonneg, Int.tmod_eq_emod_of_nonneg]
  repeat' first
    | ((first | refine fnQ_pure1 ?_ ?_ | refine fnQ_pure0 ?_ ?_); (next => repeat' first | exact rvs_n | refine rvs_t ?_ | (simp [go_sem]; done)); simp only [go_sem]; (first | exact VLe.refl _ | refine VLe_int ?_ | refine VLe_bool ?_ | refine VLe_str ?_ | skip))
    | (with_reducible refine And.intro ?_ ?_)
    | with_reducible intro _
  all_goals first
    | omega
    | (rename_i hx; revert hx; simp; done)
    | (simp; done)
    | skip
  refine loop_of (T := fun i : Nat => spar 36 [(0, .osl k v 1 0 Ls.length), (3, .int .i64 (Ls.take i).flatten.length), (9, .osl k v 1 0 Ls.length), (10, .int .i64 Ls.length), (11, .int .i64 i)]) (H := fun i => h ++ [.emp 1, .emp 0, .emp 0])
    (inv := fun i => i ≤ Ls.length) (m := fun i => Ls.length - i) 0 (by omega) (Wk.temps ?_) ?_
  · (simp only [spar, List.foldl, List.replicate, go_sem, VLes_nil, VLes_cons, VLe_undef_iff, VLe_self]; try (repeat' first | (with_reducible refine And.intro ?_ ?_) | (refine VLe_int ?_; omega) | (refine VLe_bool ?_; rfl) | exact VLe.refl _))
  rintro i i1 K hK
  by_cases hi : i < Ls.length
  · obtain ⟨c1, ⟨s1, s2, s3, s4, s5, s6⟩⟩ := hE i hi
    have hst := flatten_take_succ Ls hi
    have hle := flatten_take_le Ls (i + 1)
    rw [hst, List.length_append] at hle
    simp (disch := omega) only [spar, List.foldl, List.replicate, hL, hC, c1, s1, s2, s3, s4, hcl, go_sem, wrap64_id, Int.tdiv_eq_ediv_of_nonneg, Int.tmod_eq_emod_of_nonneg]
    repeat' first
      | ((first | refine fnQ_pure1 ?_ ?_ | refine fnQ_pure0 ?_ ?_); (next => repeat' first | exact rvs_n | refine rvs_t ?_ | (simp [go_sem]; done)); simp only [go_sem]; (first | exact VLe.refl _ | refine VLe_int ?_ | refine VLe_bool ?_ | refine VLe_str ?_ | skip))
      | (with_reducible refine And.intro ?_ ?_)
      | with_reducible intro _
    all_goals first
      | omega
      | (rename_i hx; revert hx; simp; done)
      | (simp; done)
      | skip
    have hln : (List.take (i + 1) Ls).flatten.length = (List.take i Ls).flatten.length + (Ls.getD i []).length := by rw [hst, List.length_append]
    refine hK _ _ (i + 1) (by omega) (by omega) (Wk.temps ?_)
    (simp only [spar, List.foldl, List.replicate, go_sem, VLes_nil, VLes_cons, VLe_undef_iff, VLe_self]; try (repeat' first | (with_reducible refine And.intro ?_ ?_) | (refine VLe_int ?_; omega) | (refine VLe_bool ?_; rfl) | exact VLe.refl _))
  have e : i = Ls.length := by omega
  subst e
  rw [List.take_length]
  obtain ⟨N, hN⟩ : ∃ N, N = Ls.flatten.length := ⟨_, rfl⟩
  rw [← hN] at h0 h1 ⊢
  simp (disch := omega) only [spar, List.foldl, List.replicate, hL, hC, hcl, go_sem, wrap64_id, Int.tdiv_eq_ediv_of_nonneg, Int.tmod_eq_emod_of_nonneg]
  refine ⟨fun hf => absurd hf (by omega), fun _ => ?_⟩
  refine callA_eff (u42 N _ (h.length + 2) (by simp only [go_sem]) h0 h1) ⟨rfl, rfl, trivial⟩ ?_
  simp (disch := omega) only [hL, hC, go_sem, wrap64_id, Int.tdiv_eq_ediv_of_nonneg, Int.tmod_eq_emod_of_nonneg]
  repeat' first
    | ((first | refine fnQ_pure1 ?_ ?_ | refine fnQ_pure0 ?_ ?_); (next => repeat' first | exact rvs_n | refine rvs_t ?_ | (simp [go_sem]; done)); simp only [go_sem]; (first | exact VLe.refl _ | refine VLe_int ?_ | refine VLe_bool ?_ | refine VLe_str ?_ | skip))
    | (with_reducible refine And.intro ?_ ?_)
    | with_reducible intro _
  all_goals first
    | omega
    | (rename_i hx; revert hx; simp; done)
    | (simp; done)
    | skip
  refine loop_of (T := fun i : Nat × Nat × Nat => spar 36 [(6, .osl (h.length + 2) i.2.1 2 0 i.2.2), (25, .osl k v 1 0 Ls.length), (26, .int .i64 Ls.length), (27, .int .i64 i.1)]) (H := fun i => h ++ [.emp 1, .emp 0, .mem i.2.1 32 (if i.1 = 0 then madeA [.str [], .nl] N else patsC (Ls.take i.1).flatten)])
    (inv := fun i => i.1 ≤ Ls.length ∧ i.2.2 = (Ls.take i.1).flatten.length) (m := fun i => Ls.length - i.1) (0, 1, 0) ⟨by simp, by simp⟩ (Wk.temps ?_) ?_
  · (simp only [spar, List.foldl, List.replicate, go_sem, VLes_nil, VLes_cons, VLe_undef_iff, VLe_self]; try (repeat' first | (with_reducible refine And.intro ?_ ?_) | (refine VLe_int ?_; omega) | (refine VLe_bool ?_; rfl) | exact VLe.refl _))
  rintro ⟨i, w, m⟩ ⟨i1, i2⟩ K hK
  simp only at i1 i2 hK
  by_cases hi : i < Ls.length
  · obtain ⟨c1, ⟨s1, s2, s3, s4, s5, s6⟩⟩ := hE i hi
    have hst := flatten_take_succ Ls hi
    have hle := flatten_take_le Ls (i + 1)
    rw [hst, List.length_append, ← hN] at hle
    have eT : ∀ n, List.take (m * 2) (if i = 0 then madeA [.str [], .nl] n else patsC (Ls.take i).flatten) = patsC (Ls.take i).flatten := by
      intro n
      split
      · rename_i e0; subst e0; subst i2; rfl
      · exact List.take_of_length_le (by rw [patsC_len, i2]; exact Nat.le_refl _)
    obtain ⟨ms, hms⟩ : ∃ ms, ms = (if i = 0 then madeA [.str [], .nl] N else patsC (Ls.take i).flatten) := ⟨_, rfl⟩
    have eT' := eT N
    rw [← hms] at eT' ⊢
    have hml : m * 2 ≤ ms.length := by
      have := congrArg List.length eT'
      rw [List.length_take, patsC_len, ← i2] at this
      omega
    have hsl := patsC_len (Ls.getD i [])
    simp (disch := omega) only [spar, List.foldl, List.replicate, hL, hC, c1, s1, s2, s3, s4, s5, s6, hcl, eT', hsl, go_sem, wrap64_id, Int.tdiv_eq_ediv_of_nonneg, Int.tmod_eq_emod_of_nonneg]
    repeat' first
      | ((first | refine fnQ_pure1 ?_ ?_ | refine fnQ_pure0 ?_ ?_); (next => repeat' first | exact rvs_n | refine rvs_t ?_ | (simp [go_sem]; done)); simp only [go_sem]; (first | exact VLe.refl _ | refine VLe_int ?_ | refine VLe_bool ?_ | refine VLe_str ?_ | skip))
      | (with_reducible refine And.intro ?_ ?_)
      | with_reducible intro _
    all_goals first
      | omega
      | (rename_i hx; revert hx; simp; done)
      | (simp; done)
      | skip
    have hfin : h ++ [AObj.emp 1, AObj.emp 0, AObj.mem (w + 1) 32 (patsC (List.take i Ls).flatten ++ patsC (Ls.getD i []))] = h ++ [AObj.emp 1, AObj.emp 0, AObj.mem (w + 1) 32 (if i + 1 = 0 then madeA [.str [], .nl] N else patsC (Ls.take (i + 1)).flatten)] := by rw [if_neg (by omega), hst, patsC_app]
    rw [hfin]
    refine hK _ _ (i + 1, w + 1, m + (Ls.getD i []).length) ⟨by simp only; omega, by simp only; rw [hst, List.length_append, i2]⟩ (by simp only; omega) (Wk.temps ?_)
    (simp only [spar, List.foldl, List.replicate, go_sem, VLes_nil, VLes_cons, VLe_undef_iff, VLe_self]; try (repeat' first | (with_reducible refine And.intro ?_ ?_) | (refine VLe_int ?_; omega) | (refine VLe_bool ?_; rfl) | exact VLe.refl _))
  · have e : i = Ls.length := by omega
    subst e
    rw [List.take_length, ← hN] at i2
    subst i2
    rw [List.take_length, if_neg (by omega)]
    have eL : (patsC Ls.flatten).length = m * 2 := by rw [patsC_len, hN]
    simp (disch := omega) only [spar, List.foldl, List.replicate, hL, hC, hcl, eL, go_sem, wrap64_id, Int.tdiv_eq_ediv_of_nonneg, Int.tmod_eq_emod_of_nonneg]
    repeat' first
      | ((first | refine fnQ_pure1 ?_ ?_ | refine fnQ_pure0 ?_ ?_); (next => repeat' first | exact rvs_n | refine rvs_t ?_ | (simp [go_sem]; done)); simp only [go_sem]; (first | exact VLe.refl _ | refine VLe_int ?_ | refine VLe_bool ?_ | refine VLe_str ?_ | skip))
      | (with_reducible refine And.intro ?_ ?_)
      | with_reducible intro _
    all_goals first
      | omega
      | (rename_i hx; revert hx; simp; done)
      | (simp; done)
      | skip
    rw [if_pos (by omega)]
    exact patsV_of hN.symm
end HY
end

section
set_option linter.all false
set_option linter.unusedSimpArgs false
set_option linter.unusedVariables false
set_option linter.unusedSectionVars false
open Go Go.Proofs AF HY
namespace HY
set_option maxRecDepth 100000
theorem src_pats (h : List AObj) (ps : List Pat) : Src h (patsV ps) ps.length (patsC ps) := by
  refine ⟨by simp only [patsV, go_sem], rfl, fun X => ?_, fun X => ?_, fun X => ?_, fun k v z p m hk => rfl⟩
  · simp only [patsV, go_sem]
  · simp only [patsV, go_sem]
  · show sliceCells _ (.sl _ _) = _
    rw [sliceCells_sl, patsC_range]
theorem u15z (h : List AObj) (k v : Nat) (hk : getO k h = some (.mem v 22 [patsV [], patsV []])) : ACalls Tryd.prog 15 [.osl k v 1 0 2] h (patsV []) h := by
  have hkl : k < h.length := getO_lt hk
  have hL : ∀ X, liveS (h ++ X) k v = true := fun X => by rw [liveS_left hkl]; unfold liveS; rw [hk]; simp
  have hC : ∀ X, cellsOf (h ++ X) k v = some [patsV [], patsV []] := fun X => by rw [cellsOf_left hkl]; exact cellsOf_of hk
  refine acalls_of fn15e (by simp) ?_
  simp only [List.length_cons, List.length_nil, Nat.reduceAdd, Nat.reduceSub, List.replicate, List.cons_append, List.nil_append, List.append_nil]
  simp (disch := omega) only [c15e, hL, hC, go_sem, wrap64_id, Int.tdiv_eq_ediv_of_nonneg, Int.tmod_eq_emod_of_nonneg]
  repeat' first
    | ((first | refine fnQ_pure1 ?_ ?_ | refine fnQ_pure0 ?_ ?_); (next => repeat' first | exact rvs_n | refine rvs_t ?_ | (simp [go_sem]; done)); simp only [go_sem]; (first | exact VLe.refl _ | refine VLe_int ?_ | refine VLe_bool ?_ | refine VLe_str ?_ | skip))
    | (with_reducible refine And.intro ?_ ?_)
    | with_reducible intro _
  all_goals first
    | omega
    | (rename_i hx; revert hx; simp; done)
    | (simp; done)
    | skip
  refine loop_of (T := fun i : Nat => spar 36 [(0, .osl k v 1 0 2), (3, .int .i64 0), (9, .osl k v 1 0 2), (10, .int .i64 2), (11, .int .i64 i)]) (H := fun i => h ++ [.emp 1, .emp 0, .emp 0])
    (inv := fun i => i ≤ 2) (m := fun i => 2 - i) 0 (by omega) (Wk.temps ?_) ?_
  · (simp only [spar, List.foldl, List.replicate, go_sem, VLes_nil, VLes_cons, VLe_undef_iff, VLe_self]; try (repeat' first | (with_reducible refine And.intro ?_ ?_) | (refine VLe_int ?_; omega) | (refine VLe_bool ?_; rfl) | exact VLe.refl _))
  rintro i i1 K hK
  by_cases hi : i < 2
  · have hc : [patsV [], patsV []][i]? = some (patsV []) := by
      obtain rfl | rfl : i = 0 ∨ i = 1 := by omega
      all_goals rfl
    obtain ⟨cs, hcs⟩ : ∃ cs, cs = [patsV [], patsV []] := ⟨_, rfl⟩
    have hcl : cs.length = 2 := by rw [hcs]; rfl
    rw [← hcs] at hc hC
    obtain ⟨s1, s2, s3, s4, s5, s6⟩ := src_pats h []
    simp (disch := omega) only [spar, List.foldl, List.replicate, hL, hC, hc, hcl, s1, s2, s3, s4, go_sem, wrap64_id, Int.tdiv_eq_ediv_of_nonneg, Int.tmod_eq_emod_of_nonneg]
    repeat' first
      | ((first | refine fnQ_pure1 ?_ ?_ | refine fnQ_pure0 ?_ ?_); (next => repeat' first | exact rvs_n | refine rvs_t ?_ | (simp [go_sem]; done)); simp only [go_sem]; (first | exact VLe.refl _ | refine VLe_int ?_ | refine VLe_bool ?_ | refine VLe_str ?_ | skip))
      | (with_reducible refine And.intro ?_ ?_)
      | with_reducible intro _
    all_goals first
      | omega
      | (rename_i hx; revert hx; simp; done)
      | (simp; done)
      | skip
    refine hK _ _ (i + 1) (by omega) (by omega) (Wk.temps ?_)
    (simp only [spar, List.foldl, List.replicate, go_sem, VLes_nil, VLes_cons, VLe_undef_iff, VLe_self]; try (repeat' first | (with_reducible refine And.intro ?_ ?_) | (refine VLe_int ?_; omega) | (refine VLe_bool ?_; rfl) | exact VLe.refl _))
  have e : i = 2 := by omega
  subst e
  simp (disch := omega) only [spar, List.foldl, List.replicate, hL, hC, go_sem, wrap64_id, Int.tdiv_eq_ediv_of_nonneg, Int.tmod_eq_emod_of_nonneg]
  refine ⟨fun hf => absurd hf (by omega), fun _ => ?_⟩
  refine callA_eff (u42z _) ⟨rfl, rfl, trivial⟩ ?_
  simp (disch := omega) only [hL, hC, go_sem, wrap64_id, Int.tdiv_eq_ediv_of_nonneg, Int.tmod_eq_emod_of_nonneg]
  repeat' first
    | ((first | refine fnQ_pure1 ?_ ?_ | refine fnQ_pure0 ?_ ?_); (next => repeat' first | exact rvs_n | refine rvs_t ?_ | (simp [go_sem]; done)); simp only [go_sem]; (first | exact VLe.refl _ | refine VLe_int ?_ | refine VLe_bool ?_ | refine VLe_str ?_ | skip))
    | (with_reducible refine And.intro ?_ ?_)
    | with_reducible intro _
  all_goals first
    | omega
    | (rename_i hx; revert hx; simp; done)
    | (simp; done)
    | skip
  refine loop_of (T := fun i : Nat => spar 36 [(6, if i = 0 then .nl else .osl (h.length + 1) i 2 0 0), (25, .osl k v 1 0 2), (26, .int .i64 2), (27, .int .i64 i)]) (H := fun i => h ++ [.emp 1, .emp i, .emp 0])
    (inv := fun i => i ≤ 2) (m := fun i => 2 - i) 0 (by omega) (Wk.temps ?_) ?_
  · (simp only [spar, List.foldl, List.replicate, go_sem, VLes_nil, VLes_cons, VLe_undef_iff, VLe_self]; try (repeat' first | (with_reducible refine And.intro ?_ ?_) | (refine VLe_int ?_; omega) | (refine VLe_bool ?_; rfl) | exact VLe.refl _))
  rintro i i1 K hK
  obtain ⟨s1, s2, s3, s4, s5, s6⟩ := src_pats h []
  have s5 : ∀ X, sliceCells (h ++ X) (patsV []) = some (0, []) := s5
  obtain rfl | rfl | rfl : i = 0 ∨ i = 1 ∨ i = 2 := by omega
  · simp (disch := omega) only [spar, List.foldl, List.replicate, hL, hC, s2, s3, s4, s5, s6, go_sem, wrap64_id, Int.tdiv_eq_ediv_of_nonneg, Int.tmod_eq_emod_of_nonneg]
    repeat' first
      | ((first | refine fnQ_pure1 ?_ ?_ | refine fnQ_pure0 ?_ ?_); (next => repeat' first | exact rvs_n | refine rvs_t ?_ | (simp [go_sem]; done)); simp only [go_sem]; (first | exact VLe.refl _ | refine VLe_int ?_ | refine VLe_bool ?_ | refine VLe_str ?_ | skip))
      | (with_reducible refine And.intro ?_ ?_)
      | with_reducible intro _
    all_goals first
      | omega
      | (rename_i hx; revert hx; simp; done)
      | (simp; done)
      | skip
    refine hK _ _ 1 (by omega) (by omega) (Wk.temps ?_)
    (simp only [spar, List.foldl, List.replicate, go_sem, VLes_nil, VLes_cons, VLe_undef_iff, VLe_self]; try (repeat' first | (with_reducible refine And.intro ?_ ?_) | (refine VLe_int ?_; omega) | (refine VLe_bool ?_; rfl) | exact VLe.refl _))
  · simp (disch := omega) only [spar, List.foldl, List.replicate, hL, hC, s2, s3, s4, s5, s6, go_sem, wrap64_id, Int.tdiv_eq_ediv_of_nonneg, Int.tmod_eq_emod_of_nonneg]
    repeat' first
      | ((first | refine fnQ_pure1 ?_ ?_ | refine fnQ_pure0 ?_ ?_); (next => repeat' first | exact rvs_n | refine rvs_t ?_ | (simp [go_sem]; done)); simp only [go_sem]; (first | exact VLe.refl _ | refine VLe_int ?_ | refine VLe_bool ?_ | refine VLe_str ?_ | skip))
      | (with_reducible refine And.intro ?_ ?_)
      | with_reducible intro _
    all_goals first
      | omega
      | (rename_i hx; revert hx; simp; done)
      | (simp; done)
      | skip
    refine hK _ _ 2 (by omega) (by omega) (Wk.temps ?_)
    (simp only [spar, List.foldl, List.replicate, go_sem, VLes_nil, VLes_cons, VLe_undef_iff, VLe_self]; try (repeat' first | (with_reducible refine And.intro ?_ ?_) | (refine VLe_int ?_; omega) | (refine VLe_bool ?_; rfl) | exact VLe.refl _))
  · simp (disch := omega) only [spar, List.foldl, List.replicate, hL, hC, go_sem, wrap64_id, Int.tdiv_eq_ediv_of_nonneg, Int.tmod_eq_emod_of_nonneg]
    repeat' first
      | ((first | refine fnQ_pure1 ?_ ?_ | refine fnQ_pure0 ?_ ?_); (next => repeat' first | exact rvs_n | refine rvs_t ?_ | (simp [go_sem]; done)); simp only [go_sem]; (first | exact VLe.refl _ | refine VLe_int ?_ | refine VLe_bool ?_ | refine VLe_str ?_ | skip))
      | (with_reducible refine And.intro ?_ ?_)
      | with_reducible intro _
    all_goals first
      | omega
      | (rename_i hx; revert hx; simp; done)
      | (simp; done)
      | skip
    exact VLe_nl
theorem u15c (ps qs : List Pat) (h : List AObj) (k v : Nat) (hk : getO k h = some (.mem v 22 [patsV ps, patsV qs])) (hl : ps.length + qs.length ≤ 1000000000) : ACalls Tryd.prog 15 [.osl k v 1 0 2] h (patsV (ps ++ qs)) h := by
  by_cases h0 : 0 < ps.length + qs.length
  · have := u15 [ps, qs] (fun i => if i = 0 then patsV ps else patsV qs) h k v _ hk rfl (fun i hi => by
      obtain rfl | rfl : i = 0 ∨ i = 1 := by simp at hi; omega
      · exact ⟨rfl, src_pats h ps⟩
      · exact ⟨rfl, src_pats h qs⟩) (by simpa using h0) (by simpa using hl) (by simp) (by simp)
    simpa using this
  · obtain ⟨rfl⟩ : ps = [] := List.eq_nil_of_length_eq_zero (by omega)
    obtain ⟨rfl⟩ : qs = [] := List.eq_nil_of_length_eq_zero (by omega)
    exact u15z h k v hk
end HY
end

section
set_option linter.all false
set_option linter.unusedSimpArgs false
set_option linter.unusedVariables false
set_option linter.unusedSectionVars false
set_option linter.unusedVariables false
namespace Go.Proofs
open Go.Shelf Go.RowKit Go.Lib
set_option maxHeartbeats 1000000 in
set_option maxRecDepth 100000 in
theorem cnt_calls (s : ByteArray) (c : UInt8) (w : World) :
    Calls Tryd.prog 100 #[.string s, .string ⟨#[c]⟩] w fun e w' => e = .returned (.int .i64 (Lib.countByte s.data.toList c)) ∧ w' = w := by
  go_enter Tryd.func100, Tryd.ntmps100
  go_wp2
  rw [run_callFunc_extern Tryd.func113 (by kernel_rfl) (by kernel_rfl) (by kernel_rfl) (e := Extern.BytealgCount.count) (by kernel_rfl), Lib.run_countString]
  simp only [Result.andThen]
  rw [Oper.upon_value]
  go_wp2
  go_ret
  exact ⟨rfl, rfl⟩
set_option maxHeartbeats 2000000 in
set_option maxRecDepth 100000 in
theorem ix1_calls (s : ByteArray) (c : UInt8) (w : World) :
    Calls Tryd.prog 114 #[.string s, .string ⟨#[c]⟩] w fun e w' => e = .returned (.int .i64 (Lib.indexByte s.data.toList c)) ∧ w' = w := by
  have e95 : ∀ args w, (callFunc 95 args).run Tryd.prog w = .ok (.enter 95 args) w := enters_of Tryd.func95 (by kernel_rfl) rfl
  go_enter Tryd.func114, Tryd.ntmps114
  go_wp2_with (go_at_fn 95; refine (ib_calls _ _ _).mono ?_; rintro e w' ⟨rfl, rfl⟩)
  · have h : ([c] == s.toList) = true := by assumption
    go_ret
    refine ⟨?_, rfl⟩
    have e : s.data.toList = [c] := by rw [← Lib.toList_data]; exact (beq_iff_eq.1 h).symm
    rw [e]
    simp [Lib.indexByte]
  · go_ret
    exact ⟨rfl, rfl⟩
set_option maxHeartbeats 1000000 in
theorem ix_calls (s : ByteArray) (c : UInt8) (w : World) :
    Calls Tryd.prog 101 #[.string s, .string ⟨#[c]⟩] w fun e w' => e = .returned (.int .i64 (Lib.indexByte s.data.toList c)) ∧ w' = w := by
  have e114 : ∀ args w, (callFunc 114 args).run Tryd.prog w = .ok (.enter 114 args) w := enters_of Tryd.func114 (by kernel_rfl) rfl
  go_enter Tryd.func101, Tryd.ntmps101
  go_wp2_with (go_at_fn 114; refine (ix1_calls _ _ _).mono ?_; rintro e w' ⟨rfl, rfl⟩)
  go_ret
  exact ⟨rfl, rfl⟩
end Go.Proofs
end

section
set_option linter.all false
set_option linter.unusedSimpArgs false
set_option linter.unusedVariables false
set_option linter.unusedSectionVars false
open Go Go.Proofs AF HY
namespace HY
set_option maxRecDepth 100000
theorem u100 (s : List UInt8) (c : UInt8) (h : List AObj) : ACalls Tryd.prog 100 [.str s, .str [c]] h (.int .i64 (s.count c)) h := by
  refine ⟨okF1 Tryd.func100 (by kernel_rfl) (by kernel_rfl), fun w σ xs H hv => ?_⟩
  obtain ⟨x, y, rfl, hx, hy⟩ := hv.two
  rw [vr_str hx, vr_str hy]
  refine (callsIn_wide.2 (cnt_calls ⟨s.toArray⟩ c w)).mono ?_
  rintro e w' ⟨rfl, rfl⟩
  exact ⟨_, σ, rfl, H, .imm .int, Ext.refl _ _⟩
theorem u101 (s : List UInt8) (c : UInt8) (h : List AObj) : ACalls Tryd.prog 101 [.str s, .str [c]] h (.int .i64 (Go.Lib.indexByte s c)) h := by
  refine ⟨okF1 Tryd.func101 (by kernel_rfl) (by kernel_rfl), fun w σ xs H hv => ?_⟩
  obtain ⟨x, y, rfl, hx, hy⟩ := hv.two
  rw [vr_str hx, vr_str hy]
  refine (callsIn_wide.2 (ix_calls ⟨s.toArray⟩ c w)).mono ?_
  rintro e w' ⟨rfl, rfl⟩
  exact ⟨_, σ, rfl, H, .imm .int, Ext.refl _ _⟩
def cutAt (c : UInt8) (s : List UInt8) : Nat := (s.takeWhile (· != c)).length
def restS (c : UInt8) (s : List UInt8) : Nat → List UInt8
  | 0 => s
  | i + 1 => (restS c s i).drop (cutAt c (restS c s i) + 1)
def splitP (c : UInt8) (s : List UInt8) (i : Nat) : List UInt8 := if i < s.count c then (restS c s i).take (cutAt c (restS c s i)) else restS c s i
def splitL (c : UInt8) (s : List UInt8) : List (List UInt8) := (List.range (s.count c + 1)).map (splitP c s)
theorem splitL_len (c : UInt8) (s : List UInt8) : (splitL c s).length = s.count c + 1 := by simp [splitL]
theorem cutAt_cons (c b : UInt8) (s : List UInt8) : cutAt c (b :: s) = if b = c then 0 else cutAt c s + 1 := by
  unfold cutAt
  rw [List.takeWhile_cons]
  by_cases e : b = c
  · simp [e]
  · simp [e]
theorem index_cut (c : UInt8) : ∀ (s : List UInt8), 0 < s.count c → Go.Lib.indexByte s c = cutAt c s := by
  intro s
  induction s with
  | nil => intro h; simp at h
  | cons b s ih =>
    intro h
    unfold Go.Lib.indexByte
    rw [cutAt_cons]
    by_cases e : b = c
    · simp [e]
    · rw [List.count_cons, if_neg (by simpa using e)] at h
      have := ih (by omega)
      rw [if_neg (by simpa using e), if_neg e, this, if_neg (by simp <;> omega)]
      rfl
theorem cutAt_lt (c : UInt8) : ∀ (s : List UInt8), 0 < s.count c → cutAt c s < s.length := by
  intro s
  induction s with
  | nil => intro h; simp at h
  | cons b s ih =>
    intro h
    rw [cutAt_cons]
    by_cases e : b = c
    · simp [e]
    · rw [List.count_cons, if_neg (by simpa using e)] at h
      have := ih (by omega)
      rw [if_neg e, List.length_cons]
      omega
theorem count_cut (c : UInt8) : ∀ (s : List UInt8), 0 < s.count c → (s.drop (cutAt c s + 1)).count c = s.count c - 1 := by
  intro s
  induction s with
  | nil => intro h; simp at h
  | cons b s ih =>
    intro h
    rw [cutAt_cons]
    by_cases e : b = c
    · simp [e]
    · rw [List.count_cons, if_neg (by simpa using e)] at h
      have := ih (by omega)
      rw [if_neg e, List.drop_succ_cons, this, List.count_cons, if_neg (by simpa using e)]
      rfl
theorem count_rest (c : UInt8) (s : List UInt8) : ∀ i, i ≤ s.count c → (restS c s i).count c = s.count c - i := by
  intro i
  induction i with
  | zero => intro _; rfl
  | succ i ih =>
    intro h
    have := ih (by omega)
    show ((restS c s i).drop _).count c = _
    rw [count_cut _ _ (by omega), this]
    omega
theorem rest_len (c : UInt8) (s : List UInt8) : ∀ i, (restS c s i).length ≤ s.length := by
  intro i
  induction i with
  | zero => exact Nat.le_refl _
  | succ i ih => show ((restS c s i).drop _).length ≤ _; rw [List.length_drop]; omega
def stepL (c : UInt8) (s : List UInt8) (i : Nat) : List (List UInt8) := (List.range (s.count c + 1)).map fun j => if j < i then splitP c s j else []
theorem stepL_len (c : UInt8) (s : List UInt8) (i : Nat) : (stepL c s i).length = s.count c + 1 := by simp [stepL]
theorem stepL_set (c : UInt8) (s : List UInt8) {i : Nat} (hi : i < s.count c + 1) : (stepL c s i).set i (splitP c s i) = stepL c s (i + 1) := by
  apply List.ext_getElem
  · simp [stepL]
  · intro j h1 h2
    simp only [stepL, List.length_set, List.length_map, List.length_range] at h1
    rw [List.getElem_set]
    simp only [stepL, List.getElem_map, List.getElem_range]
    by_cases e : i = j
    · subst e; simp
    · rw [if_neg e]
      by_cases e2 : j < i
      · rw [if_pos e2, if_pos (by omega)]
      · rw [if_neg e2, if_neg (by omega)]
theorem stepL_all (c : UInt8) (s : List UInt8) : stepL c s (s.count c + 1) = splitL c s := by
  unfold stepL splitL
  apply List.map_congr_left
  intro j hj
  rw [if_pos (by simpa using hj)]
theorem strC_set (L : List (List UInt8)) {i : Nat} (x : List UInt8) (hi : i < L.length) : List.take i (strC L) ++ [.str x] ++ List.drop (i + 1) (strC L) = strC (L.set i x) := by
  unfold strC
  rw [List.map_set, List.set_eq_take_append_cons_drop, if_pos (by simpa using hi), List.append_assoc]
  rfl
theorem madeA_strs (n : Nat) : madeA [.str []] n = strC (List.replicate n []) := by
  induction n with
  | zero => rfl
  | succ n ih => simp only [madeA, ih, List.replicate_succ]; rfl
theorem stepL_zero (c : UInt8) (s : List UInt8) : List.replicate (s.count c + 1) [] = stepL c s 0 := by
  apply List.ext_getElem
  · simp [stepL]
  · intro j h1 h2; simp [stepL]
set_option maxHeartbeats 4000000 in
theorem u78 (s : List UInt8) (c : UInt8) (h : List AObj) (hs : s.length ≤ 1000000000) : ACalls Tryd.prog 78 [.str s, .str [c], .int .i64 0, .int .i64 (-1)] h (strs (splitL c s)) h := by
  have c100 := fun h => u100 s c h
  have hcl : s.count c ≤ s.length := List.count_le_length
  obtain ⟨N, hN⟩ : ∃ N, N = s.count c := ⟨_, rfl⟩
  have k1 : ((N : Int) + 1 ≤ (s.length : Int) + 1) = True := eq_true (by omega)
  have e1 : min ((N : Int) + 1) ((s.length : Int) + 1) = (N : Int) + 1 := by omega
  have e2 : ((N : Int) + 1).toNat = N + 1 := by omega
  have e3 : madeA [AV.str []] (N + 1) = strC (stepL c s 0) := by rw [madeA_strs, ← stepL_zero, hN]
  have e4 : ((N : Int) + 1 - 1) = N := by omega
  simp only [← hN] at c100
  refine acalls_of fn78d (by simp) ?_
  simp only [List.length_cons, List.length_nil, Nat.reduceAdd, Nat.reduceSub, List.replicate, List.cons_append, List.nil_append, List.append_nil]
  simp (disch := omega) only [c78d, k1, e1, e2, e3, e4, go_sem, wrap64_id, Int.tdiv_eq_ediv_of_nonneg, Int.tmod_eq_emod_of_nonneg]
  repeat' first
    | ((first | refine callA_pure (c100 _) ?_ ?_); (next => repeat' first | exact flags_n | refine flags_c (by first | rfl | assumption) ?_); simp (disch := omega) only [k1, e1, e2, e3, e4, go_sem, wrap64_id, Int.tdiv_eq_ediv_of_nonneg, Int.tmod_eq_emod_of_nonneg])
    | ((first | refine callG_pure (fun e => ⟨?_, c100 _⟩) ?_); (next => repeat' first | exact flags_n | refine flags_c (by first | rfl | assumption) ?_); simp (disch := omega) only [k1, e1, e2, e3, e4, go_sem, wrap64_id, Int.tdiv_eq_ediv_of_nonneg, Int.tmod_eq_emod_of_nonneg])
    | ((first | refine fnQ_pure1 ?_ ?_ | refine fnQ_pure0 ?_ ?_); (next => repeat' first | exact rvs_n | refine rvs_t ?_ | (simp [go_sem]; done)); simp only [go_sem]; (first | exact VLe.refl _ | refine VLe_int ?_ | refine VLe_bool ?_ | refine VLe_str ?_ | skip))
    | (with_reducible refine And.intro ?_ ?_)
    | with_reducible intro _
  all_goals first
    | omega
    | (rename_i hx; revert hx; simp; done)
    | (simp; done)
    | skip
  refine loop_of (T := fun i : Nat => spar 66 [(0, .str (restS c s i)), (1, .str [c]), (2, .int .i64 0), (3, .int .i64 N), (9, .osl (h.length + 1) 1 1 0 (N + 1)), (10, .int .i64 i)]) (H := fun i => h ++ [.emp 1, .mem 1 9 (strC (stepL c s i))])
    (inv := fun i => i ≤ N) (m := fun i => N - i) 0 (by omega) (Wk.temps ?_) ?_
  · (simp only [restS, spar, List.foldl, List.replicate, go_sem, VLes_nil, VLes_cons, VLe_undef_iff, VLe_self]; try (repeat' first | (with_reducible refine And.intro ?_ ?_) | (refine VLe_int ?_; omega) | (refine VLe_bool ?_; rfl) | exact VLe.refl _))
  rintro i i1 K hK
  have eL := strC_len (stepL c s i)
  rw [stepL_len, ← hN] at eL
  have hst := strC_set (stepL c s i) (i := i) (splitP c s i) (by rw [stepL_len]; omega)
  rw [stepL_set c s (by omega)] at hst
  by_cases hi : i < N
  · obtain ⟨r, hr⟩ : ∃ r, r = restS c s i := ⟨_, rfl⟩
    have hcr := count_rest c s i (by omega)
    rw [← hr] at hcr
    have hix := index_cut c r (by omega)
    have hlt := cutAt_lt c r (by omega)
    have hrl := rest_len c s i
    rw [← hr] at hrl
    have hP : splitP c s i = r.take (cutAt c r) := by unfold splitP; rw [if_pos (by omega), ← hr]
    have hR : restS c s (i + 1) = r.drop (cutAt c r + 1) := by rw [hr]; rfl
    obtain ⟨m, hm⟩ : ∃ m, m = cutAt c r := ⟨_, rfl⟩
    rw [← hm] at hix hlt hP hR
    have c101 := fun h => u101 r c h
    simp only [hix] at c101
    rw [hP] at hst
    simp (disch := omega) only [spar, List.foldl, List.replicate, hr.symm, eL, hst, go_sem, wrap64_id, Int.tdiv_eq_ediv_of_nonneg, Int.tmod_eq_emod_of_nonneg]
    repeat' first
      | ((first | refine callA_pure (c101 _) ?_ ?_); (next => repeat' first | exact flags_n | refine flags_c (by first | rfl | assumption) ?_); simp (disch := omega) only [eL, hst, go_sem, wrap64_id, Int.tdiv_eq_ediv_of_nonneg, Int.tmod_eq_emod_of_nonneg])
      | ((first | refine callG_pure (fun e => ⟨?_, c101 _⟩) ?_); (next => repeat' first | exact flags_n | refine flags_c (by first | rfl | assumption) ?_); simp (disch := omega) only [eL, hst, go_sem, wrap64_id, Int.tdiv_eq_ediv_of_nonneg, Int.tmod_eq_emod_of_nonneg])
      | ((first | refine fnQ_pure1 ?_ ?_ | refine fnQ_pure0 ?_ ?_); (next => repeat' first | exact rvs_n | refine rvs_t ?_ | (simp [go_sem]; done)); simp only [go_sem]; (first | exact VLe.refl _ | refine VLe_int ?_ | refine VLe_bool ?_ | refine VLe_str ?_ | skip))
      | (with_reducible refine And.intro ?_ ?_)
      | with_reducible intro _
    all_goals first
      | omega
      | (rename_i hx; revert hx; simp; done)
      | (simp; done)
      | skip
    have f1 : (((m : Nat) : Int) + 0).toNat - 0 = m := by omega
    have f2 : (((m : Nat) : Int) + ((1 : Nat) : Int)).toNat = m + 1 := by omega
    have f3 : List.take (r.length - (m + 1)) (List.drop (m + 1) r) = restS c s (i + 1) := by rw [hR]; exact List.take_of_length_le (by rw [List.length_drop]; exact Nat.le_refl _)
    rw [f1, hst, f2, f3]
    refine hK _ _ (i + 1) (by omega) (by omega) (Wk.temps ?_)
    (simp only [spar, List.foldl, List.replicate, go_sem, VLes_nil, VLes_cons, VLe_undef_iff, VLe_self]; try (repeat' first | (with_reducible refine And.intro ?_ ?_) | (refine VLe_int ?_; omega) | (refine VLe_bool ?_; rfl) | exact VLe.refl _))
  · have e : i = N := by omega
    subst e
    simp (disch := omega) only [spar, List.foldl, List.replicate, eL, hst, go_sem, wrap64_id, Int.tdiv_eq_ediv_of_nonneg, Int.tmod_eq_emod_of_nonneg]
    repeat' first
      | ((first | refine fnQ_pure1 ?_ ?_ | refine fnQ_pure0 ?_ ?_); (next => repeat' first | exact rvs_n | refine rvs_t ?_ | (simp [go_sem]; done)); simp only [go_sem]; (first | exact VLe.refl _ | refine VLe_int ?_ | refine VLe_bool ?_ | refine VLe_str ?_ | skip))
      | (with_reducible refine And.intro ?_ ?_)
      | with_reducible intro _
    all_goals first
      | omega
      | (rename_i hx; revert hx; simp; done)
      | (simp; done)
      | skip
    have hP : splitP c s i = restS c s i := by unfold splitP; rw [if_neg (by omega)]
    have f1 : (((i : Nat) : Int) + 1).toNat - 0 = i + 1 := by omega
    have hall := stepL_all c s
    rw [← hN] at hall
    rw [hP, hall] at hst
    rw [hst, f1, if_pos (by rw [strC_len, splitL_len]; omega)]
    exact strs_of (by rw [splitL_len]; omega)
theorem u45 (s : List UInt8) (c : UInt8) (h : List AObj) (hs : s.length ≤ 1000000000) : ACalls Tryd.prog 45 [.str s, .str [c]] h (strs (splitL c s)) h := by
  have c78 := fun h => u78 s c h hs
  refine acalls_of fn45d (by simp) ?_
  simp only [List.length_cons, List.length_nil, Nat.reduceAdd, Nat.reduceSub, List.replicate, List.cons_append, List.nil_append, List.append_nil]
  simp (disch := omega) only [c45d, go_sem, wrap64_id, Int.tdiv_eq_ediv_of_nonneg, Int.tmod_eq_emod_of_nonneg]
  repeat' first
    | ((first | refine callA_pure (c78 _) ?_ ?_); (next => repeat' first | exact flags_n | refine flags_c (by first | rfl | assumption) ?_); simp (disch := omega) only [go_sem, wrap64_id, Int.tdiv_eq_ediv_of_nonneg, Int.tmod_eq_emod_of_nonneg])
    | ((first | refine callG_pure (fun e => ⟨?_, c78 _⟩) ?_); (next => repeat' first | exact flags_n | refine flags_c (by first | rfl | assumption) ?_); simp (disch := omega) only [go_sem, wrap64_id, Int.tdiv_eq_ediv_of_nonneg, Int.tmod_eq_emod_of_nonneg])
    | ((first | refine fnQ_pure1 ?_ ?_ | refine fnQ_pure0 ?_ ?_); (next => repeat' first | exact rvs_n | refine rvs_t ?_ | (simp [go_sem]; done)); simp only [go_sem]; (first | exact VLe.refl _ | refine VLe_int ?_ | refine VLe_bool ?_ | refine VLe_str ?_ | skip))
    | (with_reducible refine And.intro ?_ ?_)
    | with_reducible intro _
  all_goals first
    | omega
    | (rename_i hx; revert hx; simp; done)
    | (simp; done)
    | skip
end HY
end

section
set_option linter.all false
set_option linter.unusedSimpArgs false
set_option linter.unusedVariables false
set_option linter.unusedSectionVars false
open Go Go.Proofs AF HY
namespace HY
set_option maxRecDepth 100000
theorem pat_ext {x y : Pat} (h1 : x.letters = y.letters) (h2 : x.levels = y.levels) : x = y := by
  obtain ⟨a, b⟩ := x
  obtain ⟨c, d⟩ := y
  simp only at h1 h2
  rw [h1, h2]
theorem u27 (a b : List Pat) (h : List AObj) (hl : okPats a) : ACalls Tryd.prog 27 [patsV a, patsV b] h (.bool (decide (a = b))) h := by
  obtain ⟨hl1, hl2⟩ := hl
  by_cases g0 : a.length = b.length
  · have k0 : ((a.length : Int) = b.length) = True := eq_true (by omega)
    refine acalls_of fn27d (by simp) ?_
    simp only [List.length_cons, List.length_nil, Nat.reduceAdd, Nat.reduceSub, List.replicate, List.cons_append, List.nil_append, List.append_nil]
    simp (disch := omega) only [c27d, patsV, k0, go_sem, wrap64_id, Int.tdiv_eq_ediv_of_nonneg, Int.tmod_eq_emod_of_nonneg]
    repeat' first
      | ((first | refine fnQ_pure1 ?_ ?_ | refine fnQ_pure0 ?_ ?_); (next => repeat' first | exact rvs_n | refine rvs_t ?_ | (simp [go_sem]; done)); simp only [go_sem]; (first | exact VLe.refl _ | refine VLe_int ?_ | refine VLe_bool ?_ | refine VLe_str ?_ | skip))
      | (with_reducible refine And.intro ?_ ?_)
      | with_reducible intro _
    all_goals first
      | omega
      | (rename_i hx; revert hx; simp; done)
      | (simp; done)
      | skip
    refine loop_of (T := fun i : Nat => spar 42 [(0, patsV a), (1, patsV b), (5, .int .i64 i)]) (H := fun _ => h) (inv := fun i => i ≤ a.length ∧ ∀ j, j < i → a.getD j default = b.getD j default) (m := fun i => a.length - i) 0 ⟨by omega, by omega⟩ (Wk.temps ?_) ?_
    · (simp only [patsV, spar, List.foldl, List.replicate, go_sem, VLes_nil, VLes_cons, VLe_undef_iff, VLe_self]; try (repeat' first | (with_reducible refine And.intro ?_ ?_) | (refine VLe_int ?_; omega) | (refine VLe_bool ?_; rfl) | exact VLe.refl _))
    rintro i ⟨i1, i2⟩ K hK
    by_cases hi : i < a.length
    · obtain ⟨q1, q2⟩ := hl2 i hi
      obtain ⟨p, hp⟩ : ∃ p, p = a.getD i default := ⟨_, rfl⟩
      obtain ⟨q, hq⟩ : ∃ q, q = b.getD i default := ⟨_, rfl⟩
      have ep := hp.symm
      have eq := hq.symm
      rw [ep] at q1 q2
      have c56 := fun h => u56 p.levels q.levels h q2
      by_cases hb1 : p.letters = q.letters
      · have k1 : (p.letters = q.letters) = True := eq_true hb1
        by_cases hb2 : p.levels = q.levels
        · rw [decide_eq_true hb2] at c56
          simp (disch := omega) only [spar, List.foldl, List.replicate, patsV, patC, ep, eq, k1, go_sem, wrap64_id, Int.tdiv_eq_ediv_of_nonneg, Int.tmod_eq_emod_of_nonneg]
          repeat' first
            | ((first | refine callA_pure (c56 _) ?_ ?_); (next => repeat' first | exact flags_n | refine flags_c (by first | rfl | assumption) ?_); simp (disch := omega) only [patsV, patC, ep, eq, k1, go_sem, wrap64_id, Int.tdiv_eq_ediv_of_nonneg, Int.tmod_eq_emod_of_nonneg])
            | ((first | refine callG_pure (fun e => ⟨?_, c56 _⟩) ?_); (next => repeat' first | exact flags_n | refine flags_c (by first | rfl | assumption) ?_); simp (disch := omega) only [patsV, patC, ep, eq, k1, go_sem, wrap64_id, Int.tdiv_eq_ediv_of_nonneg, Int.tmod_eq_emod_of_nonneg])
            | ((first | refine fnQ_pure1 ?_ ?_ | refine fnQ_pure0 ?_ ?_); (next => repeat' first | exact rvs_n | refine rvs_t ?_ | (simp [go_sem]; done)); simp only [go_sem]; (first | exact VLe.refl _ | refine VLe_int ?_ | refine VLe_bool ?_ | refine VLe_str ?_ | skip))
            | (with_reducible refine And.intro ?_ ?_)
            | with_reducible intro _
          all_goals first
            | omega
            | (rename_i hx; revert hx; simp; done)
            | (simp; done)
            | skip
          refine hK _ _ (i + 1) ⟨by omega, fun j hj => ?_⟩ (by omega) (Wk.temps ?_)
          · by_cases e : j = i
            · subst e; rw [ep, eq]; exact pat_ext hb1 hb2
            · exact i2 j (by omega)
          · (simp only [patsV, patC, spar, List.foldl, List.replicate, go_sem, VLes_nil, VLes_cons, VLe_undef_iff, VLe_self]; try (repeat' first | (with_reducible refine And.intro ?_ ?_) | (refine VLe_int ?_; omega) | (refine VLe_bool ?_; rfl) | exact VLe.refl _))
        · rw [decide_eq_false hb2] at c56
          have hne : ¬ a = b := by rintro rfl; exact hb2 (by rw [hp, hq])
          rw [decide_eq_false hne]
          simp (disch := omega) only [spar, List.foldl, List.replicate, patsV, patC, ep, eq, k1, go_sem, wrap64_id, Int.tdiv_eq_ediv_of_nonneg, Int.tmod_eq_emod_of_nonneg]
          repeat' first
            | ((first | refine callA_pure (c56 _) ?_ ?_); (next => repeat' first | exact flags_n | refine flags_c (by first | rfl | assumption) ?_); simp (disch := omega) only [patsV, patC, ep, eq, k1, go_sem, wrap64_id, Int.tdiv_eq_ediv_of_nonneg, Int.tmod_eq_emod_of_nonneg])
            | ((first | refine callG_pure (fun e => ⟨?_, c56 _⟩) ?_); (next => repeat' first | exact flags_n | refine flags_c (by first | rfl | assumption) ?_); simp (disch := omega) only [patsV, patC, ep, eq, k1, go_sem, wrap64_id, Int.tdiv_eq_ediv_of_nonneg, Int.tmod_eq_emod_of_nonneg])
            | ((first | refine fnQ_pure1 ?_ ?_ | refine fnQ_pure0 ?_ ?_); (next => repeat' first | exact rvs_n | refine rvs_t ?_ | (simp [go_sem]; done)); simp only [go_sem]; (first | exact VLe.refl _ | refine VLe_int ?_ | refine VLe_bool ?_ | refine VLe_str ?_ | skip))
            | (with_reducible refine And.intro ?_ ?_)
            | with_reducible intro _
          all_goals first
            | omega
            | (rename_i hx; revert hx; simp; done)
            | (simp; done)
            | skip
      · have k1 : (p.letters = q.letters) = False := eq_false hb1
        have hne : ¬ a = b := by rintro rfl; exact hb1 (by rw [hp, hq])
        rw [decide_eq_false hne]
        simp (disch := omega) only [spar, List.foldl, List.replicate, patsV, patC, ep, eq, k1, go_sem, wrap64_id, Int.tdiv_eq_ediv_of_nonneg, Int.tmod_eq_emod_of_nonneg]
        repeat' first
          | (refine callG_false ((.bool false)) ?_; simp (disch := omega) only [patsV, patC, ep, eq, k1, go_sem, wrap64_id, Int.tdiv_eq_ediv_of_nonneg, Int.tmod_eq_emod_of_nonneg])
          | ((first | refine fnQ_pure1 ?_ ?_ | refine fnQ_pure0 ?_ ?_); (next => repeat' first | exact rvs_n | refine rvs_t ?_ | (simp [go_sem]; done)); simp only [go_sem]; (first | exact VLe.refl _ | refine VLe_int ?_ | refine VLe_bool ?_ | refine VLe_str ?_ | skip))
          | (with_reducible refine And.intro ?_ ?_)
          | with_reducible intro _
        all_goals first
          | omega
          | (rename_i hx; revert hx; simp; done)
          | (simp; done)
          | skip
    · have e : i = a.length := by omega
      subst e
      have heq : a = b := by
        apply List.ext_getElem g0
        intro j h1 h2
        have := i2 j h1
        rwa [List.getD_eq_getElem?_getD, List.getD_eq_getElem?_getD, List.getElem?_eq_getElem h1, List.getElem?_eq_getElem h2] at this
      rw [decide_eq_true heq]
      simp (disch := omega) only [spar, List.foldl, List.replicate, patsV, go_sem, wrap64_id, Int.tdiv_eq_ediv_of_nonneg, Int.tmod_eq_emod_of_nonneg]
      repeat' first
        | ((first | refine fnQ_pure1 ?_ ?_ | refine fnQ_pure0 ?_ ?_); (next => repeat' first | exact rvs_n | refine rvs_t ?_ | (simp [go_sem]; done)); simp only [go_sem]; (first | exact VLe.refl _ | refine VLe_int ?_ | refine VLe_bool ?_ | refine VLe_str ?_ | skip))
        | (with_reducible refine And.intro ?_ ?_)
        | with_reducible intro _
      all_goals first
        | omega
        | (rename_i hx; revert hx; simp; done)
        | (simp; done)
        | skip
  · have k0 : ((a.length : Int) = b.length) = False := eq_false (by omega)
    have hne : ¬ a = b := by rintro rfl; exact g0 rfl
    rw [decide_eq_false hne]
    refine acalls_of fn27d (by simp) ?_
    simp only [List.length_cons, List.length_nil, Nat.reduceAdd, Nat.reduceSub, List.replicate, List.cons_append, List.nil_append, List.append_nil]
    simp (disch := omega) only [c27d, patsV, k0, go_sem, wrap64_id, Int.tdiv_eq_ediv_of_nonneg, Int.tmod_eq_emod_of_nonneg]
    repeat' first
      | ((first | refine fnQ_pure1 ?_ ?_ | refine fnQ_pure0 ?_ ?_); (next => repeat' first | exact rvs_n | refine rvs_t ?_ | (simp [go_sem]; done)); simp only [go_sem]; (first | exact VLe.refl _ | refine VLe_int ?_ | refine VLe_bool ?_ | refine VLe_str ?_ | skip))
      | (with_reducible refine And.intro ?_ ?_)
      | with_reducible intro _
    all_goals first
      | omega
      | (rename_i hx; revert hx; simp; done)
      | (simp; done)
      | skip
end HY
end

section
set_option linter.all false
set_option linter.unusedSimpArgs false
set_option linter.unusedVariables false
set_option linter.unusedSectionVars false
open Go Go.Proofs AF HY
namespace HY
set_option maxRecDepth 100000
def dg (b : UInt8) : Bool := decide (kindI (b.toNat : Int) = 3)
theorem u79 (b : UInt8) (h : List AObj) : ACalls Tryd.prog 79 [.int .u8 (b.toNat : Int)] h (.bool (dg b)) h := by
  have hb : b.toNat < 256 := b.toNat_lt
  have c71 := fun h => t103 (b.toNat : Int) h (by omega) (by omega)
  unfold dg
  refine acalls_of fn79d (by simp) ?_
  simp only [List.length_cons, List.length_nil, Nat.reduceAdd, Nat.reduceSub, List.replicate, List.cons_append, List.nil_append, List.append_nil]
  simp (disch := omega) only [c79d, go_sem, wrap64_id, Int.tdiv_eq_ediv_of_nonneg, Int.tmod_eq_emod_of_nonneg]
  repeat' first
    | ((first | refine callA_pure (c71 _) ?_ ?_); (next => repeat' first | exact flags_n | refine flags_c (by first | rfl | assumption) ?_); simp (disch := omega) only [go_sem, wrap64_id, Int.tdiv_eq_ediv_of_nonneg, Int.tmod_eq_emod_of_nonneg])
    | ((first | refine callG_pure (fun e => ⟨?_, c71 _⟩) ?_); (next => repeat' first | exact flags_n | refine flags_c (by first | rfl | assumption) ?_); simp (disch := omega) only [go_sem, wrap64_id, Int.tdiv_eq_ediv_of_nonneg, Int.tmod_eq_emod_of_nonneg])
    | ((first | refine fnQ_pure1 ?_ ?_ | refine fnQ_pure0 ?_ ?_); (next => repeat' first | exact rvs_n | refine rvs_t ?_ | (simp [go_sem]; done)); simp only [go_sem]; (first | exact VLe.refl _ | refine VLe_int ?_ | refine VLe_bool ?_ | refine VLe_str ?_ | skip))
    | (with_reducible refine And.intro ?_ ?_)
    | with_reducible intro _
  all_goals first
    | omega
    | (rename_i hx; revert hx; simp; done)
    | (simp; done)
    | skip
theorem dg_iff (b : UInt8) : dg b = true ↔ 48 ≤ b.toNat ∧ b.toNat ≤ 57 := by
  unfold dg
  rw [decide_eq_true_eq]
  have hb : b.toNat < 256 := b.toNat_lt
  grind [kindI]
def badD (s : List UInt8) (i : Nat) : Bool := dg (s.getD i 0) && (decide (s.getD i 0 = 48) || (decide (i + 1 < s.length) && (dg (s.getD (i + 1) 0) || decide (kindI ((s.getD (i + 1) 0).toNat : Int) = 2))))
def letB (s : List UInt8) : List UInt8 := s.filter fun b => !dg b
theorem letB_t {s : List UInt8} {i : Nat} (hi : i < s.length) (h : dg (s.getD i 0) = true) : letB (s.take (i + 1)) = letB (s.take i) := by
  have e : s.getD i 0 = s[i] := by rw [List.getD_eq_getElem?_getD, List.getElem?_eq_getElem hi]; rfl
  rw [e] at h
  unfold letB
  rw [List.take_add_one, List.getElem?_eq_getElem hi, List.filter_append]
  simp [h]
theorem letB_f {s : List UInt8} {i : Nat} (hi : i < s.length) (h : dg (s.getD i 0) = false) : letB (s.take (i + 1)) = letB (s.take i) ++ (s.drop i).take 1 := by
  have e : s.getD i 0 = s[i] := by rw [List.getD_eq_getElem?_getD, List.getElem?_eq_getElem hi]; rfl
  rw [e] at h
  unfold letB
  rw [List.take_add_one, List.getElem?_eq_getElem hi, List.filter_append, List.drop_eq_getElem_cons hi]
  show _ ++ List.filter _ [s[i]] = _ ++ [s[i]]
  simp [h]
theorem letB_le (s : List UInt8) (i : Nat) : (letB (s.take i)).length ≤ s.length := by
  have := List.length_filter_le (fun b => !dg b) (s.take i)
  rw [List.length_take] at this
  unfold letB
  omega
def lvStep (s : List UInt8) (st : Nat × List Int) (u : List UInt8) : Nat × List Int :=
  if dg (s.getD st.1 0) then (st.1 + 1 + u.length, st.2 ++ [((s.getD st.1 0).toNat : Int) - 48]) else (st.1 + u.length, st.2 ++ [0])
def lvAll (s : List UInt8) (us : List (List UInt8)) : Nat × List Int := us.foldl (lvStep s) (0, [])
def lastLv (s : List UInt8) (a : Nat) : Int := if a < s.length then ((s.getD a 0).toNat : Int) - 48 else 0
def levB (s : List UInt8) : List Int := (lvAll s (clus (letB s))).2 ++ [lastLv s (lvAll s (clus (letB s))).1]
def okPart (s : List UInt8) : Prop := s ≠ [] ∧ (∀ i, i < s.length → badD s i = false) ∧
  (∀ i, i < (clus (letB s)).length → (lvAll s ((clus (letB s)).take i)).1 < s.length) ∧ ((lvAll s (clus (letB s))).1 < s.length → dg (s.getD (lvAll s (clus (letB s))).1 0) = true)
theorem lvAll_succ (s : List UInt8) (us : List (List UInt8)) {i : Nat} (hi : i < us.length) : lvAll s (us.take (i + 1)) = lvStep s (lvAll s (us.take i)) (us.getD i []) := by
  unfold lvAll
  rw [List.take_add_one, List.getElem?_eq_getElem hi, List.foldl_append, List.getD_eq_getElem?_getD, List.getElem?_eq_getElem hi]
  rfl
theorem lvAll_len (s : List UInt8) (us : List (List UInt8)) : (lvAll s us).2.length = us.length := by
  have : ∀ (us : List (List UInt8)) (st : Nat × List Int), (us.foldl (lvStep s) st).2.length = st.2.length + us.length := by
    intro us
    induction us with
    | nil => intro st; rfl
    | cons u us ih =>
      intro st
      rw [List.foldl_cons, ih, List.length_cons]
      have : (lvStep s st u).2.length = st.2.length + 1 := by unfold lvStep; split <;> simp
      omega
  have := this us (0, [])
  rw [List.length_nil, Nat.zero_add] at this
  exact this
theorem lvAll_at (s : List UInt8) (us : List (List UInt8)) : (lvAll s us).1 ≤ us.length + us.flatten.length := by
  have : ∀ (us : List (List UInt8)) (st : Nat × List Int), (us.foldl (lvStep s) st).1 ≤ st.1 + us.length + us.flatten.length := by
    intro us
    induction us with
    | nil => intro st; simp
    | cons u us ih =>
      intro st
      rw [List.foldl_cons, List.flatten_cons, List.length_append, List.length_cons]
      have h1 := ih (lvStep s st u)
      have : (lvStep s st u).1 ≤ st.1 + 1 + u.length := by unfold lvStep; split <;> simp <;> omega
      omega
  have := this us (0, [])
  rw [Nat.zero_add] at this
  exact this
def lvV (b k : Nat) : AV := if k = 0 then .nl else .osl b k 1 0 k
def lvO (k : Nat) (L : List Int) : AObj := if k = 0 then .emp 0 else .mem k 3 (intsC L)
theorem lvV0 (b : Nat) : lvV b 0 = .nl := rfl
theorem lvV1 (b k : Nat) : lvV b (k + 1) = .osl b (k + 1) 1 0 (k + 1) := rfl
theorem lvO0 (L : List Int) : lvO 0 L = .emp 0 := rfl
theorem lvO1 (k : Nat) (L : List Int) : lvO (k + 1) L = .mem (k + 1) 3 (intsC L) := rfl
def lvT (k : Nat) (x : Int) : AObj := if k = 0 then .emp 0 else .mem k 3 [.int .i64 x]
theorem lvT0 (x : Int) : lvT 0 x = .emp 0 := rfl
theorem lvT1 (k : Nat) (x : Int) : lvT (k + 1) x = .mem (k + 1) 3 [.int .i64 x] := rfl
theorem getD_snoc (l : List Int) (x : Int) : (l ++ [x]).getD l.length 0 = x := by simp [List.getD_eq_getElem?_getD]
theorem lv_next {h : List AObj} {L : List UInt8} {us : List (List UInt8)} {s : List UInt8} {k a' : Nat} {lv : List Int} {x : Int} (hl : lv.length = k) (hsu : lvAll s (us.take (k + 1)) = (a', lv ++ [x])) :
    h ++ [AObj.mem 1 32 [.str [], .nl], .mem 1 32 [.str L, lvV (h.length + 3) (k + 1)], lvT (k + 1) ((lvAll s (us.take (k + 1))).2.getD (k + 1 - 1) 0), lvO (k + 1) (lvAll s (us.take (k + 1))).2, .emp 0, .emp 0] =
    h ++ [AObj.mem 1 32 [.str [], .nl], .mem 1 32 [.str L, .osl (h.length + 3) (k + 1) 1 0 (k + 1)], .mem (k + 1) 3 [.int .i64 x], .mem (k + 1) 3 (intsC lv ++ [.int .i64 x]), .emp 0, .emp 0] := by
  subst hl
  rw [hsu, lvV1, lvT1, lvO1]
  simp only [Nat.add_sub_cancel, getD_snoc, intsC_snoc]
set_option maxHeartbeats 4000000 in
theorem u46 (s : List UInt8) (h : List AObj) (hs : s.length ≤ 1000000000) (ho : okPart s) : ACalls Tryd.prog 46 [.str s] h (.tup [.agg [.str (letB s), intsV (levB s)], .bool true]) h := by
  obtain ⟨o0, o1, o2, o3⟩ := ho
  have k0 : (s = []) = False := eq_false o0
  refine acalls_of fn46d (by simp) ?_
  simp only [List.length_cons, List.length_nil, Nat.reduceAdd, Nat.reduceSub, List.replicate, List.cons_append, List.nil_append, List.append_nil]
  simp (disch := omega) only [c46d, k0, go_sem, wrap64_id, Int.tdiv_eq_ediv_of_nonneg, Int.tmod_eq_emod_of_nonneg]
  repeat' first
    | ((first | refine fnQ_pure1 ?_ ?_ | refine fnQ_pure0 ?_ ?_); (next => repeat' first | exact rvs_n | refine rvs_t ?_ | (simp [go_sem]; done)); simp only [go_sem]; (first | exact VLe.refl _ | refine VLe_int ?_ | refine VLe_bool ?_ | refine VLe_str ?_ | skip))
    | (with_reducible refine And.intro ?_ ?_)
    | with_reducible intro _
  all_goals first
    | omega
    | (rename_i hx; revert hx; simp; done)
    | (simp; done)
    | skip
  refine loop_of (T := fun i : Nat => spar 106 [(0, .str s), (2, .op h.length 1 0), (4, .op (h.length + 1) 1 0), (6, .int .i64 i)])
    (H := fun i => h ++ [.mem 1 32 [.str [], .nl], .mem 1 32 [.str (letB (s.take i)), .nl], .emp 0, .emp 0, .emp 0, .emp 0])
    (inv := fun i => i ≤ s.length) (m := fun i => s.length - i) 0 (by omega) (Wk.temps ?_) ?_
  · (simp only [spar, List.foldl, List.replicate, go_sem, VLes_nil, VLes_cons, VLe_undef_iff, VLe_self]; try (repeat' first | (with_reducible refine And.intro ?_ ?_) | (refine VLe_int ?_; omega) | (refine VLe_bool ?_; rfl) | exact VLe.refl _))
  rintro i i1 K hK
  by_cases hi : i < s.length
  · have c79 := fun h => u79 (s.getD i 0) h
    have hlb := letB_le s i
    have hbad := o1 i hi
    unfold badD at hbad
    cases hd : dg (s.getD i 0) with
    | false =>
      rw [hd] at c79
      simp (disch := omega) only [spar, List.foldl, List.replicate, go_sem, wrap64_id, Int.tdiv_eq_ediv_of_nonneg, Int.tmod_eq_emod_of_nonneg]
      repeat' first
        | ((first | refine callA_pure (c79 _) ?_ ?_); (next => repeat' first | exact flags_n | refine flags_c (by first | rfl | assumption) ?_); simp (disch := omega) only [spar, go_sem, wrap64_id, Int.tdiv_eq_ediv_of_nonneg, Int.tmod_eq_emod_of_nonneg])
        | ((first | refine callG_pure (fun e => ⟨?_, c79 _⟩) ?_); (next => repeat' first | exact flags_n | refine flags_c (by first | rfl | assumption) ?_); simp (disch := omega) only [spar, go_sem, wrap64_id, Int.tdiv_eq_ediv_of_nonneg, Int.tmod_eq_emod_of_nonneg])
        | ((first | refine fnQ_pure1 ?_ ?_ | refine fnQ_pure0 ?_ ?_); (next => repeat' first | exact rvs_n | refine rvs_t ?_ | (simp [go_sem]; done)); simp only [go_sem]; (first | exact VLe.refl _ | refine VLe_int ?_ | refine VLe_bool ?_ | refine VLe_str ?_ | skip))
        | (with_reducible refine And.intro ?_ ?_)
        | with_reducible intro _
      all_goals first
        | omega
        | (rename_i hx; revert hx; simp; done)
        | (simp; done)
        | skip
      · rw [List.length_take, List.length_drop]; omega
      · have f1 : ((i : Int) + 1).toNat - i = 1 := by omega
        rw [f1, ← letB_f hi hd]
        refine hK _ _ (i + 1) (by omega) (by omega) (Wk.temps ?_)
        (simp only [spar, List.foldl, List.replicate, go_sem, VLes_nil, VLes_cons, VLe_undef_iff, VLe_self]; try (repeat' first | (with_reducible refine And.intro ?_ ?_) | (refine VLe_int ?_; omega) | (refine VLe_bool ?_; rfl) | exact VLe.refl _))
    | true =>
      rw [hd] at c79 hbad
      simp only [Bool.true_and, Bool.or_eq_false_iff, decide_eq_false_iff_not, Bool.and_eq_false_imp, decide_eq_true_eq] at hbad
      obtain ⟨b1, b2⟩ := hbad
      have k2 : (((s.getD i 0).toNat : Int) = 48) = False := eq_false (fun e => b1 (UInt8.toNat_inj.1 (by simpa using (show (s.getD i 0).toNat = 48 by omega))))
      have k2' : (((s[i]?.getD 0).toNat : Int) = 48) = False := k2
      by_cases hn : i + 1 < s.length
      · obtain ⟨b3, b4⟩ := b2 hn
        have k3 : ((i : Int) + 1 < s.length) = True := eq_true (by omega)
        have c79b := fun h => u79 (s.getD (i + 1) 0) h
        rw [b3] at c79b
        have hlt := (s.getD (i + 1) 0).toNat_lt
        have c71 := fun h => t103 ((s.getD (i + 1) 0).toNat : Int) h (by omega) (by omega)
        have k4 : (kindI ((s.getD (i + 1) 0).toNat : Int) = 2) = False := eq_false b4
        have k4' : (kindI ((s[i + 1]?.getD 0).toNat : Int) = 2) = False := k4
        have f0 : ((i : Int) + 1).toNat = i + 1 := by omega
        simp (disch := omega) only [spar, List.foldl, List.replicate, k2, k2', k3, k4, k4', go_sem, wrap64_id, Int.tdiv_eq_ediv_of_nonneg, Int.tmod_eq_emod_of_nonneg]
        repeat' first
          | ((first | refine callA_pure (c79 _) ?_ ?_ | refine callA_pure (c79b _) ?_ ?_ | refine callA_pure (c71 _) ?_ ?_); (next => repeat' first | exact flags_n | refine flags_c (by first | rfl | assumption) ?_); simp (disch := omega) only [spar, k2, k2', k3, k4, k4', go_sem, wrap64_id, Int.tdiv_eq_ediv_of_nonneg, Int.tmod_eq_emod_of_nonneg])
          | ((first | refine callG_pure (fun e => ⟨?_, c79 _⟩) ?_ | refine callG_pure (fun e => ⟨?_, c79b _⟩) ?_ | refine callG_pure (fun e => ⟨?_, c71 _⟩) ?_); (next => repeat' first | exact flags_n | refine flags_c (by first | rfl | assumption) ?_); simp (disch := omega) only [spar, k2, k2', k3, k4, k4', go_sem, wrap64_id, Int.tdiv_eq_ediv_of_nonneg, Int.tmod_eq_emod_of_nonneg])
          | ((first | refine fnQ_pure1 ?_ ?_ | refine fnQ_pure0 ?_ ?_); (next => repeat' first | exact rvs_n | refine rvs_t ?_ | (simp [go_sem]; done)); simp only [go_sem]; (first | exact VLe.refl _ | refine VLe_int ?_ | refine VLe_bool ?_ | refine VLe_str ?_ | skip))
          | (with_reducible refine And.intro ?_ ?_)
          | with_reducible intro _
        all_goals first
          | omega
          | (rename_i hx; revert hx; simp; done)
          | (simp; done)
          | skip
        rw [← letB_t hi hd]
        refine hK _ _ (i + 1) (by omega) (by omega) (Wk.temps ?_)
        (simp only [spar, List.foldl, List.replicate, go_sem, VLes_nil, VLes_cons, VLe_undef_iff, VLe_self]; try (repeat' first | (with_reducible refine And.intro ?_ ?_) | (refine VLe_int ?_; omega) | (refine VLe_bool ?_; rfl) | exact VLe.refl _))
      · have k3 : ((i : Int) + 1 < s.length) = False := eq_false (by omega)
        simp (disch := omega) only [spar, List.foldl, List.replicate, k2, k2', k3, go_sem, wrap64_id, Int.tdiv_eq_ediv_of_nonneg, Int.tmod_eq_emod_of_nonneg]
        repeat' first
          | ((first | refine callA_pure (c79 _) ?_ ?_); (next => repeat' first | exact flags_n | refine flags_c (by first | rfl | assumption) ?_); simp (disch := omega) only [spar, k2, k2', k3, go_sem, wrap64_id, Int.tdiv_eq_ediv_of_nonneg, Int.tmod_eq_emod_of_nonneg])
          | ((first | refine callG_pure (fun e => ⟨?_, c79 _⟩) ?_); (next => repeat' first | exact flags_n | refine flags_c (by first | rfl | assumption) ?_); simp (disch := omega) only [spar, k2, k2', k3, go_sem, wrap64_id, Int.tdiv_eq_ediv_of_nonneg, Int.tmod_eq_emod_of_nonneg])
          | ((first | refine fnQ_pure1 ?_ ?_ | refine fnQ_pure0 ?_ ?_); (next => repeat' first | exact rvs_n | refine rvs_t ?_ | (simp [go_sem]; done)); simp only [go_sem]; (first | exact VLe.refl _ | refine VLe_int ?_ | refine VLe_bool ?_ | refine VLe_str ?_ | skip))
          | (with_reducible refine And.intro ?_ ?_)
          | with_reducible intro _
        all_goals first
          | omega
          | (rename_i hx; revert hx; simp; done)
          | (simp; done)
          | skip
        refine callG_false (.bool false) ?_
        simp (disch := omega) only [spar, k2, k2', k3, go_sem, wrap64_id, Int.tdiv_eq_ediv_of_nonneg, Int.tmod_eq_emod_of_nonneg]
        refine callG_false (.int .i64 0) ?_
        simp (disch := omega) only [spar, k2, k2', k3, go_sem, wrap64_id, Int.tdiv_eq_ediv_of_nonneg, Int.tmod_eq_emod_of_nonneg]
        repeat' first
          | ((first | refine fnQ_pure1 ?_ ?_ | refine fnQ_pure0 ?_ ?_); (next => repeat' first | exact rvs_n | refine rvs_t ?_ | (simp [go_sem]; done)); simp only [go_sem]; (first | exact VLe.refl _ | refine VLe_int ?_ | refine VLe_bool ?_ | refine VLe_str ?_ | skip))
          | (with_reducible refine And.intro ?_ ?_)
          | with_reducible intro _
        all_goals first
          | omega
          | (rename_i hx; revert hx; simp; done)
          | (simp; done)
          | skip
        rw [← letB_t hi hd]
        refine hK _ _ (i + 1) (by omega) (by omega) (Wk.temps ?_)
        (simp only [spar, List.foldl, List.replicate, go_sem, VLes_nil, VLes_cons, VLe_undef_iff, VLe_self]; try (repeat' first | (with_reducible refine And.intro ?_ ?_) | (refine VLe_int ?_; omega) | (refine VLe_bool ?_; rfl) | exact VLe.refl _))
  have e : i = s.length := by omega
  subst e
  rw [List.take_length]
  clear hK
  obtain ⟨L, hL⟩ : ∃ L, L = letB s := ⟨_, rfl⟩
  have hLl : L.length ≤ s.length := by have := letB_le s s.length; rw [List.take_length] at this; rw [hL]; exact this
  rw [← hL] at o2 o3 ⊢
  have c49 := fun h => t105 L h (by omega)
  unfold levB
  rw [← hL]
  have hcl := clus_len L
  have hjn := clus_join L
  obtain ⟨us, hus⟩ : ∃ us, us = clus L := ⟨_, rfl⟩
  rw [← hus] at o2 o3 hcl hjn c49 ⊢
  simp (disch := omega) only [spar, List.foldl, List.replicate, go_sem, wrap64_id, Int.tdiv_eq_ediv_of_nonneg, Int.tmod_eq_emod_of_nonneg]
  repeat' first
    | ((first | refine callA_pure (c49 _) ?_ ?_); (next => repeat' first | exact flags_n | refine flags_c (by first | rfl | assumption) ?_); simp (disch := omega) only [strs, go_sem, wrap64_id, Int.tdiv_eq_ediv_of_nonneg, Int.tmod_eq_emod_of_nonneg])
    | ((first | refine callG_pure (fun e => ⟨?_, c49 _⟩) ?_); (next => repeat' first | exact flags_n | refine flags_c (by first | rfl | assumption) ?_); simp (disch := omega) only [strs, go_sem, wrap64_id, Int.tdiv_eq_ediv_of_nonneg, Int.tmod_eq_emod_of_nonneg])
    | ((first | refine fnQ_pure1 ?_ ?_ | refine fnQ_pure0 ?_ ?_); (next => repeat' first | exact rvs_n | refine rvs_t ?_ | (simp [go_sem]; done)); simp only [go_sem]; (first | exact VLe.refl _ | refine VLe_int ?_ | refine VLe_bool ?_ | refine VLe_str ?_ | skip))
    | (with_reducible refine And.intro ?_ ?_)
    | with_reducible intro _
  all_goals first
    | omega
    | (rename_i hx; revert hx; simp; done)
    | (simp; done)
    | skip
  refine loop_of (T := fun k : Nat => spar 106 [(0, .str s), (2, .op h.length 1 0), (4, .op (h.length + 1) 1 0), (7, .int .i64 (lvAll s (us.take k)).1), (62, strs us), (63, .int .i64 us.length), (64, .int .i64 k)])
    (H := fun k => h ++ [.mem 1 32 [.str [], .nl], .mem 1 32 [.str L, lvV (h.length + 3) k], lvT k ((lvAll s (us.take k)).2.getD (k - 1) 0), lvO k (lvAll s (us.take k)).2, .emp 0, .emp 0])
    (inv := fun k => k ≤ us.length) (m := fun k => us.length - k) 0 (by omega) (Wk.temps ?_) ?_
  · (simp only [strs, spar, List.foldl, List.replicate, go_sem, VLes_nil, VLes_cons, VLe_undef_iff, VLe_self]; try (repeat' first | (with_reducible refine And.intro ?_ ?_) | (refine VLe_int ?_; omega) | (refine VLe_bool ?_; rfl) | exact VLe.refl _))
  rintro k q1 K2 hK2
  by_cases hk : k < us.length
  · have ho := o2 k hk
    have hll := lvAll_len s (us.take k)
    rw [List.length_take, Nat.min_eq_left q1] at hll
    have hsu := lvAll_succ s us hk
    have hle := lvAll_at s (us.take (k + 1))
    rw [hsu] at hle
    have hsf : (us.take (k + 1)).flatten.length ≤ s.length := by have := flatten_take_le us (k + 1); rw [hjn] at this; omega
    have hstl : (us.take (k + 1)).length ≤ s.length := by rw [List.length_take]; omega
    obtain ⟨st, hst⟩ : ∃ st, st = lvAll s (us.take k) := ⟨_, rfl⟩
    rw [← hst] at ho hll hsu hle
    obtain ⟨a, lv⟩ := st
    simp only at ho hll
    have hst1 : (lvAll s (us.take k)).1 = a := by rw [← hst]
    have hst2 : (lvAll s (us.take k)).2 = lv := by rw [← hst]
    have c79 := fun h => u79 (s.getD a 0) h
    have eI := intsC_len lv
    have eT : List.take k (intsC lv) = intsC lv := List.take_of_length_le (by omega)
    cases hd : dg (s.getD a 0) with
    | true =>
      have hd2 := (dg_iff _).1 hd
      unfold lvStep at hsu hle
      simp only at hsu hle
      rw [if_pos hd] at hsu hle
      simp only at hle
      rw [hd] at c79
      have e6 : IntKind.i64.wrap (IntKind.u8.wrap (((s[a]?.getD 0).toNat : Int) - 48)) = ((s.getD a 0).toNat : Int) - 48 := by
        show IntKind.i64.wrap (IntKind.u8.wrap (((s.getD a 0).toNat : Int) - 48)) = _
        rw [wrap8_id (by omega) (by omega), wrap64_id (by omega) (by omega)]
      rw [← hst]
      cases k with
      | zero =>
        have e0 : lv = [] := List.eq_nil_of_length_eq_zero hll
        subst e0
        simp (disch := omega) only [spar, List.foldl, List.replicate, strs, lvV0, lvO0, lvT0, madeA1, go_sem, wrap64_id, Int.tdiv_eq_ediv_of_nonneg, Int.tmod_eq_emod_of_nonneg]
        repeat' first
          | ((first | refine callA_pure (c79 _) ?_ ?_); (next => repeat' first | exact flags_n | refine flags_c (by first | rfl | assumption) ?_); simp (disch := omega) only [spar, strs, madeA1, go_sem, wrap64_id, Int.tdiv_eq_ediv_of_nonneg, Int.tmod_eq_emod_of_nonneg])
          | ((first | refine callG_pure (fun e => ⟨?_, c79 _⟩) ?_); (next => repeat' first | exact flags_n | refine flags_c (by first | rfl | assumption) ?_); simp (disch := omega) only [spar, strs, madeA1, go_sem, wrap64_id, Int.tdiv_eq_ediv_of_nonneg, Int.tmod_eq_emod_of_nonneg])
          | ((first | refine fnQ_pure1 ?_ ?_ | refine fnQ_pure0 ?_ ?_); (next => repeat' first | exact rvs_n | refine rvs_t ?_ | (simp [go_sem]; done)); simp only [go_sem]; (first | exact VLe.refl _ | refine VLe_int ?_ | refine VLe_bool ?_ | refine VLe_str ?_ | skip))
          | (with_reducible refine And.intro ?_ ?_)
          | with_reducible intro _
        all_goals first
          | omega
          | (rename_i hx; revert hx; simp; done)
          | (simp; done)
          | skip
        rw [e6]
        refine Eq.mp (congrArg (K2 _) (lv_next (k := 0) (lv := []) rfl hsu)) (hK2 _ _ (0 + 1) (by omega) (by omega) (Wk.temps ?_))
        (simp only [strs, hsu, spar, List.foldl, List.replicate, go_sem, VLes_nil, VLes_cons, VLe_undef_iff, VLe_self]; try (repeat' first | (with_reducible refine And.intro ?_ ?_) | (refine VLe_int ?_; omega) | (refine VLe_bool ?_; rfl) | exact VLe.refl _))
      | succ k =>
        simp (disch := omega) only [spar, List.foldl, List.replicate, strs, lvV1, lvO1, lvT1, eI, eT, hll, madeA1, go_sem, wrap64_id, Int.tdiv_eq_ediv_of_nonneg, Int.tmod_eq_emod_of_nonneg]
        repeat' first
          | ((first | refine callA_pure (c79 _) ?_ ?_); (next => repeat' first | exact flags_n | refine flags_c (by first | rfl | assumption) ?_); simp (disch := omega) only [spar, strs, eI, eT, hll, madeA1, go_sem, wrap64_id, Int.tdiv_eq_ediv_of_nonneg, Int.tmod_eq_emod_of_nonneg])
          | ((first | refine callG_pure (fun e => ⟨?_, c79 _⟩) ?_); (next => repeat' first | exact flags_n | refine flags_c (by first | rfl | assumption) ?_); simp (disch := omega) only [spar, strs, eI, eT, hll, madeA1, go_sem, wrap64_id, Int.tdiv_eq_ediv_of_nonneg, Int.tmod_eq_emod_of_nonneg])
          | ((first | refine fnQ_pure1 ?_ ?_ | refine fnQ_pure0 ?_ ?_); (next => repeat' first | exact rvs_n | refine rvs_t ?_ | (simp [go_sem]; done)); simp only [go_sem]; (first | exact VLe.refl _ | refine VLe_int ?_ | refine VLe_bool ?_ | refine VLe_str ?_ | skip))
          | (with_reducible refine And.intro ?_ ?_)
          | with_reducible intro _
        all_goals first
          | omega
          | (rename_i hx; revert hx; simp; done)
          | (simp; done)
          | skip
        rw [e6]
        refine Eq.mp (congrArg (K2 _) (lv_next hll hsu)) (hK2 _ _ (k + 1 + 1) (by omega) (by omega) (Wk.temps ?_))
        (simp only [strs, hsu, spar, List.foldl, List.replicate, go_sem, VLes_nil, VLes_cons, VLe_undef_iff, VLe_self]; try (repeat' first | (with_reducible refine And.intro ?_ ?_) | (refine VLe_int ?_; omega) | (refine VLe_bool ?_; rfl) | exact VLe.refl _))
    | false =>
      unfold lvStep at hsu hle
      simp only at hsu hle
      rw [if_neg (by rw [hd]; simp)] at hsu hle
      simp only at hle
      rw [hd] at c79
      rw [← hst]
      cases k with
      | zero =>
        have e0 : lv = [] := List.eq_nil_of_length_eq_zero hll
        subst e0
        simp (disch := omega) only [spar, List.foldl, List.replicate, strs, lvV0, lvO0, lvT0, madeA1, go_sem, wrap64_id, Int.tdiv_eq_ediv_of_nonneg, Int.tmod_eq_emod_of_nonneg]
        repeat' first
          | ((first | refine callA_pure (c79 _) ?_ ?_); (next => repeat' first | exact flags_n | refine flags_c (by first | rfl | assumption) ?_); simp (disch := omega) only [spar, strs, madeA1, go_sem, wrap64_id, Int.tdiv_eq_ediv_of_nonneg, Int.tmod_eq_emod_of_nonneg])
          | ((first | refine callG_pure (fun e => ⟨?_, c79 _⟩) ?_); (next => repeat' first | exact flags_n | refine flags_c (by first | rfl | assumption) ?_); simp (disch := omega) only [spar, strs, madeA1, go_sem, wrap64_id, Int.tdiv_eq_ediv_of_nonneg, Int.tmod_eq_emod_of_nonneg])
          | ((first | refine fnQ_pure1 ?_ ?_ | refine fnQ_pure0 ?_ ?_); (next => repeat' first | exact rvs_n | refine rvs_t ?_ | (simp [go_sem]; done)); simp only [go_sem]; (first | exact VLe.refl _ | refine VLe_int ?_ | refine VLe_bool ?_ | refine VLe_str ?_ | skip))
          | (with_reducible refine And.intro ?_ ?_)
          | with_reducible intro _
        all_goals first
          | omega
          | (rename_i hx; revert hx; simp; done)
          | (simp; done)
          | skip
        refine Eq.mp (congrArg (K2 _) (lv_next (k := 0) (lv := []) rfl hsu)) (hK2 _ _ (0 + 1) (by omega) (by omega) (Wk.temps ?_))
        (simp only [strs, hsu, spar, List.foldl, List.replicate, go_sem, VLes_nil, VLes_cons, VLe_undef_iff, VLe_self]; try (repeat' first | (with_reducible refine And.intro ?_ ?_) | (refine VLe_int ?_; omega) | (refine VLe_bool ?_; rfl) | exact VLe.refl _))
      | succ k =>
        simp (disch := omega) only [spar, List.foldl, List.replicate, strs, lvV1, lvO1, lvT1, eI, eT, hll, madeA1, go_sem, wrap64_id, Int.tdiv_eq_ediv_of_nonneg, Int.tmod_eq_emod_of_nonneg]
        repeat' first
          | ((first | refine callA_pure (c79 _) ?_ ?_); (next => repeat' first | exact flags_n | refine flags_c (by first | rfl | assumption) ?_); simp (disch := omega) only [spar, strs, eI, eT, hll, madeA1, go_sem, wrap64_id, Int.tdiv_eq_ediv_of_nonneg, Int.tmod_eq_emod_of_nonneg])
          | ((first | refine callG_pure (fun e => ⟨?_, c79 _⟩) ?_); (next => repeat' first | exact flags_n | refine flags_c (by first | rfl | assumption) ?_); simp (disch := omega) only [spar, strs, eI, eT, hll, madeA1, go_sem, wrap64_id, Int.tdiv_eq_ediv_of_nonneg, Int.tmod_eq_emod_of_nonneg])
          | ((first | refine fnQ_pure1 ?_ ?_ | refine fnQ_pure0 ?_ ?_); (next => repeat' first | exact rvs_n | refine rvs_t ?_ | (simp [go_sem]; done)); simp only [go_sem]; (first | exact VLe.refl _ | refine VLe_int ?_ | refine VLe_bool ?_ | refine VLe_str ?_ | skip))
          | (with_reducible refine And.intro ?_ ?_)
          | with_reducible intro _
        all_goals first
          | omega
          | (rename_i hx; revert hx; simp; done)
          | (simp; done)
          | skip
        refine Eq.mp (congrArg (K2 _) (lv_next hll hsu)) (hK2 _ _ (k + 1 + 1) (by omega) (by omega) (Wk.temps ?_))
        (simp only [strs, hsu, spar, List.foldl, List.replicate, go_sem, VLes_nil, VLes_cons, VLe_undef_iff, VLe_self]; try (repeat' first | (with_reducible refine And.intro ?_ ?_) | (refine VLe_int ?_; omega) | (refine VLe_bool ?_; rfl) | exact VLe.refl _))
  have e : k = us.length := by omega
  subst e
  rw [List.take_length]
  have hll := lvAll_len s us
  have hle := lvAll_at s us
  rw [hjn] at hle
  have hus0 : us.length = 0 → us = [] := List.eq_nil_of_length_eq_zero
  clear hK2
  obtain ⟨st, hst⟩ : ∃ st, st = lvAll s us := ⟨_, rfl⟩
  rw [← hst] at o3 hll hle ⊢
  obtain ⟨a, lv⟩ := st
  simp only at o3 hll hle ⊢
  have eI := intsC_len lv
  obtain ⟨n, hn⟩ : ∃ n, n = us.length := ⟨_, rfl⟩
  rw [← hn] at hll ⊢
  have eT : List.take n (intsC lv) = intsC lv := List.take_of_length_le (by omega)
  by_cases ha : a < s.length
  · have hd2 := (dg_iff _).1 (o3 ha)
    have k7 : ((a : Int) < s.length) = True := eq_true (by omega)
    have e6 : IntKind.i64.wrap (IntKind.u8.wrap (((s[a]?.getD 0).toNat : Int) - 48)) = ((s.getD a 0).toNat : Int) - 48 := by
      show IntKind.i64.wrap (IntKind.u8.wrap (((s.getD a 0).toNat : Int) - 48)) = _
      rw [wrap8_id (by omega) (by omega), wrap64_id (by omega) (by omega)]
    have e7 : lastLv s a = ((s.getD a 0).toNat : Int) - 48 := if_pos ha
    rw [e7]
    cases n with
    | zero =>
      have e0 : lv = [] := List.eq_nil_of_length_eq_zero hll
      subst e0
      simp (disch := omega) only [spar, List.foldl, List.replicate, strs, lvV0, lvO0, lvT0, madeA1, k7, go_sem, wrap64_id, Int.tdiv_eq_ediv_of_nonneg, Int.tmod_eq_emod_of_nonneg]
      repeat' first
        | ((first | refine fnQ_pure1 ?_ ?_ | refine fnQ_pure0 ?_ ?_); (next => repeat' first | exact rvs_n | refine rvs_t ?_ | (simp [go_sem]; done)); simp only [go_sem]; (first | exact VLe.refl _ | refine VLe_int ?_ | refine VLe_bool ?_ | refine VLe_str ?_ | skip))
        | (with_reducible refine And.intro ?_ ?_)
        | with_reducible intro _
      all_goals first
        | omega
        | (rename_i hx; revert hx; simp; done)
        | (simp; done)
        | skip
      rw [e6]
      exact VLe_tup ⟨VLe_agg ⟨VLe.refl _, intsV_of (p := [((s.getD a 0).toNat : Int) - 48]) rfl, trivial⟩, VLe.refl _, trivial⟩
    | succ n =>
      simp (disch := omega) only [spar, List.foldl, List.replicate, strs, lvV1, lvO1, lvT1, eI, eT, hll, madeA1, k7, go_sem, wrap64_id, Int.tdiv_eq_ediv_of_nonneg, Int.tmod_eq_emod_of_nonneg]
      repeat' first
        | ((first | refine fnQ_pure1 ?_ ?_ | refine fnQ_pure0 ?_ ?_); (next => repeat' first | exact rvs_n | refine rvs_t ?_ | (simp [go_sem]; done)); simp only [go_sem]; (first | exact VLe.refl _ | refine VLe_int ?_ | refine VLe_bool ?_ | refine VLe_str ?_ | skip))
        | (with_reducible refine And.intro ?_ ?_)
        | with_reducible intro _
      all_goals first
        | omega
        | (rename_i hx; revert hx; simp; done)
        | (simp; done)
        | skip
      rw [e6, ← intsC_snoc, if_pos (by rw [intsC_len, List.length_append]; simp; omega)]
      exact VLe_tup ⟨VLe_agg ⟨VLe.refl _, intsV_of (by rw [List.length_append]; simp; omega), trivial⟩, VLe.refl _, trivial⟩
  · have k7 : ((a : Int) < s.length) = False := eq_false (by omega)
    have e7 : lastLv s a = 0 := if_neg ha
    rw [e7]
    cases n with
    | zero =>
      have e0 : lv = [] := List.eq_nil_of_length_eq_zero hll
      subst e0
      simp (disch := omega) only [spar, List.foldl, List.replicate, strs, lvV0, lvO0, lvT0, madeA1, k7, go_sem, wrap64_id, Int.tdiv_eq_ediv_of_nonneg, Int.tmod_eq_emod_of_nonneg]
      repeat' first
        | ((first | refine fnQ_pure1 ?_ ?_ | refine fnQ_pure0 ?_ ?_); (next => repeat' first | exact rvs_n | refine rvs_t ?_ | (simp [go_sem]; done)); simp only [go_sem]; (first | exact VLe.refl _ | refine VLe_int ?_ | refine VLe_bool ?_ | refine VLe_str ?_ | skip))
        | (with_reducible refine And.intro ?_ ?_)
        | with_reducible intro _
      all_goals first
        | omega
        | (rename_i hx; revert hx; simp; done)
        | (simp; done)
        | skip
      exact VLe_tup ⟨VLe_agg ⟨VLe.refl _, intsV_of (p := [0]) rfl, trivial⟩, VLe.refl _, trivial⟩
    | succ n =>
      simp (disch := omega) only [spar, List.foldl, List.replicate, strs, lvV1, lvO1, lvT1, eI, eT, hll, madeA1, k7, go_sem, wrap64_id, Int.tdiv_eq_ediv_of_nonneg, Int.tmod_eq_emod_of_nonneg]
      repeat' first
        | ((first | refine fnQ_pure1 ?_ ?_ | refine fnQ_pure0 ?_ ?_); (next => repeat' first | exact rvs_n | refine rvs_t ?_ | (simp [go_sem]; done)); simp only [go_sem]; (first | exact VLe.refl _ | refine VLe_int ?_ | refine VLe_bool ?_ | refine VLe_str ?_ | skip))
        | (with_reducible refine And.intro ?_ ?_)
        | with_reducible intro _
      all_goals first
        | omega
        | (rename_i hx; revert hx; simp; done)
        | (simp; done)
        | skip
      rw [← intsC_snoc, if_pos (by rw [intsC_len, List.length_append]; simp; omega)]
      exact VLe_tup ⟨VLe_agg ⟨VLe.refl _, intsV_of (by rw [List.length_append]; simp; omega), trivial⟩, VLe.refl _, trivial⟩
end HY
end

section
set_option linter.all false
set_option linter.unusedSimpArgs false
set_option linter.unusedVariables false
set_option linter.unusedSectionVars false
open Go Go.Proofs AF HY
namespace HY
set_option maxRecDepth 100000
theorem slOf_pats {v n : Nat} {L : List Pat} {fz : Nat → Bool} {h : List AObj} : VLe (slOf (some (ownO v 32 (patsC L))) v 2 0 L.length (rei fz h (n + 1))) (patsV L) := by
  unfold ownO
  split
  · rename_i e
    have : L = [] := by cases L with
      | nil => rfl
      | cons a l => simp [patsC, patC] at e
    subst this
    rw [slOf_emp, if_pos rfl]
    exact VLe_nl
  · rw [slOf_mem, if_pos ⟨rfl, by rw [patsC_len]; omega⟩]
    simp only [Nat.zero_add]
    exact patsV_of rfl
theorem t64o (ps : List Pat) (k v : Nat) (h : List AObj) (hk : getO k h = some (ownO v 32 (patsC ps))) (hok : okPats ps) : ACalls Tryd.prog 25 [.osl k v 2 0 ps.length] h (.int .i64 (checkPats ps)) h := by
  refine ACalls.borrow ?_ rfl
  refine ACalls.le (t64 ps [] hok) ?_ (VLe.refl _)
  simp only [List.map_cons, List.map_nil, rei_osl, if_true, hk]
  exact VLes2 slOf_pats VLes.nil
def patB (s : List UInt8) : Pat := ⟨letB s, levB s⟩
def parseB (s : List UInt8) : List Pat := (splitL 32 s).map patB
theorem letB_len (s : List UInt8) : (letB s).length ≤ s.length := List.length_filter_le _ _
theorem levB_len (s : List UInt8) : (levB s).length ≤ s.length + 1 := by
  unfold levB
  rw [List.length_append, lvAll_len]
  have h1 := clus_len (letB s)
  have h2 := letB_len s
  simp
  omega
theorem splitP_len (c : UInt8) (s : List UInt8) (i : Nat) : (splitP c s i).length ≤ s.length := by
  have := rest_len c s i
  unfold splitP
  split
  · rw [List.length_take]; omega
  · exact this
theorem splitL_get (c : UInt8) (s : List UInt8) {i : Nat} (hi : i < (splitL c s).length) : (splitL c s).getD i [] = splitP c s i := by
  unfold splitL at hi ⊢
  rw [List.getD_eq_getElem?_getD, List.getElem?_eq_getElem hi]
  simp
theorem parseB_ok (s : List UInt8) (hs : s.length ≤ 65536) : okPats (parseB s) := by
  have hc : s.count 32 ≤ s.length := List.count_le_length
  have hl : (parseB s).length = s.count 32 + 1 := by simp [parseB, splitL_len]
  refine ⟨by omega, fun i hi => ?_⟩
  have hi2 : i < (splitL 32 s).length := by rw [splitL_len]; omega
  have e : (parseB s).getD i default = patB (splitP 32 s i) := by
    rw [← splitL_get 32 s hi2]
    unfold parseB
    rw [List.getD_eq_getElem?_getD, List.getElem?_map, List.getElem?_eq_getElem hi2, List.getD_eq_getElem?_getD, List.getElem?_eq_getElem hi2]
    rfl
  rw [e]
  have h1 := letB_len (splitP 32 s i)
  have h2 := levB_len (splitP 32 s i)
  have h3 := splitP_len 32 s i
  unfold patB
  exact ⟨by simp only; omega, by simp only; omega⟩
set_option maxHeartbeats 4000000 in
theorem u21 (s : List UInt8) (h : List AObj) (hs : s.length ≤ 65536) (h0 : s ≠ []) (ho : ∀ x ∈ splitL 32 s, okPart x) (hc : checkPats (parseB s) = 0) : ACalls Tryd.prog 21 [.str s] h (.tup [patsV (parseB s), .int .i64 0]) h := by
  have k0 : (s = []) = False := eq_false h0
  have k1 : (65536 < (s.length : Int)) = False := eq_false (by omega)
  have c45 := fun h => u45 s 32 h (by omega)
  have hct : s.count 32 ≤ s.length := List.count_le_length
  have hll := splitL_len 32 s
  have hpl : ∀ i, i < (splitL 32 s).length → ((splitL 32 s).getD i []).length ≤ 65536 := fun i hi => by rw [splitL_get 32 s hi]; have := splitP_len 32 s i; omega
  have hok := parseB_ok s hs
  have hpo : ∀ i, i < (splitL 32 s).length → okPart ((splitL 32 s).getD i []) := fun i hi => by
    have := ho _ (List.getElem_mem hi)
    rwa [List.getD_eq_getElem?_getD, List.getElem?_eq_getElem hi]
  unfold parseB at hc hok ⊢
  obtain ⟨us, hus⟩ : ∃ us, us = splitL 32 s := ⟨_, rfl⟩
  rw [← hus] at c45 hll hpl hpo hc hok ⊢
  refine acalls_of fn21d (by simp) ?_
  simp only [List.length_cons, List.length_nil, Nat.reduceAdd, Nat.reduceSub, List.replicate, List.cons_append, List.nil_append, List.append_nil]
  simp (disch := omega) only [c21d, k0, k1, go_sem, wrap64_id, Int.tdiv_eq_ediv_of_nonneg, Int.tmod_eq_emod_of_nonneg]
  repeat' first
    | ((first | refine callA_pure (c45 _) ?_ ?_); (next => repeat' first | exact flags_n | refine flags_c (by first | rfl | assumption) ?_); simp (disch := omega) only [k0, k1, strs, go_sem, wrap64_id, Int.tdiv_eq_ediv_of_nonneg, Int.tmod_eq_emod_of_nonneg])
    | ((first | refine callG_pure (fun e => ⟨?_, c45 _⟩) ?_); (next => repeat' first | exact flags_n | refine flags_c (by first | rfl | assumption) ?_); simp (disch := omega) only [k0, k1, strs, go_sem, wrap64_id, Int.tdiv_eq_ediv_of_nonneg, Int.tmod_eq_emod_of_nonneg])
    | ((first | refine fnQ_pure1 ?_ ?_ | refine fnQ_pure0 ?_ ?_); (next => repeat' first | exact rvs_n | refine rvs_t ?_ | (simp [go_sem]; done)); simp only [go_sem]; (first | exact VLe.refl _ | refine VLe_int ?_ | refine VLe_bool ?_ | refine VLe_str ?_ | skip))
    | (with_reducible refine And.intro ?_ ?_)
    | with_reducible intro _
  all_goals first
    | omega
    | (rename_i hx; revert hx; simp; done)
    | (simp; done)
    | skip
  refine loop_of (T := fun i : Nat × Nat × AObj × AObj => spar 40 [(4, .osl (h.length + 1) i.2.1 2 0 i.1), (16, strs us), (17, .int .i64 us.length), (18, .int .i64 i.1)])
    (H := fun i => h ++ [.emp 1, ownO i.2.1 32 (patsC ((us.take i.1).map patB)), i.2.2.1, i.2.2.2, .emp 0])
    (inv := fun i => i.1 ≤ us.length ∧ site [i.2.2.1] 0 = true ∧ site [i.2.2.2] 0 = true) (m := fun i => us.length - i.1) (0, 1, .emp 0, .emp 0) ⟨by simp, rfl, rfl⟩ (Wk.temps ?_) ?_
  · (simp only [strs, spar, List.foldl, List.replicate, go_sem, VLes_nil, VLes_cons, VLe_undef_iff, VLe_self]; try (repeat' first | (with_reducible refine And.intro ?_ ?_) | (refine VLe_int ?_; omega) | (refine VLe_bool ?_; rfl) | exact VLe.refl _))
  rintro ⟨i, v, O1, O2⟩ ⟨i1, i2, i3⟩ K hK
  simp only at i1 i2 i3 hK
  have i2' : ∀ m, site (O1 :: m) 0 = true := fun _ => i2
  have i3' : ∀ m, site (O2 :: m) 0 = true := fun _ => i3
  have eP := patsC_len ((us.take i).map patB)
  rw [List.length_map, List.length_take, Nat.min_eq_left i1] at eP
  have eT : List.take (i * 2) (patsC ((us.take i).map patB)) = patsC ((us.take i).map patB) := List.take_of_length_le (by omega)
  by_cases hi : i < us.length
  · obtain ⟨x, hx⟩ : ∃ x, x = us.getD i [] := ⟨_, rfl⟩
    have ex := hx.symm
    have c46 := fun h => u46 x h (by have := hpl i hi; rw [ex] at this; omega) (by rw [hx]; exact hpo i hi)
    simp (disch := omega) only [spar, List.foldl, List.replicate, strs, i2', i3', ex, eP, eT, madeA1, go_sem, wrap64_id, Int.tdiv_eq_ediv_of_nonneg, Int.tmod_eq_emod_of_nonneg]
    repeat' first
      | ((first | refine callA_pure (c46 _) ?_ ?_); (next => repeat' first | exact flags_n | refine flags_c (by first | rfl | assumption) ?_); simp (disch := omega) only [strs, i2', i3', ex, eP, eT, madeA1, go_sem, wrap64_id, Int.tdiv_eq_ediv_of_nonneg, Int.tmod_eq_emod_of_nonneg])
      | ((first | refine callG_pure (fun e => ⟨?_, c46 _⟩) ?_); (next => repeat' first | exact flags_n | refine flags_c (by first | rfl | assumption) ?_); simp (disch := omega) only [strs, i2', i3', ex, eP, eT, madeA1, go_sem, wrap64_id, Int.tdiv_eq_ediv_of_nonneg, Int.tmod_eq_emod_of_nonneg])
      | ((first | refine fnQ_pure1 ?_ ?_ | refine fnQ_pure0 ?_ ?_); (next => repeat' first | exact rvs_n | refine rvs_t ?_ | (simp [go_sem]; done)); simp only [go_sem]; (first | exact VLe.refl _ | refine VLe_int ?_ | refine VLe_bool ?_ | refine VLe_str ?_ | skip))
      | (with_reducible refine And.intro ?_ ?_)
      | with_reducible intro _
    all_goals first
      | omega
      | (rename_i hx; revert hx; simp; done)
      | (simp; done)
      | skip
    have hn : patsC ((us.take i).map patB) ++ [.str (letB x), intsV (levB x)] = patsC ((us.take (i + 1)).map patB) := by
      have e1 : us[i] = x := by rw [hx, List.getD_eq_getElem?_getD, List.getElem?_eq_getElem hi]; rfl
      rw [List.take_add_one, List.getElem?_eq_getElem hi, List.map_append, patsC_app, e1]
      rfl
    rw [hn]
    refine hK _ _ (i + 1, v + 1, .mem (verOf (some O1) + 1) 32 [.str (letB x), intsV (levB x)], .mem (verOf (some O2) + 1) 32 [.str (letB x), intsV (levB x)]) ⟨by simp only; omega, rfl, rfl⟩ (by simp only; omega) (Wk.temps ?_)
    (simp only [strs, spar, List.foldl, List.replicate, go_sem, VLes_nil, VLes_cons, VLe_undef_iff, VLe_self]; try (repeat' first | (with_reducible refine And.intro ?_ ?_) | (refine VLe_int ?_; omega) | (refine VLe_bool ?_; rfl) | exact VLe.refl _))
  · have e : i = us.length := by omega
    subst e
    rw [List.take_length]
    have c64 := t64o (us.map patB) (h.length + 1) v (h ++ [.emp 1, ownO v 32 (patsC (us.map patB)), O1, O2, .emp 0]) (by simp only [go_sem]) hok
    rw [hc, List.length_map] at c64
    simp (disch := omega) only [spar, List.foldl, List.replicate, strs, i2', i3', go_sem, wrap64_id, Int.tdiv_eq_ediv_of_nonneg, Int.tmod_eq_emod_of_nonneg]
    repeat' first
      | ((first | refine callA_pure (c64) ?_ ?_); (next => repeat' first | exact flags_n | refine flags_c (by first | rfl | assumption) ?_); simp (disch := omega) only [strs, i2', i3', go_sem, wrap64_id, Int.tdiv_eq_ediv_of_nonneg, Int.tmod_eq_emod_of_nonneg])
      | ((first | refine callG_pure (fun e => ⟨?_, c64⟩) ?_); (next => repeat' first | exact flags_n | refine flags_c (by first | rfl | assumption) ?_); simp (disch := omega) only [strs, i2', i3', go_sem, wrap64_id, Int.tdiv_eq_ediv_of_nonneg, Int.tmod_eq_emod_of_nonneg])
      | ((first | refine fnQ_pure1 ?_ ?_ | refine fnQ_pure0 ?_ ?_); (next => repeat' first | exact rvs_n | refine rvs_t ?_ | (simp [go_sem]; done)); simp only [go_sem]; (first | exact VLe.refl _ | refine VLe_int ?_ | refine VLe_bool ?_ | refine VLe_str ?_ | skip))
      | (with_reducible refine And.intro ?_ ?_)
      | with_reducible intro _
    all_goals first
      | omega
      | (rename_i hx; revert hx; simp; done)
      | (simp; done)
      | skip
    have hsl := fun h => slOf_pats (v := v) (n := 5) (L := us.map patB) (fz := fun k => decide (h.length ≤ k)) (h := h ++ [AObj.emp 1, ownO v 32 (patsC (us.map patB)), O1, O2, AObj.emp 0])
    rw [List.length_map] at hsl
    exact VLe_tup ⟨hsl h, VLe.refl _, trivial⟩
end HY
end

section
set_option linter.all false
set_option linter.unusedSimpArgs false
set_option linter.unusedVariables false
set_option linter.unusedSectionVars false
open Go Go.Proofs AF HY
namespace HY
set_option maxRecDepth 100000
def exP : List Pat := [⟨[97, 98], [0, 1, 0]⟩, ⟨[46, 99, 100, 101, 46], [0, 0, 2, 3, 0, 0]⟩]
theorem ile3 {r : AV → AV} {a b c : Int} (h : ∀ x, r (.int .i64 x) = .int .i64 x) : ILe (.sl 3 fun i => List.map r (List.take 1 (List.drop i [AV.int .i64 a, .int .i64 b, .int .i64 c]))) (intsV [a, b, c]) :=
  ILe.sl (fun i hi => by
    obtain rfl | rfl | rfl : i = 0 ∨ i = 1 ∨ i = 2 := by omega
    all_goals (simp only [List.drop, List.take, List.map, h]; exact ILes.refl _))
theorem ile6 {r : AV → AV} {a b c d e f : Int} (h : ∀ x, r (.int .i64 x) = .int .i64 x) : ILe (.sl 6 fun i => List.map r (List.take 1 (List.drop i [AV.int .i64 a, .int .i64 b, .int .i64 c, .int .i64 d, .int .i64 e, .int .i64 f]))) (intsV [a, b, c, d, e, f]) :=
  ILe.sl (fun i hi => by
    obtain rfl | rfl | rfl | rfl | rfl | rfl : i = 0 ∨ i = 1 ∨ i = 2 ∨ i = 3 ∨ i = 4 ∨ i = 5 := by omega
    all_goals (simp only [List.drop, List.take, List.map, h]; exact ILes.refl _))
theorem u39 (h : List AObj) : ACalls Tryd.prog 39 [] h (patsV exP) h := by
  refine acalls_of fn39e (by simp) ?_
  simp only [List.length_cons, List.length_nil, Nat.reduceAdd, Nat.reduceSub, List.replicate, List.cons_append, List.nil_append, List.append_nil]
  simp (disch := omega) only [c39e, madeA, madeA1, madeA3, go_sem, wrap64_id, Int.tdiv_eq_ediv_of_nonneg, Int.tmod_eq_emod_of_nonneg]
  repeat' first
    | ((first | refine fnQ_pure1 ?_ ?_ | refine fnQ_pure0 ?_ ?_); (next => repeat' first | exact rvs_n | refine rvs_t ?_ | (simp [go_sem]; done)); simp only [go_sem]; (first | exact VLe.refl _ | refine VLe_int ?_ | refine VLe_bool ?_ | refine VLe_str ?_ | skip))
    | (with_reducible refine And.intro ?_ ?_)
    | with_reducible intro _
  all_goals first
    | omega
    | (rename_i hx; revert hx; simp; done)
    | (simp; done)
    | skip
  refine VLe.sl (fun i hi => ?_)
  obtain rfl | rfl : i = 0 ∨ i = 1 := by omega
  · simp (disch := omega) only [List.take, List.drop, List.map, go_sem, wrap64_id, Int.tdiv_eq_ediv_of_nonneg, Int.tmod_eq_emod_of_nonneg]
    exact ⟨ILe.refl _, ile3 (fun x => rei_int), trivial⟩
  · simp (disch := omega) only [List.take, List.drop, List.map, go_sem, wrap64_id, Int.tdiv_eq_ediv_of_nonneg, Int.tmod_eq_emod_of_nonneg]
    exact ⟨ILe.refl _, ile6 (fun x => rei_int), trivial⟩
theorem movedH_eq {h tl : List AObj} {k j vj : Nat} {ty : TypeId} {cs : List AV} (hkl : k < h.length) : movedH h (h ++ tl) k (h.length + j) vj ty cs = setO k h (.mem (verOf (getO k h) + 1) ty cs) ++ setO j tl (.emp (vj + 1)) := by
  unfold movedH setO
  rw [List.set_append_right _ _ (by omega), List.set_append_left _ _ hkl]
  simp
theorem site_lt {h : List AObj} {k : Nat} (hk : site h k = true) : k < h.length := by
  unfold site at hk
  split at hk
  · rename_i hx; exact getO_lt hx
  · rename_i hx; exact getO_lt hx
  · cases hk
theorem u39m (h : List AObj) (k : Nat) (hk : site h k = true) :
    ACalls Tryd.prog 39 [] h (.osl k (verOf (getO k h) + 1) 2 0 2) (setO k h (.mem (verOf (getO k h) + 1) 32 (patsC exP))) := by
  refine acallsM2 fn39e k (by simp) ?_
  simp only [List.length_cons, List.length_nil, Nat.reduceAdd, Nat.reduceSub, List.replicate, List.cons_append, List.nil_append, List.append_nil]
  simp (disch := omega) only [c39e, madeA, madeA1, madeA3, go_sem, wrap64_id, Int.tdiv_eq_ediv_of_nonneg, Int.tmod_eq_emod_of_nonneg]
  repeat' first
    | (with_reducible refine And.intro ?_ ?_)
    | (with_reducible intro _)
  all_goals first
    | omega
    | skip
  refine ⟨h.length + 3, 1, 2, 0, 2, 32, [AV.str [97, 98], AV.osl (h.length + 1) 1 1 0 3, AV.str [46, 99, 100, 101, 46], AV.osl (h.length + 2) 1 1 0 6], patsC exP, _, [], [], ⟨trivial, trivial⟩, rfl, rfl, by omega, by simp only [go_sem], hk, ?_, trivial, rfl, rfl⟩
  rw [movedH_eq (site_lt hk)]
  obtain ⟨h2, hh2⟩ : ∃ h2, h2 = setO k h (.mem (verOf (getO k h) + 1) 32 [AV.str [97, 98], AV.osl (h.length + 1) 1 1 0 3, AV.str [46, 99, 100, 101, 46], AV.osl (h.length + 2) 1 1 0 6]) := ⟨_, rfl⟩
  rw [← hh2]
  have hl : h2.length = h.length := by rw [hh2, len_setO]
  rw [← hl]
  refine ⟨VOut.of 7 (VLe.refl _), VOut.of 7 ?_, VOut.of 7 (VLe.refl _), VOut.of 7 ?_, trivial⟩
  · simp (disch := omega) only [frz_osl, go_sem, wrap64_id, Int.tdiv_eq_ediv_of_nonneg, Int.tmod_eq_emod_of_nonneg]
    exact slOf_ints (v := 1) (n := 5) (L := [0, 1, 0])
  · simp (disch := omega) only [frz_osl, go_sem, wrap64_id, Int.tdiv_eq_ediv_of_nonneg, Int.tmod_eq_emod_of_nonneg]
    exact slOf_ints (v := 1) (n := 5) (L := [0, 0, 2, 3, 0, 0])
end HY
end

section
set_option linter.all false
set_option linter.unusedSimpArgs false
set_option linter.unusedVariables false
set_option linter.unusedSectionVars false
open Go Go.Proofs AF HY
namespace HY
set_option maxRecDepth 100000
theorem VOuts_ints {n : Nat} {H : List AObj} : ∀ L : List Int, VOuts n H (intsC L) (intsC L)
  | [] => trivial
  | _ :: L => ⟨VOut.of 1 (VLe.refl _), VOuts_ints L⟩
set_option maxHeartbeats 4000000 in
theorem u44m (ps : List Pat) (w : List UInt8) (h : List AObj) (hok : okPats ps) (hw : w.length ≤ 1000000) (hw0 : 0 < (clus w).length) (hwf : wfPats ps) (k : Nat) (hk : site h k = true) (hne : ptAt (clus w) (levelsOf ps w) ((clus w).length - 1) ≠ []) :
    ACalls Tryd.prog 44 [patsV ps, .str w] h (.tup [.osl k (verOf (getO k h) + 1) 1 0 (ptAt (clus w) (levelsOf ps w) ((clus w).length - 1)).length, intsV (ptHi (clus w).length (levelsOf ps w) ((clus w).length - 1))]) (setO k h (.mem (verOf (getO k h) + 1) 3 (intsC (ptAt (clus w) (levelsOf ps w) ((clus w).length - 1))))) := by
  have c131 := fun h => t131 ps w h hok hw (by rw [clus_fold_len]; exact hw0) hwf
  have c105 := fun h => t105 w h (by omega)
  have hll := levelsOf_len ps w
  have hcl := clus_len w
  have hof := fun i => offN_le (clus w) i
  rw [clus_join] at hof
  obtain ⟨lv, hlv⟩ : ∃ x, x = levelsOf ps w := ⟨_, rfl⟩
  obtain ⟨own, hown⟩ : ∃ x, x = clus w := ⟨_, rfl⟩
  rw [← hlv] at c131 hll hne ⊢
  rw [← hown] at c105 hll hcl hof hw0 hne ⊢
  refine acallsM2 fn44d k (by simp) ?_
  simp only [List.length_cons, List.length_nil, Nat.reduceAdd, Nat.reduceSub, List.replicate, List.cons_append, List.nil_append, List.append_nil]
  simp (disch := omega) only [c44d, patsV, madeA1, go_sem, wrap64_id, Int.tdiv_eq_ediv_of_nonneg, Int.tmod_eq_emod_of_nonneg]
  repeat' first
    | ((first | refine callA_pure (c105 _) ?_ ?_ | refine callA_pure (c131 _) ?_ ?_); (next => repeat' first | exact flags_n | refine flags_c (by first | rfl | assumption) ?_); simp (disch := omega) only [patsV, madeA1, intsV, strs, go_sem, wrap64_id, Int.tdiv_eq_ediv_of_nonneg, Int.tmod_eq_emod_of_nonneg])
    | ((first | refine callG_pure (fun e => ⟨?_, c105 _⟩) ?_ | refine callG_pure (fun e => ⟨?_, c131 _⟩) ?_); (next => repeat' first | exact flags_n | refine flags_c (by first | rfl | assumption) ?_); simp (disch := omega) only [patsV, madeA1, intsV, strs, go_sem, wrap64_id, Int.tdiv_eq_ediv_of_nonneg, Int.tmod_eq_emod_of_nonneg])
    | ((first | refine fnQ_pure1 ?_ ?_ | refine fnQ_pure0 ?_ ?_); (next => repeat' first | exact rvs_n | refine rvs_t ?_ | (simp [go_sem]; done)); simp only [go_sem]; (first | exact VLe.refl _ | refine VLe_int ?_ | refine VLe_bool ?_ | refine VLe_str ?_ | skip))
    | (with_reducible refine And.intro ?_ ?_)
    | with_reducible intro _
  all_goals first
    | omega
    | (rename_i hx; revert hx; simp; done)
    | (simp; done)
    | skip
  refine loop_of (T := fun i : Nat × Nat × AObj × AObj => spar 56 [(6, .osl (h.length + 2) i.2.1 1 0 (ptAt own lv i.1).length), (7, .osl (h.length + 3) i.2.1 1 0 (ptHi own.length lv i.1).length), (8, strs own), (9, .int .i64 (offN own i.1)), (16, intsV lv), (17, .int .i64 lv.length), (18, .int .i64 i.1)])
    (H := fun i => h ++ [.emp 1, .emp 1, ownO i.2.1 3 (intsC (ptAt own lv i.1)), ownO i.2.1 3 (intsC (ptHi own.length lv i.1)), i.2.2.1, .emp 0, i.2.2.2, .emp 0])
    (inv := fun i => i.1 ≤ lv.length ∧ site [i.2.2.1] 0 = true ∧ site [i.2.2.2] 0 = true) (m := fun i => lv.length - i.1) (0, 1, .emp 0, .emp 0) ⟨by simp, rfl, rfl⟩ (Wk.temps ?_) ?_
  · (simp only [strs, patsV, intsV, offN_zero, spar, List.foldl, List.replicate, go_sem, VLes_nil, VLes_cons, VLe_undef_iff, VLe_self]; try (repeat' first | (with_reducible refine And.intro ?_ ?_) | (refine VLe_int ?_; omega) | (refine VLe_bool ?_; rfl) | exact VLe.refl _))
  rintro ⟨i, v, O1, O2⟩ ⟨i1, i2, i3⟩ K hK
  simp only at i1 i2 i3 hK
  have i2' : ∀ m, site (O1 :: m) 0 = true := fun _ => i2
  have i3' : ∀ m, site (O2 :: m) 0 = true := fun _ => i3
  have q1 := ptIdx_le own.length lv i
  have q2 := ptAt_len own lv i
  have q3 := ptHi_len own.length lv i
  have e1 := intsC_len (ptAt own lv i)
  have e2 := intsC_len (ptHi own.length lv i)
  have f1 : List.take (ptAt own lv i).length (intsC (ptAt own lv i)) = intsC (ptAt own lv i) := List.take_of_length_le (by omega)
  have f2 : List.take (ptHi own.length lv i).length (intsC (ptHi own.length lv i)) = intsC (ptHi own.length lv i) := List.take_of_length_le (by omega)
  by_cases hi : i < lv.length
  · have ho := offN_succ (own := own) (i := i) (by omega)
    have hle := hof (i + 1)
    cases hb : hitP own.length lv i with
    | true =>
      have r1 := ptAt_t hb
      have r2 := ptHi_t hb
      unfold hitP at hb
      simp only [Bool.and_eq_true, decide_eq_true_eq] at hb
      have k1 : ((lv.getD i 0).tmod 2 = 1) = True := eq_true hb.1
      have k2 : (1 ≤ (i : Int)) = True := eq_true (by omega)
      have k3 : (2 ≤ (own.length : Int) - (i : Int) - 1) = True := eq_true (by omega)
      simp (disch := omega) only [spar, List.foldl, List.replicate, strs, intsV, i2', i3', k1, k2, k3, madeA1, e1, e2, f1, f2, go_sem, wrap64_id, Int.tdiv_eq_ediv_of_nonneg, Int.tmod_eq_emod_of_nonneg]
      repeat' first
        | ((first | refine fnQ_pure1 ?_ ?_ | refine fnQ_pure0 ?_ ?_); (next => repeat' first | exact rvs_n | refine rvs_t ?_ | (simp [go_sem]; done)); simp only [go_sem]; (first | exact VLe.refl _ | refine VLe_int ?_ | refine VLe_bool ?_ | refine VLe_str ?_ | skip))
        | (with_reducible refine And.intro ?_ ?_)
        | with_reducible intro _
      all_goals first
        | omega
        | (rename_i hx; revert hx; simp; done)
        | (simp; done)
        | skip
      have hoi : (offN own i : Int) + ((own.getD i []).length : Int) = ((offN own (i + 1) : Nat) : Int) := by omega
      have l1 : (ptAt own lv i).length + 1 = (ptAt own lv (i + 1)).length := by rw [r1]; simp
      have l2 : (ptHi own.length lv i).length + 1 = (ptHi own.length lv (i + 1)).length := by rw [r2]; simp
      rw [hoi, ← intsC_snoc, ← intsC_snoc, ← r1, ← r2, l1, l2]
      refine hK _ _ (i + 1, v + 1, .mem (verOf (some O1) + 1) 3 [.int .i64 (offN own (i + 1) : Nat)], .mem (verOf (some O2) + 1) 3 [.int .i64 (lv.getD i 0)]) ⟨by simp only; omega, rfl, rfl⟩ (by simp only; omega) (Wk.temps ?_)
      (simp only [strs, intsV, spar, List.foldl, List.replicate, go_sem, VLes_nil, VLes_cons, VLe_undef_iff, VLe_self]; try (repeat' first | (with_reducible refine And.intro ?_ ?_) | (refine VLe_int ?_; omega) | (refine VLe_bool ?_; rfl) | exact VLe.refl _))
    | false =>
      have r1 := ptAt_f hb
      have r2 := ptHi_f hb
      simp (disch := omega) only [spar, List.foldl, List.replicate, strs, intsV, i2', i3', madeA1, go_sem, wrap64_id, Int.tdiv_eq_ediv_of_nonneg, Int.tmod_eq_emod_of_nonneg]
      repeat' first
        | ((first | refine fnQ_pure1 ?_ ?_ | refine fnQ_pure0 ?_ ?_); (next => repeat' first | exact rvs_n | refine rvs_t ?_ | (simp [go_sem]; done)); simp only [go_sem]; (first | exact VLe.refl _ | refine VLe_int ?_ | refine VLe_bool ?_ | refine VLe_str ?_ | skip))
        | (with_reducible refine And.intro ?_ ?_)
        | with_reducible intro _
      all_goals first
        | omega
        | (rename_i hx; revert hx; simp; done)
        | (simp; done)
        | skip
      · rename_i hx
        exfalso
        have : hitP own.length lv i = true := by
          unfold hitP
          simp only [Bool.and_eq_true, decide_eq_true_eq]
          exact ⟨hx.1.1, by omega, by omega⟩
        rw [this] at hb
        cases hb
      · rw [← r1, ← r2]
        refine hK _ _ (i + 1, v, O1, O2) ⟨by simp only; omega, i2, i3⟩ (by simp only; omega) (Wk.temps ?_)
        (simp only [strs, intsV, spar, List.foldl, List.replicate, go_sem, VLes_nil, VLes_cons, VLe_undef_iff, VLe_self]; try (repeat' first | (with_reducible refine And.intro ?_ ?_) | (refine VLe_int ?_; omega) | (refine VLe_bool ?_; rfl) | exact VLe.refl _))
  · have e : i = own.length - 1 := by omega
    subst e
    simp (disch := omega) only [spar, List.foldl, List.replicate, strs, intsV, go_sem, wrap64_id, Int.tdiv_eq_ediv_of_nonneg, Int.tmod_eq_emod_of_nonneg]
    repeat' first
      | ((first | refine fnQ_pure1 ?_ ?_ | refine fnQ_pure0 ?_ ?_); (next => repeat' first | exact rvs_n | refine rvs_t ?_ | (simp [go_sem]; done)); simp only [go_sem]; (first | exact VLe.refl _ | refine VLe_int ?_ | refine VLe_bool ?_ | refine VLe_str ?_ | skip))
      | (with_reducible refine And.intro ?_ ?_)
      | with_reducible intro _
    all_goals first
      | omega
      | (rename_i hx; revert hx; simp; done)
      | (simp; done)
      | skip
    have hon : ownO v 3 (intsC (ptAt own lv (own.length - 1))) = .mem v 3 (intsC (ptAt own lv (own.length - 1))) := ownO_ne (fun e => hne (by simpa [intsC] using e))
    rw [hon]
    refine ⟨h.length + 2, v, 1, 0, (ptAt own lv (own.length - 1)).length, 3, intsC (ptAt own lv (own.length - 1)), intsC (ptAt own lv (own.length - 1)), _, [.osl (h.length + 3) v 1 0 (ptHi own.length lv (own.length - 1)).length], [intsV (ptHi own.length lv (own.length - 1))], ⟨trivial, trivial, trivial⟩, rfl, rfl, by omega, by simp only [go_sem], hk, VOuts_ints _, ⟨VOut.of 6 ?_, trivial⟩, rfl, rfl⟩
    rw [movedH_eq (site_lt hk)]
    obtain ⟨h2, hh2⟩ : ∃ h2, h2 = setO k h (.mem (verOf (getO k h) + 1) 3 (intsC (ptAt own lv (own.length - 1)))) := ⟨_, rfl⟩
    rw [← hh2]
    have hl : h2.length = h.length := by rw [hh2, len_setO]
    rw [← hl]
    simp (disch := omega) only [frz_osl, go_sem, wrap64_id, Int.tdiv_eq_ediv_of_nonneg, Int.tmod_eq_emod_of_nonneg]
    exact slOf_ints (v := v) (n := 4) (L := ptHi own.length lv (own.length - 1))
end HY
end

import Derived.Test.YtjijgafefdolkaaDoorK8
import Derived.Test.YtjijgafefdolkaaDoorK3
import Derived.Below
import Derived.Test.YtjijgafefdolkaaDoorK0
import Derived.Lib.AppendIntMem
import Derived.Stop.LaidErr
import Derived.Lib.ItoaLen
import Derived.Test.YtjijgafefdolkaaDoorK2
import Derived.Test.YtjijgafefdolkaaDoorProg
set_option linter.all false
set_option linter.unusedSimpArgs false
set_option linter.unusedVariables false
set_option linter.unusedSectionVars false
section
open Go Go.Proofs AF HY P48
namespace LN
set_option maxRecDepth 100000
def greatO (l : List It) (ls : List Ln) : Bool := decide (∃ j, j < l.length ∧ 66 < (it l j).text.length) || (decide (30 < l.length) || decide (12 < ls.length))
theorem t11 (l : List It) (ls : List Ln) (h : List AObj) (hl : l.length ≤ 9223372036854775807) : ACalls Tryd.prog 11 [items l, linesV ls] h (.bool (greatO l ls)) h := by
  obtain ⟨R, hR⟩ : ∃ R, R = greatO l ls := ⟨_, rfl⟩
  rw [← hR]
  refine acalls_of fn11l (by simp) ?_
  simp only [List.length_cons, List.length_nil, Nat.reduceAdd, Nat.reduceSub, List.replicate, List.cons_append, List.nil_append, List.append_nil]
  simp (disch := omega) only [c11l, items, itemC, linesV, lineC, go_sem, wrap64_id, Int.tdiv_eq_ediv_of_nonneg, Int.tmod_eq_emod_of_nonneg]
  repeat' first
    | ((first | refine fnQ_pure1 ?_ ?_ | refine fnQ_pure0 ?_ ?_); (next => repeat' first | exact rvs_n | refine rvs_t ?_ | (simp [go_sem]; done)); simp only [go_sem]; (first | exact VLe.refl _ | refine VLe_int ?_ | refine VLe_bool ?_ | refine VLe_str ?_ | skip))
    | (with_reducible refine And.intro ?_ ?_)
    | with_reducible intro _
  all_goals first
    | omega
    | (rename_i hx; revert hx; simp; done)
    | (simp; done)
    | skip
  refine loop_of (T := fun i : Nat => spar 27 [(0, items l), (1, linesV ls), (5, .int .i64 i)]) (H := fun _ => h)
    (inv := fun i => i ≤ l.length ∧ ∀ j, j < i → (it l j).text.length ≤ 66) (m := fun i => l.length - i) 0 ⟨Nat.zero_le _, by omega⟩ (Wk.temps ?_) ?_
  · (simp only [items, itemC, linesV, lineC, spar, List.foldl, List.replicate, go_sem, VLes_nil, VLes_cons, VLe_undef_iff, VLe_self]; try (repeat' first | (with_reducible refine And.intro ?_ ?_) | (refine VLe_int ?_; omega) | (refine VLe_bool ?_; rfl) | exact VLe.refl _))
  rintro i ⟨i1, i2⟩ K hK
  by_cases hi : i < l.length
  · have qi : ((i : Int) < l.length) = True := eq_true (by omega)
    by_cases hx : 66 < (it l i).text.length
    · have qx : (66 < ((it l i).text.length : Int)) = True := eq_true (by omega)
      have hV : R = true := by
        rw [hR]
        unfold greatO
        rw [decide_eq_true (⟨i, hi, hx⟩ : ∃ j, j < l.length ∧ 66 < (it l j).text.length)]
        rfl
      rw [hV]
      simp (disch := omega) only [spar, items, itemC, linesV, lineC, List.foldl, List.replicate, qi, qx, go_sem, wrap64_id, Int.tdiv_eq_ediv_of_nonneg, Int.tmod_eq_emod_of_nonneg]
      repeat' first
        | ((first | refine fnQ_pure1 ?_ ?_ | refine fnQ_pure0 ?_ ?_); (next => repeat' first | exact rvs_n | refine rvs_t ?_ | (simp [go_sem]; done)); simp only [go_sem]; (first | exact VLe.refl _ | refine VLe_int ?_ | refine VLe_bool ?_ | refine VLe_str ?_ | skip))
        | (with_reducible refine And.intro ?_ ?_)
        | with_reducible intro _
      all_goals first
        | omega
        | (rename_i hx; revert hx; simp; done)
        | (simp; done)
        | skip
    · have qx : (66 < ((it l i).text.length : Int)) = False := eq_false (by omega)
      simp (disch := omega) only [spar, items, itemC, linesV, lineC, List.foldl, List.replicate, qi, qx, go_sem, wrap64_id, Int.tdiv_eq_ediv_of_nonneg, Int.tmod_eq_emod_of_nonneg]
      repeat' first
        | ((first | refine fnQ_pure1 ?_ ?_ | refine fnQ_pure0 ?_ ?_); (next => repeat' first | exact rvs_n | refine rvs_t ?_ | (simp [go_sem]; done)); simp only [go_sem]; (first | exact VLe.refl _ | refine VLe_int ?_ | refine VLe_bool ?_ | refine VLe_str ?_ | skip))
        | (with_reducible refine And.intro ?_ ?_)
        | with_reducible intro _
      all_goals first
        | omega
        | (rename_i hx; revert hx; simp; done)
        | (simp; done)
        | skip
      refine hK _ _ (i + 1) ⟨hi, fun j hj => ?_⟩ (by omega) (Wk.temps ?_)
      · rcases Nat.lt_succ_iff_lt_or_eq.1 hj with h | h
        · exact i2 j h
        · subst h; omega
      · (simp only [items, itemC, linesV, lineC, spar, List.foldl, List.replicate, go_sem, VLes_nil, VLes_cons, VLe_undef_iff, VLe_self]; try (repeat' first | (with_reducible refine And.intro ?_ ?_) | (refine VLe_int ?_; omega) | (refine VLe_bool ?_; rfl) | exact VLe.refl _))
  · have e : i = l.length := by omega
    subst e
    have hV : R = (decide (30 < l.length) || decide (12 < ls.length)) := by
      rw [hR]
      unfold greatO
      rw [decide_eq_false (by rintro ⟨j, hj, hx⟩; have := i2 j hj; omega)]
      rfl
    by_cases g1 : 30 < l.length
    · have q1 : (30 < (l.length : Int)) = True := eq_true (by omega)
      rw [hV, decide_eq_true g1]
      simp (disch := omega) only [spar, items, itemC, linesV, lineC, List.foldl, List.replicate, q1, go_sem, wrap64_id, Int.tdiv_eq_ediv_of_nonneg, Int.tmod_eq_emod_of_nonneg]
      repeat' first
        | ((first | refine fnQ_pure1 ?_ ?_ | refine fnQ_pure0 ?_ ?_); (next => repeat' first | exact rvs_n | refine rvs_t ?_ | (simp [go_sem]; done)); simp only [go_sem]; (first | exact VLe.refl _ | refine VLe_int ?_ | refine VLe_bool ?_ | refine VLe_str ?_ | skip))
        | (with_reducible refine And.intro ?_ ?_)
        | with_reducible intro _
      all_goals first
        | omega
        | (rename_i hx; revert hx; simp; done)
        | (simp; done)
        | skip
    · have q1 : (30 < (l.length : Int)) = False := eq_false (by omega)
      rw [hV, decide_eq_false g1]
      by_cases g2 : 12 < ls.length
      · have q2 : (12 < (ls.length : Int)) = True := eq_true (by omega)
        rw [decide_eq_true g2]
        simp (disch := omega) only [spar, items, itemC, linesV, lineC, List.foldl, List.replicate, q1, q2, go_sem, wrap64_id, Int.tdiv_eq_ediv_of_nonneg, Int.tmod_eq_emod_of_nonneg]
        repeat' first
          | ((first | refine fnQ_pure1 ?_ ?_ | refine fnQ_pure0 ?_ ?_); (next => repeat' first | exact rvs_n | refine rvs_t ?_ | (simp [go_sem]; done)); simp only [go_sem]; (first | exact VLe.refl _ | refine VLe_int ?_ | refine VLe_bool ?_ | refine VLe_str ?_ | skip))
          | (with_reducible refine And.intro ?_ ?_)
          | with_reducible intro _
        all_goals first
          | omega
          | (rename_i hx; revert hx; simp; done)
          | (simp; done)
          | skip
      · have q2 : (12 < (ls.length : Int)) = False := eq_false (by omega)
        rw [decide_eq_false g2]
        simp (disch := omega) only [spar, items, itemC, linesV, lineC, List.foldl, List.replicate, q1, q2, go_sem, wrap64_id, Int.tdiv_eq_ediv_of_nonneg, Int.tmod_eq_emod_of_nonneg]
        repeat' first
          | ((first | refine fnQ_pure1 ?_ ?_ | refine fnQ_pure0 ?_ ?_); (next => repeat' first | exact rvs_n | refine rvs_t ?_ | (simp [go_sem]; done)); simp only [go_sem]; (first | exact VLe.refl _ | refine VLe_int ?_ | refine VLe_bool ?_ | refine VLe_str ?_ | skip))
          | (with_reducible refine And.intro ?_ ?_)
          | with_reducible intro _
        all_goals first
          | omega
          | (rename_i hx; revert hx; simp; done)
          | (simp; done)
          | skip
def lineGo (k : Int) : List Ln → Nat → Int × Int → Int × Int
  | [], _, s => s
  | x :: r, i, s => if x.frm ≤ k ∧ k < x.to then lineGo k r (i + 1) ((i : Int) + 1, s.2 + 1) else lineGo k r (i + 1) s
def lineO (ls : List Ln) (k : Int) : Int := if (lineGo k ls 0 (0, 0)).2 ≠ 1 then 0 else (lineGo k ls 0 (0, 0)).1
theorem t65 (ls : List Ln) (k : Int) (h : List AObj) (hls : ls.length ≤ 100000000) : ACalls Tryd.prog 65 [linesV ls, .int .i64 k] h (.int .i64 (lineO ls k)) h := by
  obtain ⟨R, hR⟩ : ∃ R, R = lineGo k ls 0 (0, 0) := ⟨_, rfl⟩
  unfold lineO
  rw [← hR]
  refine acalls_of fn65l (by simp) ?_
  simp only [List.length_cons, List.length_nil, Nat.reduceAdd, Nat.reduceSub, List.replicate, List.cons_append, List.nil_append, List.append_nil]
  simp (disch := omega) only [c65l, linesV, lineC, go_sem, wrap64_id, Int.tdiv_eq_ediv_of_nonneg, Int.tmod_eq_emod_of_nonneg]
  repeat' first
    | ((first | refine fnQ_pure1 ?_ ?_ | refine fnQ_pure0 ?_ ?_); (next => repeat' first | exact rvs_n | refine rvs_t ?_ | (simp [go_sem]; done)); simp only [go_sem]; (first | exact VLe.refl _ | refine VLe_int ?_ | refine VLe_bool ?_ | refine VLe_str ?_ | skip))
    | (with_reducible refine And.intro ?_ ?_)
    | with_reducible intro _
  all_goals first
    | omega
    | (rename_i hx; revert hx; simp; done)
    | (simp; done)
    | skip
  refine loop_of (T := fun i : Nat × Int × Int => spar 37 [(0, linesV ls), (1, .int .i64 k), (5, .int .i64 i.2.1), (6, .int .i64 i.2.2), (7, .int .i64 i.1)]) (H := fun _ => h)
    (inv := fun i => i.1 ≤ ls.length ∧ R = lineGo k (ls.drop i.1) i.1 (i.2.1, i.2.2) ∧ 0 ≤ i.2.2 ∧ i.2.2 ≤ i.1) (m := fun i => ls.length - i.1) (0, 0, 0) ⟨Nat.zero_le _, hR, Int.le_refl _, by simp⟩ (Wk.temps ?_) ?_
  · (simp only [linesV, lineC, spar, List.foldl, List.replicate, go_sem, VLes_nil, VLes_cons, VLe_undef_iff, VLe_self]; try (repeat' first | (with_reducible refine And.intro ?_ ?_) | (refine VLe_int ?_; omega) | (refine VLe_bool ?_; rfl) | exact VLe.refl _))
  rintro ⟨i, a, n⟩ ⟨i1, i2, i3, i4⟩ K hK
  simp only at i1 i2 i3 i4 hK
  by_cases hi : i < ls.length
  · have qi : ((i : Int) < ls.length) = True := eq_true (by omega)
    rw [drop_ln hi, lineGo] at i2
    obtain ⟨x, hx⟩ : ∃ x, x = ls.getD i default := ⟨_, rfl⟩
    have ex := hx.symm
    rw [ex] at i2
    by_cases a1 : x.frm ≤ k
    · have q1 : (x.frm ≤ k) = True := eq_true a1
      by_cases a2 : k < x.to
      · have q2 : (k < x.to) = True := eq_true a2
        rw [if_pos ⟨a1, a2⟩] at i2
        simp (disch := omega) only [spar, linesV, lineC, List.foldl, List.replicate, qi, ex, q1, q2, go_sem, wrap64_id, Int.tdiv_eq_ediv_of_nonneg, Int.tmod_eq_emod_of_nonneg]
        repeat' first
          | ((first | refine fnQ_pure1 ?_ ?_ | refine fnQ_pure0 ?_ ?_); (next => repeat' first | exact rvs_n | refine rvs_t ?_ | (simp [go_sem]; done)); simp only [go_sem]; (first | exact VLe.refl _ | refine VLe_int ?_ | refine VLe_bool ?_ | refine VLe_str ?_ | skip))
          | (with_reducible refine And.intro ?_ ?_)
          | with_reducible intro _
        all_goals first
          | omega
          | (rename_i hx; revert hx; simp; done)
          | (simp; done)
          | skip
        refine hK _ _ (i + 1, (i : Int) + 1, n + 1) ⟨hi, i2, by simp only; omega, by simp only; omega⟩ (by simp only; omega) (Wk.temps ?_)
        (simp only [linesV, lineC, spar, List.foldl, List.replicate, go_sem, VLes_nil, VLes_cons, VLe_undef_iff, VLe_self]; try (repeat' first | (with_reducible refine And.intro ?_ ?_) | (refine VLe_int ?_; omega) | (refine VLe_bool ?_; rfl) | exact VLe.refl _))
      · have q2 : (k < x.to) = False := eq_false a2
        rw [if_neg (by omega)] at i2
        simp (disch := omega) only [spar, linesV, lineC, List.foldl, List.replicate, qi, ex, q1, q2, go_sem, wrap64_id, Int.tdiv_eq_ediv_of_nonneg, Int.tmod_eq_emod_of_nonneg]
        repeat' first
          | ((first | refine fnQ_pure1 ?_ ?_ | refine fnQ_pure0 ?_ ?_); (next => repeat' first | exact rvs_n | refine rvs_t ?_ | (simp [go_sem]; done)); simp only [go_sem]; (first | exact VLe.refl _ | refine VLe_int ?_ | refine VLe_bool ?_ | refine VLe_str ?_ | skip))
          | (with_reducible refine And.intro ?_ ?_)
          | with_reducible intro _
        all_goals first
          | omega
          | (rename_i hx; revert hx; simp; done)
          | (simp; done)
          | skip
        refine hK _ _ (i + 1, a, n) ⟨hi, i2, i3, by simp only; omega⟩ (by simp only; omega) (Wk.temps ?_)
        (simp only [linesV, lineC, spar, List.foldl, List.replicate, go_sem, VLes_nil, VLes_cons, VLe_undef_iff, VLe_self]; try (repeat' first | (with_reducible refine And.intro ?_ ?_) | (refine VLe_int ?_; omega) | (refine VLe_bool ?_; rfl) | exact VLe.refl _))
    · have q1 : (x.frm ≤ k) = False := eq_false a1
      rw [if_neg (by omega)] at i2
      simp (disch := omega) only [spar, linesV, lineC, List.foldl, List.replicate, qi, ex, q1, go_sem, wrap64_id, Int.tdiv_eq_ediv_of_nonneg, Int.tmod_eq_emod_of_nonneg]
      repeat' first
        | ((first | refine fnQ_pure1 ?_ ?_ | refine fnQ_pure0 ?_ ?_); (next => repeat' first | exact rvs_n | refine rvs_t ?_ | (simp [go_sem]; done)); simp only [go_sem]; (first | exact VLe.refl _ | refine VLe_int ?_ | refine VLe_bool ?_ | refine VLe_str ?_ | skip))
        | (with_reducible refine And.intro ?_ ?_)
        | with_reducible intro _
      all_goals first
        | omega
        | (rename_i hx; revert hx; simp; done)
        | (simp; done)
        | skip
      refine hK _ _ (i + 1, a, n) ⟨hi, i2, i3, by simp only; omega⟩ (by simp only; omega) (Wk.temps ?_)
      (simp only [linesV, lineC, spar, List.foldl, List.replicate, go_sem, VLes_nil, VLes_cons, VLe_undef_iff, VLe_self]; try (repeat' first | (with_reducible refine And.intro ?_ ?_) | (refine VLe_int ?_; omega) | (refine VLe_bool ?_; rfl) | exact VLe.refl _))
  · have e : i = ls.length := by omega
    subst e
    rw [List.drop_length, lineGo] at i2
    subst i2
    simp only
    by_cases g : n = 1
    · have q1 : (n = 1) = True := eq_true g
      rw [if_neg (fun hc => hc g)]
      simp (disch := omega) only [spar, linesV, lineC, List.foldl, List.replicate, q1, go_sem, wrap64_id, Int.tdiv_eq_ediv_of_nonneg, Int.tmod_eq_emod_of_nonneg]
      repeat' first
        | ((first | refine fnQ_pure1 ?_ ?_ | refine fnQ_pure0 ?_ ?_); (next => repeat' first | exact rvs_n | refine rvs_t ?_ | (simp [go_sem]; done)); simp only [go_sem]; (first | exact VLe.refl _ | refine VLe_int ?_ | refine VLe_bool ?_ | refine VLe_str ?_ | skip))
        | (with_reducible refine And.intro ?_ ?_)
        | with_reducible intro _
      all_goals first
        | omega
        | (rename_i hx; revert hx; simp; done)
        | (simp; done)
        | skip
    · have q1 : (n = 1) = False := eq_false g
      rw [if_pos g]
      simp (disch := omega) only [spar, linesV, lineC, List.foldl, List.replicate, q1, go_sem, wrap64_id, Int.tdiv_eq_ediv_of_nonneg, Int.tmod_eq_emod_of_nonneg]
      repeat' first
        | ((first | refine fnQ_pure1 ?_ ?_ | refine fnQ_pure0 ?_ ?_); (next => repeat' first | exact rvs_n | refine rvs_t ?_ | (simp [go_sem]; done)); simp only [go_sem]; (first | exact VLe.refl _ | refine VLe_int ?_ | refine VLe_bool ?_ | refine VLe_str ?_ | skip))
        | (with_reducible refine And.intro ?_ ?_)
        | with_reducible intro _
      all_goals first
        | omega
        | (rename_i hx; revert hx; simp; done)
        | (simp; done)
        | skip
end LN
end

section
open Go Go.Proofs AF HY P48
namespace LN
set_option maxRecDepth 100000
theorem lineGo_mono (k : Int) : ∀ (r : List Ln) (i : Nat) (a n : Int), n ≤ (lineGo k r i (a, n)).2 := by
  intro r
  induction r with
  | nil => intro i a n; exact Int.le_refl _
  | cons x r ih =>
    intro i a n
    rw [lineGo]
    split
    · have := ih (i + 1) ((i : Int) + 1) (n + 1)
      simp only
      omega
    · exact ih (i + 1) a n
theorem scan_line (k : Int) : ∀ (r : List Ln) (i : Nat) (a n c : Int), (n = 0 ∧ c = 0 ∨ n = 1 ∧ a = c ∧ 0 < c) →
    match scan k r i c with
    | none => 2 ≤ (lineGo k r i (a, n)).2
    | some d => 0 ≤ d ∧ (d = 0 → (lineGo k r i (a, n)).2 = 0) ∧ (d ≠ 0 → (lineGo k r i (a, n)).2 = 1 ∧ (lineGo k r i (a, n)).1 = d) := by
  intro r
  induction r with
  | nil =>
    intro i a n c h
    rw [scan, lineGo]
    refine ⟨by omega, fun hd => by simp only; omega, fun hd => ⟨by simp only; omega, by simp only; omega⟩⟩
  | cons x r ih =>
    intro i a n c h
    rw [scan, lineGo]
    by_cases g : k < x.frm ∨ x.to ≤ k
    · rw [if_pos g, if_neg (show ¬ (x.frm ≤ k ∧ k < x.to) by omega)]
      exact ih (i + 1) a n c h
    · rw [if_neg g, if_pos (show x.frm ≤ k ∧ k < x.to by omega)]
      by_cases g2 : 0 < c
      · rw [if_pos g2]
        simp only
        have := lineGo_mono k r (i + 1) ((i : Int) + 1) (n + 1)
        omega
      · rw [if_neg g2]
        exact ih (i + 1) _ (n + 1) ((i : Int) + 1) (by omega)
theorem scan_lineO (ls : List Ln) (k : Nat) : match scan k ls 0 0 with
    | none => lineO ls k = 0
    | some d => lineO ls k = d := by
  have h := scan_line k ls 0 0 0 0 (.inl ⟨rfl, rfl⟩)
  cases hs : scan k ls 0 0 with
  | none =>
    rw [hs] at h
    simp only at h ⊢
    unfold lineO
    rw [if_pos (by omega)]
  | some d =>
    rw [hs] at h
    simp only at h ⊢
    obtain ⟨h1, h2, h3⟩ := h
    unfold lineO
    by_cases hd : d = 0
    · rw [if_pos (by have := h2 hd; omega), hd]
    · rw [if_neg (by have := h3 hd; omega)]
      exact (h3 hd).2
theorem lineO_nonneg (ls : List Ln) (k : Nat) : 0 ≤ lineO ls k := by
  have h := scan_line k ls 0 0 0 0 (.inl ⟨rfl, rfl⟩)
  have h2 := scan_lineO ls k
  cases hs : scan k ls 0 0 with
  | none => rw [hs] at h2; simp only at h2; omega
  | some d => rw [hs] at h h2; simp only at h h2; omega
theorem places_box (ls : List Ln) {l : List It} {k : Nat} {last : Int} {out : List Int} (hk : k < l.length) (hb : (it l k).kind = 1) :
    placesGo ls (l.drop k) k last out = if lineO ls k = 0 ∨ lineO ls k < last then none else placesGo ls (l.drop (k + 1)) (k + 1) (lineO ls k) (out.set k (lineO ls k)) := by
  rw [drop_it hk, placesGo, if_neg (fun hc => hc hb)]
  have h2 := scan_lineO ls k
  cases hs : scan k ls 0 0 with
  | none =>
    rw [hs] at h2
    simp only at h2 ⊢
    rw [if_pos (.inl h2)]
  | some d =>
    rw [hs] at h2
    simp only at h2 ⊢
    rw [h2]
theorem places_nobox (ls : List Ln) {l : List It} {k : Nat} {last : Int} {out : List Int} (hk : k < l.length) (hb : (it l k).kind ≠ 1) :
    placesGo ls (l.drop k) k last out = placesGo ls (l.drop (k + 1)) (k + 1) last out := by
  rw [drop_it hk, placesGo, if_pos hb]
def bothD (l : List It) (ls : List Ln) : Nat → Option (List Int × List Int × Int)
  | 0 => some ([], [], 1)
  | k + 1 => match bothD l ls k with
    | none => none
    | some (F, L, b) => if (it l k).kind ≠ 1 then some (F, L, b) else if lineO ls k < b then none else
      if cont l k = true then some (F, L.set (L.length - 1) (lineO ls k), lineO ls k) else some (F ++ [lineO ls k], L ++ [lineO ls k], lineO ls k)
def bothO (l : List It) (ls : List Ln) : Int × List Int × List Int :=
  if check l ≠ 0 then (1, [], []) else if 4096 < ls.length then (4, [], []) else match bothD l ls l.length with
    | none => (9, [], [])
    | some (F, L, _) => (0, F, L)
theorem bothD_none {l : List It} {ls : List Ln} {k : Nat} (h : bothD l ls k = none) : ∀ m, bothD l ls (k + m) = none := by
  intro m
  induction m with
  | zero => exact h
  | succ m ih => show bothD l ls (k + m + 1) = none; rw [bothD, ih]
theorem box_from (l : List It) : ∀ k j, j < k → (it l j).kind = 1 → 0 ≤ (wordsD l k).2.1 := by
  intro k
  induction k with
  | zero => intro j hj; omega
  | succ k ih =>
    intro j hj hb
    rw [wordsD]
    by_cases hk : (it l k).kind = 1
    · rw [if_neg (fun hc => hc hk)]
      by_cases hc : cont l k = true
      · rw [if_pos hc]
        unfold cont at hc
        simp only [Bool.and_eq_true, decide_eq_true_eq] at hc
        exact ih (k - 2) (by omega) hc.2.2.2
      · rw [if_neg hc]
        simp only
        omega
    · rw [if_pos hk]
      rcases Nat.lt_succ_iff_lt_or_eq.1 hj with h | h
      · exact ih j h hb
      · subst h; exact absurd hb hk
def wds (l : List It) (k : Nat) : List (Int × Int) := if 0 ≤ (wordsD l k).2.1 then (wordsD l k).1 ++ [(wordsD l k).2] else (wordsD l k).1
theorem wds_in (l : List It) (k : Nat) : ∀ p ∈ wds l k, 0 ≤ p.1 ∧ p.1 < k ∧ 0 ≤ p.2 ∧ p.2 < k := by
  intro p hp
  obtain ⟨h1, h2⟩ := words_in l k
  unfold wds at hp
  split at hp
  · rename_i hf
    rcases List.mem_append.1 hp with hp | hp
    · exact h1 p hp
    · rw [List.mem_singleton] at hp
      subst hp
      have := h2 hf
      omega
  · exact h1 p hp
def valW (pk : Int → Int → Int) (ws : List (Int × Int)) (out : List Int) : List Int := ws.map fun p => pk (out.getD p.1.toNat 0) (out.getD p.2.toNat 0)
theorem valW_set (pk : Int → Int → Int) {ws : List (Int × Int)} {out : List Int} {k : Nat} {v : Int} (h : ∀ p ∈ ws, 0 ≤ p.1 ∧ p.1 < k ∧ 0 ≤ p.2 ∧ p.2 < k) : valW pk ws (out.set k v) = valW pk ws out := by
  unfold valW
  apply List.map_congr_left
  intro p hp
  have := h p hp
  rw [getD_set, getD_set, if_neg (by rintro ⟨h, _⟩; omega), if_neg (by rintro ⟨h, _⟩; omega)]
theorem set_last {L : List Int} {x y : Int} : (L ++ [x]).set ((L ++ [x]).length - 1) y = L ++ [y] := by
  rw [List.length_append, List.length_singleton, Nat.add_sub_cancel, List.set_append, if_neg (by omega), Nat.sub_self]
  rfl
theorem both_places (l : List It) (ls : List Ln) : ∀ (m k : Nat) (last b : Int) (out F L : List Int), k + m = l.length → out.length = l.length → bothD l ls k = some (F, L, b) →
    (last = 0 ∧ b = 1 ∨ last = b ∧ 1 ≤ b) → F = valW (fun a _ => a) (wds l k) out → L = valW (fun _ c => c) (wds l k) out →
    match placesGo ls (l.drop k) k last out with
    | none => bothD l ls l.length = none
    | some R => ∃ b', bothD l ls l.length = some (valW (fun a _ => a) (wds l l.length) R, valW (fun _ c => c) (wds l l.length) R, b') := by
  intro m
  induction m with
  | zero =>
    intro k last b out F L hk ho hb hl hF hL
    have e : k = l.length := by omega
    subst e
    rw [List.drop_length, placesGo]
    simp only
    exact ⟨b, by rw [hb, hF, hL]⟩
  | succ m ih =>
    intro k last b out F L hk ho hb hl hF hL
    have hkl : k < l.length := by omega
    have hstep : bothD l ls (k + 1) = if (it l k).kind ≠ 1 then some (F, L, b) else if lineO ls k < b then none else
      if cont l k = true then some (F, L.set (L.length - 1) (lineO ls k), lineO ls k) else some (F ++ [lineO ls k], L ++ [lineO ls k], lineO ls k) := by
      rw [bothD, hb]
    by_cases hbx : (it l k).kind = 1
    · rw [places_box ls hkl hbx]
      rw [if_neg (fun hc => hc hbx)] at hstep
      have hn := lineO_nonneg ls k
      obtain ⟨v, hv⟩ : ∃ v, v = lineO ls k := ⟨_, rfl⟩
      rw [← hv] at hstep hn ⊢
      by_cases hc : v = 0 ∨ v < last
      · rw [if_pos hc]
        rw [if_pos (by omega)] at hstep
        simp only
        have := bothD_none hstep m
        rwa [show k + 1 + m = l.length by omega] at this
      · rw [if_neg hc]
        rw [if_neg (by omega)] at hstep
        have hin := wds_in l k
        have hgv : (out.set k v).getD k 0 = v := by rw [getD_set, if_pos ⟨rfl, by omega⟩]
        by_cases hct : cont l k = true
        · rw [if_pos hct] at hstep
          have hfr : 0 ≤ (wordsD l k).2.1 := by
            have hct2 := hct
            unfold cont at hct2
            simp only [Bool.and_eq_true, decide_eq_true_eq] at hct2
            exact box_from l k (k - 2) (by omega) hct2.2.2.2
          have hw : wds l k = (wordsD l k).1 ++ [(wordsD l k).2] := by unfold wds; rw [if_pos hfr]
          have hw2 : wds l (k + 1) = (wordsD l k).1 ++ [((wordsD l k).2.1, (k : Int))] := by
            have hs : wordsD l (k + 1) = ((wordsD l k).1, (wordsD l k).2.1, (k : Int)) := by rw [wordsD, if_neg (fun hc => hc hbx), if_pos hct]
            unfold wds
            rw [hs]
            simp only
            rw [if_pos hfr]
          rw [hw] at hin hF hL
          have hin1 : ∀ p ∈ (wordsD l k).1, 0 ≤ p.1 ∧ p.1 < k ∧ 0 ≤ p.2 ∧ p.2 < k := fun p hp => hin p (List.mem_append.2 (.inl hp))
          have hin2 := hin (wordsD l k).2 (List.mem_append.2 (.inr (List.mem_singleton.2 rfl)))
          refine ih (k + 1) v v (out.set k v) F (L.set (L.length - 1) v) (by omega) (by simp [ho]) hstep (.inr ⟨rfl, by omega⟩) ?_ ?_
          · rw [hw2, hF]
            unfold valW
            rw [List.map_append, List.map_append]
            have e1 := valW_set (fun a _ => a) (out := out) (v := v) hin1
            unfold valW at e1
            rw [e1]
            simp only [List.map_cons, List.map_nil]
            rw [getD_set, if_neg (by rintro ⟨h, _⟩; omega)]
          · rw [hw2, hL]
            unfold valW
            rw [List.map_append, List.map_append]
            have e1 := valW_set (fun _ c => c) (out := out) (v := v) hin1
            unfold valW at e1
            rw [e1]
            simp only [List.map_cons, List.map_nil]
            rw [set_last, Int.toNat_natCast, hgv]
        · rw [if_neg hct] at hstep
          have hw2 : wds l (k + 1) = wds l k ++ [((k : Int), (k : Int))] := by
            have hs : wordsD l (k + 1) = (if 0 ≤ (wordsD l k).2.1 then (wordsD l k).1 ++ [(wordsD l k).2] else (wordsD l k).1, (k : Int), (k : Int)) := by rw [wordsD, if_neg (fun hc => hc hbx), if_neg hct]
            unfold wds
            rw [hs]
            simp only
            rw [if_pos (show (0 : Int) ≤ (k : Int) by omega)]
          refine ih (k + 1) v v (out.set k v) (F ++ [v]) (L ++ [v]) (by omega) (by simp [ho]) hstep (.inr ⟨rfl, by omega⟩) ?_ ?_
          · rw [hw2, hF]
            have e1 := valW_set (fun a _ => a) (out := out) (v := v) hin
            unfold valW at e1 ⊢
            rw [List.map_append, e1]
            simp only [List.map_cons, List.map_nil]
            rw [Int.toNat_natCast, hgv]
          · rw [hw2, hL]
            have e1 := valW_set (fun _ c => c) (out := out) (v := v) hin
            unfold valW at e1 ⊢
            rw [List.map_append, e1]
            simp only [List.map_cons, List.map_nil]
            rw [Int.toNat_natCast, hgv]
    · rw [places_nobox ls hkl hbx]
      rw [if_pos hbx] at hstep
      have hw2 : wds l (k + 1) = wds l k := by
        unfold wds
        rw [wordsD, if_pos hbx]
      exact ih (k + 1) last b out F L (by omega) ho hstep hl (by rw [hw2]; exact hF) (by rw [hw2]; exact hL)
theorem both_nums (l : List It) (ls : List Ln) : bothO l ls = ((numsO (fun a _ => a) l ls).1, (numsO (fun a _ => a) l ls).2, (numsO (fun _ b => b) l ls).2) ∧ (numsO (fun _ b => b) l ls).1 = (numsO (fun a _ => a) l ls).1 := by
  unfold bothO numsO
  by_cases g1 : check l ≠ 0
  · rw [if_pos g1, if_pos g1, if_pos g1]
    exact ⟨rfl, rfl⟩
  rw [if_neg g1, if_neg g1, if_neg g1]
  by_cases g2 : 4096 < ls.length
  · rw [if_pos g2, if_pos g2, if_pos g2]
    exact ⟨rfl, rfl⟩
  rw [if_neg g2, if_neg g2, if_neg g2]
  have h := both_places l ls l.length 0 0 1 (List.replicate l.length 0) [] [] (by omega) (by simp) rfl (.inl ⟨rfl, rfl⟩) (by simp [wds, wordsD, valW]) (by simp [wds, wordsD, valW])
  have e0 : placesGo ls (l.drop 0) 0 0 (List.replicate l.length 0) = placesO l ls := rfl
  rw [e0] at h
  cases ho : placesO l ls with
  | none =>
    rw [ho] at h
    simp only at h
    rw [h]
    exact ⟨rfl, rfl⟩
  | some R =>
    rw [ho] at h
    simp only at h
    obtain ⟨b', h⟩ := h
    rw [h]
    exact ⟨rfl, rfl⟩
end LN
end

section
open Go Go.Proofs AF HY P48
namespace LN
set_option maxRecDepth 100000
theorem bothD_inv (l : List It) (ls : List Ln) : ∀ (k : Nat) (F L : List Int) (b : Int), bothD l ls k = some (F, L, b) → L.length = F.length ∧ F.length ≤ k ∧ ∀ j, j < k → (it l j).kind = 1 → 0 < L.length := by
  intro k
  induction k with
  | zero => intro F L b h; cases h; exact ⟨rfl, Nat.le_refl _, fun j hj => by omega⟩
  | succ k ih =>
    intro F L b h
    rw [bothD] at h
    cases hb : bothD l ls k with
    | none => rw [hb] at h; cases h
    | some s =>
      obtain ⟨F0, L0, b0⟩ := s
      rw [hb] at h
      obtain ⟨h1, h2, h3⟩ := ih F0 L0 b0 hb
      simp only at h
      split at h
      · rename_i hk
        cases h
        refine ⟨h1, by omega, fun j hj hb' => ?_⟩
        rcases Nat.lt_succ_iff_lt_or_eq.1 hj with g | g
        · exact h3 j g hb'
        · subst g; exact absurd hb' hk
      · split at h
        · cases h
        · split at h
          · rename_i hc
            cases h
            unfold cont at hc
            simp only [Bool.and_eq_true, decide_eq_true_eq] at hc
            have := h3 (k - 2) (by omega) hc.2.2.2
            exact ⟨by simpa using h1, by omega, fun j _ _ => by simpa using this⟩
          · cases h
            exact ⟨by simp [h1], by simp; omega, fun j _ _ => by simp⟩
set_option maxHeartbeats 8000000 in
theorem t40 (l : List It) (ls : List Ln) (h : List AObj) (hl : l.length ≤ 100000) (hls : ls.length ≤ 100000) :
    ACalls Tryd.prog 40 [items l, linesV ls] h (.tup [intsV (bothO l ls).2.1, intsV (bothO l ls).2.2, .int .i64 (bothO l ls).1]) h := by
  have c64 := fun h => p64 l h (by omega)
  obtain ⟨R, hR⟩ : ∃ R, R = bothO l ls := ⟨_, rfl⟩
  rw [← hR]
  obtain ⟨e, he⟩ : ∃ e, e = check l := ⟨_, rfl⟩
  rw [← he] at c64
  by_cases g1 : e = 0
  · have k1 : (e = 0) = True := eq_true g1
    by_cases g2 : 4096 < ls.length
    · have k2 : (4096 < (ls.length : Int)) = True := eq_true (by omega)
      have hV : R = (4, [], []) := by rw [hR]; unfold bothO; rw [if_neg (by rw [← he]; exact fun hc => hc g1), if_pos g2]
      rw [hV]
      refine acalls_of fn40l (by simp) ?_
      simp only [List.length_cons, List.length_nil, Nat.reduceAdd, Nat.reduceSub, List.replicate, List.cons_append, List.nil_append, List.append_nil]
      simp (disch := omega) only [c40l, k1, k2, linesV, intsV, madeA, go_sem, wrap64_id, Int.tdiv_eq_ediv_of_nonneg, Int.tmod_eq_emod_of_nonneg]
      repeat' first
        | ((first | refine callA_pure (c64 _) ?_ ?_); (next => repeat' first | exact flags_n | refine flags_c (by first | rfl | assumption) ?_); simp (disch := omega) only [k1, k2, linesV, intsV, madeA, go_sem, wrap64_id, Int.tdiv_eq_ediv_of_nonneg, Int.tmod_eq_emod_of_nonneg])
        | ((first | refine callU_of (fun _ => c64 _) ?_ ?_); (next => repeat' first | exact flags_n | refine flags_c (by first | rfl | assumption) ?_); simp (disch := omega) only [k1, k2, linesV, intsV, madeA, go_sem, wrap64_id, Int.tdiv_eq_ediv_of_nonneg, Int.tmod_eq_emod_of_nonneg])
        | ((first | refine callG_pure (fun e => ⟨?_, c64 _⟩) ?_); (next => repeat' first | exact flags_n | refine flags_c (by first | rfl | assumption) ?_); simp (disch := omega) only [k1, k2, linesV, intsV, madeA, go_sem, wrap64_id, Int.tdiv_eq_ediv_of_nonneg, Int.tmod_eq_emod_of_nonneg])
        | ((first | refine fnQ_pure1 ?_ ?_ | refine fnQ_pure0 ?_ ?_); (next => repeat' first | exact rvs_n | refine rvs_t ?_ | (simp [go_sem]; done)); simp only [go_sem]; (first | exact VLe.refl _ | refine VLe_int ?_ | refine VLe_bool ?_ | refine VLe_str ?_ | skip))
        | (with_reducible refine And.intro ?_ ?_)
        | with_reducible intro _
      all_goals first
        | omega
        | (rename_i hx; revert hx; simp; done)
        | (simp; done)
        | skip
      all_goals exact VLe_tup ⟨sl0_ints, sl0_ints, VLe.refl _, trivial⟩
    have k2 : (4096 < (ls.length : Int)) = False := eq_false (by omega)
    have hV : R = match bothD l ls l.length with
      | none => (9, [], [])
      | some (F, L, _) => (0, F, L) := by rw [hR]; unfold bothO; rw [if_neg (by rw [← he]; exact fun hc => hc g1), if_neg g2] <;> rfl
    refine acalls_of fn40l (by simp) ?_
    simp only [List.length_cons, List.length_nil, Nat.reduceAdd, Nat.reduceSub, List.replicate, List.cons_append, List.nil_append, List.append_nil]
    simp (disch := omega) only [c40l, k1, k2, items, itemC, linesV, lineC, intsV, madeA, go_sem, wrap64_id, Int.tdiv_eq_ediv_of_nonneg, Int.tmod_eq_emod_of_nonneg]
    repeat' first
      | ((first | refine callA_pure (c64 _) ?_ ?_); (next => repeat' first | exact flags_n | refine flags_c (by first | rfl | assumption) ?_); simp (disch := omega) only [k1, k2, items, itemC, linesV, lineC, intsV, madeA, go_sem, wrap64_id, Int.tdiv_eq_ediv_of_nonneg, Int.tmod_eq_emod_of_nonneg])
      | ((first | refine callU_of (fun _ => c64 _) ?_ ?_); (next => repeat' first | exact flags_n | refine flags_c (by first | rfl | assumption) ?_); simp (disch := omega) only [k1, k2, items, itemC, linesV, lineC, intsV, madeA, go_sem, wrap64_id, Int.tdiv_eq_ediv_of_nonneg, Int.tmod_eq_emod_of_nonneg])
      | ((first | refine callG_pure (fun e => ⟨?_, c64 _⟩) ?_); (next => repeat' first | exact flags_n | refine flags_c (by first | rfl | assumption) ?_); simp (disch := omega) only [k1, k2, items, itemC, linesV, lineC, intsV, madeA, go_sem, wrap64_id, Int.tdiv_eq_ediv_of_nonneg, Int.tmod_eq_emod_of_nonneg])
      | ((first | refine fnQ_pure1 ?_ ?_ | refine fnQ_pure0 ?_ ?_); (next => repeat' first | exact rvs_n | refine rvs_t ?_ | (simp [go_sem]; done)); simp only [go_sem]; (first | exact VLe.refl _ | refine VLe_int ?_ | refine VLe_bool ?_ | refine VLe_str ?_ | skip))
      | (with_reducible refine And.intro ?_ ?_)
      | with_reducible intro _
    all_goals first
      | omega
      | (rename_i hx; revert hx; simp; done)
      | (simp; done)
      | skip
    refine loop_of (T := fun i : Nat × Int × List Int × List Int × Nat × Nat × AObj × AObj => spar 90 [(0, items l), (1, linesV ls), (7, .osl (h.length + 6) i.2.2.2.2.1 1 0 i.2.2.1.length), (8, .osl (h.length + 7) i.2.2.2.2.2.1 1 0 i.2.2.2.1.length), (9, .int .i64 i.2.1), (10, .int .i64 i.1)])
      (H := fun i => h ++ [.emp 1, .emp 1, .emp 0, .emp 0, .emp 0, .emp 0, .mem i.2.2.2.2.1 3 (intsC i.2.2.1), .mem i.2.2.2.2.2.1 3 (intsC i.2.2.2.1), .emp 0, .emp 0, i.2.2.2.2.2.2.1, .emp 0, i.2.2.2.2.2.2.2, .emp 0])
      (inv := fun i => i.1 ≤ l.length ∧ bothD l ls i.1 = some (i.2.2.1, i.2.2.2.1, i.2.1) ∧ site [i.2.2.2.2.2.2.1] 0 = true ∧ site [i.2.2.2.2.2.2.2] 0 = true) (m := fun i => l.length - i.1)
      (0, 1, [], [], 1, 1, .emp 0, .emp 0) ⟨Nat.zero_le _, rfl, rfl, rfl⟩ (Wk.temps ?_) ?_
    · (simp only [items, itemC, linesV, lineC, spar, List.foldl, List.replicate, go_sem, VLes_nil, VLes_cons, VLe_undef_iff, VLe_self]; try (repeat' first | (with_reducible refine And.intro ?_ ?_) | (refine VLe_int ?_; omega) | (refine VLe_bool ?_; rfl) | exact VLe.refl _))
    rintro ⟨k, b, F, L, vF, vL, O1, O2⟩ ⟨i1, i2, i3, i4⟩ K hK
    simp only at i1 i2 i3 i4 hK
    have i3' : ∀ m, site (O1 :: m) 0 = true := fun _ => i3
    have i4' : ∀ m, site (O2 :: m) 0 = true := fun _ => i4
    obtain ⟨n1, n2, n3⟩ := bothD_inv l ls k F L b i2
    have eF := intsC_len F
    have eL := intsC_len L
    have eTF : List.take F.length (intsC F) = intsC F := List.take_of_length_le (by omega)
    have eTL : List.take L.length (intsC L) = intsC L := List.take_of_length_le (by omega)
    by_cases hi : k < l.length
    · have q0 : ((k : Int) < l.length) = True := eq_true (by omega)
      have hstep : bothD l ls (k + 1) = if (it l k).kind ≠ 1 then some (F, L, b) else if lineO ls k < b then none else
          if cont l k = true then some (F, L.set (L.length - 1) (lineO ls k), lineO ls k) else some (F ++ [lineO ls k], L ++ [lineO ls k], lineO ls k) := by
        rw [bothD, i2]
      by_cases hk : (it l k).kind = 1
      · have q1 : ((it l k).kind = 1) = True := eq_true hk
        rw [if_neg (fun hc => hc hk)] at hstep
        have c65 := fun h => t65 ls (k : Int) h (by omega)
        obtain ⟨v, hv⟩ : ∃ v, v = lineO ls (k : Int) := ⟨_, rfl⟩
        rw [← hv] at c65 hstep
        by_cases g3 : v < b
        · have q2 : (v < b) = True := eq_true g3
          rw [if_pos g3] at hstep
          have hN := bothD_none hstep (l.length - (k + 1))
          rw [show k + 1 + (l.length - (k + 1)) = l.length by omega] at hN
          rw [hN] at hV
          simp only at hV
          rw [hV]
          simp (disch := omega) only [spar, items, itemC, linesV, lineC, intsV, madeA, List.foldl, List.replicate, q0, q1, q2, go_sem, wrap64_id, Int.tdiv_eq_ediv_of_nonneg, Int.tmod_eq_emod_of_nonneg]
          repeat' first
            | ((first | refine callA_pure (c65 _) ?_ ?_); (next => repeat' first | exact flags_n | refine flags_c (by first | rfl | assumption) ?_); simp (disch := omega) only [items, itemC, linesV, lineC, intsV, madeA, q0, q1, q2, go_sem, wrap64_id, Int.tdiv_eq_ediv_of_nonneg, Int.tmod_eq_emod_of_nonneg])
            | ((first | refine callU_of (fun _ => c65 _) ?_ ?_); (next => repeat' first | exact flags_n | refine flags_c (by first | rfl | assumption) ?_); simp (disch := omega) only [items, itemC, linesV, lineC, intsV, madeA, q0, q1, q2, go_sem, wrap64_id, Int.tdiv_eq_ediv_of_nonneg, Int.tmod_eq_emod_of_nonneg])
            | ((first | refine callG_pure (fun e => ⟨?_, c65 _⟩) ?_); (next => repeat' first | exact flags_n | refine flags_c (by first | rfl | assumption) ?_); simp (disch := omega) only [items, itemC, linesV, lineC, intsV, madeA, q0, q1, q2, go_sem, wrap64_id, Int.tdiv_eq_ediv_of_nonneg, Int.tmod_eq_emod_of_nonneg])
            | ((first | refine fnQ_pure1 ?_ ?_ | refine fnQ_pure0 ?_ ?_); (next => repeat' first | exact rvs_n | refine rvs_t ?_ | (simp [go_sem]; done)); simp only [go_sem]; (first | exact VLe.refl _ | refine VLe_int ?_ | refine VLe_bool ?_ | refine VLe_str ?_ | skip))
            | (with_reducible refine And.intro ?_ ?_)
            | with_reducible intro _
          all_goals first
            | omega
            | (rename_i hx; revert hx; simp; done)
            | (simp; done)
            | skip
          all_goals exact VLe_tup ⟨sl0_ints, sl0_ints, VLe.refl _, trivial⟩
        have q2 : (v < b) = False := eq_false g3
        rw [if_neg g3] at hstep
        by_cases hc : cont l k = true
        · rw [if_pos hc] at hstep
          unfold cont at hc
          simp only [Bool.and_eq_true, decide_eq_true_eq] at hc
          obtain ⟨c1, c2, c3, c4⟩ := hc
          have hLp := n3 (k - 2) (by omega) c4
          rw [show (k - 1 : Nat) = ((k : Int) - 1).toNat by omega] at c2 c3
          rw [show (k - 2 : Nat) = ((k : Int) - 2).toNat by omega] at c4
          have r1 : (1 < (k : Int)) = True := eq_true (by omega)
          have r2 : ((it l ((k : Int) - 1).toNat).kind = 3) = True := eq_true c2
          have r3 : ((it l ((k : Int) - 1).toNat).penalty = -10000) = False := eq_false c3
          have r4 : ((it l ((k : Int) - 2).toNat).kind = 1) = True := eq_true c4
          have eS := intsC_set L (a := L.length - 1) v (by omega)
          have rt : ((L.length : Int) - 1).toNat = L.length - 1 := by omega
          simp (disch := omega) only [spar, items, itemC, linesV, lineC, intsV, madeA, List.foldl, List.replicate, i3', i4', eF, eL, eTF, eTL, q0, q1, q2, r1, r2, r3, r4, go_sem, wrap64_id, Int.tdiv_eq_ediv_of_nonneg, Int.tmod_eq_emod_of_nonneg]
          repeat' first
            | ((first | refine callA_pure (c65 _) ?_ ?_); (next => repeat' first | exact flags_n | refine flags_c (by first | rfl | assumption) ?_); simp (disch := omega) only [items, itemC, linesV, lineC, intsV, madeA, i3', i4', eF, eL, eTF, eTL, q0, q1, q2, r1, r2, r3, r4, rt, go_sem, wrap64_id, Int.tdiv_eq_ediv_of_nonneg, Int.tmod_eq_emod_of_nonneg])
            | ((first | refine callU_of (fun _ => c65 _) ?_ ?_); (next => repeat' first | exact flags_n | refine flags_c (by first | rfl | assumption) ?_); simp (disch := omega) only [items, itemC, linesV, lineC, intsV, madeA, i3', i4', eF, eL, eTF, eTL, q0, q1, q2, r1, r2, r3, r4, rt, go_sem, wrap64_id, Int.tdiv_eq_ediv_of_nonneg, Int.tmod_eq_emod_of_nonneg])
            | ((first | refine callG_pure (fun e => ⟨?_, c65 _⟩) ?_); (next => repeat' first | exact flags_n | refine flags_c (by first | rfl | assumption) ?_); simp (disch := omega) only [items, itemC, linesV, lineC, intsV, madeA, i3', i4', eF, eL, eTF, eTL, q0, q1, q2, r1, r2, r3, r4, rt, go_sem, wrap64_id, Int.tdiv_eq_ediv_of_nonneg, Int.tmod_eq_emod_of_nonneg])
            | ((first | refine fnQ_pure1 ?_ ?_ | refine fnQ_pure0 ?_ ?_); (next => repeat' first | exact rvs_n | refine rvs_t ?_ | (simp [go_sem]; done)); simp only [go_sem]; (first | exact VLe.refl _ | refine VLe_int ?_ | refine VLe_bool ?_ | refine VLe_str ?_ | skip))
            | (with_reducible refine And.intro ?_ ?_)
            | with_reducible intro _
          all_goals first
            | omega
            | (rename_i hx; revert hx; simp; done)
            | (simp; done)
            | skip
          first
            | rw [eS]
            | rw [rt, eS]
            | skip
          refine hK _ _ (k + 1, v, F, L.set (L.length - 1) v, vF, vL, O1, O2) ⟨hi, hstep, i3, i4⟩ (by simp only; omega) ?_
          simp only
          rw [List.length_set]
          refine Wk.temps ?_
          (simp only [items, itemC, linesV, lineC, spar, List.foldl, List.replicate, go_sem, VLes_nil, VLes_cons, VLe_undef_iff, VLe_self]; try (repeat' first | (with_reducible refine And.intro ?_ ?_) | (refine VLe_int ?_; omega) | (refine VLe_bool ?_; rfl) | exact VLe.refl _))
        · rw [if_neg hc] at hstep
          have hsF : intsC (F ++ [v]) = intsC F ++ [.int .i64 v] := by rw [intsC_snoc]
          have hsL : intsC (L ++ [v]) = intsC L ++ [.int .i64 v] := by rw [intsC_snoc]
          simp (disch := omega) only [spar, items, itemC, linesV, lineC, intsV, madeA, List.foldl, List.replicate, i3', i4', eF, eL, eTF, eTL, q0, q1, q2, go_sem, wrap64_id, Int.tdiv_eq_ediv_of_nonneg, Int.tmod_eq_emod_of_nonneg]
          repeat' first
            | ((first | refine callA_pure (c65 _) ?_ ?_); (next => repeat' first | exact flags_n | refine flags_c (by first | rfl | assumption) ?_); simp (disch := omega) only [items, itemC, linesV, lineC, intsV, madeA, i3', i4', eF, eL, eTF, eTL, q0, q1, q2, go_sem, wrap64_id, Int.tdiv_eq_ediv_of_nonneg, Int.tmod_eq_emod_of_nonneg])
            | ((first | refine callU_of (fun _ => c65 _) ?_ ?_); (next => repeat' first | exact flags_n | refine flags_c (by first | rfl | assumption) ?_); simp (disch := omega) only [items, itemC, linesV, lineC, intsV, madeA, i3', i4', eF, eL, eTF, eTL, q0, q1, q2, go_sem, wrap64_id, Int.tdiv_eq_ediv_of_nonneg, Int.tmod_eq_emod_of_nonneg])
            | ((first | refine callG_pure (fun e => ⟨?_, c65 _⟩) ?_); (next => repeat' first | exact flags_n | refine flags_c (by first | rfl | assumption) ?_); simp (disch := omega) only [items, itemC, linesV, lineC, intsV, madeA, i3', i4', eF, eL, eTF, eTL, q0, q1, q2, go_sem, wrap64_id, Int.tdiv_eq_ediv_of_nonneg, Int.tmod_eq_emod_of_nonneg])
            | ((first | refine fnQ_pure1 ?_ ?_ | refine fnQ_pure0 ?_ ?_); (next => repeat' first | exact rvs_n | refine rvs_t ?_ | (simp [go_sem]; done)); simp only [go_sem]; (first | exact VLe.refl _ | refine VLe_int ?_ | refine VLe_bool ?_ | refine VLe_str ?_ | skip))
            | (with_reducible refine And.intro ?_ ?_)
            | with_reducible intro _
          all_goals first
            | omega
            | (rename_i hx; revert hx; simp; done)
            | (simp; done)
            | skip
          all_goals try
            (exfalso
             apply hc
             unfold cont
             simp only [Bool.and_eq_true, decide_eq_true_eq]
             rename_i a1
             rw [show (k - 1 : Nat) = ((k : Int) - 1).toNat by omega, show (k - 2 : Nat) = ((k : Int) - 2).toNat by omega]
             exact ⟨by omega, a1.1.1.2, a1.1.2, a1.2⟩)
          · refine hK _ _ (k + 1, v, F ++ [v], L ++ [v], vF + 1, vL + 1, .mem (verOf (some O1) + 1) 3 (AV.int IntKind.i64 v :: List.drop 1 (madeA [AV.int IntKind.i64 0] 1)), .mem (verOf (some O2) + 1) 3 (AV.int IntKind.i64 v :: List.drop 1 (madeA [AV.int IntKind.i64 0] 1))) ⟨hi, hstep, rfl, rfl⟩ (by simp only; omega) ?_
            simp only
            rw [hsF, hsL, List.length_append, List.length_singleton, List.length_append, List.length_singleton]
            refine Wk.temps ?_
            (simp only [items, itemC, linesV, lineC, spar, List.foldl, List.replicate, go_sem, VLes_nil, VLes_cons, VLe_undef_iff, VLe_self]; try (repeat' first | (with_reducible refine And.intro ?_ ?_) | (refine VLe_int ?_; omega) | (refine VLe_bool ?_; rfl) | exact VLe.refl _))
      · have q1 : ((it l k).kind = 1) = False := eq_false hk
        rw [if_pos hk] at hstep
        simp (disch := omega) only [spar, items, itemC, linesV, lineC, intsV, madeA, List.foldl, List.replicate, i3', i4', q0, q1, go_sem, wrap64_id, Int.tdiv_eq_ediv_of_nonneg, Int.tmod_eq_emod_of_nonneg]
        repeat' first
          | ((first | refine fnQ_pure1 ?_ ?_ | refine fnQ_pure0 ?_ ?_); (next => repeat' first | exact rvs_n | refine rvs_t ?_ | (simp [go_sem]; done)); simp only [go_sem]; (first | exact VLe.refl _ | refine VLe_int ?_ | refine VLe_bool ?_ | refine VLe_str ?_ | skip))
          | (with_reducible refine And.intro ?_ ?_)
          | with_reducible intro _
        all_goals first
          | omega
          | (rename_i hx; revert hx; simp; done)
          | (simp; done)
          | skip
        refine hK _ _ (k + 1, b, F, L, vF, vL, O1, O2) ⟨hi, hstep, i3, i4⟩ (by simp only; omega) (Wk.temps ?_)
        (simp only [items, itemC, linesV, lineC, spar, List.foldl, List.replicate, go_sem, VLes_nil, VLes_cons, VLe_undef_iff, VLe_self]; try (repeat' first | (with_reducible refine And.intro ?_ ?_) | (refine VLe_int ?_; omega) | (refine VLe_bool ?_; rfl) | exact VLe.refl _))
    · have e : k = l.length := by omega
      subst e
      rw [i2] at hV
      simp only at hV
      rw [hV]
      simp (disch := omega) only [spar, items, itemC, linesV, lineC, intsV, List.foldl, List.replicate, go_sem, wrap64_id, Int.tdiv_eq_ediv_of_nonneg, Int.tmod_eq_emod_of_nonneg]
      repeat' first
        | ((first | refine fnQ_pure1 ?_ ?_ | refine fnQ_pure0 ?_ ?_); (next => repeat' first | exact rvs_n | refine rvs_t ?_ | (simp [go_sem]; done)); simp only [go_sem]; (first | exact VLe.refl _ | refine VLe_int ?_ | refine VLe_bool ?_ | refine VLe_str ?_ | skip))
        | (with_reducible refine And.intro ?_ ?_)
        | with_reducible intro _
      all_goals first
        | omega
        | (rename_i hx; revert hx; simp; done)
        | (simp; done)
        | skip
      rw [if_pos (by omega), if_pos (by omega)]
      exact VLe_tup ⟨intsV_of rfl, intsV_of rfl, VLe.refl _, trivial⟩
  · have k1 : (e = 0) = False := eq_false g1
    have hV : R = (1, [], []) := by rw [hR]; unfold bothO; rw [if_pos (by rw [← he]; exact g1)]
    rw [hV]
    refine acalls_of fn40l (by simp) ?_
    simp only [List.length_cons, List.length_nil, Nat.reduceAdd, Nat.reduceSub, List.replicate, List.cons_append, List.nil_append, List.append_nil]
    simp (disch := omega) only [c40l, k1, intsV, madeA, go_sem, wrap64_id, Int.tdiv_eq_ediv_of_nonneg, Int.tmod_eq_emod_of_nonneg]
    repeat' first
      | ((first | refine callA_pure (c64 _) ?_ ?_); (next => repeat' first | exact flags_n | refine flags_c (by first | rfl | assumption) ?_); simp (disch := omega) only [k1, intsV, madeA, go_sem, wrap64_id, Int.tdiv_eq_ediv_of_nonneg, Int.tmod_eq_emod_of_nonneg])
      | ((first | refine callU_of (fun _ => c64 _) ?_ ?_); (next => repeat' first | exact flags_n | refine flags_c (by first | rfl | assumption) ?_); simp (disch := omega) only [k1, intsV, madeA, go_sem, wrap64_id, Int.tdiv_eq_ediv_of_nonneg, Int.tmod_eq_emod_of_nonneg])
      | ((first | refine callG_pure (fun e => ⟨?_, c64 _⟩) ?_); (next => repeat' first | exact flags_n | refine flags_c (by first | rfl | assumption) ?_); simp (disch := omega) only [k1, intsV, madeA, go_sem, wrap64_id, Int.tdiv_eq_ediv_of_nonneg, Int.tmod_eq_emod_of_nonneg])
      | ((first | refine fnQ_pure1 ?_ ?_ | refine fnQ_pure0 ?_ ?_); (next => repeat' first | exact rvs_n | refine rvs_t ?_ | (simp [go_sem]; done)); simp only [go_sem]; (first | exact VLe.refl _ | refine VLe_int ?_ | refine VLe_bool ?_ | refine VLe_str ?_ | skip))
      | (with_reducible refine And.intro ?_ ?_)
      | with_reducible intro _
    all_goals first
      | omega
      | (rename_i hx; revert hx; simp; done)
      | (simp; done)
      | skip
    all_goals exact VLe_tup ⟨sl0_ints, sl0_ints, VLe.refl _, trivial⟩
end LN
end

section
open Go Go.Proofs AF HY P48
namespace LN
set_option maxRecDepth 100000
theorem t13 (l : List It) (ls : List Ln) (h : List AObj) (hl : l.length ≤ 100000) (hls : ls.length ≤ 100000) : ACalls Tryd.prog 13 [items l, linesV ls] h (.tup [intsV (numsO (fun a _ => a) l ls).2, .int .i64 (numsO (fun a _ => a) l ls).1]) h := by
  have c40 := fun h => t40 l ls h hl hls
  rw [(both_nums l ls).1] at c40
  simp only at c40
  obtain ⟨A, hA⟩ : ∃ A, A = (numsO (fun a _ => a) l ls).2 := ⟨_, rfl⟩
  obtain ⟨B, hB⟩ : ∃ B, B = (numsO (fun _ b => b) l ls).2 := ⟨_, rfl⟩
  obtain ⟨e, he⟩ : ∃ e, e = (numsO (fun a _ => a) l ls).1 := ⟨_, rfl⟩
  rw [← hA, ← he, ← hB] at c40
  rw [← hA, ← he]
  refine acalls_of fn13l (by simp) ?_
  simp only [List.length_cons, List.length_nil, Nat.reduceAdd, Nat.reduceSub, List.replicate, List.cons_append, List.nil_append, List.append_nil]
  simp (disch := omega) only [c13l, linesV, go_sem, wrap64_id, Int.tdiv_eq_ediv_of_nonneg, Int.tmod_eq_emod_of_nonneg]
  repeat' first
    | ((first | refine callA_pure (c40 _) ?_ ?_); (next => repeat' first | exact flags_n | refine flags_c (by first | rfl | assumption) ?_); simp (disch := omega) only [linesV, go_sem, wrap64_id, Int.tdiv_eq_ediv_of_nonneg, Int.tmod_eq_emod_of_nonneg])
    | ((first | refine callU_of (fun _ => c40 _) ?_ ?_); (next => repeat' first | exact flags_n | refine flags_c (by first | rfl | assumption) ?_); simp (disch := omega) only [linesV, go_sem, wrap64_id, Int.tdiv_eq_ediv_of_nonneg, Int.tmod_eq_emod_of_nonneg])
    | ((first | refine callG_pure (fun e => ⟨?_, c40 _⟩) ?_); (next => repeat' first | exact flags_n | refine flags_c (by first | rfl | assumption) ?_); simp (disch := omega) only [linesV, go_sem, wrap64_id, Int.tdiv_eq_ediv_of_nonneg, Int.tmod_eq_emod_of_nonneg])
    | ((first | refine fnQ_pure1 ?_ ?_ | refine fnQ_pure0 ?_ ?_); (next => repeat' first | exact rvs_n | refine rvs_t ?_ | (simp [go_sem]; done)); simp only [go_sem]; (first | exact VLe.refl _ | refine VLe_int ?_ | refine VLe_bool ?_ | refine VLe_str ?_ | skip))
    | (with_reducible refine And.intro ?_ ?_)
    | with_reducible intro _
  all_goals first
    | omega
    | (rename_i hx; revert hx; simp; done)
    | (simp; done)
    | skip
theorem t15 (l : List It) (ls : List Ln) (h : List AObj) (hl : l.length ≤ 100000) (hls : ls.length ≤ 100000) : ACalls Tryd.prog 15 [items l, linesV ls] h (.tup [intsV (numsO (fun _ b => b) l ls).2, .int .i64 (numsO (fun _ b => b) l ls).1]) h := by
  have c40 := fun h => t40 l ls h hl hls
  rw [(both_nums l ls).1] at c40
  simp only at c40
  rw [(both_nums l ls).2]
  obtain ⟨A, hA⟩ : ∃ A, A = (numsO (fun a _ => a) l ls).2 := ⟨_, rfl⟩
  obtain ⟨B, hB⟩ : ∃ B, B = (numsO (fun _ b => b) l ls).2 := ⟨_, rfl⟩
  obtain ⟨e, he⟩ : ∃ e, e = (numsO (fun a _ => a) l ls).1 := ⟨_, rfl⟩
  rw [← hA, ← he, ← hB] at c40
  rw [← hB, ← he]
  refine acalls_of fn15l (by simp) ?_
  simp only [List.length_cons, List.length_nil, Nat.reduceAdd, Nat.reduceSub, List.replicate, List.cons_append, List.nil_append, List.append_nil]
  simp (disch := omega) only [c15l, linesV, go_sem, wrap64_id, Int.tdiv_eq_ediv_of_nonneg, Int.tmod_eq_emod_of_nonneg]
  repeat' first
    | ((first | refine callA_pure (c40 _) ?_ ?_); (next => repeat' first | exact flags_n | refine flags_c (by first | rfl | assumption) ?_); simp (disch := omega) only [linesV, go_sem, wrap64_id, Int.tdiv_eq_ediv_of_nonneg, Int.tmod_eq_emod_of_nonneg])
    | ((first | refine callU_of (fun _ => c40 _) ?_ ?_); (next => repeat' first | exact flags_n | refine flags_c (by first | rfl | assumption) ?_); simp (disch := omega) only [linesV, go_sem, wrap64_id, Int.tdiv_eq_ediv_of_nonneg, Int.tmod_eq_emod_of_nonneg])
    | ((first | refine callG_pure (fun e => ⟨?_, c40 _⟩) ?_); (next => repeat' first | exact flags_n | refine flags_c (by first | rfl | assumption) ?_); simp (disch := omega) only [linesV, go_sem, wrap64_id, Int.tdiv_eq_ediv_of_nonneg, Int.tmod_eq_emod_of_nonneg])
    | ((first | refine fnQ_pure1 ?_ ?_ | refine fnQ_pure0 ?_ ?_); (next => repeat' first | exact rvs_n | refine rvs_t ?_ | (simp [go_sem]; done)); simp only [go_sem]; (first | exact VLe.refl _ | refine VLe_int ?_ | refine VLe_bool ?_ | refine VLe_str ?_ | skip))
    | (with_reducible refine And.intro ?_ ?_)
    | with_reducible intro _
  all_goals first
    | omega
    | (rename_i hx; revert hx; simp; done)
    | (simp; done)
    | skip
theorem nums_len (pk : Int → Int → Int) (l : List It) (ls : List Ln) : (numsO pk l ls).2.length ≤ l.length + 1 := by
  unfold numsO
  split
  · simp
  · split
    · simp
    · split
      · simp
      · simp only [valsO, List.length_map]; exact wordsF_len l
theorem inO_len (L M : List Int) (f t : Int) : (inO L M f t).2.length ≤ L.length := by
  unfold inO
  split
  · simp
  · split
    · simp
    · exact inL_len L f t L.length
theorem weak {P : Program} {f : FuncId} {args : List AV} {h : List AObj} {L : List Int} {e : AV} (hc : ACalls P f args h (.tup [intsN L, e]) h) : ACalls P f args h (.tup [intsV L, e]) h :=
  hc.le (VLes.refl _) (VLe_tup ⟨intsN_le L, VLe.refl _, trivial⟩)
set_option maxHeartbeats 8000000 in
theorem t4 (l : List It) (ls : List Ln) (F M : List Int) (from_ to_ : Int) (h : List AObj) (hl : l.length ≤ 9223372036854775807) :
    ACalls Tryd.prog 4 [items l, linesV ls, intsV F, intsV M, .int .i64 from_, .int .i64 to_] h (.bool true) h := by
  have c11 := fun h => t11 l ls h hl
  have c10 := fun h => t10 h
  by_cases g : greatO l ls = true
  · rw [g] at c11
    refine acalls_of fn4l (by simp) ?_
    simp only [List.length_cons, List.length_nil, Nat.reduceAdd, Nat.reduceSub, List.replicate, List.cons_append, List.nil_append, List.append_nil]
    simp (disch := omega) only [c4l, linesV, intsV, go_sem, wrap64_id, Int.tdiv_eq_ediv_of_nonneg, Int.tmod_eq_emod_of_nonneg]
    repeat' first
      | ((first | refine callA_pure (c11 _) ?_ ?_ | refine callA_pure (c10 _) ?_ ?_); (next => repeat' first | exact flags_n | refine flags_c (by first | rfl | assumption) ?_); simp (disch := omega) only [linesV, intsV, go_sem, wrap64_id, Int.tdiv_eq_ediv_of_nonneg, Int.tmod_eq_emod_of_nonneg])
      | ((first | refine callU_of (fun _ => c11 _) ?_ ?_ | refine callU_of (fun _ => c10 _) ?_ ?_); (next => repeat' first | exact flags_n | refine flags_c (by first | rfl | assumption) ?_); simp (disch := omega) only [linesV, intsV, go_sem, wrap64_id, Int.tdiv_eq_ediv_of_nonneg, Int.tmod_eq_emod_of_nonneg])
      | ((first | refine callG_pure (fun e => ⟨?_, c11 _⟩) ?_ | refine callG_pure (fun e => ⟨?_, c10 _⟩) ?_); (next => repeat' first | exact flags_n | refine flags_c (by first | rfl | assumption) ?_); simp (disch := omega) only [linesV, intsV, go_sem, wrap64_id, Int.tdiv_eq_ediv_of_nonneg, Int.tmod_eq_emod_of_nonneg])
      | ((first | refine fnQ_pure1 ?_ ?_ | refine fnQ_pure0 ?_ ?_); (next => repeat' first | exact rvs_n | refine rvs_t ?_ | (simp [go_sem]; done)); simp only [go_sem]; (first | exact VLe.refl _ | refine VLe_int ?_ | refine VLe_bool ?_ | refine VLe_str ?_ | skip))
      | (with_reducible refine And.intro ?_ ?_)
      | with_reducible intro _
    all_goals first
      | omega
      | (rename_i hx; revert hx; simp; done)
      | (simp; done)
      | skip
  have g' : greatO l ls = false := by simpa using g
  rw [g'] at c11
  unfold greatO at g'
  simp only [Bool.or_eq_false_iff, decide_eq_false_iff_not] at g'
  obtain ⟨_, g2, g3⟩ := g'
  by_cases a1 : 20 < F.length
  · have k1 : (20 < (F.length : Int)) = True := eq_true (by omega)
    refine acalls_of fn4l (by simp) ?_
    simp only [List.length_cons, List.length_nil, Nat.reduceAdd, Nat.reduceSub, List.replicate, List.cons_append, List.nil_append, List.append_nil]
    simp (disch := omega) only [c4l, linesV, intsV, k1, go_sem, wrap64_id, Int.tdiv_eq_ediv_of_nonneg, Int.tmod_eq_emod_of_nonneg]
    repeat' first
      | ((first | refine callA_pure (c11 _) ?_ ?_ | refine callA_pure (c10 _) ?_ ?_); (next => repeat' first | exact flags_n | refine flags_c (by first | rfl | assumption) ?_); simp (disch := omega) only [linesV, intsV, k1, go_sem, wrap64_id, Int.tdiv_eq_ediv_of_nonneg, Int.tmod_eq_emod_of_nonneg])
      | ((first | refine callU_of (fun _ => c11 _) ?_ ?_ | refine callU_of (fun _ => c10 _) ?_ ?_); (next => repeat' first | exact flags_n | refine flags_c (by first | rfl | assumption) ?_); simp (disch := omega) only [linesV, intsV, k1, go_sem, wrap64_id, Int.tdiv_eq_ediv_of_nonneg, Int.tmod_eq_emod_of_nonneg])
      | ((first | refine callG_pure (fun e => ⟨?_, c11 _⟩) ?_ | refine callG_pure (fun e => ⟨?_, c10 _⟩) ?_); (next => repeat' first | exact flags_n | refine flags_c (by first | rfl | assumption) ?_); simp (disch := omega) only [linesV, intsV, k1, go_sem, wrap64_id, Int.tdiv_eq_ediv_of_nonneg, Int.tmod_eq_emod_of_nonneg])
      | ((first | refine fnQ_pure1 ?_ ?_ | refine fnQ_pure0 ?_ ?_); (next => repeat' first | exact rvs_n | refine rvs_t ?_ | (simp [go_sem]; done)); simp only [go_sem]; (first | exact VLe.refl _ | refine VLe_int ?_ | refine VLe_bool ?_ | refine VLe_str ?_ | skip))
      | (with_reducible refine And.intro ?_ ?_)
      | with_reducible intro _
    all_goals first
      | omega
      | (rename_i hx; revert hx; simp; done)
      | (simp; done)
      | skip
  have k1 : (20 < (F.length : Int)) = False := eq_false (by omega)
  by_cases a2 : 20 < M.length
  · have k2 : (20 < (M.length : Int)) = True := eq_true (by omega)
    refine acalls_of fn4l (by simp) ?_
    simp only [List.length_cons, List.length_nil, Nat.reduceAdd, Nat.reduceSub, List.replicate, List.cons_append, List.nil_append, List.append_nil]
    simp (disch := omega) only [c4l, linesV, intsV, k1, k2, go_sem, wrap64_id, Int.tdiv_eq_ediv_of_nonneg, Int.tmod_eq_emod_of_nonneg]
    repeat' first
      | ((first | refine callA_pure (c11 _) ?_ ?_ | refine callA_pure (c10 _) ?_ ?_); (next => repeat' first | exact flags_n | refine flags_c (by first | rfl | assumption) ?_); simp (disch := omega) only [linesV, intsV, k1, k2, go_sem, wrap64_id, Int.tdiv_eq_ediv_of_nonneg, Int.tmod_eq_emod_of_nonneg])
      | ((first | refine callU_of (fun _ => c11 _) ?_ ?_ | refine callU_of (fun _ => c10 _) ?_ ?_); (next => repeat' first | exact flags_n | refine flags_c (by first | rfl | assumption) ?_); simp (disch := omega) only [linesV, intsV, k1, k2, go_sem, wrap64_id, Int.tdiv_eq_ediv_of_nonneg, Int.tmod_eq_emod_of_nonneg])
      | ((first | refine callG_pure (fun e => ⟨?_, c11 _⟩) ?_ | refine callG_pure (fun e => ⟨?_, c10 _⟩) ?_); (next => repeat' first | exact flags_n | refine flags_c (by first | rfl | assumption) ?_); simp (disch := omega) only [linesV, intsV, k1, k2, go_sem, wrap64_id, Int.tdiv_eq_ediv_of_nonneg, Int.tmod_eq_emod_of_nonneg])
      | ((first | refine fnQ_pure1 ?_ ?_ | refine fnQ_pure0 ?_ ?_); (next => repeat' first | exact rvs_n | refine rvs_t ?_ | (simp [go_sem]; done)); simp only [go_sem]; (first | exact VLe.refl _ | refine VLe_int ?_ | refine VLe_bool ?_ | refine VLe_str ?_ | skip))
      | (with_reducible refine And.intro ?_ ?_)
      | with_reducible intro _
    all_goals first
      | omega
      | (rename_i hx; revert hx; simp; done)
      | (simp; done)
      | skip
  have k2 : (20 < (M.length : Int)) = False := eq_false (by omega)
  have c12 := fun h => weak (t12 l ls h (by omega) (by omega))
  have c13 := fun h => t13 l ls h (by omega) (by omega)
  have c14 := fun h => weak (t14 l ls h (by omega) (by omega))
  have c15 := fun h => t15 l ls h (by omega) (by omega)
  have c16 := fun h => weak (t16 F M from_ to_ h (by omega) (by omega))
  have c17 := fun h => t17 F M from_ to_ h (by omega) (by omega)
  have z1 := nums_len (fun a _ => a) l ls
  have z2 := nums_len (fun _ b => b) l ls
  have z3 := inO_len F M from_ to_
  obtain ⟨A, hA⟩ : ∃ A, A = (numsO (fun a _ => a) l ls).2 := ⟨_, rfl⟩
  obtain ⟨e, he⟩ : ∃ e, e = (numsO (fun a _ => a) l ls).1 := ⟨_, rfl⟩
  obtain ⟨B, hB⟩ : ∃ B, B = (numsO (fun _ b => b) l ls).2 := ⟨_, rfl⟩
  obtain ⟨f, hf⟩ : ∃ f, f = (numsO (fun _ b => b) l ls).1 := ⟨_, rfl⟩
  obtain ⟨X, hX⟩ : ∃ X, X = (inO F M from_ to_).2 := ⟨_, rfl⟩
  obtain ⟨x, hx⟩ : ∃ x, x = (inO F M from_ to_).1 := ⟨_, rfl⟩
  rw [← hA] at z1
  rw [← hB] at z2
  rw [← hX] at z3
  rw [← hA, ← he] at c12 c13
  rw [← hB, ← hf] at c14 c15
  rw [← hX, ← hx] at c16 c17
  have u1 := fun h => u17v A A h (by omega)
  have u2 := fun h => u17v B B h (by omega)
  have u3 := fun h => u17v X X h (by omega)
  rw [decide_eq_true rfl] at u1 u2 u3
  unfold linesV at c11 c12 c13 c14 c15 ⊢
  unfold intsV at c12 c13 c14 c15 c16 c17 u1 u2 u3 ⊢
  refine acalls_of fn4l (by simp) ?_
  simp only [List.length_cons, List.length_nil, Nat.reduceAdd, Nat.reduceSub, List.replicate, List.cons_append, List.nil_append, List.append_nil]
  simp (disch := omega) only [c4l, k1, k2, go_sem, wrap64_id, Int.tdiv_eq_ediv_of_nonneg, Int.tmod_eq_emod_of_nonneg]
  repeat' first
    | ((first | refine callA_pure (c11 _) ?_ ?_ | refine callA_pure (c12 _) ?_ ?_ | refine callA_pure (c13 _) ?_ ?_ | refine callA_pure (c14 _) ?_ ?_ | refine callA_pure (c15 _) ?_ ?_ | refine callA_pure (c16 _) ?_ ?_ | refine callA_pure (c17 _) ?_ ?_ | refine callA_pure (u1 _) ?_ ?_ | refine callA_pure (u2 _) ?_ ?_ | refine callA_pure (u3 _) ?_ ?_ | refine callA_pure (c10 _) ?_ ?_); (next => repeat' first | exact flags_n | refine flags_c (by first | rfl | assumption) ?_); simp (disch := omega) only [k1, k2, go_sem, wrap64_id, Int.tdiv_eq_ediv_of_nonneg, Int.tmod_eq_emod_of_nonneg])
    | ((first | refine callU_of (fun _ => c11 _) ?_ ?_ | refine callU_of (fun _ => c12 _) ?_ ?_ | refine callU_of (fun _ => c13 _) ?_ ?_ | refine callU_of (fun _ => c14 _) ?_ ?_ | refine callU_of (fun _ => c15 _) ?_ ?_ | refine callU_of (fun _ => c16 _) ?_ ?_ | refine callU_of (fun _ => c17 _) ?_ ?_ | refine callU_of (fun _ => u1 _) ?_ ?_ | refine callU_of (fun _ => u2 _) ?_ ?_ | refine callU_of (fun _ => u3 _) ?_ ?_ | refine callU_of (fun _ => c10 _) ?_ ?_); (next => repeat' first | exact flags_n | refine flags_c (by first | rfl | assumption) ?_); simp (disch := omega) only [k1, k2, go_sem, wrap64_id, Int.tdiv_eq_ediv_of_nonneg, Int.tmod_eq_emod_of_nonneg])
    | ((first | refine callG_pure (fun e => ⟨?_, c11 _⟩) ?_ | refine callG_pure (fun e => ⟨?_, c12 _⟩) ?_ | refine callG_pure (fun e => ⟨?_, c13 _⟩) ?_ | refine callG_pure (fun e => ⟨?_, c14 _⟩) ?_ | refine callG_pure (fun e => ⟨?_, c15 _⟩) ?_ | refine callG_pure (fun e => ⟨?_, c16 _⟩) ?_ | refine callG_pure (fun e => ⟨?_, c17 _⟩) ?_ | refine callG_pure (fun e => ⟨?_, u1 _⟩) ?_ | refine callG_pure (fun e => ⟨?_, u2 _⟩) ?_ | refine callG_pure (fun e => ⟨?_, u3 _⟩) ?_ | refine callG_pure (fun e => ⟨?_, c10 _⟩) ?_); (next => repeat' first | exact flags_n | refine flags_c (by first | rfl | assumption) ?_); simp (disch := omega) only [k1, k2, go_sem, wrap64_id, Int.tdiv_eq_ediv_of_nonneg, Int.tmod_eq_emod_of_nonneg])
    | ((first | refine fnQ_pure1 ?_ ?_ | refine fnQ_pure0 ?_ ?_); (next => repeat' first | exact rvs_n | refine rvs_t ?_ | (simp [go_sem]; done)); simp only [go_sem]; (first | exact VLe.refl _ | refine VLe_int ?_ | refine VLe_bool ?_ | refine VLe_str ?_ | skip))
    | (with_reducible refine And.intro ?_ ?_)
    | with_reducible intro _
  all_goals first
    | omega
    | (rename_i hx; revert hx; simp; done)
    | (simp; done)
    | skip
end LN
end

section
namespace AF
open Go Go.RowKit
theorem Ext.ofBelow {w w' : World} {σ : List OB} {h : List AObj} (H : HR w σ h) (hb : Below w.heap.size w w') : HR w' σ h ∧ Ext w σ w' σ := by
  have e : Ext w σ w' σ := ⟨hb.os, hb.tape, hb.output, hb.size, fun b hl _ => hb.block b hl, fun _ h => .inl h, fun _ o h => ⟨o, h, Nat.le_refl _, fun _ => rfl⟩,
    fun b r h => ⟨r, (hb.block b (Array.getElem?_eq_some_iff.1 h).1).trans h⟩⟩
  exact ⟨⟨H.len, H.inj, fun k o b h1 h2 => Nat.lt_of_lt_of_le (H.lt k o b h1 h2) hb.size, fun k a o h1 h2 => (H.obj k a o h1 h2).ext e (fun b h3 => hb.block b (H.lt k o b h2 h3))⟩, e⟩
end AF
end

section

namespace AF
open Go Go.ChangeShapes Go.WideShapes Go.ChangeAt Go.RowKit
def pinOb : OB := ⟨none, 0, 0, 0⟩
theorem own_pin (b : Nat) : ¬ own [pinOb] b := by
  rintro ⟨k, o, h, h2⟩
  cases k with
  | zero => simp at h; subst h; cases h2
  | succ k => simp at h
theorem hr_pin {w : World} {bs : List Nat} {G : World → Prop} (hb : ∀ b, b ∈ bs → ∃ arr T fz, w.heap[b]? = some (.cells arr T fz)) (hG : ∀ w' : World, (∀ b, b ∈ bs → w'.heap[b]? = w.heap[b]?) → G w') :
    HR w [pinOb] [.pin bs G] := by
  refine ⟨rfl, ?_, ?_, ?_⟩
  · intro i j oi oj b hi hj bi
    cases i with
    | zero => simp at hi; subst hi; cases bi
    | succ i => simp at hi
  · intro k o b hk hb'
    cases k with
    | zero => simp at hk; subst hk; cases hb'
    | succ k => simp at hk
  · intro k a o ha ho
    cases k with
    | zero =>
      simp at ha ho
      subst ha; subst ho
      exact ⟨rfl, rfl, fun b h => ⟨own_pin b, hb b h⟩, hG⟩
    | succ k => simp at ha
theorem ext_pin (w : World) : Ext w [] w [pinOb] :=
  ⟨rfl, rfl, rfl, Nat.le_refl _, fun _ _ _ => rfl, fun b h => absurd h (own_pin b), fun k o h => by simp at h, fun _ r h => ⟨r, h⟩⟩
theorem below_pin {w w' : World} {σ' : List OB} (h : Ext w [pinOb] w' σ') : Below w.heap.size w w' := ⟨h.os, h.tape, h.output, h.size, fun k hk => h.keep k hk (own_pin k)⟩
theorem VRs.ext {w w' : World} {σ σ' : List OB} (h : Ext w σ w' σ') {avs : List AV} {xs : List Value} (hv : VRs w σ avs xs) : VRs w' σ' avs xs := ⟨hv.1, fun i c x hc hx => (hv.2 i c x hc hx).ext h⟩
theorem pin_of {w : World} {σ : List OB} {h : List AObj} {k : Nat} {bs : List Nat} {G : World → Prop} (H : HR w σ h) (hk : h[k]? = some (.pin bs G)) : G w := by
  have hl : k < σ.length := by rw [H.len]; exact (List.getElem?_eq_some_iff.1 hk).1
  obtain ⟨_, _, _, h4⟩ := H.obj k _ σ[k] hk (List.getElem?_eq_getElem hl)
  exact h4 w (fun _ _ => rfl)
theorem law_step_pin {H : Type} {enc : TypeId × Value → H} {P : Program} {W : World} {f : Func} {fid : FuncId} {s : ChangeSpec} {args : Array Value} {ds gs : List (DataW H)} {before : List MemPlace} {tb : TypeId} {bs : List Nat} {G : World → Prop}
    (hl : laidOutB P = true) (hv : s.vars = []) (hfn : ∀ ds', ds'.length = f.params.size → s.fn H ds' = { results := [.lit (.bool true)], args := ds' })
    (hrt : f.resultTypes = #[tb]) (htb : P.underlying tb = some .bool) (hro : ∀ t ∈ f.params.toList, P.readableRec t = true ∧ t < P.types.size)
    (hW : DataW.Whole enc P f.params.toList s.vars false W args.toList ds gs before)
    (hb : ∀ b, b ∈ bs → ∃ arr T fz, W.heap[b]? = some (.cells arr T fz)) (hG : ∀ w' : World, (∀ b, b ∈ bs → w'.heap[b]? = W.heap[b]?) → G w')
    (hc : ∀ p, DataW.TrodAll enc P W 0 (fun _ => true) true f.params.toList args.toList ds p → ds.length = f.params.size ∧ ∃ avs : List AV, VRs W [] avs args.toList ∧ ACalls P fid avs [.pin bs G] (.bool true) [.pin bs G]) :
    Calls P fid args W fun e W' => ∃ v, e = .returned v ∧ s.post enc P f false true false false W args v W' := by
  have hW' := hW
  obtain ⟨p, q, hA, hV, rfl, hz, _⟩ := hW
  rw [hv] at hV
  obtain ⟨rfl, rfl⟩ := trodVars_none hV
  obtain ⟨hlen, avs, h1, h2⟩ := hc p hA
  rw [List.append_nil] at hW'
  have h3 := h2.2 W [pinOb] args.toList (hr_pin hb hG) (h1.ext (ext_pin W))
  rw [Array.toArray_toList] at h3
  refine (callsIn_wide.1 h3).mono ?_
  rintro e W' ⟨v, σ', rfl, g1, g2, g3⟩
  obtain rfl := vr_bool g2
  exact ⟨_, rfl, law_post hl hv (hfn ds hlen) hrt htb hro hW' hA (below_pin g3)⟩
theorem var_same {P : Program} {w w' : World} {name : String} {g : Nat} (hg : P.globalNamed name = some g) (h : w'.heap[g]? = w.heap[g]?) : w'.var? P name = w.var? P name := by
  unfold World.var?
  rw [hg]
  simp only [Option.bind_some]
  rw [h]
theorem var_cells {P : Program} {w : World} {name : String} {g : Nat} {cs : Array Value} (hg : P.globalNamed name = some g) (h : w.var? P name = some cs) : ∃ arr T fz, w.heap[g]? = some (.cells arr T fz) := by
  unfold World.var? at h
  rw [hg] at h
  simp only [Option.bind_some] at h
  split at h
  · rename_i cs T fz hc
    exact ⟨_, _, _, hc⟩
  · cases h
end AF
end

section
open Go Go.Proofs AF HY P48
namespace LN
set_option maxRecDepth 100000
def PowG (w : World) : Prop := Lib.TabIs Tryd.prog w "internal/strconv.uint64pow10" .u64 Lib.pow10Tab
def ErrG (w : World) : Prop := (∃ tp p, w.var? Tryd.prog "strconv.ErrSyntax" = some #[.iface tp p]) ∧ ∃ tp p, w.var? Tryd.prog "strconv.ErrRange" = some #[.iface tp p]
def Pins (Q : World → Prop) (h : List AObj) : Prop := ∃ (k : Nat) (bs : List Nat) (G : World → Prop), h[k]? = some (.pin bs G) ∧ ∀ w, G w → Q w
theorem Pins.app {Q : World → Prop} {h : List AObj} (hp : Pins Q h) (l : List AObj) : Pins Q (h ++ l) := by
  obtain ⟨k, bs, G, h1, h2⟩ := hp
  exact ⟨k, bs, G, by rw [List.getElem?_append_left (List.getElem?_eq_some_iff.1 h1).1]; exact h1, h2⟩
theorem Pins.mono {Q Q' : World → Prop} {h : List AObj} (hp : Pins Q h) (hq : ∀ w, Q w → Q' w) : Pins Q' h := by
  obtain ⟨k, bs, G, h1, h2⟩ := hp
  exact ⟨k, bs, G, h1, fun w hw => hq w (h2 w hw)⟩
theorem Pins.of {Q : World → Prop} {h : List AObj} {w : World} {σ : List OB} (hp : Pins Q h) (H : HR w σ h) : Q w := by
  obtain ⟨k, bs, G, h1, h2⟩ := hp
  exact h2 w (pin_of H h1)
theorem t48 (n : Int) (h : List AObj) (hp : Pins PowG h) (h0 : -9223372036854775808 ≤ n) (h1 : n ≤ 9223372036854775807) : ACalls Tryd.prog 48 [.int .i64 n] h (.str (Lib.itoa n)) h := by
  refine ⟨okF1 Tryd.func48 (by kernel_rfl) (by kernel_rfl), fun w σ xs H hv => ?_⟩
  obtain ⟨x, rfl, hx⟩ := hv.one
  rw [vr_int hx]
  refine (callsIn_wide.2 (Any.strconv_Itoa Tryd.laysM171 n h0 h1 w (hp.of H))).mono ?_
  rintro e w' ⟨rfl, k, os, rfl⟩
  obtain ⟨g1, g2⟩ := Ext.ofBelow H (Lib.below_grow w.heap.size w (Nat.le_refl _) k os)
  exact ⟨_, σ, rfl, g1, .imm .str, g2⟩
def atoiE (s : List UInt8) : Int :=
  match Lib.atoiAll s with
  | .ok _ => 0
  | .range => Lib.atoiSat s
  | _ => 0
def atoiA (s : List UInt8) : AV :=
  match Lib.atoiAll s with
  | .ok v => .tup [.int .i64 v, .nilif]
  | _ => .tup [.int .i64 (atoiE s), .ifc]
theorem t50 (s : List UInt8) (h : List AObj) (hp : Pins ErrG h) (hl : s.length ≤ 281474976710656) : ACalls Tryd.prog 50 [.str s] h (atoiA s) h := by
  refine ⟨okF1 Tryd.func50 (by kernel_rfl) (by kernel_rfl), fun w σ xs H hv => ?_⟩
  obtain ⟨x, rfl, hx⟩ := hv.one
  rw [vr_str hx]
  have hsz : (⟨s.toArray⟩ : ByteArray).size ≤ 281474976710656 := by simpa [ByteArray.size] using hl
  obtain ⟨⟨t1, p1, e1⟩, t2, p2, e2⟩ := hp.of H
  unfold atoiA atoiE
  have hd : (⟨s.toArray⟩ : ByteArray).data.toList = s := rfl
  cases hs : Lib.atoiAll s
  · rename_i v
    refine (callsIn_wide.2 (Any.strconv_Atoi_ok Tryd.laysC172 ⟨s.toArray⟩ (by omega) v (by rw [hd]; exact hs) w)).mono ?_
    rintro e w' ⟨rfl, hw⟩
    have hb : Go.RowKit.Below w.heap.size w w' := by
      rcases hw with rfl | ⟨t, rfl⟩
      · exact Go.RowKit.Below.refl _ _
      · exact Lib.bytesWorld_below _ _ _
    obtain ⟨g1, g2⟩ := Ext.ofBelow H hb
    refine ⟨_, σ, rfl, g1, .imm (.tup rfl (fun i c y hc hy => ?_)), g2⟩
    match i with
    | 0 => simp at hc hy; subst hc hy; exact .int
    | 1 => simp at hc hy; subst hc hy; exact .nilif
    | i + 2 => simp at hc
  · refine (callsIn_wide.2 (Any.strconv_Atoi_syntax_var Tryd.laysC172 ⟨s.toArray⟩ hsz (by rw [hd]; exact hs) t1 p1 w e1)).mono ?_
    rintro e w' ⟨N, rfl, _, _, hb⟩
    obtain ⟨g1, g2⟩ := Ext.ofBelow H hb
    refine ⟨_, σ, rfl, g1, .imm (.tup rfl (fun i c y hc hy => ?_)), g2⟩
    match i with
    | 0 => simp at hc hy; subst hc hy; exact .int
    | 1 => simp at hc hy; subst hc hy; exact .ifc
    | i + 2 => simp at hc
  · refine (callsIn_wide.2 (Any.strconv_Atoi_range_var Tryd.laysC172 ⟨s.toArray⟩ hsz (by rw [hd]; exact hs) t2 p2 w e2)).mono ?_
    rintro e w' ⟨N, rfl, _, _, hb⟩
    obtain ⟨g1, g2⟩ := Ext.ofBelow H hb
    refine ⟨_, σ, rfl, g1, .imm (.tup rfl (fun i c y hc hy => ?_)), g2⟩
    match i with
    | 0 => simp at hc hy; subst hc hy; exact .int
    | 1 => simp at hc hy; subst hc hy; exact .ifc
    | i + 2 => simp at hc
end LN
end

section
open Go Go.Proofs AF HY P48
namespace LN
set_option maxRecDepth 100000
theorem parse_app : ∀ (l r : List UInt8) (acc : Nat), Lib.parseUint10 acc (l ++ r) = match Lib.parseUint10 acc l with
    | .ok v => Lib.parseUint10 v r
    | e => e := by
  intro l
  induction l with
  | nil => intro r acc; rfl
  | cons c l ih =>
    intro r acc
    rw [List.cons_append, Lib.parseUint10, Lib.parseUint10]
    by_cases h1 : 48 ≤ c.toNat ∧ c.toNat ≤ 57
    · rw [if_pos h1, if_pos h1]
      by_cases h2 : 1844674407370955162 ≤ acc
      · rw [if_pos h2, if_pos h2]
      · rw [if_neg h2, if_neg h2]
        by_cases h3 : 18446744073709551616 ≤ acc * 10 + (c.toNat - 48)
        · rw [if_pos h3, if_pos h3]
        · rw [if_neg h3, if_neg h3]
          exact ih r _
    · rw [if_neg h1, if_neg h1]
theorem dig_nat {d : Nat} (h : d < 10) : (UInt8.ofNat (48 + d)).toNat = 48 + d := by
  rw [UInt8.toNat_ofNat']
  omega
theorem parse_dec : ∀ u, u < 1000000000 → Lib.parseUint10 0 (Lib.decDigits u) = .ok u := by
  intro u
  induction u using Nat.strongRecOn with
  | _ u ih =>
    intro hu
    by_cases h : u < 10
    · rw [Lib.decDigits, dif_pos h, Lib.parseUint10, dig_nat h, if_pos (by omega), if_neg (by omega), if_neg (by omega), Lib.parseUint10]
      congr 1
      omega
    · rw [Lib.decDigits, dif_neg h, parse_app, ih (u / 10) (by omega) (by omega)]
      simp only
      rw [Lib.parseUint10, dig_nat (by omega), if_pos (by omega), if_neg (by omega), if_neg (by omega), Lib.parseUint10]
      congr 1
      omega
theorem dec_digits : ∀ u, ∀ c ∈ Lib.decDigits u, 48 ≤ c.toNat ∧ c.toNat ≤ 57 := by
  intro u
  induction u using Nat.strongRecOn with
  | _ u ih =>
    intro c hc
    by_cases h : u < 10
    · rw [Lib.decDigits, dif_pos h, List.mem_singleton] at hc
      subst hc
      rw [dig_nat h]
      omega
    · rw [Lib.decDigits, dif_neg h] at hc
      rcases List.mem_append.1 hc with hc | hc
      · exact ih (u / 10) (by omega) c hc
      · rw [List.mem_singleton] at hc
        subst hc
        rw [dig_nat (by omega)]
        omega
theorem dec_ne (u : Nat) : Lib.decDigits u ≠ [] := by
  intro h
  have := Lib.decDigits_length u
  have := Lib.nDigits_pos u
  rw [h] at *
  simp at *
  omega
theorem dec_no (u : Nat) : (Lib.decDigits u).count 45 = 0 := by
  rw [List.count_eq_zero]
  intro hc
  have := dec_digits u 45 hc
  have e : (45 : UInt8).toNat = 45 := rfl
  omega
theorem atoi_itoa {n : Int} (h0 : 0 ≤ n) (h1 : n < 1000000000) : Lib.atoiAll (Lib.itoa n) = .ok n := by
  obtain ⟨u, rfl⟩ : ∃ u : Nat, n = u := ⟨n.toNat, by omega⟩
  rw [Lib.itoa_nonneg]
  have hd := dec_digits u
  have hp := parse_dec u (by omega)
  have hne := dec_ne u
  cases hl : Lib.decDigits u with
  | nil => exact absurd hl hne
  | cons c r =>
    rw [hl] at hd hp
    have hc := hd c (List.mem_cons_self ..)
    unfold Lib.atoiAll
    simp only
    rw [if_neg (show ¬ (c.toNat = 43 ∨ c.toNat = 45) by omega)]
    unfold Lib.parseMag
    rw [if_neg (by simp), hp]
    simp only
    rw [if_neg (by omega), if_neg (by omega), if_neg (by omega)]
theorem itoa_no {n : Int} (h0 : 0 ≤ n) : (Lib.itoa n).count 45 = 0 := by
  obtain ⟨u, rfl⟩ : ∃ u : Nat, n = u := ⟨n.toNat, by omega⟩
  rw [Lib.itoa_nonneg]
  exact dec_no u
def rangeS (x y : Int) : List UInt8 := if x = y then Lib.itoa x else Lib.itoa x ++ [45] ++ Lib.itoa y
def cutL (s : List UInt8) : List UInt8 := if 0 < s.count 45 then s.take (cutAt 45 s) else s
def cutR (s : List UInt8) : List UInt8 := if 0 < s.count 45 then s.drop (cutAt 45 s + 1) else s
def parR (s : List UInt8) : Int × Int × Int :=
  match Lib.atoiAll (cutL s), Lib.atoiAll (cutR s) with
  | .ok x, .ok y => if rightO x y = true ∧ rangeS x y = s then (x, y, 0) else (0, 0, 3)
  | _, _ => (0, 0, 3)
theorem cutAt_app (c : UInt8) : ∀ (l r : List UInt8), l.count c = 0 → cutAt c (l ++ [c] ++ r) = l.length := by
  intro l
  induction l with
  | nil => intro r _; simp [cutAt]
  | cons b l ih =>
    intro r h
    rw [List.count_cons] at h
    by_cases e : b = c
    · subst e; simp at h
    · have := ih r (by omega)
      simp [cutAt, e] at this ⊢
      first
        | exact this
        | omega
theorem par_range {x y : Int} (hr : rightO x y = true) : parR (rangeS x y) = (x, y, 0) := by
  have hb := (rightO_iff x y).1 hr
  have e1 := atoi_itoa (n := x) (by omega) (by omega)
  have e2 := atoi_itoa (n := y) (by omega) (by omega)
  have n1 := itoa_no (n := x) (by omega)
  have n2 := itoa_no (n := y) (by omega)
  by_cases h : x = y
  · have hs : rangeS x y = Lib.itoa x := by unfold rangeS; rw [if_pos h]
    have hL : cutL (Lib.itoa x) = Lib.itoa x := by unfold cutL; rw [if_neg (by omega)]
    have hR : cutR (Lib.itoa x) = Lib.itoa x := by unfold cutR; rw [if_neg (by omega)]
    unfold parR
    rw [hs, hL, hR, e1]
    simp only
    subst h
    rw [if_pos ⟨hr, hs⟩]
  · have hs : rangeS x y = Lib.itoa x ++ [45] ++ Lib.itoa y := by unfold rangeS; rw [if_neg h]
    have hc : 0 < (Lib.itoa x ++ [45] ++ Lib.itoa y).count 45 := by
      rw [List.count_append, List.count_append, List.count_singleton_self]
      omega
    have hk := cutAt_app 45 (Lib.itoa x) (Lib.itoa y) n1
    have hL : cutL (Lib.itoa x ++ [45] ++ Lib.itoa y) = Lib.itoa x := by
      unfold cutL
      rw [if_pos hc, hk, List.append_assoc, List.take_left]
    have hR : cutR (Lib.itoa x ++ [45] ++ Lib.itoa y) = Lib.itoa y := by
      unfold cutR
      rw [if_pos hc, hk]
      exact List.drop_left' (by simp)
    unfold parR
    rw [hs, hL, hR, e1, e2]
    simp only
    rw [if_pos ⟨hr, hs⟩]
theorem par_ok {s : List UInt8} : (parR s).2.2 = 0 ∧ rightO (parR s).1 (parR s).2.1 = true ∧ rangeS (parR s).1 (parR s).2.1 = s ∨ parR s = (0, 0, 3) := by
  unfold parR
  split
  · split
    · rename_i h
      exact .inl ⟨rfl, h.1, h.2⟩
    · exact .inr rfl
  · exact .inr rfl
theorem itoa_len {n : Int} (h0 : -9223372036854775808 ≤ n) (h1 : n ≤ 9223372036854775807) : (Lib.itoa n).length ≤ 21 := Lib.itoa_length_le n h0 h1
theorem t24 (x y : Int) (h : List AObj) (hp : Pins PowG h) (x0 : -9223372036854775808 ≤ x) (x1 : x ≤ 9223372036854775807) (y0 : -9223372036854775808 ≤ y) (y1 : y ≤ 9223372036854775807) :
    ACalls Tryd.prog 24 [.int .i64 x, .int .i64 y] h (.tup [.str (if rightO x y = true then rangeS x y else []), .int .i64 (if rightO x y = true then 0 else 2)]) h := by
  have c42 := fun h => t42 x y h
  have c48 := fun n h0 h1 => t48 n h hp h0 h1
  have lx := itoa_len x0 x1
  have ly := itoa_len y0 y1
  cases hr : rightO x y with
  | false =>
    rw [if_neg (by simp), if_neg (by simp)]
    rw [hr] at c42
    refine acalls_of fn24l (by simp) ?_
    simp only [List.length_cons, List.length_nil, Nat.reduceAdd, Nat.reduceSub, List.replicate, List.cons_append, List.nil_append, List.append_nil]
    simp (disch := omega) only [c24l, go_sem, wrap64_id, Int.tdiv_eq_ediv_of_nonneg, Int.tmod_eq_emod_of_nonneg]
    repeat' first
      | ((first | refine callA_pure (c42 _) ?_ ?_); (next => repeat' first | exact flags_n | refine flags_c (by first | rfl | assumption) ?_); simp (disch := omega) only [go_sem, wrap64_id, Int.tdiv_eq_ediv_of_nonneg, Int.tmod_eq_emod_of_nonneg])
      | ((first | refine callU_of (fun _ => c42 _) ?_ ?_); (next => repeat' first | exact flags_n | refine flags_c (by first | rfl | assumption) ?_); simp (disch := omega) only [go_sem, wrap64_id, Int.tdiv_eq_ediv_of_nonneg, Int.tmod_eq_emod_of_nonneg])
      | ((first | refine callG_pure (fun e => ⟨?_, c42 _⟩) ?_); (next => repeat' first | exact flags_n | refine flags_c (by first | rfl | assumption) ?_); simp (disch := omega) only [go_sem, wrap64_id, Int.tdiv_eq_ediv_of_nonneg, Int.tmod_eq_emod_of_nonneg])
      | ((first | refine fnQ_pure1 ?_ ?_ | refine fnQ_pure0 ?_ ?_); (next => repeat' first | exact rvs_n | refine rvs_t ?_ | (simp [go_sem]; done)); simp only [go_sem]; (first | exact VLe.refl _ | refine VLe_int ?_ | refine VLe_bool ?_ | refine VLe_str ?_ | skip))
      | (with_reducible refine And.intro ?_ ?_)
      | with_reducible intro _
    all_goals first
      | omega
      | (rename_i hx; revert hx; simp; done)
      | (simp; done)
      | skip
  | true =>
    rw [if_pos rfl, if_pos rfl]
    rw [hr] at c42
    unfold rangeS
    by_cases e : x = y
    · have k1 : (x = y) = True := eq_true e
      rw [if_pos e]
      refine acalls_of fn24l (by simp) ?_
      simp only [List.length_cons, List.length_nil, Nat.reduceAdd, Nat.reduceSub, List.replicate, List.cons_append, List.nil_append, List.append_nil]
      simp (disch := omega) only [c24l, k1, go_sem, wrap64_id, Int.tdiv_eq_ediv_of_nonneg, Int.tmod_eq_emod_of_nonneg]
      repeat' first
        | ((first | refine callA_pure (c42 _) ?_ ?_ | refine callA_pure (c48 x x0 x1) ?_ ?_); (next => repeat' first | exact flags_n | refine flags_c (by first | rfl | assumption) ?_); simp (disch := omega) only [k1, go_sem, wrap64_id, Int.tdiv_eq_ediv_of_nonneg, Int.tmod_eq_emod_of_nonneg])
        | ((first | refine callU_of (fun _ => c42 _) ?_ ?_); (next => repeat' first | exact flags_n | refine flags_c (by first | rfl | assumption) ?_); simp (disch := omega) only [k1, go_sem, wrap64_id, Int.tdiv_eq_ediv_of_nonneg, Int.tmod_eq_emod_of_nonneg])
        | ((first | refine callG_pure (fun e => ⟨?_, c42 _⟩) ?_ | refine callG_pure (fun e => ⟨?_, c48 x x0 x1⟩) ?_); (next => repeat' first | exact flags_n | refine flags_c (by first | rfl | assumption) ?_); simp (disch := omega) only [k1, go_sem, wrap64_id, Int.tdiv_eq_ediv_of_nonneg, Int.tmod_eq_emod_of_nonneg])
        | ((first | refine fnQ_pure1 ?_ ?_ | refine fnQ_pure0 ?_ ?_); (next => repeat' first | exact rvs_n | refine rvs_t ?_ | (simp [go_sem]; done)); simp only [go_sem]; (first | exact VLe.refl _ | refine VLe_int ?_ | refine VLe_bool ?_ | refine VLe_str ?_ | skip))
        | (with_reducible refine And.intro ?_ ?_)
        | with_reducible intro _
      all_goals first
        | omega
        | (rename_i hx; revert hx; simp; done)
        | (simp; done)
        | skip
    · have k1 : (x = y) = False := eq_false e
      rw [if_neg e]
      refine acalls_of fn24l (by simp) ?_
      simp only [List.length_cons, List.length_nil, Nat.reduceAdd, Nat.reduceSub, List.replicate, List.cons_append, List.nil_append, List.append_nil]
      simp (disch := omega) only [c24l, k1, go_sem, wrap64_id, Int.tdiv_eq_ediv_of_nonneg, Int.tmod_eq_emod_of_nonneg]
      repeat' first
        | ((first | refine callA_pure (c42 _) ?_ ?_ | refine callA_pure (c48 x x0 x1) ?_ ?_ | refine callA_pure (c48 y y0 y1) ?_ ?_); (next => repeat' first | exact flags_n | refine flags_c (by first | rfl | assumption) ?_); simp (disch := omega) only [k1, go_sem, wrap64_id, Int.tdiv_eq_ediv_of_nonneg, Int.tmod_eq_emod_of_nonneg])
        | ((first | refine callU_of (fun _ => c42 _) ?_ ?_); (next => repeat' first | exact flags_n | refine flags_c (by first | rfl | assumption) ?_); simp (disch := omega) only [k1, go_sem, wrap64_id, Int.tdiv_eq_ediv_of_nonneg, Int.tmod_eq_emod_of_nonneg])
        | ((first | refine callG_pure (fun e => ⟨?_, c42 _⟩) ?_ | refine callG_pure (fun e => ⟨?_, c48 x x0 x1⟩) ?_ | refine callG_pure (fun e => ⟨?_, c48 y y0 y1⟩) ?_); (next => repeat' first | exact flags_n | refine flags_c (by first | rfl | assumption) ?_); simp (disch := omega) only [k1, go_sem, wrap64_id, Int.tdiv_eq_ediv_of_nonneg, Int.tmod_eq_emod_of_nonneg])
        | ((first | refine fnQ_pure1 ?_ ?_ | refine fnQ_pure0 ?_ ?_); (next => repeat' first | exact rvs_n | refine rvs_t ?_ | (simp [go_sem]; done)); simp only [go_sem]; (first | exact VLe.refl _ | refine VLe_int ?_ | refine VLe_bool ?_ | refine VLe_str ?_ | skip))
        | (with_reducible refine And.intro ?_ ?_)
        | with_reducible intro _
      all_goals first
        | omega
        | (rename_i hx; revert hx; simp; done)
        | (simp; done)
        | skip
      all_goals (simp only [List.length_append, List.length_cons, List.length_nil]; omega)
set_option maxHeartbeats 4000000 in
theorem t25 (s : List UInt8) (h : List AObj) (hp : Pins PowG h) (he : Pins ErrG h) (hl : s.length ≤ 1000000000) :
    ACalls Tryd.prog 25 [.str s] h (.tup [.int .i64 (parR s).1, .int .i64 (parR s).2.1, .int .i64 (parR s).2.2]) h := by
  have c49 := fun h => t49c s 45 h hl
  have lL : (cutL s).length ≤ 1000000000 := by unfold cutL; split <;> (try simp only [List.length_take]) <;> omega
  have lR : (cutR s).length ≤ 1000000000 := by unfold cutR; split <;> (try simp only [List.length_drop]) <;> omega
  have cA := t50 (cutL s) h he (by omega)
  have cB := t50 (cutR s) h he (by omega)
  have c49' : ∃ b x, (∀ h, ACalls Tryd.prog 49 [.str s, .str [45]] h (.tup [.str (cutL s), .str x, .bool b]) h) ∧ (b = true → x = cutR s) ∧ (b = false → cutL s = cutR s) := by
    by_cases g : 0 < s.count 45
    · have e1 : cutL s = s.take (cutAt 45 s) := by unfold cutL; rw [if_pos g]
      have e2 : cutR s = s.drop (cutAt 45 s + 1) := by unfold cutR; rw [if_pos g]
      rw [if_pos g, ← e1, ← e2] at c49
      exact ⟨true, _, c49, fun _ => rfl, fun h => by cases h⟩
    · have e1 : cutL s = s := by unfold cutL; rw [if_neg g]
      have e2 : cutR s = s := by unfold cutR; rw [if_neg g]
      rw [if_neg g] at c49
      rw [e1, e2]
      exact ⟨false, _, c49, fun h => (by cases h), fun _ => rfl⟩
  obtain ⟨b, x, c49, hb1, hb2⟩ := c49'
  obtain ⟨R, hR⟩ : ∃ R, R = parR s := ⟨_, rfl⟩
  have hR2 := hR
  rw [← hR]
  unfold parR at hR2
  obtain ⟨L, hL⟩ : ∃ L, L = cutL s := ⟨_, rfl⟩
  obtain ⟨M, hM⟩ : ∃ M, M = cutR s := ⟨_, rfl⟩
  rw [← hL, ← hM] at hR2 hb2
  rw [← hL] at c49 cA
  rw [← hM] at cB hb1
  unfold atoiA at cA cB
  cases hAv : Lib.atoiAll L
  · rename_i u
    rw [hAv] at cA hR2
    simp only at cA
    cases hBv : Lib.atoiAll M
    · rename_i v
      rw [hBv] at cB hR2
      simp only at cB hR2
      have u0 := Lib.atoiAll_bounds hAv
      have v0 := Lib.atoiAll_bounds hBv
      have c24 := t24 u v h hp u0.1 u0.2 v0.1 v0.2
      cases hr : rightO u v with
      | false =>
        rw [hr] at c24
        rw [if_neg (by simp), if_neg (by simp)] at c24
        rw [if_neg (by rw [hr]; simp)] at hR2
        rw [hR2]
        cases b with
        | true =>
          have := hb1 rfl
          subst this
          refine acalls_of fn25l (by simp) ?_
          simp only [List.length_cons, List.length_nil, Nat.reduceAdd, Nat.reduceSub, List.replicate, List.cons_append, List.nil_append, List.append_nil]
          simp (disch := omega) only [c25l, go_sem, wrap64_id, Int.tdiv_eq_ediv_of_nonneg, Int.tmod_eq_emod_of_nonneg]
          repeat' first
            | ((first | refine callA_pure (c49 _) ?_ ?_ | refine callA_pure (cA) ?_ ?_ | refine callA_pure (cB) ?_ ?_ | refine callA_pure (c24) ?_ ?_); (next => repeat' first | exact flags_n | refine flags_c (by first | rfl | assumption) ?_); simp (disch := omega) only [go_sem, wrap64_id, Int.tdiv_eq_ediv_of_nonneg, Int.tmod_eq_emod_of_nonneg])
            | ((first | refine callU_of (fun _ => c49 _) ?_ ?_); (next => repeat' first | exact flags_n | refine flags_c (by first | rfl | assumption) ?_); simp (disch := omega) only [go_sem, wrap64_id, Int.tdiv_eq_ediv_of_nonneg, Int.tmod_eq_emod_of_nonneg])
            | ((first | refine callG_pure (fun e => ⟨?_, c49 _⟩) ?_ | refine callG_pure (fun e => ⟨?_, cA⟩) ?_ | refine callG_pure (fun e => ⟨?_, cB⟩) ?_ | refine callG_pure (fun e => ⟨?_, c24⟩) ?_); (next => repeat' first | exact flags_n | refine flags_c (by first | rfl | assumption) ?_); simp (disch := omega) only [go_sem, wrap64_id, Int.tdiv_eq_ediv_of_nonneg, Int.tmod_eq_emod_of_nonneg])
            | ((first | refine fnQ_pure1 ?_ ?_ | refine fnQ_pure0 ?_ ?_); (next => repeat' first | exact rvs_n | refine rvs_t ?_ | (simp [go_sem]; done)); simp only [go_sem]; (first | exact VLe.refl _ | refine VLe_int ?_ | refine VLe_bool ?_ | refine VLe_str ?_ | skip))
            | (with_reducible refine And.intro ?_ ?_)
            | with_reducible intro _
          all_goals first
            | omega
            | (rename_i hx; revert hx; simp; done)
            | (simp; done)
            | skip
        | false =>
          have := hb2 rfl
          obtain rfl : u = v := by rw [← this, hAv] at hBv; cases hBv; rfl
          refine acalls_of fn25l (by simp) ?_
          simp only [List.length_cons, List.length_nil, Nat.reduceAdd, Nat.reduceSub, List.replicate, List.cons_append, List.nil_append, List.append_nil]
          simp (disch := omega) only [c25l, go_sem, wrap64_id, Int.tdiv_eq_ediv_of_nonneg, Int.tmod_eq_emod_of_nonneg]
          repeat' first
            | ((first | refine callA_pure (c49 _) ?_ ?_ | refine callA_pure (cA) ?_ ?_ | refine callA_pure (c24) ?_ ?_); (next => repeat' first | exact flags_n | refine flags_c (by first | rfl | assumption) ?_); simp (disch := omega) only [go_sem, wrap64_id, Int.tdiv_eq_ediv_of_nonneg, Int.tmod_eq_emod_of_nonneg])
            | ((first | refine callU_of (fun _ => c49 _) ?_ ?_); (next => repeat' first | exact flags_n | refine flags_c (by first | rfl | assumption) ?_); simp (disch := omega) only [go_sem, wrap64_id, Int.tdiv_eq_ediv_of_nonneg, Int.tmod_eq_emod_of_nonneg])
            | ((first | refine callG_pure (fun e => ⟨?_, c49 _⟩) ?_ | refine callG_pure (fun e => ⟨?_, cA⟩) ?_ | refine callG_pure (fun e => ⟨?_, c24⟩) ?_); (next => repeat' first | exact flags_n | refine flags_c (by first | rfl | assumption) ?_); simp (disch := omega) only [go_sem, wrap64_id, Int.tdiv_eq_ediv_of_nonneg, Int.tmod_eq_emod_of_nonneg])
            | ((first | refine fnQ_pure1 ?_ ?_ | refine fnQ_pure0 ?_ ?_); (next => repeat' first | exact rvs_n | refine rvs_t ?_ | (simp [go_sem]; done)); simp only [go_sem]; (first | exact VLe.refl _ | refine VLe_int ?_ | refine VLe_bool ?_ | refine VLe_str ?_ | skip))
            | (with_reducible refine And.intro ?_ ?_)
            | with_reducible intro _
          all_goals first
            | omega
            | (rename_i hx; revert hx; simp; done)
            | (simp; done)
            | skip
      | true =>
        rw [hr] at c24
        rw [if_pos rfl, if_pos rfl] at c24
        by_cases e : rangeS u v = s
        · have k1 : (rangeS u v = s) = True := eq_true e
          rw [if_pos ⟨hr, e⟩] at hR2
          rw [hR2]
          cases b with
          | true =>
            have := hb1 rfl
            subst this
            refine acalls_of fn25l (by simp) ?_
            simp only [List.length_cons, List.length_nil, Nat.reduceAdd, Nat.reduceSub, List.replicate, List.cons_append, List.nil_append, List.append_nil]
            simp (disch := omega) only [c25l, k1, go_sem, wrap64_id, Int.tdiv_eq_ediv_of_nonneg, Int.tmod_eq_emod_of_nonneg]
            repeat' first
              | ((first | refine callA_pure (c49 _) ?_ ?_ | refine callA_pure (cA) ?_ ?_ | refine callA_pure (cB) ?_ ?_ | refine callA_pure (c24) ?_ ?_); (next => repeat' first | exact flags_n | refine flags_c (by first | rfl | assumption) ?_); simp (disch := omega) only [k1, go_sem, wrap64_id, Int.tdiv_eq_ediv_of_nonneg, Int.tmod_eq_emod_of_nonneg])
              | ((first | refine callU_of (fun _ => c49 _) ?_ ?_); (next => repeat' first | exact flags_n | refine flags_c (by first | rfl | assumption) ?_); simp (disch := omega) only [k1, go_sem, wrap64_id, Int.tdiv_eq_ediv_of_nonneg, Int.tmod_eq_emod_of_nonneg])
              | ((first | refine callG_pure (fun e => ⟨?_, c49 _⟩) ?_ | refine callG_pure (fun e => ⟨?_, cA⟩) ?_ | refine callG_pure (fun e => ⟨?_, cB⟩) ?_ | refine callG_pure (fun e => ⟨?_, c24⟩) ?_); (next => repeat' first | exact flags_n | refine flags_c (by first | rfl | assumption) ?_); simp (disch := omega) only [k1, go_sem, wrap64_id, Int.tdiv_eq_ediv_of_nonneg, Int.tmod_eq_emod_of_nonneg])
              | ((first | refine fnQ_pure1 ?_ ?_ | refine fnQ_pure0 ?_ ?_); (next => repeat' first | exact rvs_n | refine rvs_t ?_ | (simp [go_sem]; done)); simp only [go_sem]; (first | exact VLe.refl _ | refine VLe_int ?_ | refine VLe_bool ?_ | refine VLe_str ?_ | skip))
              | (with_reducible refine And.intro ?_ ?_)
              | with_reducible intro _
            all_goals first
              | omega
              | (rename_i hx; revert hx; simp; done)
              | (simp; done)
              | skip
          | false =>
            have := hb2 rfl
            obtain rfl : u = v := by rw [← this, hAv] at hBv; cases hBv; rfl
            refine acalls_of fn25l (by simp) ?_
            simp only [List.length_cons, List.length_nil, Nat.reduceAdd, Nat.reduceSub, List.replicate, List.cons_append, List.nil_append, List.append_nil]
            simp (disch := omega) only [c25l, k1, go_sem, wrap64_id, Int.tdiv_eq_ediv_of_nonneg, Int.tmod_eq_emod_of_nonneg]
            repeat' first
              | ((first | refine callA_pure (c49 _) ?_ ?_ | refine callA_pure (cA) ?_ ?_ | refine callA_pure (c24) ?_ ?_); (next => repeat' first | exact flags_n | refine flags_c (by first | rfl | assumption) ?_); simp (disch := omega) only [k1, go_sem, wrap64_id, Int.tdiv_eq_ediv_of_nonneg, Int.tmod_eq_emod_of_nonneg])
              | ((first | refine callU_of (fun _ => c49 _) ?_ ?_); (next => repeat' first | exact flags_n | refine flags_c (by first | rfl | assumption) ?_); simp (disch := omega) only [k1, go_sem, wrap64_id, Int.tdiv_eq_ediv_of_nonneg, Int.tmod_eq_emod_of_nonneg])
              | ((first | refine callG_pure (fun e => ⟨?_, c49 _⟩) ?_ | refine callG_pure (fun e => ⟨?_, cA⟩) ?_ | refine callG_pure (fun e => ⟨?_, c24⟩) ?_); (next => repeat' first | exact flags_n | refine flags_c (by first | rfl | assumption) ?_); simp (disch := omega) only [k1, go_sem, wrap64_id, Int.tdiv_eq_ediv_of_nonneg, Int.tmod_eq_emod_of_nonneg])
              | ((first | refine fnQ_pure1 ?_ ?_ | refine fnQ_pure0 ?_ ?_); (next => repeat' first | exact rvs_n | refine rvs_t ?_ | (simp [go_sem]; done)); simp only [go_sem]; (first | exact VLe.refl _ | refine VLe_int ?_ | refine VLe_bool ?_ | refine VLe_str ?_ | skip))
              | (with_reducible refine And.intro ?_ ?_)
              | with_reducible intro _
            all_goals first
              | omega
              | (rename_i hx; revert hx; simp; done)
              | (simp; done)
              | skip
        · have k1 : (rangeS u v = s) = False := eq_false e
          rw [if_neg (fun hc => e hc.2)] at hR2
          rw [hR2]
          cases b with
          | true =>
            have := hb1 rfl
            subst this
            refine acalls_of fn25l (by simp) ?_
            simp only [List.length_cons, List.length_nil, Nat.reduceAdd, Nat.reduceSub, List.replicate, List.cons_append, List.nil_append, List.append_nil]
            simp (disch := omega) only [c25l, k1, go_sem, wrap64_id, Int.tdiv_eq_ediv_of_nonneg, Int.tmod_eq_emod_of_nonneg]
            repeat' first
              | ((first | refine callA_pure (c49 _) ?_ ?_ | refine callA_pure (cA) ?_ ?_ | refine callA_pure (cB) ?_ ?_ | refine callA_pure (c24) ?_ ?_); (next => repeat' first | exact flags_n | refine flags_c (by first | rfl | assumption) ?_); simp (disch := omega) only [k1, go_sem, wrap64_id, Int.tdiv_eq_ediv_of_nonneg, Int.tmod_eq_emod_of_nonneg])
              | ((first | refine callU_of (fun _ => c49 _) ?_ ?_); (next => repeat' first | exact flags_n | refine flags_c (by first | rfl | assumption) ?_); simp (disch := omega) only [k1, go_sem, wrap64_id, Int.tdiv_eq_ediv_of_nonneg, Int.tmod_eq_emod_of_nonneg])
              | ((first | refine callG_pure (fun e => ⟨?_, c49 _⟩) ?_ | refine callG_pure (fun e => ⟨?_, cA⟩) ?_ | refine callG_pure (fun e => ⟨?_, cB⟩) ?_ | refine callG_pure (fun e => ⟨?_, c24⟩) ?_); (next => repeat' first | exact flags_n | refine flags_c (by first | rfl | assumption) ?_); simp (disch := omega) only [k1, go_sem, wrap64_id, Int.tdiv_eq_ediv_of_nonneg, Int.tmod_eq_emod_of_nonneg])
              | ((first | refine fnQ_pure1 ?_ ?_ | refine fnQ_pure0 ?_ ?_); (next => repeat' first | exact rvs_n | refine rvs_t ?_ | (simp [go_sem]; done)); simp only [go_sem]; (first | exact VLe.refl _ | refine VLe_int ?_ | refine VLe_bool ?_ | refine VLe_str ?_ | skip))
              | (with_reducible refine And.intro ?_ ?_)
              | with_reducible intro _
            all_goals first
              | omega
              | (rename_i hx; revert hx; simp; done)
              | (simp; done)
              | skip
          | false =>
            have := hb2 rfl
            obtain rfl : u = v := by rw [← this, hAv] at hBv; cases hBv; rfl
            refine acalls_of fn25l (by simp) ?_
            simp only [List.length_cons, List.length_nil, Nat.reduceAdd, Nat.reduceSub, List.replicate, List.cons_append, List.nil_append, List.append_nil]
            simp (disch := omega) only [c25l, k1, go_sem, wrap64_id, Int.tdiv_eq_ediv_of_nonneg, Int.tmod_eq_emod_of_nonneg]
            repeat' first
              | ((first | refine callA_pure (c49 _) ?_ ?_ | refine callA_pure (cA) ?_ ?_ | refine callA_pure (c24) ?_ ?_); (next => repeat' first | exact flags_n | refine flags_c (by first | rfl | assumption) ?_); simp (disch := omega) only [k1, go_sem, wrap64_id, Int.tdiv_eq_ediv_of_nonneg, Int.tmod_eq_emod_of_nonneg])
              | ((first | refine callU_of (fun _ => c49 _) ?_ ?_); (next => repeat' first | exact flags_n | refine flags_c (by first | rfl | assumption) ?_); simp (disch := omega) only [k1, go_sem, wrap64_id, Int.tdiv_eq_ediv_of_nonneg, Int.tmod_eq_emod_of_nonneg])
              | ((first | refine callG_pure (fun e => ⟨?_, c49 _⟩) ?_ | refine callG_pure (fun e => ⟨?_, cA⟩) ?_ | refine callG_pure (fun e => ⟨?_, c24⟩) ?_); (next => repeat' first | exact flags_n | refine flags_c (by first | rfl | assumption) ?_); simp (disch := omega) only [k1, go_sem, wrap64_id, Int.tdiv_eq_ediv_of_nonneg, Int.tmod_eq_emod_of_nonneg])
              | ((first | refine fnQ_pure1 ?_ ?_ | refine fnQ_pure0 ?_ ?_); (next => repeat' first | exact rvs_n | refine rvs_t ?_ | (simp [go_sem]; done)); simp only [go_sem]; (first | exact VLe.refl _ | refine VLe_int ?_ | refine VLe_bool ?_ | refine VLe_str ?_ | skip))
              | (with_reducible refine And.intro ?_ ?_)
              | with_reducible intro _
            all_goals first
              | omega
              | (rename_i hx; revert hx; simp; done)
              | (simp; done)
              | skip
    all_goals
      rw [hBv] at cB hR2
      simp only at cB hR2
      rw [hR2]
      cases b with
      | true =>
        have := hb1 rfl
        subst this
        refine acalls_of fn25l (by simp) ?_
        simp only [List.length_cons, List.length_nil, Nat.reduceAdd, Nat.reduceSub, List.replicate, List.cons_append, List.nil_append, List.append_nil]
        simp (disch := omega) only [c25l, go_sem, wrap64_id, Int.tdiv_eq_ediv_of_nonneg, Int.tmod_eq_emod_of_nonneg]
        repeat' first
          | ((first | refine callA_pure (c49 _) ?_ ?_ | refine callA_pure (cA) ?_ ?_ | refine callA_pure (cB) ?_ ?_); (next => repeat' first | exact flags_n | refine flags_c (by first | rfl | assumption) ?_); simp (disch := omega) only [go_sem, wrap64_id, Int.tdiv_eq_ediv_of_nonneg, Int.tmod_eq_emod_of_nonneg])
          | ((first | refine callU_of (fun _ => c49 _) ?_ ?_); (next => repeat' first | exact flags_n | refine flags_c (by first | rfl | assumption) ?_); simp (disch := omega) only [go_sem, wrap64_id, Int.tdiv_eq_ediv_of_nonneg, Int.tmod_eq_emod_of_nonneg])
          | ((first | refine callG_pure (fun e => ⟨?_, c49 _⟩) ?_ | refine callG_pure (fun e => ⟨?_, cA⟩) ?_ | refine callG_pure (fun e => ⟨?_, cB⟩) ?_); (next => repeat' first | exact flags_n | refine flags_c (by first | rfl | assumption) ?_); simp (disch := omega) only [go_sem, wrap64_id, Int.tdiv_eq_ediv_of_nonneg, Int.tmod_eq_emod_of_nonneg])
          | ((first | refine fnQ_pure1 ?_ ?_ | refine fnQ_pure0 ?_ ?_); (next => repeat' first | exact rvs_n | refine rvs_t ?_ | (simp [go_sem]; done)); simp only [go_sem]; (first | exact VLe.refl _ | refine VLe_int ?_ | refine VLe_bool ?_ | refine VLe_str ?_ | skip))
          | (with_reducible refine And.intro ?_ ?_)
          | with_reducible intro _
        all_goals first
          | omega
          | (rename_i hx; revert hx; simp; done)
          | (simp; done)
          | skip
      | false =>
        have := hb2 rfl
        rw [← this, hAv] at hBv
        cases hBv
  all_goals
    rw [hAv] at cA hR2
    simp only at cA hR2
    rw [hR2]
    obtain ⟨W, hW2, cB⟩ : ∃ W, ((∃ v, W = AV.tup [.int .i64 v, .nilif]) ∨ ∃ v, W = AV.tup [.int .i64 v, .ifc]) ∧ ACalls Tryd.prog 50 [.str M] h W h := by
      cases hBv : Lib.atoiAll M <;> rw [hBv] at cB <;> first
        | exact ⟨_, .inl ⟨_, rfl⟩, cB⟩
        | exact ⟨_, .inr ⟨_, rfl⟩, cB⟩
    rcases hW2 with ⟨v, rfl⟩ | ⟨v, rfl⟩
    all_goals
      cases b with
      | true =>
        have := hb1 rfl
        subst this
        refine acalls_of fn25l (by simp) ?_
        simp only [List.length_cons, List.length_nil, Nat.reduceAdd, Nat.reduceSub, List.replicate, List.cons_append, List.nil_append, List.append_nil]
        simp (disch := omega) only [c25l, go_sem, wrap64_id, Int.tdiv_eq_ediv_of_nonneg, Int.tmod_eq_emod_of_nonneg]
        repeat' first
          | ((first | refine callA_pure (c49 _) ?_ ?_ | refine callA_pure (cA) ?_ ?_ | refine callA_pure (cB) ?_ ?_); (next => repeat' first | exact flags_n | refine flags_c (by first | rfl | assumption) ?_); simp (disch := omega) only [go_sem, wrap64_id, Int.tdiv_eq_ediv_of_nonneg, Int.tmod_eq_emod_of_nonneg])
          | ((first | refine callU_of (fun _ => c49 _) ?_ ?_); (next => repeat' first | exact flags_n | refine flags_c (by first | rfl | assumption) ?_); simp (disch := omega) only [go_sem, wrap64_id, Int.tdiv_eq_ediv_of_nonneg, Int.tmod_eq_emod_of_nonneg])
          | ((first | refine callG_pure (fun e => ⟨?_, c49 _⟩) ?_ | refine callG_pure (fun e => ⟨?_, cA⟩) ?_ | refine callG_pure (fun e => ⟨?_, cB⟩) ?_); (next => repeat' first | exact flags_n | refine flags_c (by first | rfl | assumption) ?_); simp (disch := omega) only [go_sem, wrap64_id, Int.tdiv_eq_ediv_of_nonneg, Int.tmod_eq_emod_of_nonneg])
          | ((first | refine fnQ_pure1 ?_ ?_ | refine fnQ_pure0 ?_ ?_); (next => repeat' first | exact rvs_n | refine rvs_t ?_ | (simp [go_sem]; done)); simp only [go_sem]; (first | exact VLe.refl _ | refine VLe_int ?_ | refine VLe_bool ?_ | refine VLe_str ?_ | skip))
          | (with_reducible refine And.intro ?_ ?_)
          | with_reducible intro _
        all_goals first
          | omega
          | (rename_i hx; revert hx; simp; done)
          | (simp; done)
          | skip
      | false =>
        have := hb2 rfl
        refine acalls_of fn25l (by simp) ?_
        simp only [List.length_cons, List.length_nil, Nat.reduceAdd, Nat.reduceSub, List.replicate, List.cons_append, List.nil_append, List.append_nil]
        simp (disch := omega) only [c25l, go_sem, wrap64_id, Int.tdiv_eq_ediv_of_nonneg, Int.tmod_eq_emod_of_nonneg]
        repeat' first
          | ((first | refine callA_pure (c49 _) ?_ ?_ | refine callA_pure (cA) ?_ ?_ | refine callA_pure (cA) ?_ ?_); (next => repeat' first | exact flags_n | refine flags_c (by first | rfl | assumption) ?_); simp (disch := omega) only [go_sem, wrap64_id, Int.tdiv_eq_ediv_of_nonneg, Int.tmod_eq_emod_of_nonneg])
          | ((first | refine callU_of (fun _ => c49 _) ?_ ?_); (next => repeat' first | exact flags_n | refine flags_c (by first | rfl | assumption) ?_); simp (disch := omega) only [go_sem, wrap64_id, Int.tdiv_eq_ediv_of_nonneg, Int.tmod_eq_emod_of_nonneg])
          | ((first | refine callG_pure (fun e => ⟨?_, c49 _⟩) ?_ | refine callG_pure (fun e => ⟨?_, cA⟩) ?_ | refine callG_pure (fun e => ⟨?_, cA⟩) ?_); (next => repeat' first | exact flags_n | refine flags_c (by first | rfl | assumption) ?_); simp (disch := omega) only [go_sem, wrap64_id, Int.tdiv_eq_ediv_of_nonneg, Int.tmod_eq_emod_of_nonneg])
          | ((first | refine fnQ_pure1 ?_ ?_ | refine fnQ_pure0 ?_ ?_); (next => repeat' first | exact rvs_n | refine rvs_t ?_ | (simp [go_sem]; done)); simp only [go_sem]; (first | exact VLe.refl _ | refine VLe_int ?_ | refine VLe_bool ?_ | refine VLe_str ?_ | skip))
          | (with_reducible refine And.intro ?_ ?_)
          | with_reducible intro _
        all_goals first
          | omega
          | (rename_i hx; revert hx; simp; done)
          | (simp; done)
          | skip
end LN
end

section
open Go Go.Proofs AF HY P48
namespace LN
set_option maxRecDepth 100000
theorem t47 (s : List UInt8) (c : UInt8) (h : List AObj) : ACalls Tryd.prog 47 [.str s, .str [c]] h (.int .i64 (Go.Lib.indexByte s c)) h := by
  have c71 := fun h => t71c s c h
  refine acalls_of fn47l (by simp) ?_
  simp only [List.length_cons, List.length_nil, Nat.reduceAdd, Nat.reduceSub, List.replicate, List.cons_append, List.nil_append, List.append_nil]
  simp (disch := omega) only [c47l, go_sem, wrap64_id, Int.tdiv_eq_ediv_of_nonneg, Int.tmod_eq_emod_of_nonneg]
  repeat' first
    | ((first | refine callA_pure (c71 _) ?_ ?_); (next => repeat' first | exact flags_n | refine flags_c (by first | rfl | assumption) ?_); simp (disch := omega) only [go_sem, wrap64_id, Int.tdiv_eq_ediv_of_nonneg, Int.tmod_eq_emod_of_nonneg])
    | ((first | refine callU_of (fun _ => c71 _) ?_ ?_); (next => repeat' first | exact flags_n | refine flags_c (by first | rfl | assumption) ?_); simp (disch := omega) only [go_sem, wrap64_id, Int.tdiv_eq_ediv_of_nonneg, Int.tmod_eq_emod_of_nonneg])
    | ((first | refine callG_pure (fun e => ⟨?_, c71 _⟩) ?_); (next => repeat' first | exact flags_n | refine flags_c (by first | rfl | assumption) ?_); simp (disch := omega) only [go_sem, wrap64_id, Int.tdiv_eq_ediv_of_nonneg, Int.tmod_eq_emod_of_nonneg])
    | ((first | refine fnQ_pure1 ?_ ?_ | refine fnQ_pure0 ?_ ?_); (next => repeat' first | exact rvs_n | refine rvs_t ?_ | (simp [go_sem]; done)); simp only [go_sem]; (first | exact VLe.refl _ | refine VLe_int ?_ | refine VLe_bool ?_ | refine VLe_str ?_ | skip))
    | (with_reducible refine And.intro ?_ ?_)
    | with_reducible intro _
  all_goals first
    | omega
    | (rename_i hx; revert hx; simp; done)
    | (simp; done)
    | skip
theorem t23 (s : List UInt8) (c : UInt8) (h : List AObj) : ACalls Tryd.prog 23 [.str s, .str [c]] h (.bool (decide (0 < s.count c))) h := by
  have c47 := fun h => t47 s c h
  by_cases g : 0 < s.count c
  · rw [index_cut c s g] at c47
    rw [decide_eq_true g]
    have k1 : (0 ≤ ((cutAt c s : Nat) : Int)) = True := eq_true (by omega)
    refine acalls_of fn23l (by simp) ?_
    simp only [List.length_cons, List.length_nil, Nat.reduceAdd, Nat.reduceSub, List.replicate, List.cons_append, List.nil_append, List.append_nil]
    simp (disch := omega) only [c23l, go_sem, wrap64_id, Int.tdiv_eq_ediv_of_nonneg, Int.tmod_eq_emod_of_nonneg]
    repeat' first
      | ((first | refine callA_pure (c47 _) ?_ ?_); (next => repeat' first | exact flags_n | refine flags_c (by first | rfl | assumption) ?_); simp (disch := omega) only [k1, go_sem, wrap64_id, Int.tdiv_eq_ediv_of_nonneg, Int.tmod_eq_emod_of_nonneg])
      | ((first | refine callU_of (fun _ => c47 _) ?_ ?_); (next => repeat' first | exact flags_n | refine flags_c (by first | rfl | assumption) ?_); simp (disch := omega) only [k1, go_sem, wrap64_id, Int.tdiv_eq_ediv_of_nonneg, Int.tmod_eq_emod_of_nonneg])
      | ((first | refine callG_pure (fun e => ⟨?_, c47 _⟩) ?_); (next => repeat' first | exact flags_n | refine flags_c (by first | rfl | assumption) ?_); simp (disch := omega) only [k1, go_sem, wrap64_id, Int.tdiv_eq_ediv_of_nonneg, Int.tmod_eq_emod_of_nonneg])
      | ((first | refine fnQ_pure1 ?_ ?_ | refine fnQ_pure0 ?_ ?_); (next => repeat' first | exact rvs_n | refine rvs_t ?_ | (simp [go_sem]; done)); simp only [go_sem]; (first | exact VLe.refl _ | refine VLe_int ?_ | refine VLe_bool ?_ | refine VLe_str ?_ | skip))
      | (with_reducible refine And.intro ?_ ?_)
      | with_reducible intro _
    all_goals first
      | omega
      | (rename_i hx; revert hx; simp; done)
      | (simp; done)
      | skip
  · rw [index_none c s (by omega)] at c47
    rw [decide_eq_false g]
    refine acalls_of fn23l (by simp) ?_
    simp only [List.length_cons, List.length_nil, Nat.reduceAdd, Nat.reduceSub, List.replicate, List.cons_append, List.nil_append, List.append_nil]
    simp (disch := omega) only [c23l, go_sem, wrap64_id, Int.tdiv_eq_ediv_of_nonneg, Int.tmod_eq_emod_of_nonneg]
    repeat' first
      | ((first | refine callA_pure (c47 _) ?_ ?_); (next => repeat' first | exact flags_n | refine flags_c (by first | rfl | assumption) ?_); simp (disch := omega) only [go_sem, wrap64_id, Int.tdiv_eq_ediv_of_nonneg, Int.tmod_eq_emod_of_nonneg])
      | ((first | refine callU_of (fun _ => c47 _) ?_ ?_); (next => repeat' first | exact flags_n | refine flags_c (by first | rfl | assumption) ?_); simp (disch := omega) only [go_sem, wrap64_id, Int.tdiv_eq_ediv_of_nonneg, Int.tmod_eq_emod_of_nonneg])
      | ((first | refine callG_pure (fun e => ⟨?_, c47 _⟩) ?_); (next => repeat' first | exact flags_n | refine flags_c (by first | rfl | assumption) ?_); simp (disch := omega) only [go_sem, wrap64_id, Int.tdiv_eq_ediv_of_nonneg, Int.tmod_eq_emod_of_nonneg])
      | ((first | refine fnQ_pure1 ?_ ?_ | refine fnQ_pure0 ?_ ?_); (next => repeat' first | exact rvs_n | refine rvs_t ?_ | (simp [go_sem]; done)); simp only [go_sem]; (first | exact VLe.refl _ | refine VLe_int ?_ | refine VLe_bool ?_ | refine VLe_str ?_ | skip))
      | (with_reducible refine And.intro ?_ ?_)
      | with_reducible intro _
    all_goals first
      | omega
      | (rename_i hx; revert hx; simp; done)
      | (simp; done)
      | skip
end LN
end

section
open Go Go.Proofs AF
set_option maxRecDepth 100000
namespace HY
end HY
end

section

open Go Go.Proofs AF HY P48
namespace LN
set_option maxRecDepth 100000
end LN
end

section
open Go Go.Proofs AF HY P48
namespace LN
set_option maxRecDepth 100000
end LN
end

section
open Go Go.Proofs AF HY P48
namespace LN
set_option maxRecDepth 100000
end LN
end

section
open Go Go.Proofs AF
set_option maxRecDepth 100000
namespace HY
def c5m : C :=
  ((C.ops [⟨some 6, none, .mv, [.c (.bool false)]⟩]).seq ((C.ops [⟨some 7, none, .mv, [.c (.fn (Fn.func 19) [] [])]⟩]).seq (((C.ops [⟨some 16, none, .mv, [.t 0]⟩, ⟨some 17, none,
  .len, [.t 16]⟩, ⟨some 18, none, .bin .gtr, [.t 17, .c (.int .i64 8)]⟩, ⟨some 19, none, .mv, [.t 18]⟩, ⟨some 20, some (19, false), .mv, [.t 1]⟩, ⟨some 21, some (19, false), .len,
  [.t 20]⟩, ⟨some 22, some (19, false), .bin .gtr, [.t 21, .c (.int .i64 8)]⟩, ⟨some 23, none, .pick, [.t 19, .c (.bool true), .t 22]⟩, ⟨some 24, none, .mv, [.t 23]⟩, ⟨some 25, some
  (24, false), .mv, [.t 2]⟩, ⟨some 26, some (24, false), .len, [.t 25]⟩, ⟨some 27, some (24, false), .bin .gtr, [.t 26, .c (.int .i64 8)]⟩, ⟨some 28, none, .pick, [.t 24, .c (.bool
  true), .t 27]⟩, ⟨some 29, none, .mv, [.t 28]⟩, ⟨some 30, some (29, false), .mv, [.t 0]⟩, ⟨some 31, some (29, false), .mv, [.t 7]⟩, ⟨some 32, some (29, false), .call 20 true, [.t
  30, .t 31]⟩, ⟨some 33, none, .pick, [.t 29, .c (.bool true), .t 32]⟩, ⟨some 34, none, .mv, [.t 33]⟩, ⟨some 35, some (34, false), .mv, [.t 1]⟩, ⟨some 36, some (34, false), .mv, [.t
  7]⟩, ⟨some 37, some (34, false), .call 20 true, [.t 35, .t 36]⟩, ⟨some 38, none, .pick, [.t 34, .c (.bool true), .t 37]⟩]).seq (C.cond (.t 38) ((C.ops [⟨some 39, none, .call 10
  true, []⟩, ⟨some 6, none, .mv, [.t 39]⟩]).seq C.ret) C.skip)).seq ((C.ops [⟨some 41, none, .mv, [.t 0]⟩, ⟨some 42, none, .mv, [.t 1]⟩, ⟨some 43, none, .mv, [.t 2]⟩, ⟨some 44, none,
  .call 21 false, [.t 41, .t 42, .t 43]⟩, ⟨some 40, none, .mv, [.t 44]⟩, ⟨some 45, none, .ext 0, [.t 40]⟩, ⟨some 46, none, .ext 1, [.t 40]⟩, ⟨some 8, none, .mv, [.t 45]⟩, ⟨some 9,
  none, .mv, [.t 46]⟩]).seq (((C.ops [⟨some 48, none, .mv, [.t 1]⟩, ⟨some 49, none, .mv, [.t 2]⟩, ⟨some 50, none, .call 21 false, [.c .nl, .t 48, .t 49]⟩, ⟨some 47, none, .mv, [.t
  50]⟩, ⟨some 51, none, .ext 0, [.t 47]⟩, ⟨some 52, none, .ext 1, [.t 47]⟩, ⟨some 10, none, .mv, [.t 51]⟩, ⟨some 11, none, .mv, [.t 52]⟩]).seq ((C.ops [⟨some 53, none, .mv, [.t 11]⟩,
  ⟨some 54, none, .bin .neq, [.t 53, .c (.int .i64 0)]⟩]).seq (C.cond (.t 54) ((C.ops [⟨some 55, none, .mv, [.t 9]⟩, ⟨some 56, none, .mv, [.t 11]⟩, ⟨some 57, none, .bin .eql, [.t 55,
  .t 56]⟩, ⟨some 58, none, .mv, [.t 57]⟩, ⟨some 59, some (58, true), .mv, [.t 8]⟩, ⟨some 60, some (58, true), .len, [.t 59]⟩, ⟨some 61, some (58, true), .bin .eql, [.t 60, .c (.int
  .i64 0)]⟩, ⟨some 62, none, .pick, [.t 58, .t 61, .c (.bool false)]⟩, ⟨some 63, none, .mv, [.t 62]⟩, ⟨some 64, some (63, true), .call 10 true, []⟩, ⟨some 65, none, .pick, [.t 63, .t
  64, .c (.bool false)]⟩, ⟨some 6, none, .mv, [.t 65]⟩]).seq C.ret) C.skip))).seq (((C.ops [⟨some 66, none, .mv, [.t 9]⟩, ⟨some 67, none, .bin .neq, [.t 66, .c (.int .i64 0)]⟩]).seq
  (C.cond (.t 67) ((C.ops [⟨some 68, none, .mv, [.t 9]⟩, ⟨some 69, none, .bin .eql, [.t 68, .c (.int .i64 26)]⟩, ⟨some 70, none, .mv, [.t 69]⟩, ⟨some 71, some (70, true), .mv, [.t
  0]⟩, ⟨some 72, some (70, true), .call 20 true, [.t 71, .c (.fn (Fn.func 22) [] [])]⟩, ⟨some 73, none, .pick, [.t 70, .t 72, .c (.bool false)]⟩, ⟨some 74, none, .mv, [.t 73]⟩, ⟨some
  75, some (74, true), .call 10 true, []⟩, ⟨some 76, none, .pick, [.t 74, .t 75, .c (.bool false)]⟩, ⟨some 6, none, .mv, [.t 76]⟩]).seq C.ret) C.skip)).seq (((C.ops [⟨some 77, none,
  .mv, [.t 8]⟩, ⟨some 78, none, .len, [.t 77]⟩, ⟨some 79, none, .mv, [.t 0]⟩, ⟨some 80, none, .len, [.t 79]⟩, ⟨some 81, none, .bin .neq, [.t 78, .t 80]⟩]).seq (C.cond (.t 81) ((C.ops
  [⟨some 6, none, .mv, [.c (.bool false)]⟩]).seq C.ret) C.skip)).seq (((C.ops [⟨some 82, none, .mv, [.t 0]⟩, ⟨some 83, none, .len, [.t 82]⟩, ⟨some 84, none, .mv, [.c (.int .i64
  0)]⟩]).seq (C.block 0 ((C.ops [⟨some 85, none, .bin .lss, [.t 84, .t 83]⟩]).seq ((C.cond (.t 85) C.skip (C.exit 0)).seq ((C.block 1 ((C.ops [⟨some 86, none, .mv, [.t 84]⟩, ⟨some
  87, none, .idxA 1, [.t 82, .t 84]⟩, ⟨some 88, none, .load none, [.t 87]⟩, ⟨some 12, none, .mv, [.t 86]⟩, ⟨some 13, none, .mv, [.t 88]⟩]).seq ((C.ops [⟨some 90, none, .mv, [.t 13]⟩,
  ⟨some 91, none, .bslc 0 1 1 9 [.str []] [(0, 1)], [.t 90]⟩, ⟨some 92, none, .mv, [.t 1]⟩, ⟨some 93, none, .mv, [.t 2]⟩, ⟨some 94, none, .call 21 false, [.t 91, .t 92, .t 93]⟩,
  ⟨some 89, none, .mv, [.t 94]⟩, ⟨some 95, none, .ext 0, [.t 89]⟩, ⟨some 96, none, .ext 1, [.t 89]⟩, ⟨some 14, none, .mv, [.t 95]⟩, ⟨some 15, none, .mv, [.t 96]⟩]).seq ((C.ops [⟨some
  97, none, .mv, [.t 15]⟩, ⟨some 98, none, .bin .neq, [.t 97, .c (.int .i64 0)]⟩, ⟨some 99, none, .mv, [.t 98]⟩, ⟨some 100, some (99, false), .mv, [.t 14]⟩, ⟨some 101, some (99,
  false), .len, [.t 100]⟩, ⟨some 102, some (99, false), .bin .neq, [.t 101, .c (.int .i64 1)]⟩, ⟨some 103, none, .pick, [.t 99, .c (.bool true), .t 102]⟩, ⟨some 104, none, .mv, [.t
  103]⟩, ⟨some 105, some (104, false), .mv, [.t 14]⟩, ⟨some 106, some (104, false), .idxA 1, [.t 105, .c (.int .i64 0)]⟩, ⟨some 107, some (104, false), .load none, [.t 106]⟩, ⟨some
  108, some (104, false), .mv, [.t 8]⟩, ⟨some 109, some (104, false), .mv, [.t 12]⟩, ⟨some 110, some (104, false), .idxA 1, [.t 108, .t 109]⟩, ⟨some 111, some (104, false), .load
  none, [.t 110]⟩, ⟨some 112, some (104, false), .bin .neq, [.t 107, .t 111]⟩, ⟨some 113, none, .pick, [.t 104, .c (.bool true), .t 112]⟩, ⟨some 114, none, .mv, [.t 113]⟩, ⟨some 115,
  some (114, false), .mv, [.t 8]⟩, ⟨some 116, some (114, false), .mv, [.t 12]⟩, ⟨some 117, some (114, false), .idxA 1, [.t 115, .t 116]⟩, ⟨some 118, some (114, false), .load none,
  [.t 117]⟩, ⟨some 119, some (114, false), .call 23 true, [.t 118, .c (.str [64])]⟩, ⟨some 120, none, .pick, [.t 114, .c (.bool true), .t 119]⟩, ⟨some 121, none, .mv, [.t 120]⟩,
  ⟨some 122, some (121, false), .mv, [.t 13]⟩, ⟨some 123, some (121, false), .call 23 true, [.t 122, .c (.str [64])]⟩, ⟨some 124, some (121, false), .un UnOp.not, [.t 123]⟩, ⟨some
  125, some (121, false), .mv, [.t 124]⟩, ⟨some 126, some (125, true), .mv, [.t 8]⟩, ⟨some 127, some (125, true), .mv, [.t 12]⟩, ⟨some 128, some (125, true), .idxA 1, [.t 126, .t
  127]⟩, ⟨some 129, some (125, true), .load none, [.t 128]⟩, ⟨some 130, some (125, true), .mv, [.t 13]⟩, ⟨some 131, some (125, true), .bin .neq, [.t 129, .t 130]⟩, ⟨some 132, some
  (121, false), .pick, [.t 125, .t 131, .c (.bool false)]⟩, ⟨some 133, none, .pick, [.t 121, .c (.bool true), .t 132]⟩]).seq (C.cond (.t 133) ((C.ops [⟨some 6, none, .mv, [.c (.bool
  false)]⟩]).seq C.ret) C.skip))))).seq (C.ops [⟨some 134, none, .bin .add, [.t 84, .c (.int .i64 1)]⟩, ⟨some 84, none, .mv, [.t 134]⟩])))).loop)).seq ((C.ops [⟨some 135, none, .call
  10 true, []⟩, ⟨some 6, none, .mv, [.t 135]⟩]).seq
  C.ret)))))))))
theorem fn5m : FnIs Tryd.prog 5 136 1 [RV.tmp 6] c5m := ⟨Tryd.f5, Tryd.f5.body.getD .skip, [91], [93, 67, 70, 45, 59, 21], [], by kernel_rfl, by kernel_rfl, by kernel_rfl, by kernel_rfl, by kernel_rfl, by kernel_rfl, by kernel_rfl⟩

end HY
end

section
open Go Go.Proofs AF HY P48
namespace LN
set_option maxRecDepth 100000
def findS (p : List UInt8 → Bool) : List (List UInt8) → Nat → Int
  | [], _ => -1
  | c :: r, i => if p c = true then i else findS p r (i + 1)
theorem findS_iff (p : List UInt8 → Bool) : ∀ (s : List (List UInt8)) (i : Nat), (0 ≤ findS p s i ↔ s.any p = true) ∧ -1 ≤ findS p s i := by
  intro s
  induction s with
  | nil => intro i; simp [findS]
  | cons c r ih =>
    intro i
    by_cases hc : p c = true
    · have e : findS p (c :: r) i = i := if_pos hc
      rw [e, List.any_cons, hc]
      simp
      try omega
    · have e : findS p (c :: r) i = findS p r (i + 1) := if_neg hc
      rw [e, List.any_cons]
      have hc' : p c = false := by simpa using hc
      rw [hc', Bool.false_or]
      exact ih (i + 1)
theorem t43 (s : List (List UInt8)) (p : List UInt8 → Bool) (F : Nat) (h : List AObj) (hs : s.length ≤ 1000000000) (hp : ∀ (c : List UInt8) (h : List AObj), ACalls Tryd.prog F [.str c] h (.bool (p c)) h) : ACalls Tryd.prog 43 [strs s, .fn (.func F) [] []] h (.int .i64 (findS p s 0)) h := by
  refine acalls_of fn43l (by simp) ?_
  simp only [List.length_cons, List.length_nil, Nat.reduceAdd, Nat.reduceSub, List.replicate, List.cons_append, List.nil_append, List.append_nil]
  simp (disch := omega) only [c43l, strs, go_sem, wrap64_id, Int.tdiv_eq_ediv_of_nonneg, Int.tmod_eq_emod_of_nonneg]
  repeat' first
    | ((first | refine fnQ_pure1 ?_ ?_ | refine fnQ_pure0 ?_ ?_); (next => repeat' first | exact rvs_n | refine rvs_t ?_ | (simp [go_sem]; done)); simp only [go_sem]; (first | exact VLe.refl _ | refine VLe_int ?_ | refine VLe_bool ?_ | refine VLe_str ?_ | skip))
    | (with_reducible refine And.intro ?_ ?_)
    | with_reducible intro _
  all_goals first
    | omega
    | (rename_i hx; revert hx; simp; done)
    | (simp; done)
    | skip
  refine loop_of (T := fun i : Nat => spar 19 [(0, strs s), (1, .fn (.func F) [] []), (6, strs s), (7, .int .i64 s.length), (8, .int .i64 i)]) (H := fun _ => h) (inv := fun i => i ≤ s.length ∧ findS p s 0 = findS p (s.drop i) i) (m := fun i => s.length - i) 0 ⟨by omega, by simp⟩ (Wk.temps ?_) ?_
  · (simp only [strs, spar, List.foldl, List.replicate, go_sem, VLes_nil, VLes_cons, VLe_undef_iff, VLe_self]; try (repeat' first | (with_reducible refine And.intro ?_ ?_) | (refine VLe_int ?_; omega) | (refine VLe_bool ?_; rfl) | exact VLe.refl _))
  · rintro i ⟨i1, i2⟩ K hK
    rw [i2]
    by_cases hi : i < s.length
    · have e : s.drop i = s.getD i [] :: s.drop (i + 1) := by rw [List.drop_eq_getElem_cons hi]; simp [List.getD_eq_getElem?_getD, hi]
      rw [e] at i2 ⊢
      simp only [findS] at i2 ⊢
      obtain ⟨c, hc⟩ : ∃ c, c = s.getD i [] := ⟨_, rfl⟩
      have ec := hc.symm
      rw [ec] at i2 ⊢
      have hpc := hp c
      cases hb : p c with
      | true =>
        rw [hb] at hpc
        simp (disch := omega) only [spar, List.foldl, List.replicate, strs, ec, go_sem, wrap64_id, Int.tdiv_eq_ediv_of_nonneg, Int.tmod_eq_emod_of_nonneg]
        repeat' first
          | (refine callV_pure (hpc _) ?_; simp (disch := omega) only [strs, ec, go_sem, wrap64_id, Int.tdiv_eq_ediv_of_nonneg, Int.tmod_eq_emod_of_nonneg])
          | ((first | refine fnQ_pure1 ?_ ?_ | refine fnQ_pure0 ?_ ?_); (next => repeat' first | exact rvs_n | refine rvs_t ?_ | (simp [go_sem]; done)); simp only [go_sem]; (first | exact VLe.refl _ | refine VLe_int ?_ | refine VLe_bool ?_ | refine VLe_str ?_ | skip))
          | (with_reducible refine And.intro ?_ ?_)
          | with_reducible intro _
        all_goals first
          | omega
          | (rename_i hx; revert hx; simp; done)
          | (simp; done)
          | skip
      | false =>
        rw [hb] at hpc i2
        simp (disch := omega) only [spar, List.foldl, List.replicate, strs, ec, go_sem, wrap64_id, Int.tdiv_eq_ediv_of_nonneg, Int.tmod_eq_emod_of_nonneg]
        repeat' first
          | (refine callV_pure (hpc _) ?_; simp (disch := omega) only [strs, ec, go_sem, wrap64_id, Int.tdiv_eq_ediv_of_nonneg, Int.tmod_eq_emod_of_nonneg])
          | ((first | refine fnQ_pure1 ?_ ?_ | refine fnQ_pure0 ?_ ?_); (next => repeat' first | exact rvs_n | refine rvs_t ?_ | (simp [go_sem]; done)); simp only [go_sem]; (first | exact VLe.refl _ | refine VLe_int ?_ | refine VLe_bool ?_ | refine VLe_str ?_ | skip))
          | (with_reducible refine And.intro ?_ ?_)
          | with_reducible intro _
        all_goals first
          | omega
          | (rename_i hx; revert hx; simp; done)
          | (simp; done)
          | skip
        refine hK _ _ (i + 1) ⟨by omega, by rw [i2]; simp⟩ (by omega) (Wk.temps ?_)
        (simp only [strs, spar, List.foldl, List.replicate, go_sem, VLes_nil, VLes_cons, VLe_undef_iff, VLe_self]; try (repeat' first | (with_reducible refine And.intro ?_ ?_) | (refine VLe_int ?_; omega) | (refine VLe_bool ?_; rfl) | exact VLe.refl _))
    · have e : i = s.length := by omega
      subst e
      rw [List.drop_length]
      simp (disch := omega) only [spar, List.foldl, List.replicate, strs, go_sem, wrap64_id, Int.tdiv_eq_ediv_of_nonneg, Int.tmod_eq_emod_of_nonneg]
      repeat' first
        | ((first | refine fnQ_pure1 ?_ ?_ | refine fnQ_pure0 ?_ ?_); (next => repeat' first | exact rvs_n | refine rvs_t ?_ | (simp [go_sem]; done)); simp only [go_sem]; (first | exact VLe.refl _ | refine VLe_int ?_ | refine VLe_bool ?_ | refine VLe_str ?_ | skip))
        | (with_reducible refine And.intro ?_ ?_)
        | with_reducible intro _
      all_goals first
        | omega
        | (rename_i hx; revert hx; simp; done)
        | (simp; done)
        | skip
theorem t20 (s : List (List UInt8)) (p : List UInt8 → Bool) (F : Nat) (h : List AObj) (hs : s.length ≤ 1000000000) (hp : ∀ (c : List UInt8) (h : List AObj), ACalls Tryd.prog F [.str c] h (.bool (p c)) h) : ACalls Tryd.prog 20 [strs s, .fn (.func F) [] []] h (.bool (s.any p)) h := by
  have c43 := fun h => t43 s p F h hs hp
  obtain ⟨h1, h2⟩ := findS_iff p s 0
  obtain ⟨f, hf⟩ : ∃ f, f = findS p s 0 := ⟨_, rfl⟩
  rw [← hf] at c43 h1
  by_cases g : 0 ≤ f
  · have k1 : (0 ≤ f) = True := eq_true g
    rw [h1.1 g]
    refine acalls_of fn20l (by simp) ?_
    simp only [List.length_cons, List.length_nil, Nat.reduceAdd, Nat.reduceSub, List.replicate, List.cons_append, List.nil_append, List.append_nil]
    simp (disch := omega) only [c20l, strs, k1, go_sem, wrap64_id, Int.tdiv_eq_ediv_of_nonneg, Int.tmod_eq_emod_of_nonneg]
    repeat' first
      | ((first | refine callA_pure (c43 _) ?_ ?_); (next => repeat' first | exact flags_n | refine flags_c (by first | rfl | assumption) ?_); simp (disch := omega) only [strs, k1, go_sem, wrap64_id, Int.tdiv_eq_ediv_of_nonneg, Int.tmod_eq_emod_of_nonneg])
      | ((first | refine callU_of (fun _ => c43 _) ?_ ?_); (next => repeat' first | exact flags_n | refine flags_c (by first | rfl | assumption) ?_); simp (disch := omega) only [strs, k1, go_sem, wrap64_id, Int.tdiv_eq_ediv_of_nonneg, Int.tmod_eq_emod_of_nonneg])
      | ((first | refine callG_pure (fun e => ⟨?_, c43 _⟩) ?_); (next => repeat' first | exact flags_n | refine flags_c (by first | rfl | assumption) ?_); simp (disch := omega) only [strs, k1, go_sem, wrap64_id, Int.tdiv_eq_ediv_of_nonneg, Int.tmod_eq_emod_of_nonneg])
      | ((first | refine fnQ_pure1 ?_ ?_ | refine fnQ_pure0 ?_ ?_); (next => repeat' first | exact rvs_n | refine rvs_t ?_ | (simp [go_sem]; done)); simp only [go_sem]; (first | exact VLe.refl _ | refine VLe_int ?_ | refine VLe_bool ?_ | refine VLe_str ?_ | skip))
      | (with_reducible refine And.intro ?_ ?_)
      | with_reducible intro _
    all_goals first
      | omega
      | (rename_i hx; revert hx; simp; done)
      | (simp; done)
      | skip
  · have k1 : (0 ≤ f) = False := eq_false g
    have e : s.any p = false := by
      cases hb : s.any p with
      | false => rfl
      | true => exact absurd (h1.2 hb) g
    rw [e]
    refine acalls_of fn20l (by simp) ?_
    simp only [List.length_cons, List.length_nil, Nat.reduceAdd, Nat.reduceSub, List.replicate, List.cons_append, List.nil_append, List.append_nil]
    simp (disch := omega) only [c20l, strs, k1, go_sem, wrap64_id, Int.tdiv_eq_ediv_of_nonneg, Int.tmod_eq_emod_of_nonneg]
    repeat' first
      | ((first | refine callA_pure (c43 _) ?_ ?_); (next => repeat' first | exact flags_n | refine flags_c (by first | rfl | assumption) ?_); simp (disch := omega) only [strs, k1, go_sem, wrap64_id, Int.tdiv_eq_ediv_of_nonneg, Int.tmod_eq_emod_of_nonneg])
      | ((first | refine callU_of (fun _ => c43 _) ?_ ?_); (next => repeat' first | exact flags_n | refine flags_c (by first | rfl | assumption) ?_); simp (disch := omega) only [strs, k1, go_sem, wrap64_id, Int.tdiv_eq_ediv_of_nonneg, Int.tmod_eq_emod_of_nonneg])
      | ((first | refine callG_pure (fun e => ⟨?_, c43 _⟩) ?_); (next => repeat' first | exact flags_n | refine flags_c (by first | rfl | assumption) ?_); simp (disch := omega) only [strs, k1, go_sem, wrap64_id, Int.tdiv_eq_ediv_of_nonneg, Int.tmod_eq_emod_of_nonneg])
      | ((first | refine fnQ_pure1 ?_ ?_ | refine fnQ_pure0 ?_ ?_); (next => repeat' first | exact rvs_n | refine rvs_t ?_ | (simp [go_sem]; done)); simp only [go_sem]; (first | exact VLe.refl _ | refine VLe_int ?_ | refine VLe_bool ?_ | refine VLe_str ?_ | skip))
      | (with_reducible refine And.intro ?_ ?_)
      | with_reducible intro _
    all_goals first
      | omega
      | (rename_i hx; revert hx; simp; done)
      | (simp; done)
      | skip
theorem t19 (w : List UInt8) (h : List AObj) : ACalls Tryd.prog 19 [.str w] h (.bool (decide (80 < w.length))) h := by
  by_cases g : 80 < w.length
  · have k1 : (80 < (w.length : Int)) = True := eq_true (by omega)
    rw [decide_eq_true g]
    refine acalls_of fn19l (by simp) ?_
    simp only [List.length_cons, List.length_nil, Nat.reduceAdd, Nat.reduceSub, List.replicate, List.cons_append, List.nil_append, List.append_nil]
    simp (disch := omega) only [c19l, k1, go_sem, wrap64_id, Int.tdiv_eq_ediv_of_nonneg, Int.tmod_eq_emod_of_nonneg]
    repeat' first
      | ((first | refine fnQ_pure1 ?_ ?_ | refine fnQ_pure0 ?_ ?_); (next => repeat' first | exact rvs_n | refine rvs_t ?_ | (simp [go_sem]; done)); simp only [go_sem]; (first | exact VLe.refl _ | refine VLe_int ?_ | refine VLe_bool ?_ | refine VLe_str ?_ | skip))
      | (with_reducible refine And.intro ?_ ?_)
      | with_reducible intro _
    all_goals first
      | omega
      | (rename_i hx; revert hx; simp; done)
      | (simp; done)
      | skip
  · have k1 : (80 < (w.length : Int)) = False := eq_false (by omega)
    rw [decide_eq_false g]
    refine acalls_of fn19l (by simp) ?_
    simp only [List.length_cons, List.length_nil, Nat.reduceAdd, Nat.reduceSub, List.replicate, List.cons_append, List.nil_append, List.append_nil]
    simp (disch := omega) only [c19l, k1, go_sem, wrap64_id, Int.tdiv_eq_ediv_of_nonneg, Int.tmod_eq_emod_of_nonneg]
    repeat' first
      | ((first | refine fnQ_pure1 ?_ ?_ | refine fnQ_pure0 ?_ ?_); (next => repeat' first | exact rvs_n | refine rvs_t ?_ | (simp [go_sem]; done)); simp only [go_sem]; (first | exact VLe.refl _ | refine VLe_int ?_ | refine VLe_bool ?_ | refine VLe_str ?_ | skip))
      | (with_reducible refine And.intro ?_ ?_)
      | with_reducible intro _
    all_goals first
      | omega
      | (rename_i hx; revert hx; simp; done)
      | (simp; done)
      | skip
theorem t22 (w : List UInt8) (h : List AObj) : ACalls Tryd.prog 22 [.str w] h (.bool (decide (0 < w.count 64))) h := by
  have c23 := fun h => t23 w 64 h
  refine acalls_of fn22l (by simp) ?_
  simp only [List.length_cons, List.length_nil, Nat.reduceAdd, Nat.reduceSub, List.replicate, List.cons_append, List.nil_append, List.append_nil]
  simp (disch := omega) only [c22l, go_sem, wrap64_id, Int.tdiv_eq_ediv_of_nonneg, Int.tmod_eq_emod_of_nonneg]
  repeat' first
    | ((first | refine callA_pure (c23 _) ?_ ?_); (next => repeat' first | exact flags_n | refine flags_c (by first | rfl | assumption) ?_); simp (disch := omega) only [go_sem, wrap64_id, Int.tdiv_eq_ediv_of_nonneg, Int.tmod_eq_emod_of_nonneg])
    | ((first | refine callU_of (fun _ => c23 _) ?_ ?_); (next => repeat' first | exact flags_n | refine flags_c (by first | rfl | assumption) ?_); simp (disch := omega) only [go_sem, wrap64_id, Int.tdiv_eq_ediv_of_nonneg, Int.tmod_eq_emod_of_nonneg])
    | ((first | refine callG_pure (fun e => ⟨?_, c23 _⟩) ?_); (next => repeat' first | exact flags_n | refine flags_c (by first | rfl | assumption) ?_); simp (disch := omega) only [go_sem, wrap64_id, Int.tdiv_eq_ediv_of_nonneg, Int.tmod_eq_emod_of_nonneg])
    | ((first | refine fnQ_pure1 ?_ ?_ | refine fnQ_pure0 ?_ ?_); (next => repeat' first | exact rvs_n | refine rvs_t ?_ | (simp [go_sem]; done)); simp only [go_sem]; (first | exact VLe.refl _ | refine VLe_int ?_ | refine VLe_bool ?_ | refine VLe_str ?_ | skip))
    | (with_reducible refine And.intro ?_ ?_)
    | with_reducible intro _
  all_goals first
    | omega
    | (rename_i hx; revert hx; simp; done)
    | (simp; done)
    | skip
theorem take_cut (c : UInt8) (s : List UInt8) : (s.take (cutAt c s)).count c = 0 := by
  have e : s.take (cutAt c s) = s.takeWhile (· != c) := by
    unfold cutAt
    conv => lhs; arg 2; rw [← List.takeWhile_append_dropWhile (p := (· != c)) (l := s)]
    exact List.take_left
  rw [e]
  clear e
  induction s with
  | nil => rfl
  | cons b s ih =>
    rw [List.takeWhile_cons]
    split
    · rename_i hb
      rw [List.count_cons, ih]
      simp at hb
      simp [hb]
    · rfl
def MapOk (it : Int → List UInt8) (m : List (List UInt8 × Int)) : Prop := ∀ k n, m.lookup k = some n → (it n).length ≤ 20 ∧ (it n).count 64 = 0
theorem resN_ok {m : List (List UInt8 × Int)} {it : Int → List UInt8} (hm : MapOk it m) : ∀ (n : Nat) (s : List UInt8), s.length < n →
    (resN m it n s = none → 0 < s.count 64) ∧ ∀ t, resN m it n s = some t → t.length ≤ 21 * s.length ∧ t.count 64 = 0 ∧ (s.count 64 = 0 → t = s) := by
  intro n
  induction n with
  | zero => intro s h; omega
  | succ n ih =>
    intro s hs
    by_cases g : 0 < s.count 64
    · refine ⟨fun _ => g, fun t ht => ?_⟩
      unfold resN at ht
      rw [if_pos g] at ht
      have hlt := cutAt_lt 64 s g
      cases hk : m.lookup ((s.drop (cutAt 64 s + 1)).takeWhile ld) with
      | none => rw [hk] at ht; cases ht
      | some k =>
        rw [hk] at ht
        simp only [Option.map_eq_some_iff] at ht
        obtain ⟨t2, h2, rfl⟩ := ht
        obtain ⟨k1, k2⟩ := hm _ _ hk
        have hl : ((s.drop (cutAt 64 s + 1)).drop ((s.drop (cutAt 64 s + 1)).takeWhile ld).length).length + cutAt 64 s + 1 ≤ s.length := by simp; omega
        obtain ⟨a1, a2, _⟩ := (ih _ (by omega)).2 t2 h2
        have htk := take_cut 64 s
        refine ⟨?_, ?_, fun h0 => by omega⟩
        · simp only [List.length_append, List.length_take]
          omega
        · rw [List.count_append, List.count_append, htk, k2, a2]
    · unfold resN
      rw [if_neg g]
      refine ⟨fun h => (by cases h), fun t ht => ?_⟩
      cases ht
      exact ⟨by omega, by omega, fun _ => rfl⟩
theorem resV_ok {m : List (List UInt8 × Int)} {it : Int → List UInt8} (hm : MapOk it m) {s : List UInt8} (hs : s.length ≤ 80) :
    resV m it s = ([], 26) ∧ 0 < s.count 64 ∨ ∃ t, resV m it s = (t, 0) ∧ t.count 64 = 0 ∧ (s.count 64 = 0 → t = s) := by
  obtain ⟨h1, h2⟩ := resN_ok hm (s.length + 1) s (by omega)
  unfold resV
  rw [if_neg (by omega)]
  cases hr : resN m it (s.length + 1) s with
  | none => exact .inl ⟨rfl, h1 hr⟩
  | some t =>
    obtain ⟨a1, a2, a3⟩ := h2 t hr
    right
    simp only
    rw [if_neg (by omega)]
    exact ⟨t, rfl, a2, a3⟩
theorem bindL_vals {it : Int → List UInt8} (hit : ∀ n : Int, 1 ≤ n → n ≤ 4096 → (it n).length ≤ 20 ∧ (it n).count 64 = 0) : ∀ (zs m : List (List UInt8 × Int)), MapOk it m → (bindL zs m).1 = 0 → MapOk it (bindL zs m).2 := by
  intro zs
  induction zs with
  | nil => intro m hm _; exact hm
  | cons p zs ih =>
    intro m hm h0
    obtain ⟨l, v⟩ := p
    unfold bindL at h0 ⊢
    split
    · rename_i h; rw [if_pos h] at h0; cases h0
    · rename_i h1
      rw [if_neg h1] at h0
      split
      · rename_i h; rw [if_pos h] at h0; cases h0
      · rename_i h2
        rw [if_neg h2] at h0
        split
        · rename_i h; rw [if_pos h] at h0; cases h0
        · rename_i h3
          rw [if_neg h3] at h0
          refine ih _ (fun k n hk => ?_) h0
          rw [List.lookup_append] at hk
          cases hk2 : m.lookup k with
          | some u =>
            rw [hk2] at hk
            cases hk
            exact hm k n hk2
          | none =>
            rw [hk2] at hk
            have hk : List.lookup k [(l, v)] = some n := hk
            rw [List.lookup_cons] at hk
            split at hk
            · cases hk
              exact hit v (by omega) (by omega)
            · cases hk
theorem res_cases (it : Int → List UInt8) (hit : ∀ n : Int, 1 ≤ n → n ≤ 4096 → (it n).length ≤ 20 ∧ (it n).count 64 = 0) (ts L : List (List UInt8)) (V : List Int) (h1 : ts.length ≤ 4096) (h4 : ∀ i, i < ts.length → (ts.getD i []).length ≤ 80) :
    (resO it [] L V).2 = [] ∧ (((resO it [] L V).1 ≠ 0 ∧ resO it ts L V = ((resO it [] L V).1, [])) ∨
      ((resO it [] L V).1 = 0 ∧ ((resO it ts L V).1 = 26 ∧ ts.any (fun w => decide (0 < w.count 64)) = true ∨
        (resO it ts L V).1 = 0 ∧ (resO it ts L V).2.length = ts.length ∧ ∀ i, i < ts.length → resO it [ts.getD i []] L V = (0, [(resO it ts L V).2.getD i []]) ∧ ((resO it ts L V).2.getD i []).count 64 = 0 ∧ ((ts.getD i []).count 64 = 0 → (resO it ts L V).2.getD i [] = ts.getD i [])))) := by
  by_cases g1 : L.length = V.length
  · by_cases g2 : 4096 < L.length
    · have e : ∀ ts, resO it ts L V = (4, []) := fun ts => by unfold resO; rw [if_neg (fun hc => hc g1), if_pos (.inl g2)]
      rw [e, e]
      exact ⟨rfl, .inl ⟨by decide, rfl⟩⟩
    · have e : ∀ ts : List (List UInt8), ts.length ≤ 4096 → resO it ts L V = if (bindL (L.zip V) []).1 ≠ 0 then ((bindL (L.zip V) []).1, []) else resAll (bindL (L.zip V) []).2 it ts := fun ts h => by
        unfold resO; rw [if_neg (fun hc => hc g1), if_neg (by rintro (h | h) <;> omega)]
      rw [e [] (by simp), e ts h1]
      by_cases g3 : (bindL (L.zip V) []).1 ≠ 0
      · rw [if_pos g3, if_pos g3]
        exact ⟨rfl, .inl ⟨g3, rfl⟩⟩
      · rw [if_neg g3, if_neg g3]
        have hm := bindL_vals hit (L.zip V) [] (fun k n hk => by cases hk) (by simpa using g3)
        obtain ⟨m, hmm⟩ : ∃ m, m = (bindL (L.zip V) []).2 := ⟨_, rfl⟩
        rw [← hmm] at hm
        have e1 : ∀ s, resO it [s] L V = resAll m it [s] := fun s => by rw [e [s] (by simp), if_neg g3, hmm]
        rw [← hmm]
        refine ⟨rfl, .inr ⟨rfl, ?_⟩⟩
        by_cases hall : ∀ j, j < ts.length → (resV m it (ts.getD j [])).2 = 0
        · right
          rw [resAll_ok hall]
          refine ⟨rfl, by simp, fun i hi => ?_⟩
          have hg : (ts.map fun t => (resV m it t).1).getD i [] = (resV m it (ts.getD i [])).1 := by
            simp [List.getD_eq_getElem?_getD, hi]
          simp only
          rw [hg, e1]
          have h0 := hall i hi
          rcases resV_ok hm (h4 i hi) with ⟨r1, _⟩ | ⟨t, r1, r2, r3⟩
          · rw [r1] at h0; exact absurd h0 (by decide)
          · rw [resAll_ok (ts := [ts.getD i []]) (fun j hj => by
              obtain rfl : j = 0 := by simpa using hj
              exact h0), r1]
            refine ⟨?_, r2, r3⟩
            simp only [List.map_cons, List.map_nil]
            rw [r1]
        · left
          have hex : ∃ i, i < ts.length ∧ (resV m it (ts.getD i [])).2 ≠ 0 := by
            apply Classical.byContradiction
            intro hn
            exact hall (fun j hj => Classical.byContradiction fun h => hn ⟨j, hj, h⟩)
          obtain ⟨i0, hi0, hne0⟩ := hex
          have hmin : ∃ i, i < ts.length ∧ (resV m it (ts.getD i [])).2 ≠ 0 ∧ ∀ j, j < i → (resV m it (ts.getD j [])).2 = 0 := by
            clear hall
            revert hi0 hne0
            induction i0 using Nat.strongRecOn with
            | _ i0 ih =>
              intro hi0 hne0
              by_cases hb : ∀ j, j < i0 → (resV m it (ts.getD j [])).2 = 0
              · exact ⟨i0, hi0, hne0, hb⟩
              · have : ∃ j, j < i0 ∧ (resV m it (ts.getD j [])).2 ≠ 0 := by
                  apply Classical.byContradiction
                  intro hn
                  exact hb (fun j hj => Classical.byContradiction fun h => hn ⟨j, hj, h⟩)
                obtain ⟨j, hj, hjn⟩ := this
                exact ih j hj (by omega) hjn
          obtain ⟨i, hi, hne, hbefore⟩ := hmin
          rw [resAll_err hi hbefore hne]
          rcases resV_ok hm (h4 i hi) with ⟨r1, r2⟩ | ⟨t, r1, _⟩
          · refine ⟨by rw [r1], ?_⟩
            rw [List.any_eq_true]
            refine ⟨ts.getD i [], ?_, decide_eq_true r2⟩
            rw [List.getD_eq_getElem?_getD, List.getElem?_eq_getElem hi]
            exact List.getElem_mem hi
          · rw [r1] at hne; exact absurd rfl hne
  · have e : ∀ ts, resO it ts L V = (9, []) := fun ts => by unfold resO; rw [if_pos g1]
    rw [e, e]
    exact ⟨rfl, .inl ⟨by decide, rfl⟩⟩
theorem itoa_ok (n : Int) (h0 : 1 ≤ n) (h1 : n ≤ 4096) : (Lib.itoa n).length ≤ 20 ∧ (Lib.itoa n).count 64 = 0 := by
  obtain ⟨u, rfl⟩ : ∃ u : Nat, n = u := ⟨n.toNat, by omega⟩
  rw [Lib.itoa_nonneg]
  refine ⟨by rw [Lib.decDigits_length]; exact Lib.nDigits_le20 u (by omega), ?_⟩
  rw [List.count_eq_zero]
  intro hc
  have := dec_digits u 64 hc
  have e : (64 : UInt8).toNat = 64 := rfl
  omega
end LN
end

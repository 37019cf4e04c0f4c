import Derived.Test.YtonpflblcnpegaaDoorE3
set_option linter.all false
set_option linter.unusedSimpArgs false
set_option linter.unusedVariables false
set_option linter.unusedSectionVars false
open Go Go.Proofs AF HY
namespace HY
set_option maxRecDepth 100000
theorem drop_take_succ (s : List UInt8) {f i : Nat} (h : f ≤ i) (hi : i < s.length) : (s.drop f).take (i + 1 - f) = (s.drop f).take (i - f) ++ [ch s i] := by
  rw [show i + 1 - f = (i - f) + 1 by omega, List.take_add_one, List.getElem?_drop, show f + (i - f) = i by omega]
  simp [ch, List.getD_eq_getElem?_getD, hi]
theorem one_at (s : List UInt8) {i : Nat} (hi : i < s.length) : (s.drop i).take (i + 1 - i) = [ch s i] := by
  rw [drop_take_succ s (Nat.le_refl _) hi, Nat.sub_self]; rfl
/-- The clusters before an index, and the present one. -/
def done (s : List UInt8) (D : List (List UInt8)) (f i : Nat) : Prop := inClus s f i ∧ i ≤ s.length ∧ clus s = D ++ (clusO f ((s.drop f).take (i - f)) (s.drop i)).map (·.2)
theorem done_first {s : List UInt8} (h : 0 < s.length) : done s [] 0 1 := by
  refine ⟨inClus_first s, h, ?_⟩
  cases s with
  | nil => simp at h
  | cons c r => simp [clus, clusters]
theorem done_go {s : List UInt8} {D : List (List UInt8)} {f i : Nat} (h : done s D f i) (hi : i < s.length) (hr : rightAt s i = true) : done s D f (i + 1) := by
  obtain ⟨h1, h2, h3⟩ := h
  refine ⟨inClus_go h1 hr, hi, ?_⟩
  rw [h3, clus_step h1.1 hi, if_pos ?_]
  rw [inClus_right h1] at hr
  simpa using hr
theorem done_new {s : List UInt8} {D : List (List UInt8)} {f i : Nat} (h : done s D f i) (hi : i < s.length) (hr : rightAt s i = false) : done s (D ++ [(s.drop f).take (i - f)]) i (i + 1) := by
  obtain ⟨h1, h2, h3⟩ := h
  refine ⟨inClus_new h1 hr, hi, ?_⟩
  rw [h3, clus_step h1.1 hi, if_neg ?_]
  · simp
  · rw [inClus_right h1] at hr
    simpa using hr
theorem done_end {s : List UInt8} {D : List (List UInt8)} {f : Nat} (h : done s D f s.length) : clus s = D ++ [(s.drop f).take (s.length - f)] := by
  rw [h.2.2, List.drop_length]; rfl
set_option maxHeartbeats 4000000 in
theorem t71 (s : List UInt8) (h : List AObj) (hs : s.length ≤ 1000000000) : ACalls Tryd.prog 53 [.str s] h (strs (clus s)) h := by
  refine acalls_of fn53d (by simp) ?_
  simp only [List.length_cons, List.length_nil, Nat.reduceAdd, Nat.reduceSub, List.replicate, List.cons_append, List.nil_append, List.append_nil]
  simp (disch := omega) only [c53d, madeA, go_sem, wrap64_id, Int.tdiv_eq_ediv_of_nonneg, Int.tmod_eq_emod_of_nonneg]
  repeat' first
    | ((first | refine callA_pure (t95 s _ hs) ?_ ?_); (next => repeat' first | exact flags_n | refine flags_c (by first | rfl | assumption) ?_); simp (disch := omega) only [madeA, bools, go_sem, wrap64_id, Int.tdiv_eq_ediv_of_nonneg, Int.tmod_eq_emod_of_nonneg])
    | ((first | refine callG_pure (fun e => ⟨?_, t95 s _ hs⟩) ?_); (next => repeat' first | exact flags_n | refine flags_c (by first | rfl | assumption) ?_); simp (disch := omega) only [madeA, bools, go_sem, wrap64_id, Int.tdiv_eq_ediv_of_nonneg, Int.tmod_eq_emod_of_nonneg])
    | ((first | refine fnQ_pure1 ?_ ?_ | refine fnQ_pure0 ?_ ?_); (next => repeat' first | exact rvs_n | refine rvs_t ?_ | (simp [go_sem]; done)); simp only [go_sem]; (first | exact VLe.refl _ | refine VLe_int ?_ | refine VLe_bool ?_ | refine VLe_str ?_ | skip))
    | (with_reducible refine And.intro ?_ ?_)
    | with_reducible intro _
  all_goals first
    | omega
    | (rename_i hx; revert hx; simp; done)
    | (simp; done)
    | skip
  refine loop_of (T := fun i : Nat × List (List UInt8) × Nat × AObj × Nat => spar 45 [(0, .str s), (3, .osl (h.length + 1) i.2.2.2.2 1 0 i.2.1.length), (4, bools (rightL s)), (5, .int .i64 i.1)]) (H := fun i => h ++ [.emp 1, .mem i.2.2.2.2 9 (strC i.2.1), i.2.2.2.1, .emp 0])
    (inv := fun i => site [i.2.2.2.1] 0 = true ∧ ((i.1 = 0 ∧ i.2.1 = []) ∨ (∃ D, done s D i.2.2.1 i.1 ∧ i.2.1 = D ++ [(s.drop i.2.2.1).take (i.1 - i.2.2.1)] ∧ i.2.1.length ≤ i.1))) (m := fun i => s.length - i.1) (0, [], 0, .emp 0, 1) ⟨rfl, .inl ⟨rfl, rfl⟩⟩ (Wk.temps ?_) ?_
  · (simp only [bools, spar, List.foldl, List.replicate, go_sem, VLes_nil, VLes_cons, VLe_undef_iff, VLe_self]; try (repeat' first | (with_reducible refine And.intro ?_ ?_) | (refine VLe_int ?_; omega) | (refine VLe_bool ?_; rfl) | exact VLe.refl _))
  · rintro ⟨i, L, f, O, v⟩ ⟨i2, i3⟩ K hK
    simp only at i2 i3 hK
    have i2' : ∀ m, site (O :: m) 0 = true := fun _ => i2
    have eL := strC_len L
    have eT : List.take L.length (strC L) = strC L := List.take_of_length_le (by omega)
    have hrl : (rightL s).length = s.length := by simp [rightL]
    by_cases hi : i < s.length
    · have hg := rightL_get hi
      have hx : ((i : Int) + 1).toNat - i = 1 := by omega
      have h1c : List.take (i + 1 - i) (List.drop i s) = [ch s i] := one_at s hi
      have hii : i + 1 - i = 1 := by omega
      rw [hii] at h1c
      rcases i3 with ⟨rfl, rfl⟩ | ⟨D, hd, hL, hlen⟩
      · have hR : (rightL s).getD 0 false = false := hg
        have hz0 : ((0 : Nat) : Int) = 0 := rfl
        have hx0 : ((0 : Int) + 1).toNat - 0 = 1 := by omega
        have h0c : List.take 1 s = [ch s 0] := h1c
        simp (disch := omega) only [spar, List.foldl, List.replicate, bools, hrl, hR, i2', madeA, strC, List.map_nil, List.length_nil, hz0, hx0, h0c, go_sem, wrap64_id, Int.tdiv_eq_ediv_of_nonneg, Int.tmod_eq_emod_of_nonneg]
        repeat' first
          | ((first | refine fnQ_pure1 ?_ ?_ | refine fnQ_pure0 ?_ ?_); (next => repeat' first | exact rvs_n | refine rvs_t ?_ | (simp [go_sem]; done)); simp only [go_sem]; (first | exact VLe.refl _ | refine VLe_int ?_ | refine VLe_bool ?_ | refine VLe_str ?_ | skip))
          | (with_reducible refine And.intro ?_ ?_)
          | with_reducible intro _
        all_goals first
          | omega
          | (rename_i hx; revert hx; simp; done)
          | (simp; done)
          | skip
        refine hK _ _ (1, [[ch s 0]], 0, .mem (verOf (some O) + 1) 9 [.str [ch s 0]], v + 1) ⟨rfl, .inr ⟨[], done_first (by omega), by simpa using h0c.symm, by simp⟩⟩ (by simp only; omega) ?_
        simp only [strC, List.map_cons, List.map_nil]
        refine Wk.temps ?_
        (simp only [bools, hrl, List.length_singleton, spar, List.foldl, List.replicate, go_sem, VLes_nil, VLes_cons, VLe_undef_iff, VLe_self]; try (repeat' first | (with_reducible refine And.intro ?_ ?_) | (refine VLe_int ?_; omega) | (refine VLe_bool ?_; rfl) | exact VLe.refl _))
      · cases hR : rightAt s i with
        | true =>
          rw [hR] at hg
          have hLl : 0 < L.length := by rw [hL]; simp
          have hx1 : ((L.length : Int) - 1).toNat = L.length - 1 := by omega
          have hgl : (strC L)[L.length - 1]? = some (.str ((s.drop f).take (i - f))) := by rw [hL]; simp [strC]
          have hcl : ((s.drop f).take (i - f)).length ≤ 1000000000 := by rw [List.length_take, List.length_drop]; omega
          have hD : L.length - 1 = D.length := by rw [hL]; simp
          have e1 : List.take (L.length - 1) (strC L) ++ [.str ((s.drop f).take (i - f) ++ [ch s i])] ++ List.drop (L.length - 1 + 1) (strC L) = strC (D ++ [(s.drop f).take (i + 1 - f)]) := by
            rw [hD, drop_take_succ s (Nat.le_of_lt hd.1.1) hi, hL]
            simp [strC]
          simp (disch := omega) only [spar, List.foldl, List.replicate, bools, hrl, hg, i2', madeA, eL, hx1, hgl, hx, h1c, e1, List.length_singleton, go_sem, wrap64_id, Int.tdiv_eq_ediv_of_nonneg, Int.tmod_eq_emod_of_nonneg]
          repeat' first
            | ((first | refine fnQ_pure1 ?_ ?_ | refine fnQ_pure0 ?_ ?_); (next => repeat' first | exact rvs_n | refine rvs_t ?_ | (simp [go_sem]; done)); simp only [go_sem]; (first | exact VLe.refl _ | refine VLe_int ?_ | refine VLe_bool ?_ | refine VLe_str ?_ | skip))
            | (with_reducible refine And.intro ?_ ?_)
            | with_reducible intro _
          all_goals first
            | omega
            | (rename_i hx; revert hx; simp; done)
            | (simp; done)
            | skip
          refine hK _ _ (i + 1, D ++ [(s.drop f).take (i + 1 - f)], f, O, v) ⟨i2, .inr ⟨D, done_go hd hi hR, rfl, by rw [hL] at hlen; simp at hlen ⊢; omega⟩⟩ (by simp only; omega) ?_
          have e2 : (D ++ [(s.drop f).take (i + 1 - f)]).length = L.length := by rw [hL]; simp
          simp only [e2]
          refine Wk.temps ?_
          (simp only [bools, hrl, spar, List.foldl, List.replicate, go_sem, VLes_nil, VLes_cons, VLe_undef_iff, VLe_self]; try (repeat' first | (with_reducible refine And.intro ?_ ?_) | (refine VLe_int ?_; omega) | (refine VLe_bool ?_; rfl) | exact VLe.refl _))
        | false =>
          rw [hR] at hg
          simp (disch := omega) only [spar, List.foldl, List.replicate, bools, hrl, hg, i2', madeA, eL, eT, hx, h1c, go_sem, wrap64_id, Int.tdiv_eq_ediv_of_nonneg, Int.tmod_eq_emod_of_nonneg]
          repeat' first
            | ((first | refine fnQ_pure1 ?_ ?_ | refine fnQ_pure0 ?_ ?_); (next => repeat' first | exact rvs_n | refine rvs_t ?_ | (simp [go_sem]; done)); simp only [go_sem]; (first | exact VLe.refl _ | refine VLe_int ?_ | refine VLe_bool ?_ | refine VLe_str ?_ | skip))
            | (with_reducible refine And.intro ?_ ?_)
            | with_reducible intro _
          all_goals first
            | omega
            | (rename_i hx; revert hx; simp; done)
            | (simp; done)
            | skip
          refine hK _ _ (i + 1, L ++ [[ch s i]], i, .mem (verOf (some O) + 1) 9 [.str [ch s i]], v + 1) ⟨rfl, .inr ⟨D ++ [(s.drop f).take (i - f)], done_new hd hi hR, by simp only; rw [hL, one_at s hi], by simp; omega⟩⟩ (by simp only; omega) ?_
          simp only [strC_snoc, List.length_append, List.length_singleton]
          refine Wk.temps ?_
          (simp only [bools, hrl, spar, List.foldl, List.replicate, go_sem, VLes_nil, VLes_cons, VLe_undef_iff, VLe_self]; try (repeat' first | (with_reducible refine And.intro ?_ ?_) | (refine VLe_int ?_; omega) | (refine VLe_bool ?_; rfl) | exact VLe.refl _))
    · have hz : L = clus s := by
        rcases i3 with ⟨rfl, rfl⟩ | ⟨D, hd, hL, hlen⟩
        · have : s = [] := List.eq_nil_of_length_eq_zero (by omega)
          subst this; rfl
        · have e : i = s.length := by have := hd.2.1; omega
          subst e
          rw [hL, done_end hd]
      simp (disch := omega) only [spar, List.foldl, List.replicate, eL, go_sem, wrap64_id, Int.tdiv_eq_ediv_of_nonneg, Int.tmod_eq_emod_of_nonneg]
      repeat' first
        | ((first | refine fnQ_pure1 ?_ ?_ | refine fnQ_pure0 ?_ ?_); (next => repeat' first | exact rvs_n | refine rvs_t ?_ | (simp [go_sem]; done)); simp only [go_sem]; (first | exact VLe.refl _ | refine VLe_int ?_ | refine VLe_bool ?_ | refine VLe_str ?_ | skip))
        | (with_reducible refine And.intro ?_ ?_)
        | with_reducible intro _
      all_goals first
        | omega
        | (rename_i hx; revert hx; simp; done)
        | (simp; done)
        | skip
      rw [if_pos (by omega), ← hz]
      exact strs_of rfl
end HY

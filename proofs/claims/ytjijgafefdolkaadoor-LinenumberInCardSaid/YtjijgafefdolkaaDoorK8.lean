import Derived.Test.YtjijgafefdolkaaDoorK7
set_option linter.all false
set_option linter.unusedSimpArgs false
set_option linter.unusedVariables false
set_option linter.unusedSectionVars false
section

open Go Go.Proofs AF HY P48
namespace LN
set_option maxRecDepth 100000
theorem intsC_app (a b : List Int) : intsC (a ++ b) = intsC a ++ intsC b := by simp [intsC]
theorem t59 (n : Nat) (h : List AObj) (k : Nat) (hk : site h k = true) (hn : 0 < n) (hn1 : n ≤ 1000000000) :
    ACalls Tryd.prog 59 [.nl, .int .i64 n] h (.osl k (verOf (getO k h) + 1) 1 0 0) (setO k h (.mem (verOf (getO k h) + 1) 3 (madeA [.int .i64 0] n))) := by
  refine acallsM fn59l k (by simp) ?_
  simp only [List.length_cons, List.length_nil, Nat.reduceAdd, Nat.reduceSub, List.replicate, List.cons_append, List.nil_append, List.append_nil]
  simp (disch := omega) only [c59l, go_sem, wrap64_id, Int.tdiv_eq_ediv_of_nonneg, Int.tmod_eq_emod_of_nonneg]
  repeat' first
    | (with_reducible refine And.intro ?_ ?_)
    | (with_reducible intro _)
  all_goals first
    | omega
    | skip
  have e0 : ((n : Int) - (0 - 0)).toNat = n := by omega
  rw [e0]
  exact ⟨h.length + 1, 1, 1, 0, 0, 3, madeA [.int .i64 0] n, [AObj.emp 1, AObj.mem 1 3 (madeA [.int .i64 0] n)], ⟨trivial, trivial⟩, rfl, rfl, by omega, by simp only [go_sem], fun c hc => by have := mem_madeA hc; simp at this; subst this; rfl, hk, rfl, rfl⟩
theorem t59z (h : List AObj) : ACalls Tryd.prog 59 [.nl, .int .i64 0] h .nl h := by
  refine acalls_of fn59l (by simp) ?_
  simp only [List.length_cons, List.length_nil, Nat.reduceAdd, Nat.reduceSub, List.replicate, List.cons_append, List.nil_append, List.append_nil]
  simp (disch := omega) only [c59l, go_sem, wrap64_id, Int.tdiv_eq_ediv_of_nonneg, Int.tmod_eq_emod_of_nonneg]
  repeat' first
    | ((first | refine fnQ_pure1 ?_ ?_ | refine fnQ_pure0 ?_ ?_); (next => repeat' first | exact rvs_n | refine rvs_t ?_ | (simp [go_sem]; done)); simp only [go_sem]; (first | exact VLe.refl _ | refine VLe_int ?_ | refine VLe_bool ?_ | refine VLe_str ?_ | skip))
    | (with_reducible refine And.intro ?_ ?_)
    | with_reducible intro _
  all_goals first
    | omega
    | (rename_i hx; revert hx; simp; done)
    | (simp; done)
    | skip
theorem src_ints (h : List AObj) (ps : List Int) : Src h (intsV ps) ps.length (intsC ps) := by
  refine ⟨by simp only [intsV, go_sem], rfl, fun X => ?_, fun X => ?_, fun X => ?_, fun k v z p m hk => rfl⟩
  · simp only [intsV, go_sem]
  · simp only [intsV, go_sem]
  · show sliceCells _ (.sl _ _) = _
    rw [sliceCells_sl, intsC_range]
set_option maxHeartbeats 4000000 in
theorem t34 (Ls : List (List Int)) (E : Nat → AV) (h : List AObj) (k v : Nat) (cs : List AV) (hk : getO k h = some (.mem v 23 cs)) (hcl : cs.length = Ls.length) (hE : ∀ i, i < Ls.length → cs[i]? = some (E i) ∧ Src h (E i) (Ls.getD i []).length (intsC (Ls.getD i [])))
    (h0 : 0 < Ls.flatten.length) (h1 : Ls.flatten.length ≤ 1000000000) (h2 : Ls.length ≤ 1000000000) (hv : (v == v) = true) : ACalls Tryd.prog 34 [.osl k v 1 0 Ls.length] h (intsV Ls.flatten) h := by
  have hkl : k < h.length := getO_lt hk
  have hL : ∀ X, liveS (h ++ X) k v = true := fun X => by rw [liveS_left hkl]; unfold liveS; rw [hk]; simp
  have hC : ∀ X, cellsOf (h ++ X) k v = some cs := fun X => by rw [cellsOf_left hkl]; exact cellsOf_of hk
  have hLs : 0 < Ls.length := by
    cases Ls with
    | nil => simp at h0
    | cons => simp
  refine acalls_of fn34l (by simp) ?_
  simp only [List.length_cons, List.length_nil, Nat.reduceAdd, Nat.reduceSub, List.replicate, List.cons_append, List.nil_append, List.append_nil]
  simp (disch := omega) only [c34l, hL, hC, go_sem, wrap64_id, Int.tdiv_eq_ediv_of_nonneg, Int.tmod_eq_emod_of_nonneg]
  repeat' first
    | ((first | refine fnQ_pure1 ?_ ?_ | refine fnQ_pure0 ?_ ?_); (next => repeat' first | exact rvs_n | refine rvs_t ?_ | (simp [go_sem]; done)); simp only [go_sem]; (first | exact VLe.refl _ | refine VLe_int ?_ | refine VLe_bool ?_ | refine VLe_str ?_ | skip))
    | (with_reducible refine And.intro ?_ ?_)
    | with_reducible intro _
  all_goals first
    | omega
    | (rename_i hx; revert hx; simp; done)
    | (simp; done)
    | skip
  refine loop_of (T := fun i : Nat => spar 36 [(0, .osl k v 1 0 Ls.length), (3, .int .i64 (Ls.take i).flatten.length), (9, .osl k v 1 0 Ls.length), (10, .int .i64 Ls.length), (11, .int .i64 i)]) (H := fun i => h ++ [.emp 1, .emp 0])
    (inv := fun i => i ≤ Ls.length) (m := fun i => Ls.length - i) 0 (by omega) (Wk.temps ?_) ?_
  · (simp only [spar, List.foldl, List.replicate, go_sem, VLes_nil, VLes_cons, VLe_undef_iff, VLe_self]; try (repeat' first | (with_reducible refine And.intro ?_ ?_) | (refine VLe_int ?_; omega) | (refine VLe_bool ?_; rfl) | exact VLe.refl _))
  rintro i i1 K hK
  by_cases hi : i < Ls.length
  · obtain ⟨c1, ⟨s1, s2, s3, s4, s5, s6⟩⟩ := hE i hi
    have hst := flatten_take_succ Ls hi
    have hle := flatten_take_le Ls (i + 1)
    rw [hst, List.length_append] at hle
    simp (disch := omega) only [spar, List.foldl, List.replicate, hL, hC, c1, s1, s2, s3, s4, hcl, go_sem, wrap64_id, Int.tdiv_eq_ediv_of_nonneg, Int.tmod_eq_emod_of_nonneg]
    repeat' first
      | ((first | refine fnQ_pure1 ?_ ?_ | refine fnQ_pure0 ?_ ?_); (next => repeat' first | exact rvs_n | refine rvs_t ?_ | (simp [go_sem]; done)); simp only [go_sem]; (first | exact VLe.refl _ | refine VLe_int ?_ | refine VLe_bool ?_ | refine VLe_str ?_ | skip))
      | (with_reducible refine And.intro ?_ ?_)
      | with_reducible intro _
    all_goals first
      | omega
      | (rename_i hx; revert hx; simp; done)
      | (simp; done)
      | skip
    have hln : (List.take (i + 1) Ls).flatten.length = (List.take i Ls).flatten.length + (Ls.getD i []).length := by rw [hst, List.length_append]
    refine hK _ _ (i + 1) (by omega) (by omega) (Wk.temps ?_)
    (simp only [spar, List.foldl, List.replicate, go_sem, VLes_nil, VLes_cons, VLe_undef_iff, VLe_self]; try (repeat' first | (with_reducible refine And.intro ?_ ?_) | (refine VLe_int ?_; omega) | (refine VLe_bool ?_; rfl) | exact VLe.refl _))
  have e : i = Ls.length := by omega
  subst e
  rw [List.take_length]
  obtain ⟨N, hN⟩ : ∃ N, N = Ls.flatten.length := ⟨_, rfl⟩
  rw [← hN] at h0 h1 ⊢
  simp (disch := omega) only [spar, List.foldl, List.replicate, hL, hC, hcl, go_sem, wrap64_id, Int.tdiv_eq_ediv_of_nonneg, Int.tmod_eq_emod_of_nonneg]
  refine ⟨fun hf => absurd hf (by omega), fun _ => ?_⟩
  refine callA_eff (t59 N _ (h.length + 1) (by simp only [go_sem]) h0 h1) ⟨rfl, rfl, trivial⟩ ?_
  simp (disch := omega) only [hL, hC, go_sem, wrap64_id, Int.tdiv_eq_ediv_of_nonneg, Int.tmod_eq_emod_of_nonneg]
  repeat' first
    | ((first | refine fnQ_pure1 ?_ ?_ | refine fnQ_pure0 ?_ ?_); (next => repeat' first | exact rvs_n | refine rvs_t ?_ | (simp [go_sem]; done)); simp only [go_sem]; (first | exact VLe.refl _ | refine VLe_int ?_ | refine VLe_bool ?_ | refine VLe_str ?_ | skip))
    | (with_reducible refine And.intro ?_ ?_)
    | with_reducible intro _
  all_goals first
    | omega
    | (rename_i hx; revert hx; simp; done)
    | (simp; done)
    | skip
  refine loop_of (T := fun i : Nat × Nat × Nat => spar 36 [(6, .osl (h.length + 1) i.2.1 1 0 i.2.2), (25, .osl k v 1 0 Ls.length), (26, .int .i64 Ls.length), (27, .int .i64 i.1)]) (H := fun i => h ++ [.emp 1, .mem i.2.1 3 (if i.1 = 0 then madeA [.int .i64 0] N else intsC (Ls.take i.1).flatten)])
    (inv := fun i => i.1 ≤ Ls.length ∧ i.2.2 = (Ls.take i.1).flatten.length) (m := fun i => Ls.length - i.1) (0, 1, 0) ⟨by simp, by simp⟩ (Wk.temps ?_) ?_
  · (simp only [spar, List.foldl, List.replicate, go_sem, VLes_nil, VLes_cons, VLe_undef_iff, VLe_self]; try (repeat' first | (with_reducible refine And.intro ?_ ?_) | (refine VLe_int ?_; omega) | (refine VLe_bool ?_; rfl) | exact VLe.refl _))
  rintro ⟨i, w, m⟩ ⟨i1, i2⟩ K hK
  simp only at i1 i2 hK
  by_cases hi : i < Ls.length
  · obtain ⟨c1, ⟨s1, s2, s3, s4, s5, s6⟩⟩ := hE i hi
    have hst := flatten_take_succ Ls hi
    have hle := flatten_take_le Ls (i + 1)
    rw [hst, List.length_append, ← hN] at hle
    have eT : ∀ n, List.take m (if i = 0 then madeA [.int .i64 0] n else intsC (Ls.take i).flatten) = intsC (Ls.take i).flatten := by
      intro n
      split
      · rename_i e0; subst e0; subst i2; rfl
      · exact List.take_of_length_le (by rw [intsC_len, i2]; exact Nat.le_refl _)
    obtain ⟨ms, hms⟩ : ∃ ms, ms = (if i = 0 then madeA [.int .i64 0] N else intsC (Ls.take i).flatten) := ⟨_, rfl⟩
    have eT' := eT N
    rw [← hms] at eT' ⊢
    have hml : m ≤ ms.length := by
      have := congrArg List.length eT'
      rw [List.length_take, intsC_len, ← i2] at this
      omega
    have hsl := intsC_len (Ls.getD i [])
    simp (disch := omega) only [spar, List.foldl, List.replicate, hL, hC, c1, s1, s2, s3, s4, s5, s6, hcl, eT', hsl, go_sem, wrap64_id, Int.tdiv_eq_ediv_of_nonneg, Int.tmod_eq_emod_of_nonneg]
    repeat' first
      | ((first | refine fnQ_pure1 ?_ ?_ | refine fnQ_pure0 ?_ ?_); (next => repeat' first | exact rvs_n | refine rvs_t ?_ | (simp [go_sem]; done)); simp only [go_sem]; (first | exact VLe.refl _ | refine VLe_int ?_ | refine VLe_bool ?_ | refine VLe_str ?_ | skip))
      | (with_reducible refine And.intro ?_ ?_)
      | with_reducible intro _
    all_goals first
      | omega
      | (rename_i hx; revert hx; simp; done)
      | (simp; done)
      | skip
    have hfin : h ++ [AObj.emp 1, AObj.mem (w + 1) 3 (intsC (List.take i Ls).flatten ++ intsC (Ls.getD i []))] = h ++ [AObj.emp 1, AObj.mem (w + 1) 3 (if i + 1 = 0 then madeA [.int .i64 0] N else intsC (Ls.take (i + 1)).flatten)] := by rw [if_neg (by omega), hst, intsC_app]
    rw [hfin]
    refine hK _ _ (i + 1, w + 1, m + (Ls.getD i []).length) ⟨by simp only; omega, by simp only; rw [hst, List.length_append, i2]⟩ (by simp only; omega) (Wk.temps ?_)
    (simp only [spar, List.foldl, List.replicate, go_sem, VLes_nil, VLes_cons, VLe_undef_iff, VLe_self]; try (repeat' first | (with_reducible refine And.intro ?_ ?_) | (refine VLe_int ?_; omega) | (refine VLe_bool ?_; rfl) | exact VLe.refl _))
  · have e : i = Ls.length := by omega
    subst e
    rw [List.take_length, ← hN] at i2
    subst i2
    rw [List.take_length, if_neg (by omega)]
    have eL : (intsC Ls.flatten).length = m := by rw [intsC_len, hN]
    simp (disch := omega) only [spar, List.foldl, List.replicate, hL, hC, hcl, eL, go_sem, wrap64_id, Int.tdiv_eq_ediv_of_nonneg, Int.tmod_eq_emod_of_nonneg]
    repeat' first
      | ((first | refine fnQ_pure1 ?_ ?_ | refine fnQ_pure0 ?_ ?_); (next => repeat' first | exact rvs_n | refine rvs_t ?_ | (simp [go_sem]; done)); simp only [go_sem]; (first | exact VLe.refl _ | refine VLe_int ?_ | refine VLe_bool ?_ | refine VLe_str ?_ | skip))
      | (with_reducible refine And.intro ?_ ?_)
      | with_reducible intro _
    all_goals first
      | omega
      | (rename_i hx; revert hx; simp; done)
      | (simp; done)
      | skip
    rw [if_pos (by omega)]
    exact intsV_of hN.symm
set_option maxHeartbeats 4000000 in
theorem t34z (h : List AObj) (k v : Nat) (hk : getO k h = some (.mem v 23 [intsV [], intsV []])) : ACalls Tryd.prog 34 [.osl k v 1 0 2] h (intsV []) h := by
  have hkl : k < h.length := getO_lt hk
  have hL : ∀ X, liveS (h ++ X) k v = true := fun X => by rw [liveS_left hkl]; unfold liveS; rw [hk]; simp
  have hC : ∀ X, cellsOf (h ++ X) k v = some [intsV [], intsV []] := fun X => by rw [cellsOf_left hkl]; exact cellsOf_of hk
  refine acalls_of fn34l (by simp) ?_
  simp only [List.length_cons, List.length_nil, Nat.reduceAdd, Nat.reduceSub, List.replicate, List.cons_append, List.nil_append, List.append_nil]
  simp (disch := omega) only [c34l, hL, hC, go_sem, wrap64_id, Int.tdiv_eq_ediv_of_nonneg, Int.tmod_eq_emod_of_nonneg]
  repeat' first
    | ((first | refine fnQ_pure1 ?_ ?_ | refine fnQ_pure0 ?_ ?_); (next => repeat' first | exact rvs_n | refine rvs_t ?_ | (simp [go_sem]; done)); simp only [go_sem]; (first | exact VLe.refl _ | refine VLe_int ?_ | refine VLe_bool ?_ | refine VLe_str ?_ | skip))
    | (with_reducible refine And.intro ?_ ?_)
    | with_reducible intro _
  all_goals first
    | omega
    | (rename_i hx; revert hx; simp; done)
    | (simp; done)
    | skip
  refine loop_of (T := fun i : Nat => spar 36 [(0, .osl k v 1 0 2), (3, .int .i64 0), (9, .osl k v 1 0 2), (10, .int .i64 2), (11, .int .i64 i)]) (H := fun i => h ++ [.emp 1, .emp 0])
    (inv := fun i => i ≤ 2) (m := fun i => 2 - i) 0 (by omega) (Wk.temps ?_) ?_
  · (simp only [spar, List.foldl, List.replicate, go_sem, VLes_nil, VLes_cons, VLe_undef_iff, VLe_self]; try (repeat' first | (with_reducible refine And.intro ?_ ?_) | (refine VLe_int ?_; omega) | (refine VLe_bool ?_; rfl) | exact VLe.refl _))
  rintro i i1 K hK
  by_cases hi : i < 2
  · have hc : [intsV [], intsV []][i]? = some (intsV []) := by
      obtain rfl | rfl : i = 0 ∨ i = 1 := by omega
      all_goals rfl
    obtain ⟨cs, hcs⟩ : ∃ cs, cs = [intsV [], intsV []] := ⟨_, rfl⟩
    have hcl : cs.length = 2 := by rw [hcs]; rfl
    rw [← hcs] at hc hC
    obtain ⟨s1, s2, s3, s4, s5, s6⟩ := src_ints h []
    simp (disch := omega) only [spar, List.foldl, List.replicate, hL, hC, hc, hcl, s1, s2, s3, s4, go_sem, wrap64_id, Int.tdiv_eq_ediv_of_nonneg, Int.tmod_eq_emod_of_nonneg]
    repeat' first
      | ((first | refine fnQ_pure1 ?_ ?_ | refine fnQ_pure0 ?_ ?_); (next => repeat' first | exact rvs_n | refine rvs_t ?_ | (simp [go_sem]; done)); simp only [go_sem]; (first | exact VLe.refl _ | refine VLe_int ?_ | refine VLe_bool ?_ | refine VLe_str ?_ | skip))
      | (with_reducible refine And.intro ?_ ?_)
      | with_reducible intro _
    all_goals first
      | omega
      | (rename_i hx; revert hx; simp; done)
      | (simp; done)
      | skip
    refine hK _ _ (i + 1) (by omega) (by omega) (Wk.temps ?_)
    (simp only [spar, List.foldl, List.replicate, go_sem, VLes_nil, VLes_cons, VLe_undef_iff, VLe_self]; try (repeat' first | (with_reducible refine And.intro ?_ ?_) | (refine VLe_int ?_; omega) | (refine VLe_bool ?_; rfl) | exact VLe.refl _))
  have e : i = 2 := by omega
  subst e
  simp (disch := omega) only [spar, List.foldl, List.replicate, hL, hC, go_sem, wrap64_id, Int.tdiv_eq_ediv_of_nonneg, Int.tmod_eq_emod_of_nonneg]
  refine ⟨fun hf => absurd hf (by omega), fun _ => ?_⟩
  refine callA_eff (t59z _) ⟨rfl, rfl, trivial⟩ ?_
  simp (disch := omega) only [hL, hC, go_sem, wrap64_id, Int.tdiv_eq_ediv_of_nonneg, Int.tmod_eq_emod_of_nonneg]
  repeat' first
    | ((first | refine fnQ_pure1 ?_ ?_ | refine fnQ_pure0 ?_ ?_); (next => repeat' first | exact rvs_n | refine rvs_t ?_ | (simp [go_sem]; done)); simp only [go_sem]; (first | exact VLe.refl _ | refine VLe_int ?_ | refine VLe_bool ?_ | refine VLe_str ?_ | skip))
    | (with_reducible refine And.intro ?_ ?_)
    | with_reducible intro _
  all_goals first
    | omega
    | (rename_i hx; revert hx; simp; done)
    | (simp; done)
    | skip
  refine loop_of (T := fun i : Nat => spar 36 [(6, if i = 0 then .nl else .osl (h.length + 1) i 1 0 0), (25, .osl k v 1 0 2), (26, .int .i64 2), (27, .int .i64 i)]) (H := fun i => h ++ [.emp 1, .emp i])
    (inv := fun i => i ≤ 2) (m := fun i => 2 - i) 0 (by omega) (Wk.temps ?_) ?_
  · (simp only [spar, List.foldl, List.replicate, go_sem, VLes_nil, VLes_cons, VLe_undef_iff, VLe_self]; try (repeat' first | (with_reducible refine And.intro ?_ ?_) | (refine VLe_int ?_; omega) | (refine VLe_bool ?_; rfl) | exact VLe.refl _))
  rintro i i1 K hK
  obtain ⟨s1, s2, s3, s4, s5, s6⟩ := src_ints h []
  have s5 : ∀ X, sliceCells (h ++ X) (intsV []) = some (0, []) := s5
  obtain rfl | rfl | rfl : i = 0 ∨ i = 1 ∨ i = 2 := by omega
  · simp (disch := omega) only [spar, List.foldl, List.replicate, hL, hC, s2, s3, s4, s5, s6, go_sem, wrap64_id, Int.tdiv_eq_ediv_of_nonneg, Int.tmod_eq_emod_of_nonneg]
    repeat' first
      | ((first | refine fnQ_pure1 ?_ ?_ | refine fnQ_pure0 ?_ ?_); (next => repeat' first | exact rvs_n | refine rvs_t ?_ | (simp [go_sem]; done)); simp only [go_sem]; (first | exact VLe.refl _ | refine VLe_int ?_ | refine VLe_bool ?_ | refine VLe_str ?_ | skip))
      | (with_reducible refine And.intro ?_ ?_)
      | with_reducible intro _
    all_goals first
      | omega
      | (rename_i hx; revert hx; simp; done)
      | (simp; done)
      | skip
    refine hK _ _ 1 (by omega) (by omega) (Wk.temps ?_)
    (simp only [spar, List.foldl, List.replicate, go_sem, VLes_nil, VLes_cons, VLe_undef_iff, VLe_self]; try (repeat' first | (with_reducible refine And.intro ?_ ?_) | (refine VLe_int ?_; omega) | (refine VLe_bool ?_; rfl) | exact VLe.refl _))
  · simp (disch := omega) only [spar, List.foldl, List.replicate, hL, hC, s2, s3, s4, s5, s6, go_sem, wrap64_id, Int.tdiv_eq_ediv_of_nonneg, Int.tmod_eq_emod_of_nonneg]
    repeat' first
      | ((first | refine fnQ_pure1 ?_ ?_ | refine fnQ_pure0 ?_ ?_); (next => repeat' first | exact rvs_n | refine rvs_t ?_ | (simp [go_sem]; done)); simp only [go_sem]; (first | exact VLe.refl _ | refine VLe_int ?_ | refine VLe_bool ?_ | refine VLe_str ?_ | skip))
      | (with_reducible refine And.intro ?_ ?_)
      | with_reducible intro _
    all_goals first
      | omega
      | (rename_i hx; revert hx; simp; done)
      | (simp; done)
      | skip
    refine hK _ _ 2 (by omega) (by omega) (Wk.temps ?_)
    (simp only [spar, List.foldl, List.replicate, go_sem, VLes_nil, VLes_cons, VLe_undef_iff, VLe_self]; try (repeat' first | (with_reducible refine And.intro ?_ ?_) | (refine VLe_int ?_; omega) | (refine VLe_bool ?_; rfl) | exact VLe.refl _))
  · simp (disch := omega) only [spar, List.foldl, List.replicate, hL, hC, go_sem, wrap64_id, Int.tdiv_eq_ediv_of_nonneg, Int.tmod_eq_emod_of_nonneg]
    repeat' first
      | ((first | refine fnQ_pure1 ?_ ?_ | refine fnQ_pure0 ?_ ?_); (next => repeat' first | exact rvs_n | refine rvs_t ?_ | (simp [go_sem]; done)); simp only [go_sem]; (first | exact VLe.refl _ | refine VLe_int ?_ | refine VLe_bool ?_ | refine VLe_str ?_ | skip))
      | (with_reducible refine And.intro ?_ ?_)
      | with_reducible intro _
    all_goals first
      | omega
      | (rename_i hx; revert hx; simp; done)
      | (simp; done)
      | skip
    exact VLe_nl
theorem t34c (ps qs : List Int) (h : List AObj) (k v : Nat) (hk : getO k h = some (.mem v 23 [intsV ps, intsV qs])) (hl : ps.length + qs.length ≤ 1000000000) : ACalls Tryd.prog 34 [.osl k v 1 0 2] h (intsV (ps ++ qs)) h := by
  by_cases h0 : 0 < ps.length + qs.length
  · have := t34 [ps, qs] (fun i => if i = 0 then intsV ps else intsV qs) h k v _ hk rfl (fun i hi => by
      obtain rfl | rfl : i = 0 ∨ i = 1 := by simp at hi; omega
      · exact ⟨rfl, src_ints h ps⟩
      · exact ⟨rfl, src_ints h qs⟩) (by simpa using h0) (by simpa using hl) (by simp) (by simp)
    simpa using this
  · obtain ⟨rfl⟩ : ps = [] := List.eq_nil_of_length_eq_zero (by omega)
    obtain ⟨rfl⟩ : qs = [] := List.eq_nil_of_length_eq_zero (by omega)
    exact t34z h k v hk
end LN
end

section
open Go Go.Proofs AF HY P48
namespace LN
set_option maxRecDepth 100000
theorem t88 (x : Int) (h : List AObj) : ACalls Tryd.prog 88 [.int .i64 x] h (.bool false) h := by
  refine acalls_of fn88l (by simp) ?_
  simp only [List.length_cons, List.length_nil, Nat.reduceAdd, Nat.reduceSub, List.replicate, List.cons_append, List.nil_append, List.append_nil]
  simp (disch := omega) only [c88l, go_sem, wrap64_id, Int.tdiv_eq_ediv_of_nonneg, Int.tmod_eq_emod_of_nonneg]
  repeat' first
    | ((first | refine fnQ_pure1 ?_ ?_ | refine fnQ_pure0 ?_ ?_); (next => repeat' first | exact rvs_n | refine rvs_t ?_ | (simp [go_sem]; done)); simp only [go_sem]; (first | exact VLe.refl _ | refine VLe_int ?_ | refine VLe_bool ?_ | refine VLe_str ?_ | skip))
    | (with_reducible refine And.intro ?_ ?_)
    | with_reducible intro _
  all_goals first
    | omega
    | (rename_i hx; revert hx; simp; done)
    | (simp; done)
    | skip
theorem t58 (x y : Int) (h : List AObj) : ACalls Tryd.prog 58 [.int .i64 x, .int .i64 y] h (.bool (decide (x < y))) h := by
  have c88 := fun x h => t88 x h
  by_cases g : x < y
  · have k1 : (x < y) = True := eq_true g
    rw [decide_eq_true g]
    refine acalls_of fn58l (by simp) ?_
    simp only [List.length_cons, List.length_nil, Nat.reduceAdd, Nat.reduceSub, List.replicate, List.cons_append, List.nil_append, List.append_nil]
    simp (disch := omega) only [c58l, k1, go_sem, wrap64_id, Int.tdiv_eq_ediv_of_nonneg, Int.tmod_eq_emod_of_nonneg]
    repeat' first
      | (refine callG_false ((.bool false)) ?_; simp (disch := omega) only [k1, go_sem, wrap64_id, Int.tdiv_eq_ediv_of_nonneg, Int.tmod_eq_emod_of_nonneg])
      | ((first | refine callA_pure (c88 _ _) ?_ ?_); (next => repeat' first | exact flags_n | refine flags_c (by first | rfl | assumption) ?_); simp (disch := omega) only [k1, go_sem, wrap64_id, Int.tdiv_eq_ediv_of_nonneg, Int.tmod_eq_emod_of_nonneg])
      | ((first | refine callU_of (fun _ => c88 _ _) ?_ ?_); (next => repeat' first | exact flags_n | refine flags_c (by first | rfl | assumption) ?_); simp (disch := omega) only [k1, go_sem, wrap64_id, Int.tdiv_eq_ediv_of_nonneg, Int.tmod_eq_emod_of_nonneg])
      | ((first | refine callG_pure (fun e => ⟨?_, c88 _ _⟩) ?_); (next => repeat' first | exact flags_n | refine flags_c (by first | rfl | assumption) ?_); simp (disch := omega) only [k1, go_sem, wrap64_id, Int.tdiv_eq_ediv_of_nonneg, Int.tmod_eq_emod_of_nonneg])
      | ((first | refine fnQ_pure1 ?_ ?_ | refine fnQ_pure0 ?_ ?_); (next => repeat' first | exact rvs_n | refine rvs_t ?_ | (simp [go_sem]; done)); simp only [go_sem]; (first | exact VLe.refl _ | refine VLe_int ?_ | refine VLe_bool ?_ | refine VLe_str ?_ | skip))
      | (with_reducible refine And.intro ?_ ?_)
      | with_reducible intro _
    all_goals first
      | omega
      | (rename_i hx; revert hx; simp; done)
      | (simp; done)
      | skip
  · have k1 : (x < y) = False := eq_false g
    rw [decide_eq_false g]
    refine acalls_of fn58l (by simp) ?_
    simp only [List.length_cons, List.length_nil, Nat.reduceAdd, Nat.reduceSub, List.replicate, List.cons_append, List.nil_append, List.append_nil]
    simp (disch := omega) only [c58l, k1, go_sem, wrap64_id, Int.tdiv_eq_ediv_of_nonneg, Int.tmod_eq_emod_of_nonneg]
    repeat' first
      | (refine callG_false ((.bool false)) ?_; simp (disch := omega) only [k1, go_sem, wrap64_id, Int.tdiv_eq_ediv_of_nonneg, Int.tmod_eq_emod_of_nonneg])
      | ((first | refine callA_pure (c88 _ _) ?_ ?_); (next => repeat' first | exact flags_n | refine flags_c (by first | rfl | assumption) ?_); simp (disch := omega) only [k1, go_sem, wrap64_id, Int.tdiv_eq_ediv_of_nonneg, Int.tmod_eq_emod_of_nonneg])
      | ((first | refine callU_of (fun _ => c88 _ _) ?_ ?_); (next => repeat' first | exact flags_n | refine flags_c (by first | rfl | assumption) ?_); simp (disch := omega) only [k1, go_sem, wrap64_id, Int.tdiv_eq_ediv_of_nonneg, Int.tmod_eq_emod_of_nonneg])
      | ((first | refine callG_pure (fun e => ⟨?_, c88 _ _⟩) ?_); (next => repeat' first | exact flags_n | refine flags_c (by first | rfl | assumption) ?_); simp (disch := omega) only [k1, go_sem, wrap64_id, Int.tdiv_eq_ediv_of_nonneg, Int.tmod_eq_emod_of_nonneg])
      | ((first | refine fnQ_pure1 ?_ ?_ | refine fnQ_pure0 ?_ ?_); (next => repeat' first | exact rvs_n | refine rvs_t ?_ | (simp [go_sem]; done)); simp only [go_sem]; (first | exact VLe.refl _ | refine VLe_int ?_ | refine VLe_bool ?_ | refine VLe_str ?_ | skip))
      | (with_reducible refine And.intro ?_ ?_)
      | with_reducible intro _
    all_goals first
      | omega
      | (rename_i hx; revert hx; simp; done)
      | (simp; done)
      | skip
theorem t87 (h : List AObj) : ACalls Tryd.prog 87 [.int .u64 3] h (.int .i64 2) h := by
  have w3 : IntKind.u8.wrap 3 = 3 := by decide
  refine acalls_of fn87m (by simp) ?_
  simp only [List.length_cons, List.length_nil, Nat.reduceAdd, Nat.reduceSub, List.replicate, List.cons_append, List.nil_append, List.append_nil]
  simp (disch := omega) only [c87m, w3, go_sem, wrap64_id, Int.tdiv_eq_ediv_of_nonneg, Int.tmod_eq_emod_of_nonneg]
  repeat' first
    | ((first | refine fnQ_pure1 ?_ ?_ | refine fnQ_pure0 ?_ ?_); (next => repeat' first | exact rvs_n | refine rvs_t ?_ | (simp [go_sem]; done)); simp only [go_sem]; (first | exact VLe.refl _ | refine VLe_int ?_ | refine VLe_bool ?_ | refine VLe_str ?_ | skip))
    | (with_reducible refine And.intro ?_ ?_)
    | with_reducible intro _
  all_goals first
    | omega
    | (rename_i hx; revert hx; simp; done)
    | (simp; done)
    | skip
theorem t57 (h : List AObj) : ACalls Tryd.prog 57 [.int .u64 3] h (.int .i64 2) h := by
  have c87 := fun h => t87 h
  refine acalls_of fn57m (by simp) ?_
  simp only [List.length_cons, List.length_nil, Nat.reduceAdd, Nat.reduceSub, List.replicate, List.cons_append, List.nil_append, List.append_nil]
  simp (disch := omega) only [c57m, go_sem, wrap64_id, Int.tdiv_eq_ediv_of_nonneg, Int.tmod_eq_emod_of_nonneg]
  repeat' first
    | ((first | refine callA_pure (c87 _) ?_ ?_); (next => repeat' first | exact flags_n | refine flags_c (by first | rfl | assumption) ?_); simp (disch := omega) only [go_sem, wrap64_id, Int.tdiv_eq_ediv_of_nonneg, Int.tmod_eq_emod_of_nonneg])
    | ((first | refine callU_of (fun _ => c87 _) ?_ ?_); (next => repeat' first | exact flags_n | refine flags_c (by first | rfl | assumption) ?_); simp (disch := omega) only [go_sem, wrap64_id, Int.tdiv_eq_ediv_of_nonneg, Int.tmod_eq_emod_of_nonneg])
    | ((first | refine callG_pure (fun e => ⟨?_, c87 _⟩) ?_); (next => repeat' first | exact flags_n | refine flags_c (by first | rfl | assumption) ?_); simp (disch := omega) only [go_sem, wrap64_id, Int.tdiv_eq_ediv_of_nonneg, Int.tmod_eq_emod_of_nonneg])
    | ((first | refine fnQ_pure1 ?_ ?_ | refine fnQ_pure0 ?_ ?_); (next => repeat' first | exact rvs_n | refine rvs_t ?_ | (simp [go_sem]; done)); simp only [go_sem]; (first | exact VLe.refl _ | refine VLe_int ?_ | refine VLe_bool ?_ | refine VLe_str ?_ | skip))
    | (with_reducible refine And.intro ?_ ?_)
    | with_reducible intro _
  all_goals first
    | omega
    | (rename_i hx; revert hx; simp; done)
    | (simp; done)
    | skip
def swapI (xs : List Int) (m : Nat) : List Int := (xs.set (m + 1) (xs.getD m 0)).set m (xs.getD (m + 1) 0)
def insJ : Nat → List Int → List Int
  | 0, xs => xs
  | m + 1, xs => if xs.getD (m + 1) 0 < xs.getD m 0 then insJ m (swapI xs m) else xs
def insA (xs : List Int) : Nat → List Int
  | 0 => xs
  | i + 1 => insJ i (insA xs i)
theorem swapI_len (xs : List Int) (m : Nat) : (swapI xs m).length = xs.length := by simp [swapI]
theorem insJ_len : ∀ (m : Nat) (xs : List Int), (insJ m xs).length = xs.length := by
  intro m
  induction m with
  | zero => intro xs; rfl
  | succ m ih =>
    intro xs
    rw [insJ]
    split
    · rw [ih, swapI_len]
    · rfl
theorem insA_len (xs : List Int) : ∀ i, (insA xs i).length = xs.length := by
  intro i
  induction i with
  | zero => rfl
  | succ i ih => rw [insA, insJ_len, ih]
theorem low4 {A B D : AObj} {h : List AObj} {xs ys : List Int} : ∀ o ∈ h ++ [A, AObj.mem 1 3 (intsC ys), B, D], o ∈ h ++ [A, AObj.mem 1 3 (intsC xs), B, D] ∨ lowO (h ++ [A, AObj.mem 1 3 (intsC xs), B, D]).length o := by
  intro o ho
  rcases List.mem_append.1 ho with ho | ho
  · exact .inl (List.mem_append.2 (.inl ho))
  · simp only [List.mem_cons, List.not_mem_nil, or_false] at ho
    rcases ho with rfl | rfl | rfl | rfl
    · exact .inl (by simp)
    · exact .inr (fun c hc => low_intsC hc)
    · exact .inl (by simp)
    · exact .inl (by simp)
set_option maxHeartbeats 4000000 in
theorem t78 (xs : List Int) (A B D : AObj) (h : List AObj) (hl : xs.length ≤ 12) (h0 : 0 < xs.length) :
    ACalls Tryd.prog 78 [.osl (h.length + 1) 1 1 0 xs.length, .int .i64 0, .int .i64 xs.length] (h ++ [A, .mem 1 3 (intsC xs), B, D]) (.tup []) (h ++ [A, .mem 1 3 (intsC (insA xs xs.length)), B, D]) := by
  have c58 := fun x y h => t58 x y h
  obtain ⟨n, hn⟩ : ∃ n, n = xs.length := ⟨_, rfl⟩
  rw [← hn] at hl h0 ⊢
  have i0 : insA xs 1 = xs := rfl
  refine acalls_of fn78m (by simp) ?_
  simp only [List.length_cons, List.length_nil, Nat.reduceAdd, Nat.reduceSub, List.replicate, List.cons_append, List.nil_append, List.append_nil]
  simp (disch := omega) only [c78m, go_sem, wrap64_id, Int.tdiv_eq_ediv_of_nonneg, Int.tmod_eq_emod_of_nonneg]
  repeat' first
    | ((first | refine fnQ_pure1 ?_ ?_ | refine fnQ_pure0 ?_ ?_); (next => repeat' first | exact rvs_n | refine rvs_t ?_ | (simp [go_sem]; done)); simp only [go_sem]; (first | exact VLe.refl _ | refine VLe_int ?_ | refine VLe_bool ?_ | refine VLe_str ?_ | skip))
    | (with_reducible refine And.intro ?_ ?_)
    | with_reducible intro _
  all_goals first
    | omega
    | (rename_i hx; revert hx; simp; done)
    | (simp; done)
    | skip
  refine loop_of (T := fun i : Nat => spar 49 [(0, .osl (h.length + 1) 1 1 0 n), (1, .int .i64 0), (2, .int .i64 n), (6, .int .i64 i)]) (H := fun i => h ++ [A, .mem 1 3 (intsC (insA xs i)), B, D])
    (inv := fun i => 1 ≤ i ∧ i ≤ n) (m := fun i => n - i) 1 ⟨by omega, by omega⟩ (Wk.temps ?_) ?_
  · (simp only [spar, List.foldl, List.replicate, go_sem, VLes_nil, VLes_cons, VLe_undef_iff, VLe_self]; try (repeat' first | (with_reducible refine And.intro ?_ ?_) | (refine VLe_int ?_; omega) | (refine VLe_bool ?_; rfl) | exact VLe.refl _))
  rintro i ⟨i1, i2⟩ K hK
  by_cases hi : i < n
  · have q0 : ((i : Int) < n) = True := eq_true (by omega)
    simp (disch := omega) only [spar, List.foldl, List.replicate, q0, go_sem, wrap64_id, Int.tdiv_eq_ediv_of_nonneg, Int.tmod_eq_emod_of_nonneg]
    repeat' first
      | ((first | refine fnQ_pure1 ?_ ?_ | refine fnQ_pure0 ?_ ?_); (next => repeat' first | exact rvs_n | refine rvs_t ?_ | (simp [go_sem]; done)); simp only [go_sem]; (first | exact VLe.refl _ | refine VLe_int ?_ | refine VLe_bool ?_ | refine VLe_str ?_ | skip))
      | (with_reducible refine And.intro ?_ ?_)
      | with_reducible intro _
    all_goals first
      | omega
      | (rename_i hx; revert hx; simp; done)
      | (simp; done)
      | skip
    have hst : insA xs (i + 1) = insJ i (insA xs i) := rfl
    obtain ⟨R, hR⟩ : ∃ R, R = insA xs (i + 1) := ⟨_, rfl⟩
    refine loop_of (T := fun j : Nat × List Int => spar 49 [(0, .osl (h.length + 1) 1 1 0 n), (1, .int .i64 0), (2, .int .i64 n), (6, .int .i64 i), (7, .int .i64 j.1)]) (H := fun j => h ++ [A, .mem 1 3 (intsC j.2), B, D])
      (inv := fun j => j.1 ≤ i ∧ j.2.length = n ∧ R = insJ j.1 j.2) (m := fun j => j.1) (i, insA xs i) ⟨Nat.le_refl _, by rw [insA_len, hn], by rw [hR, hst]⟩ (Wk.temps ?_) ?_
    · (simp only [spar, List.foldl, List.replicate, go_sem, VLes_nil, VLes_cons, VLe_undef_iff, VLe_self]; try (repeat' first | (with_reducible refine And.intro ?_ ?_) | (refine VLe_int ?_; omega) | (refine VLe_bool ?_; rfl) | exact VLe.refl _))
    rintro ⟨j, ys⟩ ⟨j1, j2, j3⟩ K2 hK2
    simp only at j1 j2 j3 hK2
    have eC := intsC_len ys
    rw [j2] at eC
    cases j with
    | zero =>
      have e : R = ys := j3
      subst e
      have z0 : ((0 : Nat) : Int) = 0 := rfl
      have z1 : ((0 : Int) < 0) = False := eq_false (by omega)
      rw [z0]
      simp (disch := omega) only [spar, List.foldl, List.replicate, z1, go_sem, wrap64_id, Int.tdiv_eq_ediv_of_nonneg, Int.tmod_eq_emod_of_nonneg]
      repeat' first
        | (refine callG_false ((.bool false)) ?_; simp (disch := omega) only [z1, go_sem, wrap64_id, Int.tdiv_eq_ediv_of_nonneg, Int.tmod_eq_emod_of_nonneg])
        | ((first | refine fnQ_pure1 ?_ ?_ | refine fnQ_pure0 ?_ ?_); (next => repeat' first | exact rvs_n | refine rvs_t ?_ | (simp [go_sem]; done)); simp only [go_sem]; (first | exact VLe.refl _ | refine VLe_int ?_ | refine VLe_bool ?_ | refine VLe_str ?_ | skip))
        | (with_reducible refine And.intro ?_ ?_)
        | with_reducible intro _
      all_goals first
        | omega
        | (rename_i hx; revert hx; simp; done)
        | (simp; done)
        | skip
      refine hK _ _ (i + 1) ⟨by omega, by omega⟩ (by omega) ?_
      rw [← hR]
      refine Wk.temps ?_
      (simp only [spar, List.foldl, List.replicate, go_sem, VLes_nil, VLes_cons, VLe_undef_iff, VLe_self]; try (repeat' first | (with_reducible refine And.intro ?_ ?_) | (refine VLe_int ?_; omega) | (refine VLe_bool ?_; rfl) | exact VLe.refl _))
    | succ m =>
      have ec : ((m + 1 : Nat) : Int) = (m : Int) + 1 := by omega
      rw [ec]
      have q1 : (0 < (m : Int) + 1) = True := eq_true (by omega)
      have q2 : ((m : Int) + 1 < n) = True := eq_true (by omega)
      have q3 : ((m : Int) < n) = True := eq_true (by omega)
      have q4 : (0 ≤ (m : Int) + 1) = True := eq_true (by omega)
      have rt1 : ((m : Int) + 1).toNat = m + 1 := by omega
      have g1 := intsC_get (all := ys) (a := m + 1) (by omega)
      have g2 := intsC_get (all := ys) (a := m) (by omega)
      by_cases hlt : ys.getD (m + 1) 0 < ys.getD m 0
      · have hd : decide (ys.getD (m + 1) 0 < ys.getD m 0) = true := decide_eq_true hlt
        rw [insJ, if_pos hlt] at j3
        have es1 := intsC_set ys (a := m + 1) (ys.getD m 0) (by omega)
        obtain ⟨zs, hzs⟩ : ∃ zs, zs = ys.set (m + 1) (ys.getD m 0) := ⟨_, rfl⟩
        rw [← hzs] at es1
        have ezl : zs.length = n := by rw [hzs, List.length_set, j2]
        have eC2 := intsC_len zs
        rw [ezl] at eC2
        have es2 := intsC_set zs (a := m) (ys.getD (m + 1) 0) (by omega)
        have esw : zs.set m (ys.getD (m + 1) 0) = swapI ys m := by rw [hzs]; rfl
        rw [esw] at es2
        simp (disch := omega) only [spar, List.foldl, List.replicate, q1, q2, q3, q4, rt1, g1, g2, Int.add_sub_cancel, Int.toNat_natCast, eC, go_sem, wrap64_id, Int.tdiv_eq_ediv_of_nonneg, Int.tmod_eq_emod_of_nonneg]
        repeat' first
          | ((first | refine callA_pure (c58 _ _ _) ?_ ?_); (next => repeat' first | exact flags_n | refine flags_c (by first | rfl | assumption) ?_); simp (disch := omega) only [q1, q2, q3, q4, rt1, g1, g2, Int.add_sub_cancel, Int.toNat_natCast, eC, eC2, hd, es1, es2, go_sem, wrap64_id, Int.tdiv_eq_ediv_of_nonneg, Int.tmod_eq_emod_of_nonneg])
          | ((first | refine callU_of (fun _ => c58 _ _ _) ?_ ?_); (next => repeat' first | exact flags_n | refine flags_c (by first | rfl | assumption) ?_); simp (disch := omega) only [q1, q2, q3, q4, rt1, g1, g2, Int.add_sub_cancel, Int.toNat_natCast, eC, eC2, hd, es1, es2, go_sem, wrap64_id, Int.tdiv_eq_ediv_of_nonneg, Int.tmod_eq_emod_of_nonneg])
          | ((first | refine callG_pure (fun e => ⟨?_, c58 _ _ _⟩) ?_); (next => repeat' first | exact flags_n | refine flags_c (by first | rfl | assumption) ?_); simp (disch := omega) only [q1, q2, q3, q4, rt1, g1, g2, Int.add_sub_cancel, Int.toNat_natCast, eC, eC2, hd, es1, es2, go_sem, wrap64_id, Int.tdiv_eq_ediv_of_nonneg, Int.tmod_eq_emod_of_nonneg])
          | ((first | refine fnQ_pure1 ?_ ?_ | refine fnQ_pure0 ?_ ?_); (next => repeat' first | exact rvs_n | refine rvs_t ?_ | (simp [go_sem]; done)); simp only [go_sem]; (first | exact VLe.refl _ | refine VLe_int ?_ | refine VLe_bool ?_ | refine VLe_str ?_ | skip))
          | (with_reducible refine And.intro ?_ ?_)
          | with_reducible intro _
        all_goals first
          | omega
          | (rename_i hx; revert hx; simp; done)
          | (simp; done)
          | skip
        refine hK2 _ _ (m, swapI ys m) ⟨by simp only; omega, by simp only; rw [swapI_len, j2], j3⟩ (by simp only; omega) (Wk.temps ?_)
        (simp only [spar, List.foldl, List.replicate, go_sem, VLes_nil, VLes_cons, VLe_undef_iff, VLe_self]; try (repeat' first | (with_reducible refine And.intro ?_ ?_) | (refine VLe_int ?_; omega) | (refine VLe_bool ?_; rfl) | exact VLe.refl _))
      · have hd : decide (ys.getD (m + 1) 0 < ys.getD m 0) = false := decide_eq_false hlt
        rw [insJ, if_neg hlt] at j3
        subst j3
        simp (disch := omega) only [spar, List.foldl, List.replicate, q1, q2, q3, q4, rt1, g1, g2, Int.add_sub_cancel, Int.toNat_natCast, eC, go_sem, wrap64_id, Int.tdiv_eq_ediv_of_nonneg, Int.tmod_eq_emod_of_nonneg]
        repeat' first
          | ((first | refine callA_pure (c58 _ _ _) ?_ ?_); (next => repeat' first | exact flags_n | refine flags_c (by first | rfl | assumption) ?_); simp (disch := omega) only [q1, q2, q3, q4, rt1, g1, g2, Int.add_sub_cancel, Int.toNat_natCast, eC, hd, go_sem, wrap64_id, Int.tdiv_eq_ediv_of_nonneg, Int.tmod_eq_emod_of_nonneg])
          | ((first | refine callU_of (fun _ => c58 _ _ _) ?_ ?_); (next => repeat' first | exact flags_n | refine flags_c (by first | rfl | assumption) ?_); simp (disch := omega) only [q1, q2, q3, q4, rt1, g1, g2, Int.add_sub_cancel, Int.toNat_natCast, eC, hd, go_sem, wrap64_id, Int.tdiv_eq_ediv_of_nonneg, Int.tmod_eq_emod_of_nonneg])
          | ((first | refine callG_pure (fun e => ⟨?_, c58 _ _ _⟩) ?_); (next => repeat' first | exact flags_n | refine flags_c (by first | rfl | assumption) ?_); simp (disch := omega) only [q1, q2, q3, q4, rt1, g1, g2, Int.add_sub_cancel, Int.toNat_natCast, eC, hd, go_sem, wrap64_id, Int.tdiv_eq_ediv_of_nonneg, Int.tmod_eq_emod_of_nonneg])
          | ((first | refine fnQ_pure1 ?_ ?_ | refine fnQ_pure0 ?_ ?_); (next => repeat' first | exact rvs_n | refine rvs_t ?_ | (simp [go_sem]; done)); simp only [go_sem]; (first | exact VLe.refl _ | refine VLe_int ?_ | refine VLe_bool ?_ | refine VLe_str ?_ | skip))
          | (with_reducible refine And.intro ?_ ?_)
          | with_reducible intro _
        all_goals first
          | omega
          | (rename_i hx; revert hx; simp; done)
          | (simp; done)
          | skip
        refine hK _ _ (i + 1) ⟨by omega, by omega⟩ (by omega) ?_
        rw [← hR]
        refine Wk.temps ?_
        (simp only [spar, List.foldl, List.replicate, go_sem, VLes_nil, VLes_cons, VLe_undef_iff, VLe_self]; try (repeat' first | (with_reducible refine And.intro ?_ ?_) | (refine VLe_int ?_; omega) | (refine VLe_bool ?_; rfl) | exact VLe.refl _))
  · have e : i = n := by omega
    subst e
    have q0 : ((i : Int) < i) = False := eq_false (by omega)
    simp (disch := omega) only [spar, List.foldl, List.replicate, q0, go_sem, wrap64_id, Int.tdiv_eq_ediv_of_nonneg, Int.tmod_eq_emod_of_nonneg]
    repeat' first
      | ((first | refine fnQ_pure1 ?_ ?_ | refine fnQ_pure0 ?_ ?_); (next => repeat' first | exact rvs_n | refine rvs_t ?_ | (simp [go_sem]; done)); simp only [go_sem]; (first | exact VLe.refl _ | refine VLe_int ?_ | refine VLe_bool ?_ | refine VLe_str ?_ | skip))
      | (with_reducible refine And.intro ?_ ?_)
      | with_reducible intro _
    all_goals first
      | omega
      | (rename_i hx; revert hx; simp; done)
      | (simp; done)
      | skip
    exact fnQ_effn0 trivial (by simp) low4 ⟨rfl, rfl⟩ (VLe.refl _)
theorem t56 (a b c : Int) (A B D : AObj) (h : List AObj) :
    ACalls Tryd.prog 56 [.osl (h.length + 1) 1 1 0 3, .int .i64 0, .int .i64 3, .int .i64 2] (h ++ [A, .mem 1 3 (intsC [a, b, c]), B, D]) (.tup []) (h ++ [A, .mem 1 3 (intsC (insA [a, b, c] 3)), B, D]) := by
  have c78 : ACalls Tryd.prog 78 [.osl (h.length + 1) 1 1 0 3, .int .i64 0, .int .i64 3] (h ++ [A, .mem 1 3 (intsC [a, b, c]), B, D]) (.tup []) (h ++ [A, .mem 1 3 (intsC (insA [a, b, c] 3)), B, D]) := t78 [a, b, c] A B D h (by simp) (by simp)
  obtain ⟨x, hx⟩ : ∃ x, x = intsC [a, b, c] := ⟨_, rfl⟩
  refine acalls_of fn56m (by simp) ?_
  simp only [List.length_cons, List.length_nil, Nat.reduceAdd, Nat.reduceSub, List.replicate, List.cons_append, List.nil_append, List.append_nil]
  simp (disch := omega) only [c56m, go_sem, wrap64_id, Int.tdiv_eq_ediv_of_nonneg, Int.tmod_eq_emod_of_nonneg]
  repeat' first
    | ((first | refine fnQ_pure1 ?_ ?_ | refine fnQ_pure0 ?_ ?_); (next => repeat' first | exact rvs_n | refine rvs_t ?_ | (simp [go_sem]; done)); simp only [go_sem]; (first | exact VLe.refl _ | refine VLe_int ?_ | refine VLe_bool ?_ | refine VLe_str ?_ | skip))
    | (with_reducible refine And.intro ?_ ?_)
    | with_reducible intro _
  all_goals first
    | omega
    | (rename_i hx; revert hx; simp; done)
    | (simp; done)
    | skip
  refine loop_of (T := fun _ : Unit => spar 134 [(0, .osl (h.length + 1) 1 1 0 3), (1, .int .i64 0), (2, .int .i64 3), (3, .int .i64 2), (8, .bool true), (9, .bool true)]) (H := fun _ => h ++ [A, .mem 1 3 (intsC [a, b, c]), B, D])
    (inv := fun _ => True) (m := fun _ => 0) () trivial (Wk.temps ?_) ?_
  · (simp only [spar, List.foldl, List.replicate, go_sem, VLes_nil, VLes_cons, VLe_undef_iff, VLe_self]; try (repeat' first | (with_reducible refine And.intro ?_ ?_) | (refine VLe_int ?_; omega) | (refine VLe_bool ?_; rfl) | exact VLe.refl _))
  rintro _ _ K hK
  simp (disch := omega) only [spar, List.foldl, List.replicate, go_sem, wrap64_id, Int.tdiv_eq_ediv_of_nonneg, Int.tmod_eq_emod_of_nonneg]
  repeat' first
    | ((first | refine fnQ_pure1 ?_ ?_ | refine fnQ_pure0 ?_ ?_); (next => repeat' first | exact rvs_n | refine rvs_t ?_ | (simp [go_sem]; done)); simp only [go_sem]; (first | exact VLe.refl _ | refine VLe_int ?_ | refine VLe_bool ?_ | refine VLe_str ?_ | skip))
    | (with_reducible refine And.intro ?_ ?_)
    | with_reducible intro _
  all_goals first
    | omega
    | (rename_i hx; revert hx; simp; done)
    | (simp; done)
    | skip
  refine callA_eff c78 ⟨rfl, rfl, rfl, trivial⟩ ?_
  simp (disch := omega) only [go_sem, wrap64_id, Int.tdiv_eq_ediv_of_nonneg, Int.tmod_eq_emod_of_nonneg]
  repeat' first
    | ((first | refine fnQ_pure1 ?_ ?_ | refine fnQ_pure0 ?_ ?_); (next => repeat' first | exact rvs_n | refine rvs_t ?_ | (simp [go_sem]; done)); simp only [go_sem]; (first | exact VLe.refl _ | refine VLe_int ?_ | refine VLe_bool ?_ | refine VLe_str ?_ | skip))
    | (with_reducible refine And.intro ?_ ?_)
    | with_reducible intro _
  all_goals first
    | omega
    | (rename_i hx; revert hx; simp; done)
    | (simp; done)
    | skip
  exact fnQ_eff0 trivial (by simp) low4 ⟨rfl, rfl⟩ (VLe.refl _)
theorem t32 (a b c : Int) (A B D : AObj) (h : List AObj) :
    ACalls Tryd.prog 32 [.osl (h.length + 1) 1 1 0 3] (h ++ [A, .mem 1 3 (intsC [a, b, c]), B, D]) (.tup []) (h ++ [A, .mem 1 3 (intsC (insA [a, b, c] 3)), B, D]) := by
  have c57 := fun h => t57 h
  have c56 := t56 a b c A B D h
  have w3 : IntKind.u64.wrap 3 = 3 := by decide
  refine acalls_of fn32m (by simp) ?_
  simp only [List.length_cons, List.length_nil, Nat.reduceAdd, Nat.reduceSub, List.replicate, List.cons_append, List.nil_append, List.append_nil]
  simp (disch := omega) only [c32m, w3, go_sem, wrap64_id, Int.tdiv_eq_ediv_of_nonneg, Int.tmod_eq_emod_of_nonneg]
  repeat' first
    | ((first | refine callA_pure (c57 _) ?_ ?_); (next => repeat' first | exact flags_n | refine flags_c (by first | rfl | assumption) ?_); simp (disch := omega) only [w3, go_sem, wrap64_id, Int.tdiv_eq_ediv_of_nonneg, Int.tmod_eq_emod_of_nonneg])
    | ((first | refine callU_of (fun _ => c57 _) ?_ ?_); (next => repeat' first | exact flags_n | refine flags_c (by first | rfl | assumption) ?_); simp (disch := omega) only [w3, go_sem, wrap64_id, Int.tdiv_eq_ediv_of_nonneg, Int.tmod_eq_emod_of_nonneg])
    | ((first | refine callG_pure (fun e => ⟨?_, c57 _⟩) ?_); (next => repeat' first | exact flags_n | refine flags_c (by first | rfl | assumption) ?_); simp (disch := omega) only [w3, go_sem, wrap64_id, Int.tdiv_eq_ediv_of_nonneg, Int.tmod_eq_emod_of_nonneg])
    | ((first | refine fnQ_pure1 ?_ ?_ | refine fnQ_pure0 ?_ ?_); (next => repeat' first | exact rvs_n | refine rvs_t ?_ | (simp [go_sem]; done)); simp only [go_sem]; (first | exact VLe.refl _ | refine VLe_int ?_ | refine VLe_bool ?_ | refine VLe_str ?_ | skip))
    | (with_reducible refine And.intro ?_ ?_)
    | with_reducible intro _
  all_goals first
    | omega
    | (rename_i hx; revert hx; simp; done)
    | (simp; done)
    | skip
  refine callA_eff c56 ⟨rfl, rfl, rfl, rfl, trivial⟩ ?_
  simp (disch := omega) only [go_sem, wrap64_id, Int.tdiv_eq_ediv_of_nonneg, Int.tmod_eq_emod_of_nonneg]
  repeat' first
    | ((first | refine fnQ_pure1 ?_ ?_ | refine fnQ_pure0 ?_ ?_); (next => repeat' first | exact rvs_n | refine rvs_t ?_ | (simp [go_sem]; done)); simp only [go_sem]; (first | exact VLe.refl _ | refine VLe_int ?_ | refine VLe_bool ?_ | refine VLe_str ?_ | skip))
    | (with_reducible refine And.intro ?_ ?_)
    | with_reducible intro _
  all_goals first
    | omega
    | (rename_i hx; revert hx; simp; done)
    | (simp; done)
    | skip
  exact fnQ_effn0 trivial (by simp) low4 ⟨rfl, rfl⟩ (VLe.refl _)
theorem sort3 (P : Int → Prop) (a b c : Int) (ha : P a) (hb : P b) (hc : P c) : ∃ x y z, insA [a, b, c] 3 = [x, y, z] ∧ x ≤ y ∧ y ≤ z ∧ P x ∧ P y ∧ P z := by
  simp only [insA, insJ, swapI, List.getD_cons_zero, List.getD_cons_succ, List.set_cons_zero, List.set_cons_succ]
  split
  · simp only [List.getD_cons_zero, List.getD_cons_succ]
    split
    · simp only [List.getD_cons_zero, List.getD_cons_succ, List.set_cons_zero, List.set_cons_succ]
      split
      · exact ⟨_, _, _, rfl, by omega, by omega, by assumption, by assumption, by assumption⟩
      · exact ⟨_, _, _, rfl, by omega, by omega, by assumption, by assumption, by assumption⟩
    · exact ⟨_, _, _, rfl, by omega, by omega, by assumption, by assumption, by assumption⟩
  · simp only [List.getD_cons_zero, List.getD_cons_succ]
    split
    · simp only [List.getD_cons_zero, List.getD_cons_succ, List.set_cons_zero, List.set_cons_succ]
      split
      · exact ⟨_, _, _, rfl, by omega, by omega, by assumption, by assumption, by assumption⟩
      · exact ⟨_, _, _, rfl, by omega, by omega, by assumption, by assumption, by assumption⟩
    · exact ⟨_, _, _, rfl, by omega, by omega, by assumption, by assumption, by assumption⟩
def sortedP (L : List Int) : Prop := ∀ j, j + 1 < L.length → L.getD j 0 ≤ L.getD (j + 1) 0
theorem t33 (L : List Int) (h : List AObj) (hl : L.length ≤ 1000000) : (∃ b, (∀ h, ACalls Tryd.prog 33 [intsV L] h (.bool b) h) ∧ (b = true → sortedP L)) := by
  by_cases hs : sortedP L
  · refine ⟨true, fun h => ?_, fun _ => hs⟩
    have c58 := fun x y h => t58 x y h
    refine acalls_of fn33l (by simp) ?_
    simp only [List.length_cons, List.length_nil, Nat.reduceAdd, Nat.reduceSub, List.replicate, List.cons_append, List.nil_append, List.append_nil]
    simp (disch := omega) only [c33l, intsV, go_sem, wrap64_id, Int.tdiv_eq_ediv_of_nonneg, Int.tmod_eq_emod_of_nonneg]
    repeat' first
      | ((first | refine fnQ_pure1 ?_ ?_ | refine fnQ_pure0 ?_ ?_); (next => repeat' first | exact rvs_n | refine rvs_t ?_ | (simp [go_sem]; done)); simp only [go_sem]; (first | exact VLe.refl _ | refine VLe_int ?_ | refine VLe_bool ?_ | refine VLe_str ?_ | skip))
      | (with_reducible refine And.intro ?_ ?_)
      | with_reducible intro _
    all_goals first
      | omega
      | (rename_i hx; revert hx; simp; done)
      | (simp; done)
      | skip
    refine loop_of (T := fun i : Int => spar 21 [(0, intsV L), (3, .int .i64 i)]) (H := fun _ => h) (inv := fun i => -1 ≤ i ∧ i < L.length) (m := fun i => (i + 1).toNat) ((L.length : Int) - 1) ⟨by omega, by omega⟩ (Wk.temps ?_) ?_
    · (simp only [intsV, spar, List.foldl, List.replicate, go_sem, VLes_nil, VLes_cons, VLe_undef_iff, VLe_self]; try (repeat' first | (with_reducible refine And.intro ?_ ?_) | (refine VLe_int ?_; omega) | (refine VLe_bool ?_; rfl) | exact VLe.refl _))
    rintro i ⟨i1, i2⟩ K hK
    by_cases hi : 0 < i
    · obtain ⟨m, rfl⟩ : ∃ m : Nat, i = (m : Int) + 1 := ⟨(i - 1).toNat, by omega⟩
      have q1 : (0 < (m : Int) + 1) = True := eq_true (by omega)
      have rt1 : ((m : Int) + 1).toNat = m + 1 := by omega
      have hd : decide (L.getD (m + 1) 0 < L.getD m 0) = false := decide_eq_false (by have := hs m (by omega); omega)
      simp (disch := omega) only [spar, List.foldl, List.replicate, intsV, q1, rt1, Int.add_sub_cancel, Int.toNat_natCast, go_sem, wrap64_id, Int.tdiv_eq_ediv_of_nonneg, Int.tmod_eq_emod_of_nonneg]
      repeat' first
        | ((first | refine callA_pure (c58 _ _ _) ?_ ?_); (next => repeat' first | exact flags_n | refine flags_c (by first | rfl | assumption) ?_); simp (disch := omega) only [intsV, q1, rt1, Int.add_sub_cancel, Int.toNat_natCast, hd, go_sem, wrap64_id, Int.tdiv_eq_ediv_of_nonneg, Int.tmod_eq_emod_of_nonneg])
        | ((first | refine callU_of (fun _ => c58 _ _ _) ?_ ?_); (next => repeat' first | exact flags_n | refine flags_c (by first | rfl | assumption) ?_); simp (disch := omega) only [intsV, q1, rt1, Int.add_sub_cancel, Int.toNat_natCast, hd, go_sem, wrap64_id, Int.tdiv_eq_ediv_of_nonneg, Int.tmod_eq_emod_of_nonneg])
        | ((first | refine callG_pure (fun e => ⟨?_, c58 _ _ _⟩) ?_); (next => repeat' first | exact flags_n | refine flags_c (by first | rfl | assumption) ?_); simp (disch := omega) only [intsV, q1, rt1, Int.add_sub_cancel, Int.toNat_natCast, hd, go_sem, wrap64_id, Int.tdiv_eq_ediv_of_nonneg, Int.tmod_eq_emod_of_nonneg])
        | ((first | refine fnQ_pure1 ?_ ?_ | refine fnQ_pure0 ?_ ?_); (next => repeat' first | exact rvs_n | refine rvs_t ?_ | (simp [go_sem]; done)); simp only [go_sem]; (first | exact VLe.refl _ | refine VLe_int ?_ | refine VLe_bool ?_ | refine VLe_str ?_ | skip))
        | (with_reducible refine And.intro ?_ ?_)
        | with_reducible intro _
      all_goals first
        | omega
        | (rename_i hx; revert hx; simp; done)
        | (simp; done)
        | skip
      refine hK _ _ (m : Int) ⟨by omega, by omega⟩ (by omega) (Wk.temps ?_)
      (simp only [intsV, spar, List.foldl, List.replicate, go_sem, VLes_nil, VLes_cons, VLe_undef_iff, VLe_self]; try (repeat' first | (with_reducible refine And.intro ?_ ?_) | (refine VLe_int ?_; omega) | (refine VLe_bool ?_; rfl) | exact VLe.refl _))
    · have q1 : (0 < i) = False := eq_false hi
      simp (disch := omega) only [spar, List.foldl, List.replicate, intsV, q1, go_sem, wrap64_id, Int.tdiv_eq_ediv_of_nonneg, Int.tmod_eq_emod_of_nonneg]
      repeat' first
        | ((first | refine fnQ_pure1 ?_ ?_ | refine fnQ_pure0 ?_ ?_); (next => repeat' first | exact rvs_n | refine rvs_t ?_ | (simp [go_sem]; done)); simp only [go_sem]; (first | exact VLe.refl _ | refine VLe_int ?_ | refine VLe_bool ?_ | refine VLe_str ?_ | skip))
        | (with_reducible refine And.intro ?_ ?_)
        | with_reducible intro _
      all_goals first
        | omega
        | (rename_i hx; revert hx; simp; done)
        | (simp; done)
        | skip
  · refine ⟨false, fun h => ?_, fun h => by cases h⟩
    have c58 := fun x y h => t58 x y h
    refine acalls_of fn33l (by simp) ?_
    simp only [List.length_cons, List.length_nil, Nat.reduceAdd, Nat.reduceSub, List.replicate, List.cons_append, List.nil_append, List.append_nil]
    simp (disch := omega) only [c33l, intsV, go_sem, wrap64_id, Int.tdiv_eq_ediv_of_nonneg, Int.tmod_eq_emod_of_nonneg]
    repeat' first
      | ((first | refine fnQ_pure1 ?_ ?_ | refine fnQ_pure0 ?_ ?_); (next => repeat' first | exact rvs_n | refine rvs_t ?_ | (simp [go_sem]; done)); simp only [go_sem]; (first | exact VLe.refl _ | refine VLe_int ?_ | refine VLe_bool ?_ | refine VLe_str ?_ | skip))
      | (with_reducible refine And.intro ?_ ?_)
      | with_reducible intro _
    all_goals first
      | omega
      | (rename_i hx; revert hx; simp; done)
      | (simp; done)
      | skip
    refine loop_of (T := fun i : Int => spar 21 [(0, intsV L), (3, .int .i64 i)]) (H := fun _ => h) (inv := fun i => -1 ≤ i ∧ i < L.length ∧ ∀ j : Nat, i ≤ j → j + 1 < L.length → L.getD j 0 ≤ L.getD (j + 1) 0) (m := fun i => (i + 1).toNat) ((L.length : Int) - 1) ⟨by omega, by omega, fun j hj hj2 => by omega⟩ (Wk.temps ?_) ?_
    · (simp only [intsV, spar, List.foldl, List.replicate, go_sem, VLes_nil, VLes_cons, VLe_undef_iff, VLe_self]; try (repeat' first | (with_reducible refine And.intro ?_ ?_) | (refine VLe_int ?_; omega) | (refine VLe_bool ?_; rfl) | exact VLe.refl _))
    rintro i ⟨i1, i2, i3⟩ K hK
    by_cases hi : 0 < i
    · obtain ⟨m, rfl⟩ : ∃ m : Nat, i = (m : Int) + 1 := ⟨(i - 1).toNat, by omega⟩
      have q1 : (0 < (m : Int) + 1) = True := eq_true (by omega)
      have rt1 : ((m : Int) + 1).toNat = m + 1 := by omega
      by_cases hlt : L.getD (m + 1) 0 < L.getD m 0
      · have hd : decide (L.getD (m + 1) 0 < L.getD m 0) = true := decide_eq_true hlt
        simp (disch := omega) only [spar, List.foldl, List.replicate, intsV, q1, rt1, Int.add_sub_cancel, Int.toNat_natCast, go_sem, wrap64_id, Int.tdiv_eq_ediv_of_nonneg, Int.tmod_eq_emod_of_nonneg]
        repeat' first
          | ((first | refine callA_pure (c58 _ _ _) ?_ ?_); (next => repeat' first | exact flags_n | refine flags_c (by first | rfl | assumption) ?_); simp (disch := omega) only [intsV, q1, rt1, Int.add_sub_cancel, Int.toNat_natCast, hd, go_sem, wrap64_id, Int.tdiv_eq_ediv_of_nonneg, Int.tmod_eq_emod_of_nonneg])
          | ((first | refine callU_of (fun _ => c58 _ _ _) ?_ ?_); (next => repeat' first | exact flags_n | refine flags_c (by first | rfl | assumption) ?_); simp (disch := omega) only [intsV, q1, rt1, Int.add_sub_cancel, Int.toNat_natCast, hd, go_sem, wrap64_id, Int.tdiv_eq_ediv_of_nonneg, Int.tmod_eq_emod_of_nonneg])
          | ((first | refine callG_pure (fun e => ⟨?_, c58 _ _ _⟩) ?_); (next => repeat' first | exact flags_n | refine flags_c (by first | rfl | assumption) ?_); simp (disch := omega) only [intsV, q1, rt1, Int.add_sub_cancel, Int.toNat_natCast, hd, go_sem, wrap64_id, Int.tdiv_eq_ediv_of_nonneg, Int.tmod_eq_emod_of_nonneg])
          | ((first | refine fnQ_pure1 ?_ ?_ | refine fnQ_pure0 ?_ ?_); (next => repeat' first | exact rvs_n | refine rvs_t ?_ | (simp [go_sem]; done)); simp only [go_sem]; (first | exact VLe.refl _ | refine VLe_int ?_ | refine VLe_bool ?_ | refine VLe_str ?_ | skip))
          | (with_reducible refine And.intro ?_ ?_)
          | with_reducible intro _
        all_goals first
          | omega
          | (rename_i hx; revert hx; simp; done)
          | (simp; done)
          | skip
      · have hd : decide (L.getD (m + 1) 0 < L.getD m 0) = false := decide_eq_false hlt
        simp (disch := omega) only [spar, List.foldl, List.replicate, intsV, q1, rt1, Int.add_sub_cancel, Int.toNat_natCast, go_sem, wrap64_id, Int.tdiv_eq_ediv_of_nonneg, Int.tmod_eq_emod_of_nonneg]
        repeat' first
          | ((first | refine callA_pure (c58 _ _ _) ?_ ?_); (next => repeat' first | exact flags_n | refine flags_c (by first | rfl | assumption) ?_); simp (disch := omega) only [intsV, q1, rt1, Int.add_sub_cancel, Int.toNat_natCast, hd, go_sem, wrap64_id, Int.tdiv_eq_ediv_of_nonneg, Int.tmod_eq_emod_of_nonneg])
          | ((first | refine callU_of (fun _ => c58 _ _ _) ?_ ?_); (next => repeat' first | exact flags_n | refine flags_c (by first | rfl | assumption) ?_); simp (disch := omega) only [intsV, q1, rt1, Int.add_sub_cancel, Int.toNat_natCast, hd, go_sem, wrap64_id, Int.tdiv_eq_ediv_of_nonneg, Int.tmod_eq_emod_of_nonneg])
          | ((first | refine callG_pure (fun e => ⟨?_, c58 _ _ _⟩) ?_); (next => repeat' first | exact flags_n | refine flags_c (by first | rfl | assumption) ?_); simp (disch := omega) only [intsV, q1, rt1, Int.add_sub_cancel, Int.toNat_natCast, hd, go_sem, wrap64_id, Int.tdiv_eq_ediv_of_nonneg, Int.tmod_eq_emod_of_nonneg])
          | ((first | refine fnQ_pure1 ?_ ?_ | refine fnQ_pure0 ?_ ?_); (next => repeat' first | exact rvs_n | refine rvs_t ?_ | (simp [go_sem]; done)); simp only [go_sem]; (first | exact VLe.refl _ | refine VLe_int ?_ | refine VLe_bool ?_ | refine VLe_str ?_ | skip))
          | (with_reducible refine And.intro ?_ ?_)
          | with_reducible intro _
        all_goals first
          | omega
          | (rename_i hx; revert hx; simp; done)
          | (simp; done)
          | skip
        refine hK _ _ (m : Int) ⟨by omega, by omega, fun j hj hj2 => ?_⟩ (by omega) (Wk.temps ?_)
        · by_cases e : j = m
          · subst e; omega
          · exact i3 j (by omega) hj2
        · (simp only [intsV, spar, List.foldl, List.replicate, go_sem, VLes_nil, VLes_cons, VLe_undef_iff, VLe_self]; try (repeat' first | (with_reducible refine And.intro ?_ ?_) | (refine VLe_int ?_; omega) | (refine VLe_bool ?_; rfl) | exact VLe.refl _))
    · exact absurd (fun j hj => i3 j (by omega) hj) hs
end LN
end

section
open Go Go.Proofs AF HY P48
namespace LN
set_option maxRecDepth 100000
theorem t60f (s : List Int) (F : Nat) (cap : List AV) (h : List AObj) (hs : s.length ≤ 1000000000) (hp : ∀ i : Nat, i < s.length → ACalls Tryd.prog F (.int .i64 (s.getD i 0) :: cap) h (.bool false) h) : ACalls Tryd.prog 60 [intsV s, .fn (.func F) [] cap] h (.int .i64 (-1)) h := by
  refine acalls_of fn60l (by simp) ?_
  simp only [List.length_cons, List.length_nil, Nat.reduceAdd, Nat.reduceSub, List.replicate, List.cons_append, List.nil_append, List.append_nil]
  simp (disch := omega) only [c60l, intsV, go_sem, wrap64_id, Int.tdiv_eq_ediv_of_nonneg, Int.tmod_eq_emod_of_nonneg]
  repeat' first
    | ((first | refine fnQ_pure1 ?_ ?_ | refine fnQ_pure0 ?_ ?_); (next => repeat' first | exact rvs_n | refine rvs_t ?_ | (simp [go_sem]; done)); simp only [go_sem]; (first | exact VLe.refl _ | refine VLe_int ?_ | refine VLe_bool ?_ | refine VLe_str ?_ | skip))
    | (with_reducible refine And.intro ?_ ?_)
    | with_reducible intro _
  all_goals first
    | omega
    | (rename_i hx; revert hx; simp; done)
    | (simp; done)
    | skip
  refine loop_of (T := fun i : Nat => spar 19 [(0, intsV s), (1, .fn (.func F) [] cap), (6, intsV s), (7, .int .i64 s.length), (8, .int .i64 i)]) (H := fun _ => h) (inv := fun i => i ≤ s.length) (m := fun i => s.length - i) 0 (by omega) (Wk.temps ?_) ?_
  · (simp only [intsV, spar, List.foldl, List.replicate, go_sem, VLes_nil, VLes_cons, VLe_undef_iff, VLe_self]; try (repeat' first | (with_reducible refine And.intro ?_ ?_) | (refine VLe_int ?_; omega) | (refine VLe_bool ?_; rfl) | exact VLe.refl _))
  · rintro i i1 K hK
    by_cases hi : i < s.length
    · have hpc := hp i hi
      simp (disch := omega) only [spar, List.foldl, List.replicate, intsV, go_sem, wrap64_id, Int.tdiv_eq_ediv_of_nonneg, Int.tmod_eq_emod_of_nonneg]
      repeat' first
        | (refine callV_pure (hpc) ?_; simp (disch := omega) only [intsV, go_sem, wrap64_id, Int.tdiv_eq_ediv_of_nonneg, Int.tmod_eq_emod_of_nonneg])
        | ((first | refine fnQ_pure1 ?_ ?_ | refine fnQ_pure0 ?_ ?_); (next => repeat' first | exact rvs_n | refine rvs_t ?_ | (simp [go_sem]; done)); simp only [go_sem]; (first | exact VLe.refl _ | refine VLe_int ?_ | refine VLe_bool ?_ | refine VLe_str ?_ | skip))
        | (with_reducible refine And.intro ?_ ?_)
        | with_reducible intro _
      all_goals first
        | omega
        | (rename_i hx; revert hx; simp; done)
        | (simp; done)
        | skip
      refine hK _ _ (i + 1) (by omega) (by omega) (Wk.temps ?_)
      (simp only [intsV, spar, List.foldl, List.replicate, go_sem, VLes_nil, VLes_cons, VLe_undef_iff, VLe_self]; try (repeat' first | (with_reducible refine And.intro ?_ ?_) | (refine VLe_int ?_; omega) | (refine VLe_bool ?_; rfl) | exact VLe.refl _))
    · have e : i = s.length := by omega
      subst e
      simp (disch := omega) only [spar, List.foldl, List.replicate, intsV, go_sem, wrap64_id, Int.tdiv_eq_ediv_of_nonneg, Int.tmod_eq_emod_of_nonneg]
      repeat' first
        | ((first | refine fnQ_pure1 ?_ ?_ | refine fnQ_pure0 ?_ ?_); (next => repeat' first | exact rvs_n | refine rvs_t ?_ | (simp [go_sem]; done)); simp only [go_sem]; (first | exact VLe.refl _ | refine VLe_int ?_ | refine VLe_bool ?_ | refine VLe_str ?_ | skip))
        | (with_reducible refine And.intro ?_ ?_)
        | with_reducible intro _
      all_goals first
        | omega
        | (rename_i hx; revert hx; simp; done)
        | (simp; done)
        | skip
theorem t35f (s : List Int) (F : Nat) (cap : List AV) (h : List AObj) (hs : s.length ≤ 1000000000) (hp : ∀ i : Nat, i < s.length → ACalls Tryd.prog F (.int .i64 (s.getD i 0) :: cap) h (.bool false) h) : ACalls Tryd.prog 35 [intsV s, .fn (.func F) [] cap] h (.bool false) h := by
  refine acalls_of fn35l (by simp) ?_
  simp only [List.length_cons, List.length_nil, Nat.reduceAdd, Nat.reduceSub, List.replicate, List.cons_append, List.nil_append, List.append_nil]
  simp (disch := omega) only [c35l, intsV, go_sem, wrap64_id, Int.tdiv_eq_ediv_of_nonneg, Int.tmod_eq_emod_of_nonneg]
  repeat' first
    | ((first | refine callA_pure ((t60f s F cap _ hs hp)) ?_ ?_); (next => repeat' first | exact flags_n | refine flags_c (by first | rfl | assumption) ?_); simp (disch := omega) only [intsV, go_sem, wrap64_id, Int.tdiv_eq_ediv_of_nonneg, Int.tmod_eq_emod_of_nonneg])
    | ((first | refine callG_pure (fun e => ⟨?_, (t60f s F cap _ hs hp)⟩) ?_); (next => repeat' first | exact flags_n | refine flags_c (by first | rfl | assumption) ?_); simp (disch := omega) only [intsV, go_sem, wrap64_id, Int.tdiv_eq_ediv_of_nonneg, Int.tmod_eq_emod_of_nonneg])
    | ((first | refine fnQ_pure1 ?_ ?_ | refine fnQ_pure0 ?_ ?_); (next => repeat' first | exact rvs_n | refine rvs_t ?_ | (simp [go_sem]; done)); simp only [go_sem]; (first | exact VLe.refl _ | refine VLe_int ?_ | refine VLe_bool ?_ | refine VLe_str ?_ | skip))
    | (with_reducible refine And.intro ?_ ?_)
    | with_reducible intro _
  all_goals first
    | omega
    | (rename_i hx; revert hx; simp; done)
    | (simp; done)
    | skip
theorem t36 (L : List Int) (i : Nat) (x z : Int) (k j p : Nat) (h : List AObj) (h0 : cellsOf h k 1 = some [intsV L]) (h1 : cellsOf h j 1 = some [.osl p 1 1 0 3]) (cs : List AV) (h2 : cellsOf h p 1 = some cs) (d0 : cs[0]? = some (.int .i64 x)) (d2 : cs[Int.toNat 2]? = some (.int .i64 z)) (dl : cs.length = 3) (hl : liveS h p 1 = true)
    (hi : i < L.length) (hx : x ≤ L.getD i 0) (hz : L.getD i 0 ≤ z) : ACalls Tryd.prog 36 [.int .i64 (i : Int), .op k 1 0, .op j 1 0] h (.bool false) h := by
  have q0 : ((i : Int) < 0) = False := eq_false (by omega)
  have q1 : ((L.length : Int) ≤ i) = False := eq_false (by omega)
  have q2 : (L.getD i 0 < x) = False := eq_false (by omega)
  have q3 : (z < L.getD i 0) = False := eq_false (by omega)
  refine acalls_of fn36l (by simp) ?_
  simp only [List.length_cons, List.length_nil, Nat.reduceAdd, Nat.reduceSub, List.replicate, List.cons_append, List.nil_append, List.append_nil]
  simp (disch := omega) only [c36l, q0, q1, q2, q3, h0, h1, h2, hl, d0, d2, dl, intsV, go_sem, wrap64_id, Int.tdiv_eq_ediv_of_nonneg, Int.tmod_eq_emod_of_nonneg]
  repeat' first
    | ((first | refine fnQ_pure1 ?_ ?_ | refine fnQ_pure0 ?_ ?_); (next => repeat' first | exact rvs_n | refine rvs_t ?_ | (simp [go_sem]; done)); simp only [go_sem]; (first | exact VLe.refl _ | refine VLe_int ?_ | refine VLe_bool ?_ | refine VLe_str ?_ | skip))
    | (with_reducible refine And.intro ?_ ?_)
    | with_reducible intro _
  all_goals first
    | omega
    | (rename_i hx; revert hx; simp; done)
    | (simp; done)
    | skip
theorem inL_split {L : List Int} (hs : sortedP L) {x y z : Int} (h1 : x ≤ y) (h2 : y ≤ z) : ∀ n, n ≤ L.length → inL L x y n ++ inL L (y + 1) z n = inL L x z n := by
  have hm : ∀ d j, j + d < L.length → L.getD j 0 ≤ L.getD (j + d) 0 := by
    intro d
    induction d with
    | zero => intro j _; exact Int.le_refl _
    | succ d ih => intro j hj; exact Int.le_trans (ih j (by omega)) (hs (j + d) (by omega))
  have hlo : ∀ n, n < L.length → L.getD n 0 ≤ y → ∀ m, m ≤ n → inL L (y + 1) z m = [] := by
    intro n hn hy m
    induction m with
    | zero => intro _; rfl
    | succ m ih =>
      intro hmn
      have : L.getD m 0 ≤ y := by
        have := hm (n - m) m (by omega)
        rw [show m + (n - m) = n by omega] at this
        omega
      rw [inL_f (by unfold inP; rw [decide_eq_false (by omega)]; rfl)]
      exact ih (by omega)
  intro n
  induction n with
  | zero => intro _; rfl
  | succ n ih =>
    intro hn
    have ih := ih (by omega)
    by_cases g1 : x ≤ L.getD n 0
    · by_cases g2 : L.getD n 0 ≤ y
      · have e := hlo n (by omega) g2 n (Nat.le_refl _)
        have e' : inL L (y + 1) z (n + 1) = inL L (y + 1) z n := inL_f (by unfold inP; rw [decide_eq_false (by omega)]; rfl)
        rw [e', e, List.append_nil, inL_t (by unfold inP; rw [decide_eq_true g1, decide_eq_true g2]; rfl), inL_t (f := x) (t := z) (by unfold inP; rw [decide_eq_true g1, decide_eq_true (by omega)]; rfl), ← ih, e, List.append_nil]
      · have e1 : inL L x y (n + 1) = inL L x y n := inL_f (by unfold inP; rw [decide_eq_false g2, Bool.and_false])
        by_cases g3 : L.getD n 0 ≤ z
        · rw [e1, inL_t (f := y + 1) (t := z) (by unfold inP; rw [decide_eq_true (by omega), decide_eq_true g3]; rfl), inL_t (f := x) (t := z) (by unfold inP; rw [decide_eq_true g1, decide_eq_true g3]; rfl), ← ih, List.append_assoc]
        · rw [e1, inL_f (f := y + 1) (t := z) (by unfold inP; rw [decide_eq_false g3, Bool.and_false]), inL_f (f := x) (t := z) (by unfold inP; rw [decide_eq_false g3, Bool.and_false]), ih]
    · rw [inL_f (f := x) (t := y) (by unfold inP; rw [decide_eq_false g1]; rfl), inL_f (f := y + 1) (t := z) (by unfold inP; rw [decide_eq_false (by omega)]; rfl), inL_f (f := x) (t := z) (by unfold inP; rw [decide_eq_false g1]; rfl), ih]
theorem inL_mem {L : List Int} {x z : Int} {n : Nat} {v : Int} (h : v ∈ inL L x z n) : ∃ i : Nat, v = i ∧ i < n ∧ x ≤ L.getD i 0 ∧ L.getD i 0 ≤ z := by
  unfold inL at h
  obtain ⟨i, hi, rfl⟩ := List.mem_map.1 h
  obtain ⟨h1, h2⟩ := List.mem_filter.1 hi
  unfold inP at h2
  simp only [Bool.and_eq_true, decide_eq_true_eq] at h2
  exact ⟨i, rfl, List.mem_range.1 h1, h2.1, h2.2⟩
theorem in_right {L : List Int} {x y : Int} (h : 1 ≤ x ∧ x ≤ y ∧ y ≤ 4096) : inO L L x y = (0, inL L x y L.length) := by
  unfold inO
  rw [if_neg (by simp), if_neg (by rw [(rightO_iff x y).2 h]; simp)]
set_option maxHeartbeats 8000000 in
theorem t8 (L : List Int) (f m t : Int) (h : List AObj) (hl : L.length ≤ 9223372036854775807) (hf : 0 ≤ f ∧ f ≤ 255) (hm : 0 ≤ m ∧ m ≤ 255) (ht : 0 ≤ t ∧ t ≤ 255) : ACalls Tryd.prog 8 [intsV L, .int .u8 f, .int .u8 m, .int .u8 t] h (.bool true) h := by
  obtain ⟨a, ha⟩ : ∃ a, a = 1 + f % 100 := ⟨_, rfl⟩
  obtain ⟨b, hb⟩ : ∃ b, b = 1 + m % 100 := ⟨_, rfl⟩
  obtain ⟨c, hc⟩ : ∃ c, c = 1 + t % 100 := ⟨_, rfl⟩
  have kA : 1 + f % 100 = a := ha.symm
  have kB : 1 + m % 100 = b := hb.symm
  have kC : 1 + t % 100 = c := hc.symm
  have c10 := fun h => t10 h
  obtain ⟨x, y, z, hs, o1, o2, ⟨px, px'⟩, ⟨py, py'⟩, ⟨pz, pz'⟩⟩ := sort3 (fun v => 1 ≤ v ∧ v ≤ 100) a b c (by omega) (by omega) (by omega)
  have c32 := fun A B D => t32 a b c A B D h
  rw [hs] at c32
  have e3 : ∀ a b c : Int, intsC [a, b, c] = [.int .i64 a, .int .i64 b, .int .i64 c] := fun _ _ _ => rfl
  rw [e3, e3] at c32
  obtain ⟨cs, hcs⟩ : ∃ cs : List AV, cs = [.int .i64 x, .int .i64 y, .int .i64 z] := ⟨_, rfl⟩
  rw [← hcs] at c32
  have d0 : cs[0]? = some (.int .i64 x) := by rw [hcs]; rfl
  have d1 : cs[Int.toNat 1]? = some (.int .i64 y) := by rw [hcs]; rfl
  have d2 : cs[Int.toNat 2]? = some (.int .i64 z) := by rw [hcs]; rfl
  have dl : cs.length = 3 := by rw [hcs]; rfl
  refine acalls_of fn8m (by simp) ?_
  simp only [List.length_cons, List.length_nil, Nat.reduceAdd, Nat.reduceSub, List.replicate, List.cons_append, List.nil_append, List.append_nil]
  simp (disch := omega) only [c8m, kA, kB, kC, intsV, go_sem, wrap64_id, Int.tdiv_eq_ediv_of_nonneg, Int.tmod_eq_emod_of_nonneg]
  repeat' first
    | ((first | refine fnQ_pure1 ?_ ?_ | refine fnQ_pure0 ?_ ?_); (next => repeat' first | exact rvs_n | refine rvs_t ?_ | (simp [go_sem]; done)); simp only [go_sem]; (first | exact VLe.refl _ | refine VLe_int ?_ | refine VLe_bool ?_ | refine VLe_str ?_ | skip))
    | (with_reducible refine And.intro ?_ ?_)
    | with_reducible intro _
  all_goals first
    | omega
    | (rename_i hx; revert hx; simp; done)
    | (simp; done)
    | skip
  refine callA_eff (c32 _ _ _) ⟨rfl, trivial⟩ ?_
  by_cases g1 : 20 < L.length
  · have q1 : (20 < (L.length : Int)) = True := eq_true (by omega)
    simp (disch := omega) only [q1, d0, d1, d2, dl, intsV, go_sem, wrap64_id, Int.tdiv_eq_ediv_of_nonneg, Int.tmod_eq_emod_of_nonneg]
    repeat' first
      | (refine callG_false ((.bool false)) ?_; simp (disch := omega) only [q1, d0, d1, d2, dl, intsV, go_sem, wrap64_id, Int.tdiv_eq_ediv_of_nonneg, Int.tmod_eq_emod_of_nonneg])
      | ((first | refine callA_pure (c10 _) ?_ ?_); (next => repeat' first | exact flags_n | refine flags_c (by first | rfl | assumption) ?_); simp (disch := omega) only [q1, d0, d1, d2, dl, intsV, go_sem, wrap64_id, Int.tdiv_eq_ediv_of_nonneg, Int.tmod_eq_emod_of_nonneg])
      | ((first | refine callU_of (fun _ => c10 _) ?_ ?_); (next => repeat' first | exact flags_n | refine flags_c (by first | rfl | assumption) ?_); simp (disch := omega) only [q1, d0, d1, d2, dl, intsV, go_sem, wrap64_id, Int.tdiv_eq_ediv_of_nonneg, Int.tmod_eq_emod_of_nonneg])
      | ((first | refine callG_pure (fun e => ⟨?_, c10 _⟩) ?_); (next => repeat' first | exact flags_n | refine flags_c (by first | rfl | assumption) ?_); simp (disch := omega) only [q1, d0, d1, d2, dl, intsV, go_sem, wrap64_id, Int.tdiv_eq_ediv_of_nonneg, Int.tmod_eq_emod_of_nonneg])
      | ((first | refine fnQ_pure1 ?_ ?_ | refine fnQ_pure0 ?_ ?_); (next => repeat' first | exact rvs_n | refine rvs_t ?_ | (simp [go_sem]; done)); simp only [go_sem]; (first | exact VLe.refl _ | refine VLe_int ?_ | refine VLe_bool ?_ | refine VLe_str ?_ | skip))
      | (with_reducible refine And.intro ?_ ?_)
      | with_reducible intro _
    all_goals first
      | omega
      | (rename_i hx; revert hx; simp; done)
      | (simp; done)
      | skip
  have q1 : (20 < (L.length : Int)) = False := eq_false (by omega)
  obtain ⟨sb, c33, hsb⟩ := t33 L h (by omega)
  cases sb with
  | false =>
    unfold intsV at c33
    simp (disch := omega) only [q1, d0, d1, d2, dl, intsV, go_sem, wrap64_id, Int.tdiv_eq_ediv_of_nonneg, Int.tmod_eq_emod_of_nonneg]
    repeat' first
      | ((first | refine callA_pure (c33 _) ?_ ?_ | refine callA_pure (c10 _) ?_ ?_); (next => repeat' first | exact flags_n | refine flags_c (by first | rfl | assumption) ?_); simp (disch := omega) only [q1, d0, d1, d2, dl, intsV, go_sem, wrap64_id, Int.tdiv_eq_ediv_of_nonneg, Int.tmod_eq_emod_of_nonneg])
      | ((first | refine callU_of (fun _ => c33 _) ?_ ?_ | refine callU_of (fun _ => c10 _) ?_ ?_); (next => repeat' first | exact flags_n | refine flags_c (by first | rfl | assumption) ?_); simp (disch := omega) only [q1, d0, d1, d2, dl, intsV, go_sem, wrap64_id, Int.tdiv_eq_ediv_of_nonneg, Int.tmod_eq_emod_of_nonneg])
      | ((first | refine callG_pure (fun e => ⟨?_, c33 _⟩) ?_ | refine callG_pure (fun e => ⟨?_, c10 _⟩) ?_); (next => repeat' first | exact flags_n | refine flags_c (by first | rfl | assumption) ?_); simp (disch := omega) only [q1, d0, d1, d2, dl, intsV, go_sem, wrap64_id, Int.tdiv_eq_ediv_of_nonneg, Int.tmod_eq_emod_of_nonneg])
      | ((first | refine fnQ_pure1 ?_ ?_ | refine fnQ_pure0 ?_ ?_); (next => repeat' first | exact rvs_n | refine rvs_t ?_ | (simp [go_sem]; done)); simp only [go_sem]; (first | exact VLe.refl _ | refine VLe_int ?_ | refine VLe_bool ?_ | refine VLe_str ?_ | skip))
      | (with_reducible refine And.intro ?_ ?_)
      | with_reducible intro _
    all_goals first
      | omega
      | (rename_i hx; revert hx; simp; done)
      | (simp; done)
      | skip
  | true =>
  have hsort := hsb rfl
  unfold intsV at c33
  by_cases g2 : y = z
  · have q2 : (y = z) = True := eq_true g2
    simp (disch := omega) only [q1, q2, d0, d1, d2, dl, intsV, go_sem, wrap64_id, Int.tdiv_eq_ediv_of_nonneg, Int.tmod_eq_emod_of_nonneg]
    repeat' first
      | ((first | refine callA_pure (c33 _) ?_ ?_ | refine callA_pure (c10 _) ?_ ?_); (next => repeat' first | exact flags_n | refine flags_c (by first | rfl | assumption) ?_); simp (disch := omega) only [q1, q2, d0, d1, d2, dl, intsV, go_sem, wrap64_id, Int.tdiv_eq_ediv_of_nonneg, Int.tmod_eq_emod_of_nonneg])
      | ((first | refine callU_of (fun _ => c33 _) ?_ ?_ | refine callU_of (fun _ => c10 _) ?_ ?_); (next => repeat' first | exact flags_n | refine flags_c (by first | rfl | assumption) ?_); simp (disch := omega) only [q1, q2, d0, d1, d2, dl, intsV, go_sem, wrap64_id, Int.tdiv_eq_ediv_of_nonneg, Int.tmod_eq_emod_of_nonneg])
      | ((first | refine callG_pure (fun e => ⟨?_, c33 _⟩) ?_ | refine callG_pure (fun e => ⟨?_, c10 _⟩) ?_); (next => repeat' first | exact flags_n | refine flags_c (by first | rfl | assumption) ?_); simp (disch := omega) only [q1, q2, d0, d1, d2, dl, intsV, go_sem, wrap64_id, Int.tdiv_eq_ediv_of_nonneg, Int.tmod_eq_emod_of_nonneg])
      | ((first | refine fnQ_pure1 ?_ ?_ | refine fnQ_pure0 ?_ ?_); (next => repeat' first | exact rvs_n | refine rvs_t ?_ | (simp [go_sem]; done)); simp only [go_sem]; (first | exact VLe.refl _ | refine VLe_int ?_ | refine VLe_bool ?_ | refine VLe_str ?_ | skip))
      | (with_reducible refine And.intro ?_ ?_)
      | with_reducible intro _
    all_goals first
      | omega
      | (rename_i hx; revert hx; simp; done)
      | (simp; done)
      | skip
  have q2 : (y = z) = False := eq_false g2
  have c16a := fun h => weak (t16 L L x y h (by omega) (by omega))
  have c16b := fun h => weak (t16 L L (y + 1) z h (by omega) (by omega))
  have c16c := fun h => weak (t16 L L x z h (by omega) (by omega))
  rw [in_right (by omega)] at c16a c16b c16c
  have hspl := inL_split hsort (x := x) (y := y) (z := z) o1 o2 L.length (Nat.le_refl _)
  have n1 := inL_len L x y L.length
  have n2 := inL_len L (y + 1) z L.length
  have n3 := inL_len L x z L.length
  have hmem := fun v (hv : v ∈ inL L x z L.length) => inL_mem hv
  obtain ⟨U, hU⟩ : ∃ U, U = inL L x y L.length := ⟨_, rfl⟩
  obtain ⟨V, hV⟩ : ∃ V, V = inL L (y + 1) z L.length := ⟨_, rfl⟩
  obtain ⟨W, hW⟩ : ∃ W, W = inL L x z L.length := ⟨_, rfl⟩
  rw [← hU] at c16a hspl n1
  rw [← hV] at c16b hspl n2
  rw [← hW] at c16c hspl n3 hmem
  have c18 := fun h => u17v W W h (by omega)
  rw [decide_eq_true rfl] at c18
  have c35 := fun (k j p : Nat) (H : List AObj) (h0 : cellsOf H k 1 = some [intsV L]) (h1 : cellsOf H j 1 = some [.osl p 1 1 0 3]) (h2 : cellsOf H p 1 = some cs) (hlv : liveS H p 1 = true) => t35f W 36 [.op k 1 0, .op j 1 0] H (by omega) (fun i hi => by
    have hv : W.getD i 0 ∈ W := by rw [List.getD_eq_getElem?_getD, List.getElem?_eq_getElem hi]; exact List.getElem_mem hi
    obtain ⟨i', e1, e2, e3, e4⟩ := hmem _ hv
    rw [e1]
    exact t36 L i' x z k j p H h0 h1 cs h2 d0 d2 dl hlv e2 e3 e4)
  have c34 : ∀ H, getO (h.length + 3) H = some (.mem 1 23 [intsV U, intsV V]) → ACalls Tryd.prog 34 [.osl (h.length + 3) 1 1 0 2] H (intsV W) H := fun H hk => by
    have := t34c U V H _ 1 hk (by omega)
    rwa [hspl] at this
  simp (disch := omega) only [q1, q2, d0, d1, d2, dl, cells_intsV, solid_intsV, go_sem, wrap64_id, Int.tdiv_eq_ediv_of_nonneg, Int.tmod_eq_emod_of_nonneg]
  repeat' first
    | ((first | refine callA_pure (c33 _) ?_ ?_ | refine callA_pure (c16a _) ?_ ?_ | refine callA_pure (c16b _) ?_ ?_ | refine callA_pure (c16c _) ?_ ?_ | refine callA_pure ((c34 _ (by first | (simp only [go_sem]; done) | (simp only [go_sem]; rfl)))) ?_ ?_ | refine callA_pure (c18 _) ?_ ?_ | refine callA_pure ((c35 h.length (h.length + 2) (h.length + 1) _ (by first | (simp only [go_sem]; done) | (simp only [go_sem]; rfl)) (by first | (simp only [go_sem]; done) | (simp only [go_sem]; rfl)) (by first | (simp only [go_sem]; done) | (simp only [go_sem]; rfl)) (by first | (simp only [go_sem]; done) | (simp only [go_sem]; rfl)))) ?_ ?_ | refine callA_pure (c10 _) ?_ ?_); (next => repeat' first | exact flags_n | refine flags_c (by first | rfl | assumption) ?_); simp (disch := omega) only [q1, q2, d0, d1, d2, dl, cells_intsV, solid_intsV, go_sem, wrap64_id, Int.tdiv_eq_ediv_of_nonneg, Int.tmod_eq_emod_of_nonneg])
    | ((first | refine callU_of (fun _ => c33 _) ?_ ?_ | refine callU_of (fun _ => c16a _) ?_ ?_ | refine callU_of (fun _ => c16b _) ?_ ?_ | refine callU_of (fun _ => c16c _) ?_ ?_ | refine callU_of (fun _ => c18 _) ?_ ?_ | refine callU_of (fun _ => c10 _) ?_ ?_); (next => repeat' first | exact flags_n | refine flags_c (by first | rfl | assumption) ?_); simp (disch := omega) only [q1, q2, d0, d1, d2, dl, cells_intsV, solid_intsV, go_sem, wrap64_id, Int.tdiv_eq_ediv_of_nonneg, Int.tmod_eq_emod_of_nonneg])
    | ((first | refine callG_pure (fun e => ⟨?_, c33 _⟩) ?_ | refine callG_pure (fun e => ⟨?_, c16a _⟩) ?_ | refine callG_pure (fun e => ⟨?_, c16b _⟩) ?_ | refine callG_pure (fun e => ⟨?_, c16c _⟩) ?_ | refine callG_pure (fun e => ⟨?_, (c34 _ (by first | (simp only [go_sem]; done) | (simp only [go_sem]; rfl)))⟩) ?_ | refine callG_pure (fun e => ⟨?_, c18 _⟩) ?_ | refine callG_pure (fun e => ⟨?_, (c35 h.length (h.length + 2) (h.length + 1) _ (by first | (simp only [go_sem]; done) | (simp only [go_sem]; rfl)) (by first | (simp only [go_sem]; done) | (simp only [go_sem]; rfl)) (by first | (simp only [go_sem]; done) | (simp only [go_sem]; rfl)) (by first | (simp only [go_sem]; done) | (simp only [go_sem]; rfl)))⟩) ?_ | refine callG_pure (fun e => ⟨?_, c10 _⟩) ?_); (next => repeat' first | exact flags_n | refine flags_c (by first | rfl | assumption) ?_); simp (disch := omega) only [q1, q2, d0, d1, d2, dl, cells_intsV, solid_intsV, go_sem, wrap64_id, Int.tdiv_eq_ediv_of_nonneg, Int.tmod_eq_emod_of_nonneg])
    | ((first | refine fnQ_pure1 ?_ ?_ | refine fnQ_pure0 ?_ ?_); (next => repeat' first | exact rvs_n | refine rvs_t ?_ | (simp [go_sem]; done)); simp only [go_sem]; (first | exact VLe.refl _ | refine VLe_int ?_ | refine VLe_bool ?_ | refine VLe_str ?_ | skip))
    | (with_reducible refine And.intro ?_ ?_)
    | with_reducible intro _
  all_goals first
    | omega
    | (rename_i hx; revert hx; simp; done)
    | (simp; done)
    | skip
end LN
end

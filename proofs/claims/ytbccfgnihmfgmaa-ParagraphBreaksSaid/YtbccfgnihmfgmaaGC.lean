import Derived.Test.YtbccfgnihmfgmaaGB
set_option linter.all false
set_option linter.unusedSimpArgs false
set_option linter.unusedVariables false
set_option linter.unusedSectionVars false
section
/-! the text C7 -/
open Go Go.Proofs AF P48
set_option maxRecDepth 100000
theorem arcsTo_none {l : List It} {width : Int} {frm to : Nat} (h : frm ≤ to) (h0 : arc l width frm to = none) : arcsTo l width frm (to + 1) = arcsTo l width frm to := by rw [arcsTo_succ l width h, h0, List.append_nil]
theorem arcsTo_some {l : List It} {width : Int} {frm to : Nat} {c : Int} (h : frm ≤ to) (h0 : arc l width frm to = some c) : arcsTo l width frm (to + 1) = arcsTo l width frm to ++ [(to, c)] := by rw [arcsTo_succ l width h, h0]
theorem cells_get (p : List Int) {i : Nat} (hi : i < p.length) : (cellsI p)[i]? = some (.int .i64 (p.getD i 0)) := by simp [cellsI, List.getD_eq_getElem?_getD, hi]
theorem gsn0 {p : List Int} {i j : Nat} {v : Int} (h : i ≠ j) : (p.set i v).getD j 0 = p.getD j 0 := by simp [List.getD_eq_getElem?_getD, List.getElem?_set_ne h]
theorem gss0 {p : List Int} {i : Nat} {v : Int} (h : i < p.length) : (p.set i v).getD i 0 = v := by simp [List.getD_eq_getElem?_getD, h]
set_option maxHeartbeats 8000000 in
theorem t55 (l : List It) (width : Int) (h : List AObj) (hv : Valid l) (hc : check l = 0) (w0 : 0 ≤ width) (w1 : width ≤ 1073741824) : ACalls Try.prog 55 [items l, .int .i64 width] h (ints (pots l width)) h := by
  have hl := hv.len
  have hN : ∀ k, (potsGo l width k).length = l.length + 1 := fun k => by
    induction k with
    | zero => simp [potsGo]
    | succ k ih => simp [potsGo, ih]
  have e0 : madeA [.int .i64 0] (l.length + 1) = cellsI (potsGo l width 0) := madeA_int _
  have hx0 : ((l.length : Int) + 1).toNat = l.length + 1 := by omega
  refine acalls_of fn55 (by simp) ?_
  simp only [List.length_cons, List.length_nil, Nat.reduceAdd, Nat.reduceSub, List.replicate, List.cons_append, List.nil_append, List.append_nil]
  simp (disch := omega) only [c55, items, e0, hx0, go_sem, wrap64_id, Int.tdiv_eq_ediv_of_nonneg, Int.tmod_eq_emod_of_nonneg]
  repeat' first
    | ((first | refine fnQ_pure1 ?_ ?_ | refine fnQ_pure0 ?_ ?_); (next => repeat' first | exact rvs_n | refine rvs_t ?_ | (simp [go_sem]; done)); simp only [go_sem]; (first | exact VLe.refl _ | refine VLe_int ?_ | refine VLe_bool ?_ | refine VLe_str ?_ | skip))
    | (with_reducible refine And.intro ?_ ?_)
    | with_reducible intro _
  all_goals first
    | omega
    | (simp; done)
    | skip
  refine loop_of (T := fun k : Nat => spar 86 [(0, items l), (1, .int .i64 width), (5, .osl (h.length + 1) 1 1 0 (l.length + 1)), (6, .int .i64 ((l.length : Int) - k))]) (H := fun k => h ++ [.emp 1, .mem 1 3 (cellsI (potsGo l width k))])
    (inv := fun k => k ≤ l.length + 1) (m := fun k => l.length + 1 - k) 0 (by omega) (Wk.temps ?_) ?_
  · (simp only [items, ints, spar, List.foldl, List.replicate, go_sem, VLes_nil, VLes_cons, VLe_undef_iff, VLe_self]; try (repeat' first | (with_reducible refine And.intro ?_ ?_) | (refine VLe_int ?_; omega) | (refine VLe_bool ?_; rfl) | exact VLe.refl _))
  · intro k k1 K hK
    by_cases hk : k ≤ l.length
    · obtain ⟨frm, hfm⟩ : ∃ f, f = l.length - k := ⟨_, rfl⟩
      have hfI : (l.length : Int) - k = (frm : Int) := by omega
      rw [hfI]
      obtain ⟨p, hp⟩ : ∃ p, p = potsGo l width k := ⟨_, rfl⟩
      have hpl : p.length = l.length + 1 := by rw [hp]; exact hN k
      have hpb := potsGo_bound hv.ok width k
      have hpb' : ∀ j, -1 ≤ p.getD j 0 ∧ p.getD j 0 ≤ 20000 * 301 := fun j => by rw [hp]; have := hpb j; omega
      have hps : potsGo l width (k + 1) = p.set frm (least l.length p (arcsTo l width frm (l.length + 1))) := by rw [arcsTo_all, potsGo, ← hp, ← hfm]
      rw [← hp]
      have eL := cellsI_len p
      have eS : ∀ m : Int, List.take frm (cellsI p) ++ [.int .i64 m] ++ List.drop (frm + 1) (cellsI p) = cellsI (p.set frm m) := fun m => cells_set p frm m (by omega)
      simp (disch := omega) only [spar, List.foldl, List.replicate, items, eL, eS, hpl, go_sem, wrap64_id, Int.tdiv_eq_ediv_of_nonneg, Int.tmod_eq_emod_of_nonneg]
      repeat' first
        | ((first | refine fnQ_pure1 ?_ ?_ | refine fnQ_pure0 ?_ ?_); (next => repeat' first | exact rvs_n | refine rvs_t ?_ | (simp [go_sem]; done)); simp only [go_sem]; (first | exact VLe.refl _ | refine VLe_int ?_ | refine VLe_bool ?_ | refine VLe_str ?_ | skip))
        | (with_reducible refine And.intro ?_ ?_)
        | with_reducible intro _
      all_goals first
        | omega
        | skip
      refine loop_of (T := fun to : Nat => spar 86 [(0, items l), (1, .int .i64 width), (5, .osl (h.length + 1) 1 1 0 (l.length + 1)), (6, .int .i64 frm), (7, .int .i64 to)]) (H := fun to => h ++ [.emp 1, .mem 1 3 (cellsI (p.set frm (least l.length p (arcsTo l width frm to))))])
        (inv := fun to => frm ≤ to ∧ to ≤ l.length + 1) (m := fun to => l.length + 1 - to) frm ⟨by omega, by omega⟩ ?_ ?_
      · rw [arcsTo_self]
        refine Wk.temps ?_
        (simp only [items, ints, spar, List.foldl, List.replicate, go_sem, VLes_nil, VLes_cons, VLe_undef_iff, VLe_self]; try (repeat' first | (with_reducible refine And.intro ?_ ?_) | (refine VLe_int ?_; omega) | (refine VLe_bool ?_; rfl) | exact VLe.refl _))
      · rintro to ⟨j1, j2⟩ K2 hK2
        by_cases ht : to ≤ l.length
        · obtain ⟨m, hm⟩ : ∃ m, m = least l.length p (arcsTo l width frm to) := ⟨_, rfl⟩
          have hmb := least_bnd hv hpb' (width := width) frm to
          rw [← hm] at hmb ⊢
          obtain ⟨q, hq⟩ : ∃ q, q = p.set frm m := ⟨_, rfl⟩
          have hql : q.length = l.length + 1 := by rw [hq, List.length_set, hpl]
          have q1 : (cellsI q)[frm]? = some (.int .i64 m) := by rw [cells_get q (by omega), hq, gss0 (by omega)]
          have q2 : to < l.length → (cellsI q)[to + 1]? = some (.int .i64 (p.getD (to + 1) 0)) := fun hlt => by rw [cells_get q (by omega), hq, gsn0 (by omega)]
          have eL2 : (cellsI q).length = l.length + 1 := by rw [cellsI_len, hql]
          have eS2 : ∀ x : Int, List.take frm (cellsI q) ++ [.int .i64 x] ++ List.drop (frm + 1) (cellsI q) = cellsI (p.set frm x) := fun x => by
            exact (cells_set q frm x (by omega)).trans (by rw [hq, List.set_set])
          have hx1 : ((to : Int) + 1).toNat = to + 1 := by omega
          have hab : arc l width frm to = if ends l to && free l frm to then cost l width frm to else none := rfl
          rw [← hq]
          have hskip : arc l width frm to = none → K2 = K2 → least l.length p (arcsTo l width frm (to + 1)) = m := fun h0 _ => by rw [arcsTo_none j1 h0, hm]
          have hc54 := fun h => t54 l width frm to h hv w0 w1 (by omega) ht
          cases he : ends l to with
          | false =>
            have h0 : arc l width frm to = none := by rw [hab, he]; rfl
            simp (disch := omega) only [spar, List.foldl, List.replicate, items, go_sem, wrap64_id, Int.tdiv_eq_ediv_of_nonneg, Int.tmod_eq_emod_of_nonneg]
            repeat' first
              | (refine callG_false ((.bool false)) ?_; simp (disch := omega) only [items, he, go_sem, wrap64_id, Int.tdiv_eq_ediv_of_nonneg, Int.tmod_eq_emod_of_nonneg])
              | ((first | refine callA_pure (t56 l to _ ht (by omega)) ?_ ?_ | refine callA_pure (t57 l frm to _ (by omega) (by omega)) ?_ ?_); (next => repeat' first | exact flags_n | refine flags_c (by first | rfl | assumption) ?_); simp (disch := omega) only [items, he, go_sem, wrap64_id, Int.tdiv_eq_ediv_of_nonneg, Int.tmod_eq_emod_of_nonneg])
              | ((first | refine callG_pure (fun e => ⟨?_, t56 l to _ ht (by omega)⟩) ?_ | refine callG_pure (fun e => ⟨?_, t57 l frm to _ (by omega) (by omega)⟩) ?_); (next => repeat' first | exact flags_n | refine flags_c (by first | rfl | assumption) ?_); simp (disch := omega) only [items, he, go_sem, wrap64_id, Int.tdiv_eq_ediv_of_nonneg, Int.tmod_eq_emod_of_nonneg])
              | ((first | refine fnQ_pure1 ?_ ?_ | refine fnQ_pure0 ?_ ?_); (next => repeat' first | exact rvs_n | refine rvs_t ?_ | (simp [go_sem]; done)); simp only [go_sem]; (first | exact VLe.refl _ | refine VLe_int ?_ | refine VLe_bool ?_ | refine VLe_str ?_ | skip))
              | (with_reducible refine And.intro ?_ ?_)
              | with_reducible intro _
            all_goals first
              | omega
              | skip
            refine hK2 _ _ (to + 1) ⟨by omega, by omega⟩ (by omega) ?_
            rw [hskip h0 rfl, ← hq]
            refine Wk.temps ?_
            (simp only [items, ints, spar, List.foldl, List.replicate, go_sem, VLes_nil, VLes_cons, VLe_undef_iff, VLe_self]; try (repeat' first | (with_reducible refine And.intro ?_ ?_) | (refine VLe_int ?_; omega) | (refine VLe_bool ?_; rfl) | exact VLe.refl _))
          | true =>
            cases hf : free l frm to with
            | false =>
              have h0 : arc l width frm to = none := by rw [hab, he, hf]; rfl
              simp (disch := omega) only [spar, List.foldl, List.replicate, items, go_sem, wrap64_id, Int.tdiv_eq_ediv_of_nonneg, Int.tmod_eq_emod_of_nonneg]
              repeat' first
                | ((first | refine callA_pure (t56 l to _ ht (by omega)) ?_ ?_ | refine callA_pure (t57 l frm to _ (by omega) (by omega)) ?_ ?_); (next => repeat' first | exact flags_n | refine flags_c (by first | rfl | assumption) ?_); simp (disch := omega) only [items, he, hf, go_sem, wrap64_id, Int.tdiv_eq_ediv_of_nonneg, Int.tmod_eq_emod_of_nonneg])
                | ((first | refine callG_pure (fun e => ⟨?_, t56 l to _ ht (by omega)⟩) ?_ | refine callG_pure (fun e => ⟨?_, t57 l frm to _ (by omega) (by omega)⟩) ?_); (next => repeat' first | exact flags_n | refine flags_c (by first | rfl | assumption) ?_); simp (disch := omega) only [items, he, hf, go_sem, wrap64_id, Int.tdiv_eq_ediv_of_nonneg, Int.tmod_eq_emod_of_nonneg])
                | ((first | refine fnQ_pure1 ?_ ?_ | refine fnQ_pure0 ?_ ?_); (next => repeat' first | exact rvs_n | refine rvs_t ?_ | (simp [go_sem]; done)); simp only [go_sem]; (first | exact VLe.refl _ | refine VLe_int ?_ | refine VLe_bool ?_ | refine VLe_str ?_ | skip))
                | (with_reducible refine And.intro ?_ ?_)
                | with_reducible intro _
              all_goals first
                | omega
                | skip
              refine hK2 _ _ (to + 1) ⟨by omega, by omega⟩ (by omega) ?_
              rw [hskip h0 rfl, ← hq]
              refine Wk.temps ?_
              (simp only [items, ints, spar, List.foldl, List.replicate, go_sem, VLes_nil, VLes_cons, VLe_undef_iff, VLe_self]; try (repeat' first | (with_reducible refine And.intro ?_ ?_) | (refine VLe_int ?_; omega) | (refine VLe_bool ?_; rfl) | exact VLe.refl _))
            | true =>
              cases hco : cost l width frm to with
              | none =>
                have h0 : arc l width frm to = none := by rw [hab, he, hf, hco]; rfl
                rw [hco] at hc54
                simp only [Option.isSome_none, Option.getD_none] at hc54
                simp (disch := omega) only [spar, List.foldl, List.replicate, items, go_sem, wrap64_id, Int.tdiv_eq_ediv_of_nonneg, Int.tmod_eq_emod_of_nonneg]
                repeat' first
                  | ((first | refine callA_pure (t56 l to _ ht (by omega)) ?_ ?_ | refine callA_pure (t57 l frm to _ (by omega) (by omega)) ?_ ?_ | refine callA_pure (hc54 _) ?_ ?_); (next => repeat' first | exact flags_n | refine flags_c (by first | rfl | assumption) ?_); simp (disch := omega) only [items, he, hf, go_sem, wrap64_id, Int.tdiv_eq_ediv_of_nonneg, Int.tmod_eq_emod_of_nonneg])
                  | ((first | refine callG_pure (fun e => ⟨?_, t56 l to _ ht (by omega)⟩) ?_ | refine callG_pure (fun e => ⟨?_, t57 l frm to _ (by omega) (by omega)⟩) ?_ | refine callG_pure (fun e => ⟨?_, hc54 _⟩) ?_); (next => repeat' first | exact flags_n | refine flags_c (by first | rfl | assumption) ?_); simp (disch := omega) only [items, he, hf, go_sem, wrap64_id, Int.tdiv_eq_ediv_of_nonneg, Int.tmod_eq_emod_of_nonneg])
                  | ((first | refine fnQ_pure1 ?_ ?_ | refine fnQ_pure0 ?_ ?_); (next => repeat' first | exact rvs_n | refine rvs_t ?_ | (simp [go_sem]; done)); simp only [go_sem]; (first | exact VLe.refl _ | refine VLe_int ?_ | refine VLe_bool ?_ | refine VLe_str ?_ | skip))
                  | (with_reducible refine And.intro ?_ ?_)
                  | with_reducible intro _
                all_goals first
                  | omega
                  | skip
                refine hK2 _ _ (to + 1) ⟨by omega, by omega⟩ (by omega) ?_
                rw [hskip h0 rfl, ← hq]
                refine Wk.temps ?_
                (simp only [items, ints, spar, List.foldl, List.replicate, go_sem, VLes_nil, VLes_cons, VLe_undef_iff, VLe_self]; try (repeat' first | (with_reducible refine And.intro ?_ ?_) | (refine VLe_int ?_; omega) | (refine VLe_bool ?_; rfl) | exact VLe.refl _))
              | some c =>
                have h0 : arc l width frm to = some c := by rw [hab, he, hf, hco]; rfl
                have hcb := arc_bound hv.ok h0
                rw [hco] at hc54
                simp only [Option.isSome_some, Option.getD_some] at hc54
                have hls := least_snoc l.length p (arcsTo l width frm to) (to, c)
                rw [← arcsTo_some j1 h0, ← hm] at hls
                simp only [behind] at hls
                by_cases hlt : to < l.length
                · have q3 := q2 hlt
                  obtain ⟨r, hr⟩ : ∃ r, r = p.getD (to + 1) 0 := ⟨_, rfl⟩
                  have hrb := hpb' (to + 1)
                  rw [if_neg (show ¬ to = l.length by omega)] at hls
                  rw [← hr] at q3 hls hrb
                  by_cases hr0 : r < 0
                  · rw [if_neg (by omega)] at hls
                    simp (disch := omega) only [spar, List.foldl, List.replicate, items, hx1, q3, eL2, hlt, go_sem, wrap64_id, Int.tdiv_eq_ediv_of_nonneg, Int.tmod_eq_emod_of_nonneg]
                    repeat' first
                      | ((first | refine callA_pure (t56 l to _ ht (by omega)) ?_ ?_ | refine callA_pure (t57 l frm to _ (by omega) (by omega)) ?_ ?_ | refine callA_pure (hc54 _) ?_ ?_); (next => repeat' first | exact flags_n | refine flags_c (by first | rfl | assumption) ?_); simp (disch := omega) only [items, he, hf, hx1, q3, eL2, hlt, go_sem, wrap64_id, Int.tdiv_eq_ediv_of_nonneg, Int.tmod_eq_emod_of_nonneg])
                      | ((first | refine callG_pure (fun e => ⟨?_, t56 l to _ ht (by omega)⟩) ?_ | refine callG_pure (fun e => ⟨?_, t57 l frm to _ (by omega) (by omega)⟩) ?_ | refine callG_pure (fun e => ⟨?_, hc54 _⟩) ?_); (next => repeat' first | exact flags_n | refine flags_c (by first | rfl | assumption) ?_); simp (disch := omega) only [items, he, hf, hx1, q3, eL2, hlt, go_sem, wrap64_id, Int.tdiv_eq_ediv_of_nonneg, Int.tmod_eq_emod_of_nonneg])
                      | ((first | refine fnQ_pure1 ?_ ?_ | refine fnQ_pure0 ?_ ?_); (next => repeat' first | exact rvs_n | refine rvs_t ?_ | (simp [go_sem]; done)); simp only [go_sem]; (first | exact VLe.refl _ | refine VLe_int ?_ | refine VLe_bool ?_ | refine VLe_str ?_ | skip))
                      | (with_reducible refine And.intro ?_ ?_)
                      | with_reducible intro _
                    all_goals first
                      | omega
                      | skip
                    refine hK2 _ _ (to + 1) ⟨by omega, by omega⟩ (by omega) ?_
                    rw [hls, ← hq]
                    refine Wk.temps ?_
                    (simp only [items, ints, spar, List.foldl, List.replicate, go_sem, VLes_nil, VLes_cons, VLe_undef_iff, VLe_self]; try (repeat' first | (with_reducible refine And.intro ?_ ?_) | (refine VLe_int ?_; omega) | (refine VLe_bool ?_; rfl) | exact VLe.refl _))
                  · by_cases hup : m < 0 ∨ c + r < m
                    · rw [if_pos ⟨by omega, hup⟩] at hls
                      simp (disch := omega) only [spar, List.foldl, List.replicate, items, hx1, q1, q3, eL2, eS2, hlt, hr0, go_sem, wrap64_id, Int.tdiv_eq_ediv_of_nonneg, Int.tmod_eq_emod_of_nonneg]
                      repeat' first
                        | ((first | refine callA_pure (t56 l to _ ht (by omega)) ?_ ?_ | refine callA_pure (t57 l frm to _ (by omega) (by omega)) ?_ ?_ | refine callA_pure (hc54 _) ?_ ?_); (next => repeat' first | exact flags_n | refine flags_c (by first | rfl | assumption) ?_); simp (disch := omega) only [items, he, hf, hx1, q1, q3, eL2, eS2, hlt, hr0, go_sem, wrap64_id, Int.tdiv_eq_ediv_of_nonneg, Int.tmod_eq_emod_of_nonneg])
                        | ((first | refine callG_pure (fun e => ⟨?_, t56 l to _ ht (by omega)⟩) ?_ | refine callG_pure (fun e => ⟨?_, t57 l frm to _ (by omega) (by omega)⟩) ?_ | refine callG_pure (fun e => ⟨?_, hc54 _⟩) ?_); (next => repeat' first | exact flags_n | refine flags_c (by first | rfl | assumption) ?_); simp (disch := omega) only [items, he, hf, hx1, q1, q3, eL2, eS2, hlt, hr0, go_sem, wrap64_id, Int.tdiv_eq_ediv_of_nonneg, Int.tmod_eq_emod_of_nonneg])
                        | ((first | refine fnQ_pure1 ?_ ?_ | refine fnQ_pure0 ?_ ?_); (next => repeat' first | exact rvs_n | refine rvs_t ?_ | (simp [go_sem]; done)); simp only [go_sem]; (first | exact VLe.refl _ | refine VLe_int ?_ | refine VLe_bool ?_ | refine VLe_str ?_ | skip))
                        | (with_reducible refine And.intro ?_ ?_)
                        | with_reducible intro _
                      all_goals first
                        | omega
                        | skip
                      refine hK2 _ _ (to + 1) ⟨by omega, by omega⟩ (by omega) ?_
                      rw [hls]
                      refine Wk.temps ?_
                      (simp only [items, ints, spar, List.foldl, List.replicate, go_sem, VLes_nil, VLes_cons, VLe_undef_iff, VLe_self]; try (repeat' first | (with_reducible refine And.intro ?_ ?_) | (refine VLe_int ?_; omega) | (refine VLe_bool ?_; rfl) | exact VLe.refl _))
                    · rw [if_neg (fun h => hup h.2)] at hls
                      simp (disch := omega) only [spar, List.foldl, List.replicate, items, hx1, q1, q3, eL2, eS2, hlt, hr0, go_sem, wrap64_id, Int.tdiv_eq_ediv_of_nonneg, Int.tmod_eq_emod_of_nonneg]
                      repeat' first
                        | ((first | refine callA_pure (t56 l to _ ht (by omega)) ?_ ?_ | refine callA_pure (t57 l frm to _ (by omega) (by omega)) ?_ ?_ | refine callA_pure (hc54 _) ?_ ?_); (next => repeat' first | exact flags_n | refine flags_c (by first | rfl | assumption) ?_); simp (disch := omega) only [items, he, hf, hx1, q1, q3, eL2, eS2, hlt, hr0, go_sem, wrap64_id, Int.tdiv_eq_ediv_of_nonneg, Int.tmod_eq_emod_of_nonneg])
                        | ((first | refine callG_pure (fun e => ⟨?_, t56 l to _ ht (by omega)⟩) ?_ | refine callG_pure (fun e => ⟨?_, t57 l frm to _ (by omega) (by omega)⟩) ?_ | refine callG_pure (fun e => ⟨?_, hc54 _⟩) ?_); (next => repeat' first | exact flags_n | refine flags_c (by first | rfl | assumption) ?_); simp (disch := omega) only [items, he, hf, hx1, q1, q3, eL2, eS2, hlt, hr0, go_sem, wrap64_id, Int.tdiv_eq_ediv_of_nonneg, Int.tmod_eq_emod_of_nonneg])
                        | ((first | refine fnQ_pure1 ?_ ?_ | refine fnQ_pure0 ?_ ?_); (next => repeat' first | exact rvs_n | refine rvs_t ?_ | (simp [go_sem]; done)); simp only [go_sem]; (first | exact VLe.refl _ | refine VLe_int ?_ | refine VLe_bool ?_ | refine VLe_str ?_ | skip))
                        | (with_reducible refine And.intro ?_ ?_)
                        | with_reducible intro _
                      all_goals first
                        | omega
                        | skip
                      refine hK2 _ _ (to + 1) ⟨by omega, by omega⟩ (by omega) ?_
                      rw [hls, ← hq]
                      refine Wk.temps ?_
                      (simp only [items, ints, spar, List.foldl, List.replicate, go_sem, VLes_nil, VLes_cons, VLe_undef_iff, VLe_self]; try (repeat' first | (with_reducible refine And.intro ?_ ?_) | (refine VLe_int ?_; omega) | (refine VLe_bool ?_; rfl) | exact VLe.refl _))
                · rw [if_pos (show to = l.length by omega), Int.add_zero] at hls
                  by_cases hup : m < 0 ∨ c < m
                  · rw [if_pos ⟨by omega, hup⟩] at hls
                    simp (disch := omega) only [spar, List.foldl, List.replicate, items, hx1, q1, eL2, eS2, go_sem, wrap64_id, Int.tdiv_eq_ediv_of_nonneg, Int.tmod_eq_emod_of_nonneg]
                    repeat' first
                      | ((first | refine callA_pure (t56 l to _ ht (by omega)) ?_ ?_ | refine callA_pure (t57 l frm to _ (by omega) (by omega)) ?_ ?_ | refine callA_pure (hc54 _) ?_ ?_); (next => repeat' first | exact flags_n | refine flags_c (by first | rfl | assumption) ?_); simp (disch := omega) only [items, he, hf, hx1, q1, eL2, eS2, go_sem, wrap64_id, Int.tdiv_eq_ediv_of_nonneg, Int.tmod_eq_emod_of_nonneg])
                      | ((first | refine callG_pure (fun e => ⟨?_, t56 l to _ ht (by omega)⟩) ?_ | refine callG_pure (fun e => ⟨?_, t57 l frm to _ (by omega) (by omega)⟩) ?_ | refine callG_pure (fun e => ⟨?_, hc54 _⟩) ?_); (next => repeat' first | exact flags_n | refine flags_c (by first | rfl | assumption) ?_); simp (disch := omega) only [items, he, hf, hx1, q1, eL2, eS2, go_sem, wrap64_id, Int.tdiv_eq_ediv_of_nonneg, Int.tmod_eq_emod_of_nonneg])
                      | ((first | refine fnQ_pure1 ?_ ?_ | refine fnQ_pure0 ?_ ?_); (next => repeat' first | exact rvs_n | refine rvs_t ?_ | (simp [go_sem]; done)); simp only [go_sem]; (first | exact VLe.refl _ | refine VLe_int ?_ | refine VLe_bool ?_ | refine VLe_str ?_ | skip))
                      | (with_reducible refine And.intro ?_ ?_)
                      | with_reducible intro _
                    all_goals first
                      | omega
                      | skip
                    refine hK2 _ _ (to + 1) ⟨by omega, by omega⟩ (by omega) ?_
                    rw [hls]
                    refine Wk.temps ?_
                    (simp only [items, ints, spar, List.foldl, List.replicate, go_sem, VLes_nil, VLes_cons, VLe_undef_iff, VLe_self]; try (repeat' first | (with_reducible refine And.intro ?_ ?_) | (refine VLe_int ?_; omega) | (refine VLe_bool ?_; rfl) | exact VLe.refl _))
                  · rw [if_neg (fun h => hup h.2)] at hls
                    simp (disch := omega) only [spar, List.foldl, List.replicate, items, hx1, q1, eL2, eS2, go_sem, wrap64_id, Int.tdiv_eq_ediv_of_nonneg, Int.tmod_eq_emod_of_nonneg]
                    repeat' first
                      | ((first | refine callA_pure (t56 l to _ ht (by omega)) ?_ ?_ | refine callA_pure (t57 l frm to _ (by omega) (by omega)) ?_ ?_ | refine callA_pure (hc54 _) ?_ ?_); (next => repeat' first | exact flags_n | refine flags_c (by first | rfl | assumption) ?_); simp (disch := omega) only [items, he, hf, hx1, q1, eL2, eS2, go_sem, wrap64_id, Int.tdiv_eq_ediv_of_nonneg, Int.tmod_eq_emod_of_nonneg])
                      | ((first | refine callG_pure (fun e => ⟨?_, t56 l to _ ht (by omega)⟩) ?_ | refine callG_pure (fun e => ⟨?_, t57 l frm to _ (by omega) (by omega)⟩) ?_ | refine callG_pure (fun e => ⟨?_, hc54 _⟩) ?_); (next => repeat' first | exact flags_n | refine flags_c (by first | rfl | assumption) ?_); simp (disch := omega) only [items, he, hf, hx1, q1, eL2, eS2, go_sem, wrap64_id, Int.tdiv_eq_ediv_of_nonneg, Int.tmod_eq_emod_of_nonneg])
                      | ((first | refine fnQ_pure1 ?_ ?_ | refine fnQ_pure0 ?_ ?_); (next => repeat' first | exact rvs_n | refine rvs_t ?_ | (simp [go_sem]; done)); simp only [go_sem]; (first | exact VLe.refl _ | refine VLe_int ?_ | refine VLe_bool ?_ | refine VLe_str ?_ | skip))
                      | (with_reducible refine And.intro ?_ ?_)
                      | with_reducible intro _
                    all_goals first
                      | omega
                      | skip
                    refine hK2 _ _ (to + 1) ⟨by omega, by omega⟩ (by omega) ?_
                    rw [hls, ← hq]
                    refine Wk.temps ?_
                    (simp only [items, ints, spar, List.foldl, List.replicate, go_sem, VLes_nil, VLes_cons, VLe_undef_iff, VLe_self]; try (repeat' first | (with_reducible refine And.intro ?_ ?_) | (refine VLe_int ?_; omega) | (refine VLe_bool ?_; rfl) | exact VLe.refl _))
        · have e : to = l.length + 1 := by omega
          subst e
          rw [← hps]
          simp (disch := omega) only [spar, List.foldl, List.replicate, items, go_sem, wrap64_id, Int.tdiv_eq_ediv_of_nonneg, Int.tmod_eq_emod_of_nonneg]
          repeat' first
            | ((first | refine fnQ_pure1 ?_ ?_ | refine fnQ_pure0 ?_ ?_); (next => repeat' first | exact rvs_n | refine rvs_t ?_ | (simp [go_sem]; done)); simp only [go_sem]; (first | exact VLe.refl _ | refine VLe_int ?_ | refine VLe_bool ?_ | refine VLe_str ?_ | skip))
            | (with_reducible refine And.intro ?_ ?_)
            | with_reducible intro _
          all_goals first
            | omega
            | skip
          refine hK _ _ (k + 1) (by omega) (by omega) ?_
          rw [show (l.length : Int) - (k + 1 : Nat) = (frm : Int) - 1 by omega]
          refine Wk.temps ?_
          (simp only [items, ints, spar, List.foldl, List.replicate, go_sem, VLes_nil, VLes_cons, VLe_undef_iff, VLe_self]; try (repeat' first | (with_reducible refine And.intro ?_ ?_) | (refine VLe_int ?_; omega) | (refine VLe_bool ?_; rfl) | exact VLe.refl _))
    · have e : k = l.length + 1 := by omega
      subst e
      have hlen := hN (l.length + 1)
      have eL := cellsI_len (potsGo l width (l.length + 1))
      simp (disch := omega) only [spar, List.foldl, List.replicate, go_sem, wrap64_id, Int.tdiv_eq_ediv_of_nonneg, Int.tmod_eq_emod_of_nonneg]
      repeat' first
        | ((first | refine fnQ_pure1 ?_ ?_ | refine fnQ_pure0 ?_ ?_); (next => repeat' first | exact rvs_n | refine rvs_t ?_ | (simp [go_sem]; done)); simp only [go_sem]; (first | exact VLe.refl _ | refine VLe_int ?_ | refine VLe_bool ?_ | refine VLe_str ?_ | skip))
        | (with_reducible refine And.intro ?_ ?_)
        | with_reducible intro _
      all_goals first
        | omega
        | skip
      rw [if_pos (by omega)]
      exact ints_of hlen
end

import Derived.Test.YtbccfgnihmfgmaaGC
set_option linter.all false
set_option linter.unusedSimpArgs false
set_option linter.unusedVariables false
set_option linter.unusedSectionVars false
section
/-! the text C8 -/
open Go Go.Proofs AF P48
set_option maxRecDepth 100000
def nxt : Option Nat → Int
  | none => -1
  | some t => t
theorem t29 (l : List It) (width : Int) (h : List AObj) (hl : l.length ≤ 300) : ACalls Try.prog 29 [items l, .int .i64 width] h (if checkW l width = 0 then .tup [ints (pots l width), .int .i64 0] else .tup [ints [], .int .i64 (checkW l width)]) h := by
  by_cases hw : checkW l width = 0
  · obtain ⟨hc, w0, w1⟩ := checkW_range l width hw
    have hv := Valid.of hl hc
    rw [if_pos hw]
    refine acalls_of fn29 (by simp) ?_
    simp only [List.length_cons, List.length_nil, Nat.reduceAdd, Nat.reduceSub, List.replicate, List.cons_append, List.nil_append, List.append_nil]
    simp (disch := omega) only [c29, go_sem, wrap64_id, Int.tdiv_eq_ediv_of_nonneg, Int.tmod_eq_emod_of_nonneg]
    repeat' first
      | ((first | refine callA_pure (t50 l width _ (by omega)) ?_ ?_ | refine callA_pure (t55 l width _ hv hc w0 w1) ?_ ?_); (next => repeat' first | exact flags_n | refine flags_c (by first | rfl | assumption) ?_); simp (disch := omega) only [hw, go_sem, wrap64_id, Int.tdiv_eq_ediv_of_nonneg, Int.tmod_eq_emod_of_nonneg])
      | ((first | refine callG_pure (fun e => ⟨?_, t50 l width _ (by omega)⟩) ?_ | refine callG_pure (fun e => ⟨?_, t55 l width _ hv hc w0 w1⟩) ?_); (next => repeat' first | exact flags_n | refine flags_c (by first | rfl | assumption) ?_); simp (disch := omega) only [hw, go_sem, wrap64_id, Int.tdiv_eq_ediv_of_nonneg, Int.tmod_eq_emod_of_nonneg])
      | ((first | refine fnQ_pure1 ?_ ?_ | refine fnQ_pure0 ?_ ?_); (next => repeat' first | exact rvs_n | refine rvs_t ?_ | (simp [go_sem]; done)); simp only [go_sem]; (first | exact VLe.refl _ | refine VLe_int ?_ | refine VLe_bool ?_ | refine VLe_str ?_ | skip))
      | (with_reducible refine And.intro ?_ ?_)
      | with_reducible intro _
    all_goals first
      | omega
      | (rename_i hx; revert hx; simp; done)
      | trace_state
  · rw [if_neg hw]
    refine acalls_of fn29 (by simp) ?_
    simp only [List.length_cons, List.length_nil, Nat.reduceAdd, Nat.reduceSub, List.replicate, List.cons_append, List.nil_append, List.append_nil]
    simp (disch := omega) only [c29, go_sem, wrap64_id, Int.tdiv_eq_ediv_of_nonneg, Int.tmod_eq_emod_of_nonneg]
    repeat' first
      | ((first | refine callA_pure (t50 l width _ (by omega)) ?_ ?_); (next => repeat' first | exact flags_n | refine flags_c (by first | rfl | assumption) ?_); simp (disch := omega) only [hw, go_sem, wrap64_id, Int.tdiv_eq_ediv_of_nonneg, Int.tmod_eq_emod_of_nonneg])
      | ((first | refine callG_pure (fun e => ⟨?_, t50 l width _ (by omega)⟩) ?_); (next => repeat' first | exact flags_n | refine flags_c (by first | rfl | assumption) ?_); simp (disch := omega) only [hw, go_sem, wrap64_id, Int.tdiv_eq_ediv_of_nonneg, Int.tmod_eq_emod_of_nonneg])
      | ((first | refine fnQ_pure1 ?_ ?_ | refine fnQ_pure0 ?_ ?_); (next => repeat' first | exact rvs_n | refine rvs_t ?_ | (simp [go_sem]; done)); simp only [go_sem]; (first | exact VLe.refl _ | refine VLe_int ?_ | refine VLe_bool ?_ | refine VLe_str ?_ | skip))
      | (with_reducible refine And.intro ?_ ?_)
      | with_reducible intro _
    all_goals first
      | omega
      | (rename_i hx; revert hx; simp; done)
      | skip
    exact VLe_tup (VLes2 ints_nl (VLes2 (VLe.refl _) VLes.nil))
set_option maxHeartbeats 16000000 in
theorem t26 (l : List It) (width : Int) (h : List AObj) (hl : l.length ≤ 300) : ACalls Try.prog 26 [items l, .int .i64 width] h (breakAV l width) h := by
  by_cases hw : checkW l width = 0
  · obtain ⟨hc, w0, w1⟩ := checkW_range l width hw
    have hv := Valid.of hl hc
    have plen := pots_len l width
    by_cases hneg : (pots l width).getD 0 0 < 0
    · unfold breakAV
      rw [if_pos hw, if_pos hneg]
      refine acalls_of fn26 (by simp) ?_
      simp only [List.length_cons, List.length_nil, Nat.reduceAdd, Nat.reduceSub, List.replicate, List.cons_append, List.nil_append, List.append_nil]
      simp (disch := omega) only [c26, go_sem, wrap64_id, Int.tdiv_eq_ediv_of_nonneg, Int.tmod_eq_emod_of_nonneg]
      repeat' first
        | ((first | refine callA_pure (t50 l width _ (by omega)) ?_ ?_ | refine callA_pure (t55 l width _ hv hc w0 w1) ?_ ?_); (next => repeat' first | exact flags_n | refine flags_c (by first | rfl | assumption) ?_); simp (disch := omega) only [ints, hw, hneg, go_sem, wrap64_id, Int.tdiv_eq_ediv_of_nonneg, Int.tmod_eq_emod_of_nonneg])
        | ((first | refine callG_pure (fun e => ⟨?_, t50 l width _ (by omega)⟩) ?_ | refine callG_pure (fun e => ⟨?_, t55 l width _ hv hc w0 w1⟩) ?_); (next => repeat' first | exact flags_n | refine flags_c (by first | rfl | assumption) ?_); simp (disch := omega) only [ints, hw, hneg, go_sem, wrap64_id, Int.tdiv_eq_ediv_of_nonneg, Int.tmod_eq_emod_of_nonneg])
        | ((first | refine fnQ_pure1 ?_ ?_ | refine fnQ_pure0 ?_ ?_); (next => repeat' first | exact rvs_n | refine rvs_t ?_ | (simp [go_sem]; done)); simp only [go_sem]; (first | exact VLe.refl _ | refine VLe_int ?_ | refine VLe_bool ?_ | refine VLe_str ?_ | skip))
        | (with_reducible refine And.intro ?_ ?_)
        | with_reducible intro _
      all_goals first
        | omega
        | (rename_i hx; revert hx; simp; done)
        | skip
      exact VLe_tup (VLes2 ints_nl (VLes2 (VLe.refl _) (VLes2 (VLe.refl _) VLes.nil)))
    · unfold breakAV
      rw [if_pos hw, if_neg hneg]
      obtain ⟨p, hp⟩ : ∃ p, p = pots l width := ⟨_, rfl⟩
      have hc55 : ∀ h : List AObj, ACalls Try.prog 55 [items l, .int .i64 width] h (ints p) h := fun h => by rw [hp]; exact t55 l width h hv hc w0 w1
      have hbp : ∀ j, -1 ≤ p.getD j 0 ∧ p.getD j 0 ≤ 20000 * (l.length + 1 : Nat) := by rw [hp]; exact potsGo_bound hv.ok width (l.length + 1)
      have hps : ∀ frm, frm ≤ l.length → 0 ≤ p.getD frm 0 → ∃ to c, pick l p frm (arcs l width frm) = some to ∧ frm ≤ to ∧ to ≤ l.length ∧ arc l width frm to = some c ∧ c + behind l.length p to = p.getD frm 0 ∧ 0 ≤ behind l.length p to := fun frm h1 h2 => by
        rw [hp] at h2 ⊢
        have := pick_some hc (width := width) h1 h2
        grind
      have hbk : brk l width = brkGo l width p (l.length + 1 - 0) 0 := by rw [hp]; rfl
      rw [← hp] at plen hneg ⊢
      obtain ⟨B, hB⟩ : ∃ B, B = brk l width := ⟨_, rfl⟩
      rw [← hB] at hbk ⊢
      have hp0 : ¬ p.getD 0 0 < 0 := hneg
      refine acalls_of fn26 (by simp) ?_
      simp only [List.length_cons, List.length_nil, Nat.reduceAdd, Nat.reduceSub, List.replicate, List.cons_append, List.nil_append, List.append_nil]
      simp (disch := omega) only [c26, madeA, go_sem, wrap64_id, Int.tdiv_eq_ediv_of_nonneg, Int.tmod_eq_emod_of_nonneg]
      repeat' first
        | ((first | refine callA_pure (t50 l width _ (by omega)) ?_ ?_ | refine callA_pure (hc55 _) ?_ ?_); (next => repeat' first | exact flags_n | refine flags_c (by first | rfl | assumption) ?_); simp (disch := omega) only [ints, hw, hp0, madeA, go_sem, wrap64_id, Int.tdiv_eq_ediv_of_nonneg, Int.tmod_eq_emod_of_nonneg])
        | ((first | refine callG_pure (fun e => ⟨?_, t50 l width _ (by omega)⟩) ?_ | refine callG_pure (fun e => ⟨?_, hc55 _⟩) ?_); (next => repeat' first | exact flags_n | refine flags_c (by first | rfl | assumption) ?_); simp (disch := omega) only [ints, hw, hp0, madeA, go_sem, wrap64_id, Int.tdiv_eq_ediv_of_nonneg, Int.tmod_eq_emod_of_nonneg])
        | ((first | refine fnQ_pure1 ?_ ?_ | refine fnQ_pure0 ?_ ?_); (next => repeat' first | exact rvs_n | refine rvs_t ?_ | (simp [go_sem]; done)); simp only [go_sem]; (first | exact VLe.refl _ | refine VLe_int ?_ | refine VLe_bool ?_ | refine VLe_str ?_ | skip))
        | (with_reducible refine And.intro ?_ ?_)
        | with_reducible intro _
      all_goals first
        | omega
        | (rename_i hx; revert hx; simp; done)
        | (simp; done)
        | skip
      refine loop_of (T := fun i : List Nat × Nat × AObj × Nat => spar 117 [(0, items l), (1, .int .i64 width), (8, ints p), (9, .osl (h.length + 1) i.2.2.2 1 0 i.1.length), (10, .int .i64 i.2.1)])
        (H := fun i => h ++ [.emp 1, .mem i.2.2.2 3 (cellsI (i.1.map Int.ofNat)), i.2.2.1, .emp 0])
        (inv := fun i => site [i.2.2.1] 0 = true ∧ i.1.length ≤ i.2.1 ∧ ((i.2.1 ≤ l.length ∧ 0 ≤ p.getD i.2.1 0 ∧ i.1 ++ brkGo l width p (l.length + 1 - i.2.1) i.2.1 = B ∧ (i.1 = [] ∨ (i.1 ≠ [] ∧ i.1[i.1.length - 1]? = some (i.2.1 - 1) ∧ 0 < i.2.1))) ∨
          (i.2.1 = l.length + 1 ∧ i.1 = B ∧ i.1 ≠ [] ∧ i.1[i.1.length - 1]? = some l.length))) (m := fun i => l.length + 1 - i.2.1) ([], 0, .emp 0, 1)
        ⟨rfl, by simp, .inl ⟨by simp only; omega, by simp only; omega, hbk.symm, .inl rfl⟩⟩ (Wk.temps ?_) ?_
      · (simp only [items, ints, spar, List.foldl, List.replicate, go_sem, VLes_nil, VLes_cons, VLe_undef_iff, VLe_self]; try (repeat' first | (with_reducible refine And.intro ?_ ?_) | (refine VLe_int ?_; omega) | (refine VLe_bool ?_; rfl) | exact VLe.refl _))
      · rintro ⟨bs, frm, O2, v⟩ ⟨i0, ilen, i1⟩ K hK
        simp only at i0 ilen i1 hK
        have i0' : ∀ m, site (O2 :: m) 0 = true := fun _ => i0
        have hbl : (cellsI (bs.map Int.ofNat)).length = bs.length := by rw [cellsI_len, List.length_map]
        rcases i1 with ⟨j1, j2, j3, rfl | ⟨hne, hlast, hpos⟩⟩ | ⟨rfl, rfl, hne, hlast⟩
        · have hpk := hps frm j1 j2
          have hz0 : ((0 : Nat) : Int) = 0 := rfl
          simp (disch := omega) only [spar, List.foldl, List.replicate, items, ints, List.length_nil, List.map_nil, cellsI, hz0, List.getElem?_nil, Option.getD_none, go_sem, wrap64_id, Int.tdiv_eq_ediv_of_nonneg, Int.tmod_eq_emod_of_nonneg]
          repeat' first
            | ((first | refine fnQ_pure1 ?_ ?_ | refine fnQ_pure0 ?_ ?_); (next => repeat' first | exact rvs_n | refine rvs_t ?_ | (simp [go_sem]; done)); simp only [go_sem]; (first | exact VLe.refl _ | refine VLe_int ?_ | refine VLe_bool ?_ | refine VLe_str ?_ | skip))
            | (with_reducible refine And.intro ?_ ?_)
            | with_reducible intro _
          all_goals first
            | omega
            | (rename_i hx; revert hx; simp; done)
            | (simp; done)
            | skip
          refine loop_of (T := fun i : Nat × Option Nat => spar 117 [(0, items l), (1, .int .i64 width), (8, ints p), (9, .osl (h.length + 1) v 1 0 0), (10, .int .i64 frm), (11, .int .i64 (nxt i.2)), (12, .int .i64 i.1)]) (H := fun _ => h ++ [.emp 1, .mem v 3 [], O2, .emp 0])
            (inv := fun i => frm ≤ i.1 ∧ i.1 ≤ l.length + 1 ∧ ((i.2 = none ∧ (arcsTo l width frm i.1).find? (hit l.length p frm) = none) ∨ (∃ t, i.2 = some t ∧ t ≤ l.length ∧ frm ≤ t ∧ pick l p frm (arcs l width frm) = some t ∧ 0 ≤ behind l.length p t))) (m := fun i => l.length + 1 - i.1) (frm, none)
            ⟨by simp, by simp only; omega, .inl ⟨rfl, by rw [arcsTo_self]; rfl⟩⟩ (Wk.temps ?_) ?_
          · (simp only [nxt, items, ints, spar, List.foldl, List.replicate, go_sem, VLes_nil, VLes_cons, VLe_undef_iff, VLe_self]; try (repeat' first | (with_reducible refine And.intro ?_ ?_) | (refine VLe_int ?_; omega) | (refine VLe_bool ?_; rfl) | exact VLe.refl _))
          · rintro ⟨to, nx⟩ ⟨j1', j2', j3'⟩ K2 hK2
            simp only at j1' j2' j3' hK2
            rcases j3' with ⟨rfl, hno⟩ | ⟨t, rfl, tl, tf, tp, tb⟩
            · by_cases ht : to ≤ l.length
              · have hx1 : ((to : Int) + 1).toNat = to + 1 := by omega
                have hab : arc l width frm to = if ends l to && free l frm to then cost l width frm to else none := rfl
                have hskip : arc l width frm to = none → (arcsTo l width frm (to + 1)).find? (hit l.length p frm) = none := fun h0 => by rw [arcsTo_none j1' h0]; exact hno
                have hc54 := fun h => t54 l width frm to h hv w0 w1 (by omega) ht
                have hn1 : nxt none = -1 := rfl
                cases he : ends l to with
                | false =>
                  have h0 : arc l width frm to = none := by rw [hab, he]; rfl
                  simp (disch := omega) only [spar, List.foldl, List.replicate, items, hn1, go_sem, wrap64_id, Int.tdiv_eq_ediv_of_nonneg, Int.tmod_eq_emod_of_nonneg]
                  repeat' first
                    | (refine callG_false ((.bool false)) ?_; simp (disch := omega) only [items, he, go_sem, wrap64_id, Int.tdiv_eq_ediv_of_nonneg, Int.tmod_eq_emod_of_nonneg])
                    | ((first | refine callA_pure (t56 l to _ ht (by omega)) ?_ ?_ | refine callA_pure (t57 l frm to _ (by omega) (by omega)) ?_ ?_); (next => repeat' first | exact flags_n | refine flags_c (by first | rfl | assumption) ?_); simp (disch := omega) only [items, he, go_sem, wrap64_id, Int.tdiv_eq_ediv_of_nonneg, Int.tmod_eq_emod_of_nonneg])
                    | ((first | refine callG_pure (fun e => ⟨?_, t56 l to _ ht (by omega)⟩) ?_ | refine callG_pure (fun e => ⟨?_, t57 l frm to _ (by omega) (by omega)⟩) ?_); (next => repeat' first | exact flags_n | refine flags_c (by first | rfl | assumption) ?_); simp (disch := omega) only [items, he, go_sem, wrap64_id, Int.tdiv_eq_ediv_of_nonneg, Int.tmod_eq_emod_of_nonneg])
                    | ((first | refine fnQ_pure1 ?_ ?_ | refine fnQ_pure0 ?_ ?_); (next => repeat' first | exact rvs_n | refine rvs_t ?_ | (simp [go_sem]; done)); simp only [go_sem]; (first | exact VLe.refl _ | refine VLe_int ?_ | refine VLe_bool ?_ | refine VLe_str ?_ | skip))
                    | (with_reducible refine And.intro ?_ ?_)
                    | with_reducible intro _
                  all_goals first
                    | omega
                    | (rename_i hx; revert hx; simp; done)
                    | skip
                  refine hK2 _ _ (to + 1, none) ⟨by simp only; omega, by simp only; omega, .inl ⟨rfl, hskip h0⟩⟩ (by simp only; omega) (Wk.temps ?_)
                  (simp only [nxt, items, ints, spar, List.foldl, List.replicate, go_sem, VLes_nil, VLes_cons, VLe_undef_iff, VLe_self]; try (repeat' first | (with_reducible refine And.intro ?_ ?_) | (refine VLe_int ?_; omega) | (refine VLe_bool ?_; rfl) | exact VLe.refl _))
                | true =>
                  cases hf : free l frm to with
                  | false =>
                    have h0 : arc l width frm to = none := by rw [hab, he, hf]; rfl
                    simp (disch := omega) only [spar, List.foldl, List.replicate, items, hn1, go_sem, wrap64_id, Int.tdiv_eq_ediv_of_nonneg, Int.tmod_eq_emod_of_nonneg]
                    repeat' first
                      | ((first | refine callA_pure (t56 l to _ ht (by omega)) ?_ ?_ | refine callA_pure (t57 l frm to _ (by omega) (by omega)) ?_ ?_); (next => repeat' first | exact flags_n | refine flags_c (by first | rfl | assumption) ?_); simp (disch := omega) only [items, he, hf, go_sem, wrap64_id, Int.tdiv_eq_ediv_of_nonneg, Int.tmod_eq_emod_of_nonneg])
                      | ((first | refine callG_pure (fun e => ⟨?_, t56 l to _ ht (by omega)⟩) ?_ | refine callG_pure (fun e => ⟨?_, t57 l frm to _ (by omega) (by omega)⟩) ?_); (next => repeat' first | exact flags_n | refine flags_c (by first | rfl | assumption) ?_); simp (disch := omega) only [items, he, hf, go_sem, wrap64_id, Int.tdiv_eq_ediv_of_nonneg, Int.tmod_eq_emod_of_nonneg])
                      | ((first | refine fnQ_pure1 ?_ ?_ | refine fnQ_pure0 ?_ ?_); (next => repeat' first | exact rvs_n | refine rvs_t ?_ | (simp [go_sem]; done)); simp only [go_sem]; (first | exact VLe.refl _ | refine VLe_int ?_ | refine VLe_bool ?_ | refine VLe_str ?_ | skip))
                      | (with_reducible refine And.intro ?_ ?_)
                      | with_reducible intro _
                    all_goals first
                      | omega
                      | (rename_i hx; revert hx; simp; done)
                      | skip
                    refine hK2 _ _ (to + 1, none) ⟨by simp only; omega, by simp only; omega, .inl ⟨rfl, hskip h0⟩⟩ (by simp only; omega) (Wk.temps ?_)
                    (simp only [nxt, items, ints, spar, List.foldl, List.replicate, go_sem, VLes_nil, VLes_cons, VLe_undef_iff, VLe_self]; try (repeat' first | (with_reducible refine And.intro ?_ ?_) | (refine VLe_int ?_; omega) | (refine VLe_bool ?_; rfl) | exact VLe.refl _))
                  | true =>
                    cases hco : cost l width frm to with
                    | none =>
                      have h0 : arc l width frm to = none := by rw [hab, he, hf, hco]; rfl
                      rw [hco] at hc54
                      simp only [Option.isSome_none, Option.getD_none] at hc54
                      simp (disch := omega) only [spar, List.foldl, List.replicate, items, ints, hn1, go_sem, wrap64_id, Int.tdiv_eq_ediv_of_nonneg, Int.tmod_eq_emod_of_nonneg]
                      repeat' first
                        | ((first | refine callA_pure (t56 l to _ ht (by omega)) ?_ ?_ | refine callA_pure (t57 l frm to _ (by omega) (by omega)) ?_ ?_ | refine callA_pure (hc54 _) ?_ ?_); (next => repeat' first | exact flags_n | refine flags_c (by first | rfl | assumption) ?_); simp (disch := omega) only [items, ints, he, hf, go_sem, wrap64_id, Int.tdiv_eq_ediv_of_nonneg, Int.tmod_eq_emod_of_nonneg])
                        | ((first | refine callG_pure (fun e => ⟨?_, t56 l to _ ht (by omega)⟩) ?_ | refine callG_pure (fun e => ⟨?_, t57 l frm to _ (by omega) (by omega)⟩) ?_ | refine callG_pure (fun e => ⟨?_, hc54 _⟩) ?_); (next => repeat' first | exact flags_n | refine flags_c (by first | rfl | assumption) ?_); simp (disch := omega) only [items, ints, he, hf, go_sem, wrap64_id, Int.tdiv_eq_ediv_of_nonneg, Int.tmod_eq_emod_of_nonneg])
                        | ((first | refine fnQ_pure1 ?_ ?_ | refine fnQ_pure0 ?_ ?_); (next => repeat' first | exact rvs_n | refine rvs_t ?_ | (simp [go_sem]; done)); simp only [go_sem]; (first | exact VLe.refl _ | refine VLe_int ?_ | refine VLe_bool ?_ | refine VLe_str ?_ | skip))
                        | (with_reducible refine And.intro ?_ ?_)
                        | with_reducible intro _
                      all_goals first
                        | omega
                        | (rename_i hx; revert hx; simp; done)
                        | skip
                      refine hK2 _ _ (to + 1, none) ⟨by simp only; omega, by simp only; omega, .inl ⟨rfl, hskip h0⟩⟩ (by simp only; omega) (Wk.temps ?_)
                      (simp only [nxt, items, ints, spar, List.foldl, List.replicate, go_sem, VLes_nil, VLes_cons, VLe_undef_iff, VLe_self]; try (repeat' first | (with_reducible refine And.intro ?_ ?_) | (refine VLe_int ?_; omega) | (refine VLe_bool ?_; rfl) | exact VLe.refl _))
                    | some c =>
                      have h0 : arc l width frm to = some c := by rw [hab, he, hf, hco]; rfl
                      have hcb := arc_bound hv.ok h0
                      rw [hco] at hc54
                      simp only [Option.isSome_some, Option.getD_some] at hc54
                      have hfi : (arcsTo l width frm (to + 1)).find? (hit l.length p frm) = if hit l.length p frm (to, c) = true then some (to, c) else none := by rw [arcsTo_some j1' h0, List.find?_append, hno]; simp [List.find?_cons]; split <;> simp_all
                      have hpk2 : hit l.length p frm (to, c) = true → pick l p frm (arcs l width frm) = some to := fun hh => pick_of l width p j1' ht h0 hno hh
                      obtain ⟨be, hbe⟩ : ∃ be, be = behind l.length p to := ⟨_, rfl⟩
                      have hhit : hit l.length p frm (to, c) = decide (0 ≤ be ∧ c + be = p.getD frm 0) := by unfold hit; rw [hbe]
                      have hbb : to < l.length → be = p.getD (to + 1) 0 := fun hlt => by rw [hbe]; unfold behind; rw [if_neg (by omega)]
                      have hb0 : ¬ to < l.length → be = 0 := fun hlt => by rw [hbe]; unfold behind; rw [if_pos (by omega)]
                      have hbp1 := hbp (to + 1)
                      by_cases hh : hit l.length p frm (to, c) = true
                      · have hpk3 := hpk2 hh
                        rw [hhit, decide_eq_true_eq] at hh
                        by_cases hlt : to < l.length
                        · have hb1 := hbb hlt
                          rw [hb1] at hh
                          have hge : ¬ p.getD (to + 1) 0 < 0 := by omega
                          have hcc : c + p.getD (to + 1) 0 = p.getD frm 0 := hh.2
                          simp (disch := omega) only [spar, List.foldl, List.replicate, items, ints, hn1, hlt, hx1, go_sem, wrap64_id, Int.tdiv_eq_ediv_of_nonneg, Int.tmod_eq_emod_of_nonneg]
                          repeat' first
                            | ((first | refine callA_pure (t56 l to _ ht (by omega)) ?_ ?_ | refine callA_pure (t57 l frm to _ (by omega) (by omega)) ?_ ?_ | refine callA_pure (hc54 _) ?_ ?_); (next => repeat' first | exact flags_n | refine flags_c (by first | rfl | assumption) ?_); simp (disch := omega) only [items, ints, he, hf, hlt, hx1, hge, hcc, go_sem, wrap64_id, Int.tdiv_eq_ediv_of_nonneg, Int.tmod_eq_emod_of_nonneg])
                            | ((first | refine callG_pure (fun e => ⟨?_, t56 l to _ ht (by omega)⟩) ?_ | refine callG_pure (fun e => ⟨?_, t57 l frm to _ (by omega) (by omega)⟩) ?_ | refine callG_pure (fun e => ⟨?_, hc54 _⟩) ?_); (next => repeat' first | exact flags_n | refine flags_c (by first | rfl | assumption) ?_); simp (disch := omega) only [items, ints, he, hf, hlt, hx1, hge, hcc, go_sem, wrap64_id, Int.tdiv_eq_ediv_of_nonneg, Int.tmod_eq_emod_of_nonneg])
                            | ((first | refine fnQ_pure1 ?_ ?_ | refine fnQ_pure0 ?_ ?_); (next => repeat' first | exact rvs_n | refine rvs_t ?_ | (simp [go_sem]; done)); simp only [go_sem]; (first | exact VLe.refl _ | refine VLe_int ?_ | refine VLe_bool ?_ | refine VLe_str ?_ | skip))
                            | (with_reducible refine And.intro ?_ ?_)
                            | with_reducible intro _
                          all_goals first
                            | omega
                            | (rename_i hx; revert hx; simp; done)
                            | skip
                          refine hK2 _ _ (to + 1, some to) ⟨by simp only; omega, by simp only; omega, .inr ⟨to, rfl, ht, j1', hpk3, by rw [← hbe]; omega⟩⟩ (by simp only; omega) (Wk.temps ?_)
                          (simp only [nxt, items, ints, spar, List.foldl, List.replicate, go_sem, VLes_nil, VLes_cons, VLe_undef_iff, VLe_self]; try (repeat' first | (with_reducible refine And.intro ?_ ?_) | (refine VLe_int ?_; omega) | (refine VLe_bool ?_; rfl) | exact VLe.refl _))
                        · have hb1 := hb0 hlt
                          have hcc : c = p.getD frm 0 := by omega
                          simp (disch := omega) only [spar, List.foldl, List.replicate, items, ints, hn1, hlt, hx1, go_sem, wrap64_id, Int.tdiv_eq_ediv_of_nonneg, Int.tmod_eq_emod_of_nonneg]
                          repeat' first
                            | ((first | refine callA_pure (t56 l to _ ht (by omega)) ?_ ?_ | refine callA_pure (t57 l frm to _ (by omega) (by omega)) ?_ ?_ | refine callA_pure (hc54 _) ?_ ?_); (next => repeat' first | exact flags_n | refine flags_c (by first | rfl | assumption) ?_); simp (disch := omega) only [items, ints, he, hf, hlt, hx1, hcc, go_sem, wrap64_id, Int.tdiv_eq_ediv_of_nonneg, Int.tmod_eq_emod_of_nonneg])
                            | ((first | refine callG_pure (fun e => ⟨?_, t56 l to _ ht (by omega)⟩) ?_ | refine callG_pure (fun e => ⟨?_, t57 l frm to _ (by omega) (by omega)⟩) ?_ | refine callG_pure (fun e => ⟨?_, hc54 _⟩) ?_); (next => repeat' first | exact flags_n | refine flags_c (by first | rfl | assumption) ?_); simp (disch := omega) only [items, ints, he, hf, hlt, hx1, hcc, go_sem, wrap64_id, Int.tdiv_eq_ediv_of_nonneg, Int.tmod_eq_emod_of_nonneg])
                            | ((first | refine fnQ_pure1 ?_ ?_ | refine fnQ_pure0 ?_ ?_); (next => repeat' first | exact rvs_n | refine rvs_t ?_ | (simp [go_sem]; done)); simp only [go_sem]; (first | exact VLe.refl _ | refine VLe_int ?_ | refine VLe_bool ?_ | refine VLe_str ?_ | skip))
                            | (with_reducible refine And.intro ?_ ?_)
                            | with_reducible intro _
                          all_goals first
                            | omega
                            | (rename_i hx; revert hx; simp; done)
                            | skip
                          refine hK2 _ _ (to + 1, some to) ⟨by simp only; omega, by simp only; omega, .inr ⟨to, rfl, ht, j1', hpk3, by rw [← hbe]; omega⟩⟩ (by simp only; omega) (Wk.temps ?_)
                          (simp only [nxt, items, ints, spar, List.foldl, List.replicate, go_sem, VLes_nil, VLes_cons, VLe_undef_iff, VLe_self]; try (repeat' first | (with_reducible refine And.intro ?_ ?_) | (refine VLe_int ?_; omega) | (refine VLe_bool ?_; rfl) | exact VLe.refl _))
                      · rw [if_neg hh] at hfi
                        rw [hhit, decide_eq_true_eq] at hh
                        by_cases hlt : to < l.length
                        · have hb1 := hbb hlt
                          rw [hb1] at hh
                          by_cases hge : p.getD (to + 1) 0 < 0
                          · simp (disch := omega) only [spar, List.foldl, List.replicate, items, ints, hn1, hlt, hx1, go_sem, wrap64_id, Int.tdiv_eq_ediv_of_nonneg, Int.tmod_eq_emod_of_nonneg]
                            repeat' first
                              | ((first | refine callA_pure (t56 l to _ ht (by omega)) ?_ ?_ | refine callA_pure (t57 l frm to _ (by omega) (by omega)) ?_ ?_ | refine callA_pure (hc54 _) ?_ ?_); (next => repeat' first | exact flags_n | refine flags_c (by first | rfl | assumption) ?_); simp (disch := omega) only [items, ints, he, hf, hlt, hx1, hge, go_sem, wrap64_id, Int.tdiv_eq_ediv_of_nonneg, Int.tmod_eq_emod_of_nonneg])
                              | ((first | refine callG_pure (fun e => ⟨?_, t56 l to _ ht (by omega)⟩) ?_ | refine callG_pure (fun e => ⟨?_, t57 l frm to _ (by omega) (by omega)⟩) ?_ | refine callG_pure (fun e => ⟨?_, hc54 _⟩) ?_); (next => repeat' first | exact flags_n | refine flags_c (by first | rfl | assumption) ?_); simp (disch := omega) only [items, ints, he, hf, hlt, hx1, hge, go_sem, wrap64_id, Int.tdiv_eq_ediv_of_nonneg, Int.tmod_eq_emod_of_nonneg])
                              | ((first | refine fnQ_pure1 ?_ ?_ | refine fnQ_pure0 ?_ ?_); (next => repeat' first | exact rvs_n | refine rvs_t ?_ | (simp [go_sem]; done)); simp only [go_sem]; (first | exact VLe.refl _ | refine VLe_int ?_ | refine VLe_bool ?_ | refine VLe_str ?_ | skip))
                              | (with_reducible refine And.intro ?_ ?_)
                              | with_reducible intro _
                            all_goals first
                              | omega
                              | (rename_i hx; revert hx; simp; done)
                              | skip
                            refine hK2 _ _ (to + 1, none) ⟨by simp only; omega, by simp only; omega, .inl ⟨rfl, hfi⟩⟩ (by simp only; omega) (Wk.temps ?_)
                            (simp only [nxt, items, ints, spar, List.foldl, List.replicate, go_sem, VLes_nil, VLes_cons, VLe_undef_iff, VLe_self]; try (repeat' first | (with_reducible refine And.intro ?_ ?_) | (refine VLe_int ?_; omega) | (refine VLe_bool ?_; rfl) | exact VLe.refl _))
                          · have hcc : ¬ c + p.getD (to + 1) 0 = p.getD frm 0 := by omega
                            simp (disch := omega) only [spar, List.foldl, List.replicate, items, ints, hn1, hlt, hx1, go_sem, wrap64_id, Int.tdiv_eq_ediv_of_nonneg, Int.tmod_eq_emod_of_nonneg]
                            repeat' first
                              | ((first | refine callA_pure (t56 l to _ ht (by omega)) ?_ ?_ | refine callA_pure (t57 l frm to _ (by omega) (by omega)) ?_ ?_ | refine callA_pure (hc54 _) ?_ ?_); (next => repeat' first | exact flags_n | refine flags_c (by first | rfl | assumption) ?_); simp (disch := omega) only [items, ints, he, hf, hlt, hx1, hge, hcc, go_sem, wrap64_id, Int.tdiv_eq_ediv_of_nonneg, Int.tmod_eq_emod_of_nonneg])
                              | ((first | refine callG_pure (fun e => ⟨?_, t56 l to _ ht (by omega)⟩) ?_ | refine callG_pure (fun e => ⟨?_, t57 l frm to _ (by omega) (by omega)⟩) ?_ | refine callG_pure (fun e => ⟨?_, hc54 _⟩) ?_); (next => repeat' first | exact flags_n | refine flags_c (by first | rfl | assumption) ?_); simp (disch := omega) only [items, ints, he, hf, hlt, hx1, hge, hcc, go_sem, wrap64_id, Int.tdiv_eq_ediv_of_nonneg, Int.tmod_eq_emod_of_nonneg])
                              | ((first | refine fnQ_pure1 ?_ ?_ | refine fnQ_pure0 ?_ ?_); (next => repeat' first | exact rvs_n | refine rvs_t ?_ | (simp [go_sem]; done)); simp only [go_sem]; (first | exact VLe.refl _ | refine VLe_int ?_ | refine VLe_bool ?_ | refine VLe_str ?_ | skip))
                              | (with_reducible refine And.intro ?_ ?_)
                              | with_reducible intro _
                            all_goals first
                              | omega
                              | (rename_i hx; revert hx; simp; done)
                              | skip
                            refine hK2 _ _ (to + 1, none) ⟨by simp only; omega, by simp only; omega, .inl ⟨rfl, hfi⟩⟩ (by simp only; omega) (Wk.temps ?_)
                            (simp only [nxt, items, ints, spar, List.foldl, List.replicate, go_sem, VLes_nil, VLes_cons, VLe_undef_iff, VLe_self]; try (repeat' first | (with_reducible refine And.intro ?_ ?_) | (refine VLe_int ?_; omega) | (refine VLe_bool ?_; rfl) | exact VLe.refl _))
                        · have hb1 := hb0 hlt
                          have hcc : ¬ c = p.getD frm 0 := by omega
                          simp (disch := omega) only [spar, List.foldl, List.replicate, items, ints, hn1, hlt, hx1, go_sem, wrap64_id, Int.tdiv_eq_ediv_of_nonneg, Int.tmod_eq_emod_of_nonneg]
                          repeat' first
                            | ((first | refine callA_pure (t56 l to _ ht (by omega)) ?_ ?_ | refine callA_pure (t57 l frm to _ (by omega) (by omega)) ?_ ?_ | refine callA_pure (hc54 _) ?_ ?_); (next => repeat' first | exact flags_n | refine flags_c (by first | rfl | assumption) ?_); simp (disch := omega) only [items, ints, he, hf, hlt, hx1, hcc, go_sem, wrap64_id, Int.tdiv_eq_ediv_of_nonneg, Int.tmod_eq_emod_of_nonneg])
                            | ((first | refine callG_pure (fun e => ⟨?_, t56 l to _ ht (by omega)⟩) ?_ | refine callG_pure (fun e => ⟨?_, t57 l frm to _ (by omega) (by omega)⟩) ?_ | refine callG_pure (fun e => ⟨?_, hc54 _⟩) ?_); (next => repeat' first | exact flags_n | refine flags_c (by first | rfl | assumption) ?_); simp (disch := omega) only [items, ints, he, hf, hlt, hx1, hcc, go_sem, wrap64_id, Int.tdiv_eq_ediv_of_nonneg, Int.tmod_eq_emod_of_nonneg])
                            | ((first | refine fnQ_pure1 ?_ ?_ | refine fnQ_pure0 ?_ ?_); (next => repeat' first | exact rvs_n | refine rvs_t ?_ | (simp [go_sem]; done)); simp only [go_sem]; (first | exact VLe.refl _ | refine VLe_int ?_ | refine VLe_bool ?_ | refine VLe_str ?_ | skip))
                            | (with_reducible refine And.intro ?_ ?_)
                            | with_reducible intro _
                          all_goals first
                            | omega
                            | (rename_i hx; revert hx; simp; done)
                            | skip
                          refine hK2 _ _ (to + 1, none) ⟨by simp only; omega, by simp only; omega, .inl ⟨rfl, hfi⟩⟩ (by simp only; omega) (Wk.temps ?_)
                          (simp only [nxt, items, ints, spar, List.foldl, List.replicate, go_sem, VLes_nil, VLes_cons, VLe_undef_iff, VLe_self]; try (repeat' first | (with_reducible refine And.intro ?_ ?_) | (refine VLe_int ?_; omega) | (refine VLe_bool ?_; rfl) | exact VLe.refl _))
              · exfalso
                have e : to = l.length + 1 := by omega
                subst e
                obtain ⟨to, c, h5, _⟩ := hpk
                unfold pick at h5
                rw [arcsTo_all] at hno
                unfold hit at hno
                rw [hno] at h5
                cases h5
            · have hn1 : nxt (some t) = (t : Int) := rfl
              have hst := brk_step (width := width) (p := p) j1 tp
              have hcs : cellsI (([] : List Nat).map Int.ofNat) = [] := rfl
              simp (disch := omega) only [spar, List.foldl, List.replicate, items, ints, hn1, i0', madeA, go_sem, wrap64_id, Int.tdiv_eq_ediv_of_nonneg, Int.tmod_eq_emod_of_nonneg]
              repeat' first
                | ((first | refine fnQ_pure1 ?_ ?_ | refine fnQ_pure0 ?_ ?_); (next => repeat' first | exact rvs_n | refine rvs_t ?_ | (simp [go_sem]; done)); simp only [go_sem]; (first | exact VLe.refl _ | refine VLe_int ?_ | refine VLe_bool ?_ | refine VLe_str ?_ | skip))
                | (with_reducible refine And.intro ?_ ?_)
                | with_reducible intro _
              all_goals first
                | omega
                | (rename_i hx; revert hx; simp; done)
                | (simp; done)
                | skip
              all_goals
                rw [hst] at j3
                refine hK _ _ ([t], t + 1, .mem (verOf (some O2) + 1) 3 [.int .i64 t], v + 1) ⟨rfl, by simp, ?_⟩ (by simp only; omega) ?_
                · simp only
                  by_cases hlt : t < l.length
                  · left
                    rw [if_pos hlt] at j3
                    have hbe : behind l.length p t = p.getD (t + 1) 0 := by unfold behind; rw [if_neg (by omega)]
                    exact ⟨hlt, by omega, by simpa using j3, .inr ⟨by simp, by simp, by omega⟩⟩
                  · right
                    rw [if_neg hlt] at j3
                    exact ⟨by omega, by simpa using j3, by simp, by simp; omega⟩
                · simp only [cellsI, List.map_cons, List.map_nil]
                  refine Wk.temps ?_
                  (simp only [List.length_singleton, items, ints, spar, List.foldl, List.replicate, go_sem, VLes_nil, VLes_cons, VLe_undef_iff, VLe_self]; try (repeat' first | (with_reducible refine And.intro ?_ ?_) | (refine VLe_int ?_; omega) | (refine VLe_bool ?_; rfl) | exact VLe.refl _))
        · have hpk := hps frm j1 j2
          have hb0 : 0 < bs.length := List.length_pos_iff.2 hne
          have hbz : ((bs.length : Int) = 0) = False := eq_false (by omega)
          have eL : (cellsI (bs.map Int.ofNat))[bs.length - 1]? = some (.int .i64 ((frm - 1 : Nat) : Int)) := by simp [cellsI, hlast]
          have eT : ((bs.length : Int) - 1).toNat = bs.length - 1 := by omega
          have hfl : (((frm - 1 : Nat) : Int) < (l.length : Int)) = True := eq_true (by omega)
          simp (disch := omega) only [spar, List.foldl, List.replicate, items, ints, hbl, eL, eT, hbz, hfl, go_sem, wrap64_id, Int.tdiv_eq_ediv_of_nonneg, Int.tmod_eq_emod_of_nonneg]
          repeat' first
            | ((first | refine fnQ_pure1 ?_ ?_ | refine fnQ_pure0 ?_ ?_); (next => repeat' first | exact rvs_n | refine rvs_t ?_ | (simp [go_sem]; done)); simp only [go_sem]; (first | exact VLe.refl _ | refine VLe_int ?_ | refine VLe_bool ?_ | refine VLe_str ?_ | skip))
            | (with_reducible refine And.intro ?_ ?_)
            | with_reducible intro _
          all_goals first
            | omega
            | (rename_i hx; revert hx; simp; done)
            | (simp; done)
            | skip
          refine loop_of (T := fun i : Nat × Option Nat => spar 117 [(0, items l), (1, .int .i64 width), (8, ints p), (9, .osl (h.length + 1) v 1 0 bs.length), (10, .int .i64 frm), (11, .int .i64 (nxt i.2)), (12, .int .i64 i.1)]) (H := fun _ => h ++ [.emp 1, .mem v 3 (cellsI (bs.map Int.ofNat)), O2, .emp 0])
            (inv := fun i => frm ≤ i.1 ∧ i.1 ≤ l.length + 1 ∧ ((i.2 = none ∧ (arcsTo l width frm i.1).find? (hit l.length p frm) = none) ∨ (∃ t, i.2 = some t ∧ t ≤ l.length ∧ frm ≤ t ∧ pick l p frm (arcs l width frm) = some t ∧ 0 ≤ behind l.length p t))) (m := fun i => l.length + 1 - i.1) (frm, none)
            ⟨by simp, by simp only; omega, .inl ⟨rfl, by rw [arcsTo_self]; rfl⟩⟩ (Wk.temps ?_) ?_
          · (simp only [nxt, items, ints, spar, List.foldl, List.replicate, go_sem, VLes_nil, VLes_cons, VLe_undef_iff, VLe_self]; try (repeat' first | (with_reducible refine And.intro ?_ ?_) | (refine VLe_int ?_; omega) | (refine VLe_bool ?_; rfl) | exact VLe.refl _))
          · rintro ⟨to, nx⟩ ⟨j1', j2', j3'⟩ K2 hK2
            simp only at j1' j2' j3' hK2
            rcases j3' with ⟨rfl, hno⟩ | ⟨t, rfl, tl, tf, tp, tb⟩
            · by_cases ht : to ≤ l.length
              · have hx1 : ((to : Int) + 1).toNat = to + 1 := by omega
                have hab : arc l width frm to = if ends l to && free l frm to then cost l width frm to else none := rfl
                have hskip : arc l width frm to = none → (arcsTo l width frm (to + 1)).find? (hit l.length p frm) = none := fun h0 => by rw [arcsTo_none j1' h0]; exact hno
                have hc54 := fun h => t54 l width frm to h hv w0 w1 (by omega) ht
                have hn1 : nxt none = -1 := rfl
                cases he : ends l to with
                | false =>
                  have h0 : arc l width frm to = none := by rw [hab, he]; rfl
                  simp (disch := omega) only [spar, List.foldl, List.replicate, items, hn1, go_sem, wrap64_id, Int.tdiv_eq_ediv_of_nonneg, Int.tmod_eq_emod_of_nonneg]
                  repeat' first
                    | (refine callG_false ((.bool false)) ?_; simp (disch := omega) only [items, he, go_sem, wrap64_id, Int.tdiv_eq_ediv_of_nonneg, Int.tmod_eq_emod_of_nonneg])
                    | ((first | refine callA_pure (t56 l to _ ht (by omega)) ?_ ?_ | refine callA_pure (t57 l frm to _ (by omega) (by omega)) ?_ ?_); (next => repeat' first | exact flags_n | refine flags_c (by first | rfl | assumption) ?_); simp (disch := omega) only [items, he, go_sem, wrap64_id, Int.tdiv_eq_ediv_of_nonneg, Int.tmod_eq_emod_of_nonneg])
                    | ((first | refine callG_pure (fun e => ⟨?_, t56 l to _ ht (by omega)⟩) ?_ | refine callG_pure (fun e => ⟨?_, t57 l frm to _ (by omega) (by omega)⟩) ?_); (next => repeat' first | exact flags_n | refine flags_c (by first | rfl | assumption) ?_); simp (disch := omega) only [items, he, go_sem, wrap64_id, Int.tdiv_eq_ediv_of_nonneg, Int.tmod_eq_emod_of_nonneg])
                    | ((first | refine fnQ_pure1 ?_ ?_ | refine fnQ_pure0 ?_ ?_); (next => repeat' first | exact rvs_n | refine rvs_t ?_ | (simp [go_sem]; done)); simp only [go_sem]; (first | exact VLe.refl _ | refine VLe_int ?_ | refine VLe_bool ?_ | refine VLe_str ?_ | skip))
                    | (with_reducible refine And.intro ?_ ?_)
                    | with_reducible intro _
                  all_goals first
                    | omega
                    | (rename_i hx; revert hx; simp; done)
                    | skip
                  refine hK2 _ _ (to + 1, none) ⟨by simp only; omega, by simp only; omega, .inl ⟨rfl, hskip h0⟩⟩ (by simp only; omega) (Wk.temps ?_)
                  (simp only [nxt, items, ints, spar, List.foldl, List.replicate, go_sem, VLes_nil, VLes_cons, VLe_undef_iff, VLe_self]; try (repeat' first | (with_reducible refine And.intro ?_ ?_) | (refine VLe_int ?_; omega) | (refine VLe_bool ?_; rfl) | exact VLe.refl _))
                | true =>
                  cases hf : free l frm to with
                  | false =>
                    have h0 : arc l width frm to = none := by rw [hab, he, hf]; rfl
                    simp (disch := omega) only [spar, List.foldl, List.replicate, items, hn1, go_sem, wrap64_id, Int.tdiv_eq_ediv_of_nonneg, Int.tmod_eq_emod_of_nonneg]
                    repeat' first
                      | ((first | refine callA_pure (t56 l to _ ht (by omega)) ?_ ?_ | refine callA_pure (t57 l frm to _ (by omega) (by omega)) ?_ ?_); (next => repeat' first | exact flags_n | refine flags_c (by first | rfl | assumption) ?_); simp (disch := omega) only [items, he, hf, go_sem, wrap64_id, Int.tdiv_eq_ediv_of_nonneg, Int.tmod_eq_emod_of_nonneg])
                      | ((first | refine callG_pure (fun e => ⟨?_, t56 l to _ ht (by omega)⟩) ?_ | refine callG_pure (fun e => ⟨?_, t57 l frm to _ (by omega) (by omega)⟩) ?_); (next => repeat' first | exact flags_n | refine flags_c (by first | rfl | assumption) ?_); simp (disch := omega) only [items, he, hf, go_sem, wrap64_id, Int.tdiv_eq_ediv_of_nonneg, Int.tmod_eq_emod_of_nonneg])
                      | ((first | refine fnQ_pure1 ?_ ?_ | refine fnQ_pure0 ?_ ?_); (next => repeat' first | exact rvs_n | refine rvs_t ?_ | (simp [go_sem]; done)); simp only [go_sem]; (first | exact VLe.refl _ | refine VLe_int ?_ | refine VLe_bool ?_ | refine VLe_str ?_ | skip))
                      | (with_reducible refine And.intro ?_ ?_)
                      | with_reducible intro _
                    all_goals first
                      | omega
                      | (rename_i hx; revert hx; simp; done)
                      | skip
                    refine hK2 _ _ (to + 1, none) ⟨by simp only; omega, by simp only; omega, .inl ⟨rfl, hskip h0⟩⟩ (by simp only; omega) (Wk.temps ?_)
                    (simp only [nxt, items, ints, spar, List.foldl, List.replicate, go_sem, VLes_nil, VLes_cons, VLe_undef_iff, VLe_self]; try (repeat' first | (with_reducible refine And.intro ?_ ?_) | (refine VLe_int ?_; omega) | (refine VLe_bool ?_; rfl) | exact VLe.refl _))
                  | true =>
                    cases hco : cost l width frm to with
                    | none =>
                      have h0 : arc l width frm to = none := by rw [hab, he, hf, hco]; rfl
                      rw [hco] at hc54
                      simp only [Option.isSome_none, Option.getD_none] at hc54
                      simp (disch := omega) only [spar, List.foldl, List.replicate, items, ints, hn1, go_sem, wrap64_id, Int.tdiv_eq_ediv_of_nonneg, Int.tmod_eq_emod_of_nonneg]
                      repeat' first
                        | ((first | refine callA_pure (t56 l to _ ht (by omega)) ?_ ?_ | refine callA_pure (t57 l frm to _ (by omega) (by omega)) ?_ ?_ | refine callA_pure (hc54 _) ?_ ?_); (next => repeat' first | exact flags_n | refine flags_c (by first | rfl | assumption) ?_); simp (disch := omega) only [items, ints, he, hf, go_sem, wrap64_id, Int.tdiv_eq_ediv_of_nonneg, Int.tmod_eq_emod_of_nonneg])
                        | ((first | refine callG_pure (fun e => ⟨?_, t56 l to _ ht (by omega)⟩) ?_ | refine callG_pure (fun e => ⟨?_, t57 l frm to _ (by omega) (by omega)⟩) ?_ | refine callG_pure (fun e => ⟨?_, hc54 _⟩) ?_); (next => repeat' first | exact flags_n | refine flags_c (by first | rfl | assumption) ?_); simp (disch := omega) only [items, ints, he, hf, go_sem, wrap64_id, Int.tdiv_eq_ediv_of_nonneg, Int.tmod_eq_emod_of_nonneg])
                        | ((first | refine fnQ_pure1 ?_ ?_ | refine fnQ_pure0 ?_ ?_); (next => repeat' first | exact rvs_n | refine rvs_t ?_ | (simp [go_sem]; done)); simp only [go_sem]; (first | exact VLe.refl _ | refine VLe_int ?_ | refine VLe_bool ?_ | refine VLe_str ?_ | skip))
                        | (with_reducible refine And.intro ?_ ?_)
                        | with_reducible intro _
                      all_goals first
                        | omega
                        | (rename_i hx; revert hx; simp; done)
                        | skip
                      refine hK2 _ _ (to + 1, none) ⟨by simp only; omega, by simp only; omega, .inl ⟨rfl, hskip h0⟩⟩ (by simp only; omega) (Wk.temps ?_)
                      (simp only [nxt, items, ints, spar, List.foldl, List.replicate, go_sem, VLes_nil, VLes_cons, VLe_undef_iff, VLe_self]; try (repeat' first | (with_reducible refine And.intro ?_ ?_) | (refine VLe_int ?_; omega) | (refine VLe_bool ?_; rfl) | exact VLe.refl _))
                    | some c =>
                      have h0 : arc l width frm to = some c := by rw [hab, he, hf, hco]; rfl
                      have hcb := arc_bound hv.ok h0
                      rw [hco] at hc54
                      simp only [Option.isSome_some, Option.getD_some] at hc54
                      have hfi : (arcsTo l width frm (to + 1)).find? (hit l.length p frm) = if hit l.length p frm (to, c) = true then some (to, c) else none := by rw [arcsTo_some j1' h0, List.find?_append, hno]; simp [List.find?_cons]; split <;> simp_all
                      have hpk2 : hit l.length p frm (to, c) = true → pick l p frm (arcs l width frm) = some to := fun hh => pick_of l width p j1' ht h0 hno hh
                      obtain ⟨be, hbe⟩ : ∃ be, be = behind l.length p to := ⟨_, rfl⟩
                      have hhit : hit l.length p frm (to, c) = decide (0 ≤ be ∧ c + be = p.getD frm 0) := by unfold hit; rw [hbe]
                      have hbb : to < l.length → be = p.getD (to + 1) 0 := fun hlt => by rw [hbe]; unfold behind; rw [if_neg (by omega)]
                      have hb0 : ¬ to < l.length → be = 0 := fun hlt => by rw [hbe]; unfold behind; rw [if_pos (by omega)]
                      have hbp1 := hbp (to + 1)
                      by_cases hh : hit l.length p frm (to, c) = true
                      · have hpk3 := hpk2 hh
                        rw [hhit, decide_eq_true_eq] at hh
                        by_cases hlt : to < l.length
                        · have hb1 := hbb hlt
                          rw [hb1] at hh
                          have hge : ¬ p.getD (to + 1) 0 < 0 := by omega
                          have hcc : c + p.getD (to + 1) 0 = p.getD frm 0 := hh.2
                          simp (disch := omega) only [spar, List.foldl, List.replicate, items, ints, hn1, hlt, hx1, go_sem, wrap64_id, Int.tdiv_eq_ediv_of_nonneg, Int.tmod_eq_emod_of_nonneg]
                          repeat' first
                            | ((first | refine callA_pure (t56 l to _ ht (by omega)) ?_ ?_ | refine callA_pure (t57 l frm to _ (by omega) (by omega)) ?_ ?_ | refine callA_pure (hc54 _) ?_ ?_); (next => repeat' first | exact flags_n | refine flags_c (by first | rfl | assumption) ?_); simp (disch := omega) only [items, ints, he, hf, hlt, hx1, hge, hcc, go_sem, wrap64_id, Int.tdiv_eq_ediv_of_nonneg, Int.tmod_eq_emod_of_nonneg])
                            | ((first | refine callG_pure (fun e => ⟨?_, t56 l to _ ht (by omega)⟩) ?_ | refine callG_pure (fun e => ⟨?_, t57 l frm to _ (by omega) (by omega)⟩) ?_ | refine callG_pure (fun e => ⟨?_, hc54 _⟩) ?_); (next => repeat' first | exact flags_n | refine flags_c (by first | rfl | assumption) ?_); simp (disch := omega) only [items, ints, he, hf, hlt, hx1, hge, hcc, go_sem, wrap64_id, Int.tdiv_eq_ediv_of_nonneg, Int.tmod_eq_emod_of_nonneg])
                            | ((first | refine fnQ_pure1 ?_ ?_ | refine fnQ_pure0 ?_ ?_); (next => repeat' first | exact rvs_n | refine rvs_t ?_ | (simp [go_sem]; done)); simp only [go_sem]; (first | exact VLe.refl _ | refine VLe_int ?_ | refine VLe_bool ?_ | refine VLe_str ?_ | skip))
                            | (with_reducible refine And.intro ?_ ?_)
                            | with_reducible intro _
                          all_goals first
                            | omega
                            | (rename_i hx; revert hx; simp; done)
                            | skip
                          refine hK2 _ _ (to + 1, some to) ⟨by simp only; omega, by simp only; omega, .inr ⟨to, rfl, ht, j1', hpk3, by rw [← hbe]; omega⟩⟩ (by simp only; omega) (Wk.temps ?_)
                          (simp only [nxt, items, ints, spar, List.foldl, List.replicate, go_sem, VLes_nil, VLes_cons, VLe_undef_iff, VLe_self]; try (repeat' first | (with_reducible refine And.intro ?_ ?_) | (refine VLe_int ?_; omega) | (refine VLe_bool ?_; rfl) | exact VLe.refl _))
                        · have hb1 := hb0 hlt
                          have hcc : c = p.getD frm 0 := by omega
                          simp (disch := omega) only [spar, List.foldl, List.replicate, items, ints, hn1, hlt, hx1, go_sem, wrap64_id, Int.tdiv_eq_ediv_of_nonneg, Int.tmod_eq_emod_of_nonneg]
                          repeat' first
                            | ((first | refine callA_pure (t56 l to _ ht (by omega)) ?_ ?_ | refine callA_pure (t57 l frm to _ (by omega) (by omega)) ?_ ?_ | refine callA_pure (hc54 _) ?_ ?_); (next => repeat' first | exact flags_n | refine flags_c (by first | rfl | assumption) ?_); simp (disch := omega) only [items, ints, he, hf, hlt, hx1, hcc, go_sem, wrap64_id, Int.tdiv_eq_ediv_of_nonneg, Int.tmod_eq_emod_of_nonneg])
                            | ((first | refine callG_pure (fun e => ⟨?_, t56 l to _ ht (by omega)⟩) ?_ | refine callG_pure (fun e => ⟨?_, t57 l frm to _ (by omega) (by omega)⟩) ?_ | refine callG_pure (fun e => ⟨?_, hc54 _⟩) ?_); (next => repeat' first | exact flags_n | refine flags_c (by first | rfl | assumption) ?_); simp (disch := omega) only [items, ints, he, hf, hlt, hx1, hcc, go_sem, wrap64_id, Int.tdiv_eq_ediv_of_nonneg, Int.tmod_eq_emod_of_nonneg])
                            | ((first | refine fnQ_pure1 ?_ ?_ | refine fnQ_pure0 ?_ ?_); (next => repeat' first | exact rvs_n | refine rvs_t ?_ | (simp [go_sem]; done)); simp only [go_sem]; (first | exact VLe.refl _ | refine VLe_int ?_ | refine VLe_bool ?_ | refine VLe_str ?_ | skip))
                            | (with_reducible refine And.intro ?_ ?_)
                            | with_reducible intro _
                          all_goals first
                            | omega
                            | (rename_i hx; revert hx; simp; done)
                            | skip
                          refine hK2 _ _ (to + 1, some to) ⟨by simp only; omega, by simp only; omega, .inr ⟨to, rfl, ht, j1', hpk3, by rw [← hbe]; omega⟩⟩ (by simp only; omega) (Wk.temps ?_)
                          (simp only [nxt, items, ints, spar, List.foldl, List.replicate, go_sem, VLes_nil, VLes_cons, VLe_undef_iff, VLe_self]; try (repeat' first | (with_reducible refine And.intro ?_ ?_) | (refine VLe_int ?_; omega) | (refine VLe_bool ?_; rfl) | exact VLe.refl _))
                      · rw [if_neg hh] at hfi
                        rw [hhit, decide_eq_true_eq] at hh
                        by_cases hlt : to < l.length
                        · have hb1 := hbb hlt
                          rw [hb1] at hh
                          by_cases hge : p.getD (to + 1) 0 < 0
                          · simp (disch := omega) only [spar, List.foldl, List.replicate, items, ints, hn1, hlt, hx1, go_sem, wrap64_id, Int.tdiv_eq_ediv_of_nonneg, Int.tmod_eq_emod_of_nonneg]
                            repeat' first
                              | ((first | refine callA_pure (t56 l to _ ht (by omega)) ?_ ?_ | refine callA_pure (t57 l frm to _ (by omega) (by omega)) ?_ ?_ | refine callA_pure (hc54 _) ?_ ?_); (next => repeat' first | exact flags_n | refine flags_c (by first | rfl | assumption) ?_); simp (disch := omega) only [items, ints, he, hf, hlt, hx1, hge, go_sem, wrap64_id, Int.tdiv_eq_ediv_of_nonneg, Int.tmod_eq_emod_of_nonneg])
                              | ((first | refine callG_pure (fun e => ⟨?_, t56 l to _ ht (by omega)⟩) ?_ | refine callG_pure (fun e => ⟨?_, t57 l frm to _ (by omega) (by omega)⟩) ?_ | refine callG_pure (fun e => ⟨?_, hc54 _⟩) ?_); (next => repeat' first | exact flags_n | refine flags_c (by first | rfl | assumption) ?_); simp (disch := omega) only [items, ints, he, hf, hlt, hx1, hge, go_sem, wrap64_id, Int.tdiv_eq_ediv_of_nonneg, Int.tmod_eq_emod_of_nonneg])
                              | ((first | refine fnQ_pure1 ?_ ?_ | refine fnQ_pure0 ?_ ?_); (next => repeat' first | exact rvs_n | refine rvs_t ?_ | (simp [go_sem]; done)); simp only [go_sem]; (first | exact VLe.refl _ | refine VLe_int ?_ | refine VLe_bool ?_ | refine VLe_str ?_ | skip))
                              | (with_reducible refine And.intro ?_ ?_)
                              | with_reducible intro _
                            all_goals first
                              | omega
                              | (rename_i hx; revert hx; simp; done)
                              | skip
                            refine hK2 _ _ (to + 1, none) ⟨by simp only; omega, by simp only; omega, .inl ⟨rfl, hfi⟩⟩ (by simp only; omega) (Wk.temps ?_)
                            (simp only [nxt, items, ints, spar, List.foldl, List.replicate, go_sem, VLes_nil, VLes_cons, VLe_undef_iff, VLe_self]; try (repeat' first | (with_reducible refine And.intro ?_ ?_) | (refine VLe_int ?_; omega) | (refine VLe_bool ?_; rfl) | exact VLe.refl _))
                          · have hcc : ¬ c + p.getD (to + 1) 0 = p.getD frm 0 := by omega
                            simp (disch := omega) only [spar, List.foldl, List.replicate, items, ints, hn1, hlt, hx1, go_sem, wrap64_id, Int.tdiv_eq_ediv_of_nonneg, Int.tmod_eq_emod_of_nonneg]
                            repeat' first
                              | ((first | refine callA_pure (t56 l to _ ht (by omega)) ?_ ?_ | refine callA_pure (t57 l frm to _ (by omega) (by omega)) ?_ ?_ | refine callA_pure (hc54 _) ?_ ?_); (next => repeat' first | exact flags_n | refine flags_c (by first | rfl | assumption) ?_); simp (disch := omega) only [items, ints, he, hf, hlt, hx1, hge, hcc, go_sem, wrap64_id, Int.tdiv_eq_ediv_of_nonneg, Int.tmod_eq_emod_of_nonneg])
                              | ((first | refine callG_pure (fun e => ⟨?_, t56 l to _ ht (by omega)⟩) ?_ | refine callG_pure (fun e => ⟨?_, t57 l frm to _ (by omega) (by omega)⟩) ?_ | refine callG_pure (fun e => ⟨?_, hc54 _⟩) ?_); (next => repeat' first | exact flags_n | refine flags_c (by first | rfl | assumption) ?_); simp (disch := omega) only [items, ints, he, hf, hlt, hx1, hge, hcc, go_sem, wrap64_id, Int.tdiv_eq_ediv_of_nonneg, Int.tmod_eq_emod_of_nonneg])
                              | ((first | refine fnQ_pure1 ?_ ?_ | refine fnQ_pure0 ?_ ?_); (next => repeat' first | exact rvs_n | refine rvs_t ?_ | (simp [go_sem]; done)); simp only [go_sem]; (first | exact VLe.refl _ | refine VLe_int ?_ | refine VLe_bool ?_ | refine VLe_str ?_ | skip))
                              | (with_reducible refine And.intro ?_ ?_)
                              | with_reducible intro _
                            all_goals first
                              | omega
                              | (rename_i hx; revert hx; simp; done)
                              | skip
                            refine hK2 _ _ (to + 1, none) ⟨by simp only; omega, by simp only; omega, .inl ⟨rfl, hfi⟩⟩ (by simp only; omega) (Wk.temps ?_)
                            (simp only [nxt, items, ints, spar, List.foldl, List.replicate, go_sem, VLes_nil, VLes_cons, VLe_undef_iff, VLe_self]; try (repeat' first | (with_reducible refine And.intro ?_ ?_) | (refine VLe_int ?_; omega) | (refine VLe_bool ?_; rfl) | exact VLe.refl _))
                        · have hb1 := hb0 hlt
                          have hcc : ¬ c = p.getD frm 0 := by omega
                          simp (disch := omega) only [spar, List.foldl, List.replicate, items, ints, hn1, hlt, hx1, go_sem, wrap64_id, Int.tdiv_eq_ediv_of_nonneg, Int.tmod_eq_emod_of_nonneg]
                          repeat' first
                            | ((first | refine callA_pure (t56 l to _ ht (by omega)) ?_ ?_ | refine callA_pure (t57 l frm to _ (by omega) (by omega)) ?_ ?_ | refine callA_pure (hc54 _) ?_ ?_); (next => repeat' first | exact flags_n | refine flags_c (by first | rfl | assumption) ?_); simp (disch := omega) only [items, ints, he, hf, hlt, hx1, hcc, go_sem, wrap64_id, Int.tdiv_eq_ediv_of_nonneg, Int.tmod_eq_emod_of_nonneg])
                            | ((first | refine callG_pure (fun e => ⟨?_, t56 l to _ ht (by omega)⟩) ?_ | refine callG_pure (fun e => ⟨?_, t57 l frm to _ (by omega) (by omega)⟩) ?_ | refine callG_pure (fun e => ⟨?_, hc54 _⟩) ?_); (next => repeat' first | exact flags_n | refine flags_c (by first | rfl | assumption) ?_); simp (disch := omega) only [items, ints, he, hf, hlt, hx1, hcc, go_sem, wrap64_id, Int.tdiv_eq_ediv_of_nonneg, Int.tmod_eq_emod_of_nonneg])
                            | ((first | refine fnQ_pure1 ?_ ?_ | refine fnQ_pure0 ?_ ?_); (next => repeat' first | exact rvs_n | refine rvs_t ?_ | (simp [go_sem]; done)); simp only [go_sem]; (first | exact VLe.refl _ | refine VLe_int ?_ | refine VLe_bool ?_ | refine VLe_str ?_ | skip))
                            | (with_reducible refine And.intro ?_ ?_)
                            | with_reducible intro _
                          all_goals first
                            | omega
                            | (rename_i hx; revert hx; simp; done)
                            | skip
                          refine hK2 _ _ (to + 1, none) ⟨by simp only; omega, by simp only; omega, .inl ⟨rfl, hfi⟩⟩ (by simp only; omega) (Wk.temps ?_)
                          (simp only [nxt, items, ints, spar, List.foldl, List.replicate, go_sem, VLes_nil, VLes_cons, VLe_undef_iff, VLe_self]; try (repeat' first | (with_reducible refine And.intro ?_ ?_) | (refine VLe_int ?_; omega) | (refine VLe_bool ?_; rfl) | exact VLe.refl _))
              · exfalso
                have e : to = l.length + 1 := by omega
                subst e
                obtain ⟨to, c, h5, _⟩ := hpk
                unfold pick at h5
                rw [arcsTo_all] at hno
                unfold hit at hno
                rw [hno] at h5
                cases h5
            · have hn1 : nxt (some t) = (t : Int) := rfl
              have hst := brk_step (width := width) (p := p) j1 tp
              have eTk : List.take bs.length (cellsI (bs.map Int.ofNat)) = cellsI (bs.map Int.ofNat) := List.take_of_length_le (by omega)
              simp (disch := omega) only [spar, List.foldl, List.replicate, items, ints, hn1, i0', madeA, hbl, eTk, go_sem, wrap64_id, Int.tdiv_eq_ediv_of_nonneg, Int.tmod_eq_emod_of_nonneg]
              repeat' first
                | ((first | refine fnQ_pure1 ?_ ?_ | refine fnQ_pure0 ?_ ?_); (next => repeat' first | exact rvs_n | refine rvs_t ?_ | (simp [go_sem]; done)); simp only [go_sem]; (first | exact VLe.refl _ | refine VLe_int ?_ | refine VLe_bool ?_ | refine VLe_str ?_ | skip))
                | (with_reducible refine And.intro ?_ ?_)
                | with_reducible intro _
              all_goals first
                | omega
                | (rename_i hx; revert hx; simp; done)
                | (simp; done)
                | skip
              all_goals
                rw [hst] at j3
                refine hK _ _ (bs ++ [t], t + 1, .mem (verOf (some O2) + 1) 3 [.int .i64 t], v + 1) ⟨rfl, by simp; omega, ?_⟩ (by simp only; omega) ?_
                · simp only
                  by_cases hlt : t < l.length
                  · left
                    rw [if_pos hlt] at j3
                    have hbe : behind l.length p t = p.getD (t + 1) 0 := by unfold behind; rw [if_neg (by omega)]
                    exact ⟨hlt, by omega, by simpa using j3, .inr ⟨by simp, by simp, by omega⟩⟩
                  · right
                    rw [if_neg hlt] at j3
                    exact ⟨by omega, by simpa using j3, by simp, by simp; omega⟩
                · rw [show cellsI ((bs ++ [t]).map Int.ofNat) = cellsI (bs.map Int.ofNat) ++ [.int .i64 (t : Int)] by simp [cellsI]]
                  refine Wk.temps ?_
                  (simp only [List.length_append, List.length_singleton, items, ints, spar, List.foldl, List.replicate, go_sem, VLes_nil, VLes_cons, VLe_undef_iff, VLe_self]; try (repeat' first | (with_reducible refine And.intro ?_ ?_) | (refine VLe_int ?_; omega) | (refine VLe_bool ?_; rfl) | exact VLe.refl _))
        · have hb0 : 0 < bs.length := List.length_pos_iff.2 hne
          have hbz : ((bs.length : Int) = 0) = False := eq_false (by omega)
          have eL : (cellsI (bs.map Int.ofNat))[bs.length - 1]? = some (.int .i64 (l.length : Int)) := by simp [cellsI, hlast]
          have eT : ((bs.length : Int) - 1).toNat = bs.length - 1 := by omega
          simp (disch := omega) only [spar, List.foldl, List.replicate, items, ints, hbl, eL, eT, hbz, go_sem, wrap64_id, Int.tdiv_eq_ediv_of_nonneg, Int.tmod_eq_emod_of_nonneg]
          repeat' first
            | ((first | refine fnQ_pure1 ?_ ?_ | refine fnQ_pure0 ?_ ?_); (next => repeat' first | exact rvs_n | refine rvs_t ?_ | (simp [go_sem]; done)); simp only [go_sem]; (first | exact VLe.refl _ | refine VLe_int ?_ | refine VLe_bool ?_ | refine VLe_str ?_ | skip))
            | (with_reducible refine And.intro ?_ ?_)
            | with_reducible intro _
          all_goals first
            | omega
            | (rename_i hx; revert hx; simp; done)
            | (simp; done)
            | skip
          all_goals
            rw [if_pos (by omega)]
            exact VLe_tup (VLes2 (ints_of (List.length_map ..)) (VLes2 (VLe.refl _) (VLes2 (VLe.refl _) VLes.nil)))
  · unfold breakAV
    rw [if_neg hw]
    refine acalls_of fn26 (by simp) ?_
    simp only [List.length_cons, List.length_nil, Nat.reduceAdd, Nat.reduceSub, List.replicate, List.cons_append, List.nil_append, List.append_nil]
    simp (disch := omega) only [c26, go_sem, wrap64_id, Int.tdiv_eq_ediv_of_nonneg, Int.tmod_eq_emod_of_nonneg]
    repeat' first
      | ((first | refine callA_pure (t50 l width _ (by omega)) ?_ ?_); (next => repeat' first | exact flags_n | refine flags_c (by first | rfl | assumption) ?_); simp (disch := omega) only [hw, go_sem, wrap64_id, Int.tdiv_eq_ediv_of_nonneg, Int.tmod_eq_emod_of_nonneg])
      | ((first | refine callG_pure (fun e => ⟨?_, t50 l width _ (by omega)⟩) ?_); (next => repeat' first | exact flags_n | refine flags_c (by first | rfl | assumption) ?_); simp (disch := omega) only [hw, go_sem, wrap64_id, Int.tdiv_eq_ediv_of_nonneg, Int.tmod_eq_emod_of_nonneg])
      | ((first | refine fnQ_pure1 ?_ ?_ | refine fnQ_pure0 ?_ ?_); (next => repeat' first | exact rvs_n | refine rvs_t ?_ | (simp [go_sem]; done)); simp only [go_sem]; (first | exact VLe.refl _ | refine VLe_int ?_ | refine VLe_bool ?_ | refine VLe_str ?_ | skip))
      | (with_reducible refine And.intro ?_ ?_)
      | with_reducible intro _
    all_goals first
      | omega
      | (rename_i hx; revert hx; simp; done)
      | skip
    exact VLe_tup (VLes2 ints_nl (VLes2 (VLe.refl _) (VLes2 (VLe.refl _) VLes.nil)))
end

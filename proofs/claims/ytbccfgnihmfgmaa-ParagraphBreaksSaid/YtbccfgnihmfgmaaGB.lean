import Derived.Test.YtbccfgnihmfgmaaGA
set_option linter.all false
set_option linter.unusedSimpArgs false
set_option linter.unusedVariables false
set_option linter.unusedSectionVars false
section
/-! the text C5 -/
open Go Go.Proofs AF P48
set_option maxRecDepth 100000
def lineT (f to bad chg : Int) (t : List UInt8) : List AV := [.int .i64 f, .int .i64 to, .int .i64 bad, .int .i64 chg, .str t]
theorem textGo_step (l : List It) {f k : Nat} (h : f ≤ k) : textGo l (k + 1 - f) f = textGo l (k - f) f ++ piece (it l k) := by
  rw [show k + 1 - f = (k - f) + 1 by omega, textGo_snoc, show f + (k - f) = k by omega]
set_option maxHeartbeats 8000000 in
theorem t23 (l : List It) (width : Int) (bs : List Int) (h : List AObj) (hl : l.length ≤ 300) (hb : bs.length ≤ 1000000) (hB : ∀ i, (it l i).text.length ≤ 1000000) :
    ACalls Try.prog 23 [items l, .int .i64 width, ints bs] h (.tup [lnsV (linesS l width bs).1, .int .i64 (linesS l width bs).2]) h := by
  have hnl : VLe .nl (lnsV []) := VLe_nl
  by_cases hw : checkW l width = 0
  · obtain ⟨hc, w0, w1⟩ := checkW_range l width hw
    have hv := Valid.of hl hc
    cases hls : listS l bs with
    | false =>
      have e : linesS l width bs = ([], 23) := by unfold linesS; rw [if_pos hw, broken_list, hls]; rfl
      rw [e]
      refine acalls_of fn23 (by simp) ?_
      simp only [List.length_cons, List.length_nil, Nat.reduceAdd, Nat.reduceSub, List.replicate, List.cons_append, List.nil_append, List.append_nil]
      simp (disch := omega) only [c23, go_sem, wrap64_id, Int.tdiv_eq_ediv_of_nonneg, Int.tmod_eq_emod_of_nonneg]
      repeat' first
        | ((first | refine callA_pure (t50 l width _ (by omega)) ?_ ?_ | refine callA_pure (t51 l bs _ hl hb) ?_ ?_); (next => repeat' first | exact flags_n | refine flags_c (by first | rfl | assumption) ?_); simp (disch := omega) only [hw, hls, go_sem, wrap64_id, Int.tdiv_eq_ediv_of_nonneg, Int.tmod_eq_emod_of_nonneg])
        | ((first | refine callG_pure (fun e => ⟨?_, t50 l width _ (by omega)⟩) ?_ | refine callG_pure (fun e => ⟨?_, t51 l bs _ hl hb⟩) ?_); (next => repeat' first | exact flags_n | refine flags_c (by first | rfl | assumption) ?_); simp (disch := omega) only [hw, hls, go_sem, wrap64_id, Int.tdiv_eq_ediv_of_nonneg, Int.tmod_eq_emod_of_nonneg])
        | ((first | refine fnQ_pure1 ?_ ?_ | refine fnQ_pure0 ?_ ?_); (next => repeat' first | exact rvs_n | refine rvs_t ?_ | (simp [go_sem]; done)); simp only [go_sem]; (first | exact VLe.refl _ | refine VLe_int ?_ | refine VLe_bool ?_ | refine VLe_str ?_ | skip))
        | (with_reducible refine And.intro ?_ ?_)
        | with_reducible intro _
      all_goals first
        | omega
        | skip
      exact VLe_tup (VLes2 hnl (VLes2 (VLe.refl _) VLes.nil))
    | true =>
      have hbr := listS_at hls
      refine acalls_of fn23 (by simp) ?_
      simp only [List.length_cons, List.length_nil, Nat.reduceAdd, Nat.reduceSub, List.replicate, List.cons_append, List.nil_append, List.append_nil]
      simp (disch := omega) only [c23, go_sem, wrap64_id, Int.tdiv_eq_ediv_of_nonneg, Int.tmod_eq_emod_of_nonneg]
      repeat' first
        | ((first | refine callA_pure (t50 l width _ (by omega)) ?_ ?_ | refine callA_pure (t51 l bs _ hl hb) ?_ ?_); (next => repeat' first | exact flags_n | refine flags_c (by first | rfl | assumption) ?_); simp (disch := omega) only [hw, hls, madeA, go_sem, wrap64_id, Int.tdiv_eq_ediv_of_nonneg, Int.tmod_eq_emod_of_nonneg])
        | ((first | refine callG_pure (fun e => ⟨?_, t50 l width _ (by omega)⟩) ?_ | refine callG_pure (fun e => ⟨?_, t51 l bs _ hl hb⟩) ?_); (next => repeat' first | exact flags_n | refine flags_c (by first | rfl | assumption) ?_); simp (disch := omega) only [hw, hls, madeA, go_sem, wrap64_id, Int.tdiv_eq_ediv_of_nonneg, Int.tmod_eq_emod_of_nonneg])
        | ((first | refine fnQ_pure1 ?_ ?_ | refine fnQ_pure0 ?_ ?_); (next => repeat' first | exact rvs_n | refine rvs_t ?_ | (simp [go_sem]; done)); simp only [go_sem]; (first | exact VLe.refl _ | refine VLe_int ?_ | refine VLe_bool ?_ | refine VLe_str ?_ | skip))
        | (with_reducible refine And.intro ?_ ?_)
        | with_reducible intro _
      all_goals first
        | omega
        | (simp; done)
        | skip
      have hnl0 : (natsOf bs).length = bs.length := by simp [natsOf]
      refine loop_of (T := fun i : Nat × List P48.Line × AObj × AObj × Nat => spar 118 [(0, items l), (1, .int .i64 width), (2, ints bs), (9, .osl (h.length + 1) i.2.2.2.2 5 0 i.1), (10, .int .i64 (frmI bs i.1)), (11, .int .i64 i.1)])
        (H := fun i => h ++ [.emp 1, .mem i.2.2.2.2 44 (cellsL i.2.1), i.2.2.1, i.2.2.2.1, .emp 0])
        (inv := fun i => i.1 ≤ bs.length ∧ i.2.1.length = i.1 ∧ linesGo l width 0 (natsOf bs) = (linesGo l width (frmI bs i.1) ((natsOf bs).drop i.1)).map (i.2.1 ++ ·) ∧ site [i.2.2.1] 0 = true ∧ site [i.2.2.2.1] 0 = true) (m := fun i => bs.length - i.1) (0, [], .emp 0, .emp 0, 1)
        ⟨by simp only; omega, rfl, ?_, rfl, rfl⟩ (Wk.temps ?_) ?_
      · simp only [List.drop_zero, List.nil_append]
        show _ = Option.map _ (linesGo l width 0 (natsOf bs))
        simp
      · (simp only [List.length_nil, items, ints, spar, List.foldl, List.replicate, go_sem, VLes_nil, VLes_cons, VLe_undef_iff, VLe_self]; try (repeat' first | (with_reducible refine And.intro ?_ ?_) | (refine VLe_int ?_; omega) | (refine VLe_bool ?_; rfl) | exact VLe.refl _))
      · rintro ⟨i, L, O2, O3, v⟩ ⟨i1, i2, i3, i4, i5⟩ K hK
        simp only at i1 i2 i3 i4 i5 hK
        have i4' : ∀ m, site (O2 :: m) 0 = true := fun _ => i4
        have i5' : ∀ m, site (O3 :: m) 0 = true := fun _ => i5
        have eL : (cellsL L).length = i * 5 := by rw [cellsL_len, i2]
        have eT : List.take (i * 5) (cellsL L) = cellsL L := List.take_of_length_le (by omega)
        by_cases hi : i < bs.length
        · obtain ⟨b0, b1, b2⟩ := broken_at hbr hi
          rw [nats_drop bs hi] at i3
          obtain ⟨to, hto⟩ : ∃ to : Nat, bs.getD i 0 = to := ⟨(bs.getD i 0).toNat, by omega⟩
          rw [hto] at b0 b1 b2
          have hto2 : (bs.getD i 0).toNat = to := by omega
          have hfr : frmI bs (i + 1) = to + 1 := by unfold frmI; rw [if_neg (by omega)]; show (bs.getD i 0).toNat + 1 = _; omega
          rw [hto2] at i3
          simp only [linesGo] at i3
          obtain ⟨frm, hfm⟩ : ∃ f, f = frmI bs i := ⟨_, rfl⟩
          rw [← hfm] at i3 b2 ⊢
          obtain ⟨f, hf⟩ : ∃ f, f = begin_ l frm to := ⟨_, rfl⟩
          have hfb := begin_le l (show frm ≤ to by omega)
          rw [← hf] at hfb
          obtain ⟨c, hcc⟩ : ∃ c, c = lineOf l width frm to := ⟨_, rfl⟩
          have hc52 : ∀ h : List AObj, ACalls Try.prog 52 [items l, .int .i64 width, .int .i64 frm, .int .i64 to] h (.tup [.int .i64 c.1, .int .i64 c.2.1, .bool c.2.2]) h := fun h => by rw [hcc]; exact t52 l width frm to h hv w0 w1 (by omega) (by omega)
          have hc53 : ∀ h : List AObj, ACalls Try.prog 53 [items l, .int .i64 frm, .int .i64 to] h (.int .i64 f) h := fun h => by rw [hf]; exact t53 l frm to h (by omega) (by omega) (by omega)
          rw [← hcc] at i3
          cases hfe : c.2.2 with
          | false =>
            rw [hfe] at i3 hc52
            have e : linesS l width bs = ([], 21) := by unfold linesS; rw [if_pos hw, if_pos hbr, i3]; rfl
            rw [e]
            simp (disch := omega) only [spar, List.foldl, List.replicate, ints, hto, i4', i5', eL, go_sem, wrap64_id, Int.tdiv_eq_ediv_of_nonneg, Int.tmod_eq_emod_of_nonneg]
            repeat' first
              | ((first | refine callA_pure (hc52 _) ?_ ?_); (next => repeat' first | exact flags_n | refine flags_c (by first | rfl | assumption) ?_); simp (disch := omega) only [i4', i5', madeA, lineC, eL, ints, go_sem, wrap64_id, Int.tdiv_eq_ediv_of_nonneg, Int.tmod_eq_emod_of_nonneg])
              | ((first | refine callG_pure (fun e => ⟨?_, hc52 _⟩) ?_); (next => repeat' first | exact flags_n | refine flags_c (by first | rfl | assumption) ?_); simp (disch := omega) only [i4', i5', madeA, lineC, eL, ints, go_sem, wrap64_id, Int.tdiv_eq_ediv_of_nonneg, Int.tmod_eq_emod_of_nonneg])
              | ((first | refine fnQ_pure1 ?_ ?_ | refine fnQ_pure0 ?_ ?_); (next => repeat' first | exact rvs_n | refine rvs_t ?_ | (simp [go_sem]; done)); simp only [go_sem]; (first | exact VLe.refl _ | refine VLe_int ?_ | refine VLe_bool ?_ | refine VLe_str ?_ | skip))
              | (with_reducible refine And.intro ?_ ?_)
              | with_reducible intro _
            all_goals first
              | omega
              | (simp; done)
              | skip
            exact VLe_tup (VLes2 hnl (VLes2 (VLe.refl _) VLes.nil))
          | true =>
            rw [hfe] at i3 hc52
            have hmk : mkLine l width frm to = ⟨f, to, c.1, c.2.1, textOf l f to⟩ := by unfold mkLine; rw [← hf, ← hcc]
            simp (disch := omega) only [spar, List.foldl, List.replicate, ints, hto, i4', i5', eL, go_sem, wrap64_id, Int.tdiv_eq_ediv_of_nonneg, Int.tmod_eq_emod_of_nonneg]
            repeat' first
              | ((first | refine callA_pure (hc52 _) ?_ ?_ | refine callA_pure (hc53 _) ?_ ?_); (next => repeat' first | exact flags_n | refine flags_c (by first | rfl | assumption) ?_); simp (disch := omega) only [i4', i5', madeA, lineC, eL, ints, hto, go_sem, wrap64_id, Int.tdiv_eq_ediv_of_nonneg, Int.tmod_eq_emod_of_nonneg])
              | ((first | refine callG_pure (fun e => ⟨?_, hc52 _⟩) ?_ | refine callG_pure (fun e => ⟨?_, hc53 _⟩) ?_); (next => repeat' first | exact flags_n | refine flags_c (by first | rfl | assumption) ?_); simp (disch := omega) only [i4', i5', madeA, lineC, eL, ints, hto, go_sem, wrap64_id, Int.tdiv_eq_ediv_of_nonneg, Int.tmod_eq_emod_of_nonneg])
              | ((first | refine fnQ_pure1 ?_ ?_ | refine fnQ_pure0 ?_ ?_); (next => repeat' first | exact rvs_n | refine rvs_t ?_ | (simp [go_sem]; done)); simp only [go_sem]; (first | exact VLe.refl _ | refine VLe_int ?_ | refine VLe_bool ?_ | refine VLe_str ?_ | skip))
              | (with_reducible refine And.intro ?_ ?_)
              | with_reducible intro _
            all_goals first
              | omega
              | (simp; done)
              | skip
            refine loop_of (T := fun k : Nat => spar 118 [(0, items l), (1, .int .i64 width), (2, ints bs), (9, .osl (h.length + 1) v 5 0 i), (11, .int .i64 i), (12, .int .i64 to), (16, .op (h.length + 2) (verOf (some O2) + 1) 0), (17, .int .i64 k)])
              (H := fun k => h ++ [.emp 1, .mem v 44 (cellsL L), .mem (verOf (some O2) + 1) 44 (lineT f to c.1 c.2.1 (textGo l (k - f) f)), O3, .emp 0]) (inv := fun k => f ≤ k ∧ k ≤ to) (m := fun k => to - k) f ⟨by omega, by omega⟩ ?_ ?_
            · rw [Nat.sub_self]
              simp only [textGo, lineT]
              refine Wk.temps ?_
              (simp only [items, ints, spar, List.foldl, List.replicate, go_sem, VLes_nil, VLes_cons, VLe_undef_iff, VLe_self]; try (repeat' first | (with_reducible refine And.intro ?_ ?_) | (refine VLe_int ?_; omega) | (refine VLe_bool ?_; rfl) | exact VLe.refl _))
            · rintro k ⟨k1, k2⟩ K2 hK2
              have htl := textGo_len l 1000000 hB (k - f) f
              have htb : (textGo l (k - f) f).length ≤ 300 * 1000001 := Nat.le_trans htl (Nat.mul_le_mul (by omega) (by omega))
              have hBk := hB k
              have hBt := hB to
              by_cases hk : k < to
              · have hts := textGo_step l k1
                unfold piece at hts
                by_cases h1 : (it l k).kind = 1
                · have h12 : ¬ (1 : Int) = 2 := by omega
                  rw [if_pos h1] at hts
                  simp (disch := omega) only [spar, List.foldl, List.replicate, items, itemC, lineT, h1, h12, go_sem, wrap64_id, Int.tdiv_eq_ediv_of_nonneg, Int.tmod_eq_emod_of_nonneg]
                  repeat' first
                    | ((first | refine fnQ_pure1 ?_ ?_ | refine fnQ_pure0 ?_ ?_); (next => repeat' first | exact rvs_n | refine rvs_t ?_ | (simp [go_sem]; done)); simp only [go_sem]; (first | exact VLe.refl _ | refine VLe_int ?_ | refine VLe_bool ?_ | refine VLe_str ?_ | skip))
                    | (with_reducible refine And.intro ?_ ?_)
                    | with_reducible intro _
                  all_goals first
                    | omega
                    | skip
                  refine hK2 _ _ (k + 1) ⟨by omega, by omega⟩ (by omega) ?_
                  rw [hts]
                  simp only [lineT]
                  refine Wk.temps ?_
                  (simp only [itemC, items, ints, spar, List.foldl, List.replicate, go_sem, VLes_nil, VLes_cons, VLe_undef_iff, VLe_self]; try (repeat' first | (with_reducible refine And.intro ?_ ?_) | (refine VLe_int ?_; omega) | (refine VLe_bool ?_; rfl) | exact VLe.refl _))
                · rw [if_neg h1] at hts
                  by_cases h2 : (it l k).kind = 2
                  · rw [if_pos h2] at hts
                    have h21 : ¬ (2 : Int) = 1 := by omega
                    simp (disch := omega) only [spar, List.foldl, List.replicate, items, itemC, lineT, h2, h21, go_sem, wrap64_id, Int.tdiv_eq_ediv_of_nonneg, Int.tmod_eq_emod_of_nonneg]
                    repeat' first
                      | ((first | refine fnQ_pure1 ?_ ?_ | refine fnQ_pure0 ?_ ?_); (next => repeat' first | exact rvs_n | refine rvs_t ?_ | (simp [go_sem]; done)); simp only [go_sem]; (first | exact VLe.refl _ | refine VLe_int ?_ | refine VLe_bool ?_ | refine VLe_str ?_ | skip))
                      | (with_reducible refine And.intro ?_ ?_)
                      | with_reducible intro _
                    all_goals first
                      | omega
                      | skip
                    refine hK2 _ _ (k + 1) ⟨by omega, by omega⟩ (by omega) ?_
                    rw [hts]
                    simp only [lineT]
                    refine Wk.temps ?_
                    (simp only [itemC, items, ints, spar, List.foldl, List.replicate, go_sem, VLes_nil, VLes_cons, VLe_undef_iff, VLe_self]; try (repeat' first | (with_reducible refine And.intro ?_ ?_) | (refine VLe_int ?_; omega) | (refine VLe_bool ?_; rfl) | exact VLe.refl _))
                  · rw [if_neg h2, List.append_nil] at hts
                    simp (disch := omega) only [spar, List.foldl, List.replicate, items, itemC, lineT, h1, h2, go_sem, wrap64_id, Int.tdiv_eq_ediv_of_nonneg, Int.tmod_eq_emod_of_nonneg]
                    repeat' first
                      | ((first | refine fnQ_pure1 ?_ ?_ | refine fnQ_pure0 ?_ ?_); (next => repeat' first | exact rvs_n | refine rvs_t ?_ | (simp [go_sem]; done)); simp only [go_sem]; (first | exact VLe.refl _ | refine VLe_int ?_ | refine VLe_bool ?_ | refine VLe_str ?_ | skip))
                      | (with_reducible refine And.intro ?_ ?_)
                      | with_reducible intro _
                    all_goals first
                      | omega
                      | skip
                    refine hK2 _ _ (k + 1) ⟨by omega, by omega⟩ (by omega) ?_
                    rw [hts]
                    simp only [lineT]
                    refine Wk.temps ?_
                    (simp only [itemC, items, ints, spar, List.foldl, List.replicate, go_sem, VLes_nil, VLes_cons, VLe_undef_iff, VLe_self]; try (repeat' first | (with_reducible refine And.intro ?_ ?_) | (refine VLe_int ?_; omega) | (refine VLe_bool ?_; rfl) | exact VLe.refl _))
              · have e : k = to := by omega
                subst e
                unfold textOf atBreak at hmk
                by_cases g1 : k < l.length ∧ (it l k).kind = 3
                · have g1' := g1.1
                  have g2' := g1.2
                  simp only [g1', g2', decide_true, Bool.and_self, if_true] at hmk
                  simp (disch := omega) only [spar, List.foldl, List.replicate, items, itemC, lineT, i5', g1', g2', eL, eT, madeA, go_sem, wrap64_id, Int.tdiv_eq_ediv_of_nonneg, Int.tmod_eq_emod_of_nonneg]
                  repeat' first
                    | ((first | refine fnQ_pure1 ?_ ?_ | refine fnQ_pure0 ?_ ?_); (next => repeat' first | exact rvs_n | refine rvs_t ?_ | (simp [go_sem]; done)); simp only [go_sem]; (first | exact VLe.refl _ | refine VLe_int ?_ | refine VLe_bool ?_ | refine VLe_str ?_ | skip))
                    | (with_reducible refine And.intro ?_ ?_)
                    | with_reducible intro _
                  all_goals first
                    | omega
                    | (simp; done)
                    | skip
                  all_goals
                    refine hK _ _ (i + 1, L ++ [mkLine l width frm k], .mem (verOf (some O2) + 1) 44 (lineC (mkLine l width frm k)), .mem (verOf (some O3) + 1) 44 (lineC (mkLine l width frm k)), v + 1) ⟨by simp only; omega, by simp; omega, ?_, rfl, rfl⟩ (by simp only; omega) ?_
                    · simp only [hfr]
                      rw [i3]
                      simp [Option.map_map, Function.comp_def]
                    · simp only [hfr, cellsL_snoc, hmk, lineC]
                      refine Wk.temps ?_
                      (simp only [itemC, items, ints, spar, List.foldl, List.replicate, go_sem, VLes_nil, VLes_cons, VLe_undef_iff, VLe_self]; try (repeat' first | (with_reducible refine And.intro ?_ ?_) | (refine VLe_int ?_; omega) | (refine VLe_bool ?_; rfl) | exact VLe.refl _))
                · have g2 : (decide (k < l.length) && decide ((it l k).kind = 3)) = false := by grind
                  rw [g2] at hmk
                  simp only [Bool.false_eq_true, if_false, List.append_nil] at hmk
                  simp (disch := omega) only [spar, List.foldl, List.replicate, items, itemC, lineT, i5', eL, eT, madeA, go_sem, wrap64_id, Int.tdiv_eq_ediv_of_nonneg, Int.tmod_eq_emod_of_nonneg]
                  repeat' first
                    | ((first | refine fnQ_pure1 ?_ ?_ | refine fnQ_pure0 ?_ ?_); (next => repeat' first | exact rvs_n | refine rvs_t ?_ | (simp [go_sem]; done)); simp only [go_sem]; (first | exact VLe.refl _ | refine VLe_int ?_ | refine VLe_bool ?_ | refine VLe_str ?_ | skip))
                    | (with_reducible refine And.intro ?_ ?_)
                    | with_reducible intro _
                  all_goals first
                    | omega
                    | (simp; done)
                    | (exfalso; apply g1; constructor <;> simp_all; omega)
                    | skip
                  all_goals
                    refine hK _ _ (i + 1, L ++ [mkLine l width frm k], .mem (verOf (some O2) + 1) 44 (lineC (mkLine l width frm k)), .mem (verOf (some O3) + 1) 44 (lineC (mkLine l width frm k)), v + 1) ⟨by simp only; omega, by simp; omega, ?_, rfl, rfl⟩ (by simp only; omega) ?_
                    · simp only [hfr]
                      rw [i3]
                      simp [Option.map_map, Function.comp_def]
                    · simp only [hfr, cellsL_snoc, hmk, lineC]
                      refine Wk.temps ?_
                      (simp only [itemC, items, ints, spar, List.foldl, List.replicate, go_sem, VLes_nil, VLes_cons, VLe_undef_iff, VLe_self]; try (repeat' first | (with_reducible refine And.intro ?_ ?_) | (refine VLe_int ?_; omega) | (refine VLe_bool ?_; rfl) | exact VLe.refl _))
        · have e : i = bs.length := by omega
          subst e
          have e0 : (natsOf bs).drop bs.length = [] := by rw [← hnl0, List.drop_length]
          rw [e0] at i3
          have e : linesS l width bs = (L, 0) := by unfold linesS; rw [if_pos hw, if_pos hbr, i3]; simp [linesGo]
          rw [e]
          simp (disch := omega) only [spar, List.foldl, List.replicate, ints, eL, go_sem, wrap64_id, Int.tdiv_eq_ediv_of_nonneg, Int.tmod_eq_emod_of_nonneg]
          repeat' first
            | ((first | refine fnQ_pure1 ?_ ?_ | refine fnQ_pure0 ?_ ?_); (next => repeat' first | exact rvs_n | refine rvs_t ?_ | (simp [go_sem]; done)); simp only [go_sem]; (first | exact VLe.refl _ | refine VLe_int ?_ | refine VLe_bool ?_ | refine VLe_str ?_ | skip))
            | (with_reducible refine And.intro ?_ ?_)
            | with_reducible intro _
          all_goals first
            | omega
            | skip
          rw [if_pos (by omega)]
          exact VLe_tup (VLes2 (lns_of i2) (VLes2 (VLe.refl _) VLes.nil))
  · have e : linesS l width bs = ([], checkW l width) := by unfold linesS; rw [if_neg hw]
    rw [e]
    refine acalls_of fn23 (by simp) ?_
    simp only [List.length_cons, List.length_nil, Nat.reduceAdd, Nat.reduceSub, List.replicate, List.cons_append, List.nil_append, List.append_nil]
    simp (disch := omega) only [c23, go_sem, wrap64_id, Int.tdiv_eq_ediv_of_nonneg, Int.tmod_eq_emod_of_nonneg]
    repeat' first
      | ((first | refine callA_pure (t50 l width _ (by omega)) ?_ ?_); (next => repeat' first | exact flags_n | refine flags_c (by first | rfl | assumption) ?_); simp (disch := omega) only [hw, go_sem, wrap64_id, Int.tdiv_eq_ediv_of_nonneg, Int.tmod_eq_emod_of_nonneg])
      | ((first | refine callG_pure (fun e => ⟨?_, t50 l width _ (by omega)⟩) ?_); (next => repeat' first | exact flags_n | refine flags_c (by first | rfl | assumption) ?_); simp (disch := omega) only [hw, go_sem, wrap64_id, Int.tdiv_eq_ediv_of_nonneg, Int.tmod_eq_emod_of_nonneg])
      | ((first | refine fnQ_pure1 ?_ ?_ | refine fnQ_pure0 ?_ ?_); (next => repeat' first | exact rvs_n | refine rvs_t ?_ | (simp [go_sem]; done)); simp only [go_sem]; (first | exact VLe.refl _ | refine VLe_int ?_ | refine VLe_bool ?_ | refine VLe_str ?_ | skip))
      | (with_reducible refine And.intro ?_ ?_)
      | with_reducible intro _
    all_goals first
      | omega
      | skip
    exact VLe_tup (VLes2 hnl (VLes2 (VLe.refl _) VLes.nil))
end

section
/-! the text C6 -/
open Go Go.Proofs AF P48
set_option maxRecDepth 100000
def feasI (l : List It) (width a b : Int) : AV :=
  if checkW l width = 0 then (if 0 ≤ a ∧ a ≤ b ∧ b ≤ l.length then feasAV l width a.toNat b.toNat else .tup [.int .i64 0, .bool false, .int .i64 2]) else .tup [.int .i64 0, .bool false, .int .i64 (checkW l width)]
theorem t15g (l : List It) (width a b : Int) (h : List AObj) (hl : l.length ≤ 300) (hB : ∀ i, (it l i).text.length ≤ 1000000) :
    ACalls Try.prog 15 [items l, .int .i64 width, .int .i64 a, .int .i64 b] h (feasI l width a b) h := by
  unfold feasI
  by_cases hw : checkW l width = 0
  · rw [if_pos hw]
    by_cases hr : 0 ≤ a ∧ a ≤ b ∧ b ≤ l.length
    · rw [if_pos hr]
      obtain ⟨m, rfl⟩ : ∃ m : Nat, a = m := ⟨a.toNat, by omega⟩
      obtain ⟨n, rfl⟩ : ∃ n : Nat, b = n := ⟨b.toNat, by omega⟩
      rw [Int.toNat_natCast, Int.toNat_natCast]
      exact t15 l width m n h hl hw hB (by omega) (by omega)
    · rw [if_neg hr]
      refine acalls_of fn15 (by simp) ?_
      simp only [List.length_cons, List.length_nil, Nat.reduceAdd, Nat.reduceSub, List.replicate, List.cons_append, List.nil_append, List.append_nil]
      simp (disch := omega) only [c15, items, go_sem, wrap64_id, Int.tdiv_eq_ediv_of_nonneg, Int.tmod_eq_emod_of_nonneg]
      repeat' first
        | ((first | refine callA_pure (t38 l width _ (by omega)) ?_ ?_); (next => repeat' first | exact flags_n | refine flags_c (by first | rfl | assumption) ?_); simp (disch := omega) only [hw, items, go_sem, wrap64_id, Int.tdiv_eq_ediv_of_nonneg, Int.tmod_eq_emod_of_nonneg])
        | ((first | refine callG_pure (fun e => ⟨?_, t38 l width _ (by omega)⟩) ?_); (next => repeat' first | exact flags_n | refine flags_c (by first | rfl | assumption) ?_); simp (disch := omega) only [hw, items, go_sem, wrap64_id, Int.tdiv_eq_ediv_of_nonneg, Int.tmod_eq_emod_of_nonneg])
        | ((first | refine fnQ_pure1 ?_ ?_ | refine fnQ_pure0 ?_ ?_); (next => repeat' first | exact rvs_n | refine rvs_t ?_ | (simp [go_sem]; done)); simp only [go_sem]; (first | exact VLe.refl _ | refine VLe_int ?_ | refine VLe_bool ?_ | refine VLe_str ?_ | skip))
        | (with_reducible refine And.intro ?_ ?_)
        | with_reducible intro _
      all_goals first
        | omega
        | skip
  · rw [if_neg hw]
    refine acalls_of fn15 (by simp) ?_
    simp only [List.length_cons, List.length_nil, Nat.reduceAdd, Nat.reduceSub, List.replicate, List.cons_append, List.nil_append, List.append_nil]
    simp (disch := omega) only [c15, items, go_sem, wrap64_id, Int.tdiv_eq_ediv_of_nonneg, Int.tmod_eq_emod_of_nonneg]
    repeat' first
      | ((first | refine callA_pure (t38 l width _ (by omega)) ?_ ?_); (next => repeat' first | exact flags_n | refine flags_c (by first | rfl | assumption) ?_); simp (disch := omega) only [hw, items, go_sem, wrap64_id, Int.tdiv_eq_ediv_of_nonneg, Int.tmod_eq_emod_of_nonneg])
      | ((first | refine callG_pure (fun e => ⟨?_, t38 l width _ (by omega)⟩) ?_); (next => repeat' first | exact flags_n | refine flags_c (by first | rfl | assumption) ?_); simp (disch := omega) only [hw, items, go_sem, wrap64_id, Int.tdiv_eq_ediv_of_nonneg, Int.tmod_eq_emod_of_nonneg])
      | ((first | refine fnQ_pure1 ?_ ?_ | refine fnQ_pure0 ?_ ?_); (next => repeat' first | exact rvs_n | refine rvs_t ?_ | (simp [go_sem]; done)); simp only [go_sem]; (first | exact VLe.refl _ | refine VLe_int ?_ | refine VLe_bool ?_ | refine VLe_str ?_ | skip))
      | (with_reducible refine And.intro ?_ ?_)
      | with_reducible intro _
    all_goals first
      | omega
      | skip
theorem t27 (l : List It) (width a b : Int) (h : List AObj) (hl : l.length ≤ 300) :
    ACalls Try.prog 27 [items l, .int .i64 width, .int .i64 a, .int .i64 b] h (feasI l width a b) h := by
  unfold feasI
  by_cases hw : checkW l width = 0
  · obtain ⟨hc, w0, w1⟩ := checkW_range l width hw
    have hv := Valid.of hl hc
    rw [if_pos hw]
    by_cases hr : 0 ≤ a ∧ a ≤ b ∧ b ≤ l.length
    · rw [if_pos hr]
      obtain ⟨m, rfl⟩ : ∃ m : Nat, a = m := ⟨a.toNat, by omega⟩
      obtain ⟨n, rfl⟩ : ∃ n : Nat, b = n := ⟨b.toNat, by omega⟩
      rw [Int.toNat_natCast, Int.toNat_natCast]
      unfold feasAV
      have hmn : m ≤ n := by omega
      have hn : n ≤ l.length := by omega
      cases he : ends l n with
      | false =>
        refine acalls_of fn27 (by simp) ?_
        simp only [List.length_cons, List.length_nil, Nat.reduceAdd, Nat.reduceSub, List.replicate, List.cons_append, List.nil_append, List.append_nil]
        simp (disch := omega) only [c27, items, go_sem, wrap64_id, Int.tdiv_eq_ediv_of_nonneg, Int.tmod_eq_emod_of_nonneg]
        repeat' first
          | (refine callG_false ((.bool false)) ?_; simp (disch := omega) only [hw, items, he, go_sem, wrap64_id, Int.tdiv_eq_ediv_of_nonneg, Int.tmod_eq_emod_of_nonneg])
          | ((first | refine callA_pure (t50 l width _ (by omega)) ?_ ?_ | refine callA_pure (t56 l n _ hn (by omega)) ?_ ?_ | refine callA_pure (t57 l m n _ (by omega) (by omega)) ?_ ?_); (next => repeat' first | exact flags_n | refine flags_c (by first | rfl | assumption) ?_); simp (disch := omega) only [hw, items, he, go_sem, wrap64_id, Int.tdiv_eq_ediv_of_nonneg, Int.tmod_eq_emod_of_nonneg])
          | ((first | refine callG_pure (fun e => ⟨?_, t50 l width _ (by omega)⟩) ?_ | refine callG_pure (fun e => ⟨?_, t56 l n _ hn (by omega)⟩) ?_ | refine callG_pure (fun e => ⟨?_, t57 l m n _ (by omega) (by omega)⟩) ?_); (next => repeat' first | exact flags_n | refine flags_c (by first | rfl | assumption) ?_); simp (disch := omega) only [hw, items, he, go_sem, wrap64_id, Int.tdiv_eq_ediv_of_nonneg, Int.tmod_eq_emod_of_nonneg])
          | ((first | refine fnQ_pure1 ?_ ?_ | refine fnQ_pure0 ?_ ?_); (next => repeat' first | exact rvs_n | refine rvs_t ?_ | (simp [go_sem]; done)); simp only [go_sem]; (first | exact VLe.refl _ | refine VLe_int ?_ | refine VLe_bool ?_ | refine VLe_str ?_ | skip))
          | (with_reducible refine And.intro ?_ ?_)
          | with_reducible intro _
        all_goals first
          | omega
          | skip
      | true =>
        cases hf : free l m n with
        | false =>
          refine acalls_of fn27 (by simp) ?_
          simp only [List.length_cons, List.length_nil, Nat.reduceAdd, Nat.reduceSub, List.replicate, List.cons_append, List.nil_append, List.append_nil]
          simp (disch := omega) only [c27, items, go_sem, wrap64_id, Int.tdiv_eq_ediv_of_nonneg, Int.tmod_eq_emod_of_nonneg]
          repeat' first
            | (refine callG_false ((.bool false)) ?_; simp (disch := omega) only [hw, items, he, hf, go_sem, wrap64_id, Int.tdiv_eq_ediv_of_nonneg, Int.tmod_eq_emod_of_nonneg])
            | ((first | refine callA_pure (t50 l width _ (by omega)) ?_ ?_ | refine callA_pure (t56 l n _ hn (by omega)) ?_ ?_ | refine callA_pure (t57 l m n _ (by omega) (by omega)) ?_ ?_); (next => repeat' first | exact flags_n | refine flags_c (by first | rfl | assumption) ?_); simp (disch := omega) only [hw, items, he, hf, go_sem, wrap64_id, Int.tdiv_eq_ediv_of_nonneg, Int.tmod_eq_emod_of_nonneg])
            | ((first | refine callG_pure (fun e => ⟨?_, t50 l width _ (by omega)⟩) ?_ | refine callG_pure (fun e => ⟨?_, t56 l n _ hn (by omega)⟩) ?_ | refine callG_pure (fun e => ⟨?_, t57 l m n _ (by omega) (by omega)⟩) ?_); (next => repeat' first | exact flags_n | refine flags_c (by first | rfl | assumption) ?_); simp (disch := omega) only [hw, items, he, hf, go_sem, wrap64_id, Int.tdiv_eq_ediv_of_nonneg, Int.tmod_eq_emod_of_nonneg])
            | ((first | refine fnQ_pure1 ?_ ?_ | refine fnQ_pure0 ?_ ?_); (next => repeat' first | exact rvs_n | refine rvs_t ?_ | (simp [go_sem]; done)); simp only [go_sem]; (first | exact VLe.refl _ | refine VLe_int ?_ | refine VLe_bool ?_ | refine VLe_str ?_ | skip))
            | (with_reducible refine And.intro ?_ ?_)
            | with_reducible intro _
          all_goals first
            | omega
            | skip
        | true =>
          have hc54 := fun h => t54 l width m n h hv w0 w1 hmn hn
          cases hco : cost l width m n with
          | none =>
            rw [hco] at hc54
            simp only [Option.isSome_none, Option.getD_none] at hc54
            refine acalls_of fn27 (by simp) ?_
            simp only [List.length_cons, List.length_nil, Nat.reduceAdd, Nat.reduceSub, List.replicate, List.cons_append, List.nil_append, List.append_nil]
            simp (disch := omega) only [c27, items, go_sem, wrap64_id, Int.tdiv_eq_ediv_of_nonneg, Int.tmod_eq_emod_of_nonneg]
            repeat' first
              | ((first | refine callA_pure (t50 l width _ (by omega)) ?_ ?_ | refine callA_pure (t56 l n _ hn (by omega)) ?_ ?_ | refine callA_pure (t57 l m n _ (by omega) (by omega)) ?_ ?_ | refine callA_pure (hc54 _) ?_ ?_); (next => repeat' first | exact flags_n | refine flags_c (by first | rfl | assumption) ?_); simp (disch := omega) only [hw, items, he, hf, go_sem, wrap64_id, Int.tdiv_eq_ediv_of_nonneg, Int.tmod_eq_emod_of_nonneg])
              | ((first | refine callG_pure (fun e => ⟨?_, t50 l width _ (by omega)⟩) ?_ | refine callG_pure (fun e => ⟨?_, t56 l n _ hn (by omega)⟩) ?_ | refine callG_pure (fun e => ⟨?_, t57 l m n _ (by omega) (by omega)⟩) ?_ | refine callG_pure (fun e => ⟨?_, hc54 _⟩) ?_); (next => repeat' first | exact flags_n | refine flags_c (by first | rfl | assumption) ?_); simp (disch := omega) only [hw, items, he, hf, go_sem, wrap64_id, Int.tdiv_eq_ediv_of_nonneg, Int.tmod_eq_emod_of_nonneg])
              | ((first | refine fnQ_pure1 ?_ ?_ | refine fnQ_pure0 ?_ ?_); (next => repeat' first | exact rvs_n | refine rvs_t ?_ | (simp [go_sem]; done)); simp only [go_sem]; (first | exact VLe.refl _ | refine VLe_int ?_ | refine VLe_bool ?_ | refine VLe_str ?_ | skip))
              | (with_reducible refine And.intro ?_ ?_)
              | with_reducible intro _
            all_goals first
              | omega
              | skip
          | some c =>
            rw [hco] at hc54
            simp only [Option.isSome_some, Option.getD_some] at hc54
            refine acalls_of fn27 (by simp) ?_
            simp only [List.length_cons, List.length_nil, Nat.reduceAdd, Nat.reduceSub, List.replicate, List.cons_append, List.nil_append, List.append_nil]
            simp (disch := omega) only [c27, items, go_sem, wrap64_id, Int.tdiv_eq_ediv_of_nonneg, Int.tmod_eq_emod_of_nonneg]
            repeat' first
              | ((first | refine callA_pure (t50 l width _ (by omega)) ?_ ?_ | refine callA_pure (t56 l n _ hn (by omega)) ?_ ?_ | refine callA_pure (t57 l m n _ (by omega) (by omega)) ?_ ?_ | refine callA_pure (hc54 _) ?_ ?_); (next => repeat' first | exact flags_n | refine flags_c (by first | rfl | assumption) ?_); simp (disch := omega) only [hw, items, he, hf, go_sem, wrap64_id, Int.tdiv_eq_ediv_of_nonneg, Int.tmod_eq_emod_of_nonneg])
              | ((first | refine callG_pure (fun e => ⟨?_, t50 l width _ (by omega)⟩) ?_ | refine callG_pure (fun e => ⟨?_, t56 l n _ hn (by omega)⟩) ?_ | refine callG_pure (fun e => ⟨?_, t57 l m n _ (by omega) (by omega)⟩) ?_ | refine callG_pure (fun e => ⟨?_, hc54 _⟩) ?_); (next => repeat' first | exact flags_n | refine flags_c (by first | rfl | assumption) ?_); simp (disch := omega) only [hw, items, he, hf, go_sem, wrap64_id, Int.tdiv_eq_ediv_of_nonneg, Int.tmod_eq_emod_of_nonneg])
              | ((first | refine fnQ_pure1 ?_ ?_ | refine fnQ_pure0 ?_ ?_); (next => repeat' first | exact rvs_n | refine rvs_t ?_ | (simp [go_sem]; done)); simp only [go_sem]; (first | exact VLe.refl _ | refine VLe_int ?_ | refine VLe_bool ?_ | refine VLe_str ?_ | skip))
              | (with_reducible refine And.intro ?_ ?_)
              | with_reducible intro _
            all_goals first
              | omega
              | skip
    · rw [if_neg hr]
      refine acalls_of fn27 (by simp) ?_
      simp only [List.length_cons, List.length_nil, Nat.reduceAdd, Nat.reduceSub, List.replicate, List.cons_append, List.nil_append, List.append_nil]
      simp (disch := omega) only [c27, items, go_sem, wrap64_id, Int.tdiv_eq_ediv_of_nonneg, Int.tmod_eq_emod_of_nonneg]
      repeat' first
        | ((first | refine callA_pure (t50 l width _ (by omega)) ?_ ?_); (next => repeat' first | exact flags_n | refine flags_c (by first | rfl | assumption) ?_); simp (disch := omega) only [hw, items, go_sem, wrap64_id, Int.tdiv_eq_ediv_of_nonneg, Int.tmod_eq_emod_of_nonneg])
        | ((first | refine callG_pure (fun e => ⟨?_, t50 l width _ (by omega)⟩) ?_); (next => repeat' first | exact flags_n | refine flags_c (by first | rfl | assumption) ?_); simp (disch := omega) only [hw, items, go_sem, wrap64_id, Int.tdiv_eq_ediv_of_nonneg, Int.tmod_eq_emod_of_nonneg])
        | ((first | refine fnQ_pure1 ?_ ?_ | refine fnQ_pure0 ?_ ?_); (next => repeat' first | exact rvs_n | refine rvs_t ?_ | (simp [go_sem]; done)); simp only [go_sem]; (first | exact VLe.refl _ | refine VLe_int ?_ | refine VLe_bool ?_ | refine VLe_str ?_ | skip))
        | (with_reducible refine And.intro ?_ ?_)
        | with_reducible intro _
      all_goals first
        | omega
        | skip
  · rw [if_neg hw]
    refine acalls_of fn27 (by simp) ?_
    simp only [List.length_cons, List.length_nil, Nat.reduceAdd, Nat.reduceSub, List.replicate, List.cons_append, List.nil_append, List.append_nil]
    simp (disch := omega) only [c27, items, go_sem, wrap64_id, Int.tdiv_eq_ediv_of_nonneg, Int.tmod_eq_emod_of_nonneg]
    repeat' first
      | ((first | refine callA_pure (t50 l width _ (by omega)) ?_ ?_); (next => repeat' first | exact flags_n | refine flags_c (by first | rfl | assumption) ?_); simp (disch := omega) only [hw, items, go_sem, wrap64_id, Int.tdiv_eq_ediv_of_nonneg, Int.tmod_eq_emod_of_nonneg])
      | ((first | refine callG_pure (fun e => ⟨?_, t50 l width _ (by omega)⟩) ?_); (next => repeat' first | exact flags_n | refine flags_c (by first | rfl | assumption) ?_); simp (disch := omega) only [hw, items, go_sem, wrap64_id, Int.tdiv_eq_ediv_of_nonneg, Int.tmod_eq_emod_of_nonneg])
      | ((first | refine fnQ_pure1 ?_ ?_ | refine fnQ_pure0 ?_ ?_); (next => repeat' first | exact rvs_n | refine rvs_t ?_ | (simp [go_sem]; done)); simp only [go_sem]; (first | exact VLe.refl _ | refine VLe_int ?_ | refine VLe_bool ?_ | refine VLe_str ?_ | skip))
      | (with_reducible refine And.intro ?_ ?_)
      | with_reducible intro _
    all_goals first
      | omega
      | skip
end

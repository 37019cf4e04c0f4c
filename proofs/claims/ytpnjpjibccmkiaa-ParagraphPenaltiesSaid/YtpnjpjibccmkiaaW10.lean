import Derived.Test.YtpnjpjibccmkiaaW9
import Derived.Test.YtpnjpjibccmkiaaPgCode3
import Derived.Test.YtpnjpjibccmkiaaPgM1
set_option linter.all false
set_option linter.unusedSimpArgs false
set_option linter.unusedVariables false
set_option linter.unusedSectionVars false
open Go Go.Proofs AF P48
set_option maxRecDepth 100000

theorem cellsIt_drop (l : List It) (i : Nat) (hi : i < l.length) (j : Nat) (hj : j < 6) : (cellsIt l)[i * 6 + j]? = (itemC (it l i))[j]? := by
  induction l generalizing i with
  | nil => simp at hi
  | cons x l ih =>
    unfold cellsIt at ih ⊢
    rw [List.flatMap_cons]
    cases i with
    | zero =>
      rw [List.getElem?_append_left (by rw [len_itemC]; omega)]
      simp [it]
    | succ i =>
      rw [List.getElem?_append_right (by rw [len_itemC]; omega), len_itemC, show (i + 1) * 6 + j - 6 = i * 6 + j by omega, ih i (by simpa using hi)]
      simp [it]
theorem cellsIt_set (l : List It) (i : Nat) (hi : i < l.length) (p : Int) : (cellsIt l).take (i * 6 + 4) ++ [.int .i64 p] ++ (cellsIt l).drop (i * 6 + 4 + 1) = cellsIt (l.set i { it l i with penalty := p }) := by
  induction l generalizing i with
  | nil => simp at hi
  | cons x l ih =>
    unfold cellsIt at ih ⊢
    cases i with
    | zero => simp [it, itemC]
    | succ i =>
      rw [List.flatMap_cons, List.set_cons_succ, List.flatMap_cons]
      have := ih i (by simpa using hi)
      rw [List.take_append, List.drop_append, len_itemC, List.take_of_length_le (by rw [len_itemC]; omega), List.drop_eq_nil_of_le (by rw [len_itemC]; omega), List.nil_append,
        show (i + 1) * 6 + 4 - 6 = i * 6 + 4 by omega, show (i + 1) * 6 + 4 + 1 - 6 = i * 6 + 4 + 1 by omega]
      have e : it (x :: l) (i + 1) = it l i := by simp [it]
      rw [e, ← this]
      simp
def mix (d : Int) (l : List It) (i : Nat) : List It := (l.take i).map (dear1 d) ++ l.drop i
theorem mix_zero (d : Int) (l : List It) : mix d l 0 = l := by simp [mix]
theorem mix_all (d : Int) (l : List It) : mix d l l.length = dear d l := by simp [mix, dear]
theorem mix_len (d : Int) (l : List It) (i : Nat) : (mix d l i).length = l.length := by simp [mix]; omega
theorem mix_it (d : Int) {l : List It} {i : Nat} (h : i < l.length) : it (mix d l i) i = it l i := by
  unfold mix it
  rw [List.getD_eq_getElem?_getD, List.getD_eq_getElem?_getD, List.getElem?_append_right (by simp; omega)]
  simp [Nat.min_eq_left (Nat.le_of_lt h)]
theorem mix_succ (d : Int) {l : List It} {i : Nat} (h : i < l.length) : mix d l (i + 1) = (mix d l i).set i (dear1 d (it l i)) := by
  unfold mix
  rw [List.set_append_right _ _ (by simp; omega), drop_it h]
  simp only [List.length_map, List.length_take, Nat.min_eq_left (Nat.le_of_lt h), Nat.sub_self, List.set_cons_zero]
  rw [List.take_add_one]
  simp only [List.getElem?_eq_getElem h, Option.toList_some, List.map_append, List.map_cons, List.map_nil, List.append_assoc, List.cons_append, List.nil_append, it_eq h]

theorem its_of {L : List It} {n m : Nat} {fz : Nat → Bool} {h : List AObj} (e : L.length = m) : VLe (.sl m fun i => (((cellsIt L).drop (i * 6)).take 6).map (rei fz h (n + 1))) (items L) := by
  subst e
  refine VLe_sl rfl (fun i hi => ?_)
  rw [← cellsIt_range, chunk (fun j _ => len_itemC _) hi]
  rfl
theorem fine_spec {l : List It} {width : Int} (h : fine l width = true) : l.length ≤ 14 ∧ check l = 0 ∧ 0 ≤ width ∧ width ≤ 1073741824 := by
  unfold fine great isLen at h
  simp at h
  omega
theorem cntT_succ (d : Int) {l : List It} {i : Nat} (h : i < l.length) : (((l.take (i + 1)).filter (dearer d)).length : Int) = ((l.take i).filter (dearer d)).length + (if dearer d (it l i) then 1 else 0) := by
  rw [List.take_add_one]
  simp only [h, List.getElem?_eq_getElem, Option.toList_some, List.filter_append, List.length_append, it_eq h]
  simp only [List.filter_cons, List.filter_nil]
  split <;> simp

theorem law3 (l : List It) (width more : Int) (h : List AObj) (hl : l.length ≤ 9223372036854775807) (m0 : 0 ≤ more) (m1 : more ≤ 65535) : ACalls Try.prog 3 [items l, .int .i64 width, .int .u16 more] h (.bool true) h := by
  cases hf : fine l width with
  | false =>
    refine acalls_of fn3m (by simp) ?_
    simp only [List.length_cons, List.length_nil, Nat.reduceAdd, Nat.reduceSub, List.replicate, List.cons_append, List.nil_append, List.append_nil]
    simp (disch := omega) only [c3m, hf, go_sem, wrap64_id, Int.tdiv_eq_ediv_of_nonneg, Int.tmod_eq_emod_of_nonneg]
    repeat' first
      | (refine callA_pure (t10 l width _ hl) (by first | exact ⟨rfl, trivial⟩ | exact ⟨rfl, rfl, trivial⟩ | exact ⟨rfl, rfl, rfl, trivial⟩ | exact ⟨rfl, rfl, rfl, rfl, trivial⟩ | simp only [go_sem]) ?_; simp (disch := omega) only [hf, go_sem, wrap64_id, Int.tdiv_eq_ediv_of_nonneg, Int.tmod_eq_emod_of_nonneg])
      | (refine callG_pure (fun e => ⟨by first | exact ⟨rfl, trivial⟩ | exact ⟨e, trivial⟩ | exact ⟨e, e, trivial⟩ | exact ⟨rfl, rfl, trivial⟩ | exact ⟨e, e, e, trivial⟩ | simp_all only [go_sem], t10 l width _ hl⟩) ?_; simp (disch := omega) only [hf, go_sem, wrap64_id, Int.tdiv_eq_ediv_of_nonneg, Int.tmod_eq_emod_of_nonneg])
      | (refine callA_pure (t11 _) (by first | exact ⟨rfl, trivial⟩ | exact ⟨rfl, rfl, trivial⟩ | exact ⟨rfl, rfl, rfl, trivial⟩ | exact ⟨rfl, rfl, rfl, rfl, trivial⟩ | simp only [go_sem]) ?_; simp (disch := omega) only [hf, go_sem, wrap64_id, Int.tdiv_eq_ediv_of_nonneg, Int.tmod_eq_emod_of_nonneg])
      | (refine callG_pure (fun e => ⟨by first | exact ⟨rfl, trivial⟩ | exact ⟨e, trivial⟩ | exact ⟨e, e, trivial⟩ | exact ⟨rfl, rfl, trivial⟩ | exact ⟨e, e, e, trivial⟩ | simp_all only [go_sem], t11 _⟩) ?_; simp (disch := omega) only [hf, go_sem, wrap64_id, Int.tdiv_eq_ediv_of_nonneg, Int.tmod_eq_emod_of_nonneg])
      | ((first | refine fnQ_pure1 (by first | exact ⟨trivial, trivial⟩ | exact ⟨trivial, trivial, trivial⟩ | exact ⟨trivial, trivial, trivial, trivial⟩ | simp [go_sem]) ?_ | refine fnQ_pure0 (by first | exact ⟨trivial, trivial⟩ | exact ⟨trivial, trivial, trivial⟩ | exact ⟨trivial, trivial, trivial, trivial⟩ | simp [go_sem]) ?_); simp only [go_sem]; (first | exact VLe.refl _ | refine VLe_int ?_ | refine VLe_bool ?_ | refine VLe_str ?_ | skip))
      | (with_reducible refine And.intro ?_ ?_)
      | with_reducible intro _
  | true =>
    obtain ⟨l14, hc, w0, w1⟩ := fine_spec hf
    have hv := Valid.of (by omega) hc
    refine acalls_of fn3m (by simp) ?_
    simp only [List.length_cons, List.length_nil, Nat.reduceAdd, Nat.reduceSub, List.replicate, List.cons_append, List.nil_append, List.append_nil]
    simp (disch := omega) only [c3m, hf, go_sem, wrap64_id, Int.tdiv_eq_ediv_of_nonneg, Int.tmod_eq_emod_of_nonneg]
    repeat' first
      | (refine callA_pure (t10 l width _ hl) (by first | exact ⟨rfl, trivial⟩ | exact ⟨rfl, rfl, trivial⟩ | exact ⟨rfl, rfl, rfl, trivial⟩ | exact ⟨rfl, rfl, rfl, rfl, trivial⟩ | simp only [go_sem]) ?_; simp (disch := omega) only [hf, go_sem, wrap64_id, Int.tdiv_eq_ediv_of_nonneg, Int.tmod_eq_emod_of_nonneg])
      | (refine callG_pure (fun e => ⟨by first | exact ⟨rfl, trivial⟩ | exact ⟨e, trivial⟩ | exact ⟨e, e, trivial⟩ | exact ⟨rfl, rfl, trivial⟩ | exact ⟨e, e, e, trivial⟩ | simp_all only [go_sem], t10 l width _ hl⟩) ?_; simp (disch := omega) only [hf, go_sem, wrap64_id, Int.tdiv_eq_ediv_of_nonneg, Int.tmod_eq_emod_of_nonneg])
      | ((first | refine fnQ_pure1 (by first | exact ⟨trivial, trivial⟩ | exact ⟨trivial, trivial, trivial⟩ | exact ⟨trivial, trivial, trivial, trivial⟩ | simp [go_sem]) ?_ | refine fnQ_pure0 (by first | exact ⟨trivial, trivial⟩ | exact ⟨trivial, trivial, trivial⟩ | exact ⟨trivial, trivial, trivial, trivial⟩ | simp [go_sem]) ?_); simp only [go_sem]; (first | exact VLe.refl _ | refine VLe_int ?_ | refine VLe_bool ?_ | refine VLe_str ?_ | skip))
      | (with_reducible refine And.intro ?_ ?_)
      | with_reducible intro _
    all_goals first
      | omega
      | skip
    obtain ⟨D, hD⟩ : ∃ D, D = more % 1001 := ⟨_, rfl⟩
    have hD1 : 0 ≤ D ∧ D ≤ 1000 := by omega
    rw [← hD]
    by_cases h0 : l.length = 0
    · have e : l = [] := List.eq_nil_of_length_eq_zero h0
      subst e
      refine callA_pure (t12e _) ⟨rfl, trivial⟩ ?_
      simp (disch := omega) only [items, go_sem, wrap64_id, Int.tdiv_eq_ediv_of_nonneg, Int.tmod_eq_emod_of_nonneg]
      refine loop_of (T := fun _ : Unit => spar 96 [(0, items []), (1, .int .i64 width), (7, .int .i64 D), (8, items []), (9, .int .i64 0), (28, items []), (29, .int .i64 0), (30, .int .i64 0)])
        (H := fun _ => h ++ [.emp 0, .emp 0]) (inv := fun _ => True) (m := fun _ => 0) () trivial (Wk.temps ?_) ?_
      · simp only [items, spar, List.foldl, List.replicate, go_sem, VLes_nil, VLes_cons, VLe_undef_iff, VLe_self]
        try (repeat' first | (with_reducible refine And.intro ?_ ?_) | (refine VLe_int ?_; omega) | (refine VLe_bool ?_; rfl))
      · rintro _ _ K hK
        simp (disch := omega) only [spar, items, itemC, List.foldl, List.replicate, go_sem, wrap64_id, Int.tdiv_eq_ediv_of_nonneg, Int.tmod_eq_emod_of_nonneg]
        refine ⟨fun hc => absurd hc (by simp), fun _ => ?_⟩
        show ∃ t' h', Wk _ _ t' h' ∧ _
        refine ⟨spar 96 [(0, items []), (1, .int .i64 width), (7, .int .i64 D), (8, items []), (9, .int .i64 0)], _, Wk.temps ?_, ?_⟩
        · simp only [items, itemC, spar, List.foldl, List.replicate, go_sem, VLes_nil, VLes_cons, VLe_undef_iff, VLe_self]
          try (repeat' first | (with_reducible refine And.intro ?_ ?_) | (refine VLe_int ?_; omega) | (refine VLe_bool ?_; rfl))
        · have hb1 := potsGo_bound hv.ok width 1 0
          have cA : ∃ A a e, breakAV [] width = tri A a e ∧ -1 ≤ a ∧ a ≤ 10000000 := by
            unfold breakAV; split
            · split
              · exact ⟨_, _, _, rfl, by omega, by omega⟩
              · exact ⟨_, _, _, rfl, hb1.1, Int.le_trans hb1.2 (by omega)⟩
            · exact ⟨_, _, _, rfl, by omega, by omega⟩
          obtain ⟨A, a, e, k1, k2, k3⟩ := cA
          have cA : ∀ h, ACalls Try.prog 13 [items [], .int .i64 width] h (tri A a e) h := fun h => by rw [← k1]; exact t13 _ _ _ (by simp)
          simp (disch := omega) only [spar, List.foldl, List.replicate, go_sem, wrap64_id, Int.tdiv_eq_ediv_of_nonneg, Int.tmod_eq_emod_of_nonneg]
          repeat' first
            | (refine callA_pure (cA _) (by first | exact ⟨rfl, trivial⟩ | exact ⟨rfl, rfl, trivial⟩ | exact ⟨rfl, rfl, rfl, trivial⟩ | exact ⟨rfl, rfl, rfl, rfl, trivial⟩ | simp only [go_sem]) ?_; simp (disch := omega) only [tri, go_sem, wrap64_id, Int.tdiv_eq_ediv_of_nonneg, Int.tmod_eq_emod_of_nonneg])
            | (refine callG_pure (fun e => ⟨by first | exact ⟨rfl, trivial⟩ | exact ⟨e, trivial⟩ | exact ⟨e, e, trivial⟩ | exact ⟨rfl, rfl, trivial⟩ | exact ⟨e, e, e, trivial⟩ | simp_all only [go_sem], cA _⟩) ?_; simp (disch := omega) only [tri, go_sem, wrap64_id, Int.tdiv_eq_ediv_of_nonneg, Int.tmod_eq_emod_of_nonneg])
            | (refine callA_pure (t11 _) (by first | exact ⟨rfl, trivial⟩ | exact ⟨rfl, rfl, trivial⟩ | exact ⟨rfl, rfl, rfl, trivial⟩ | exact ⟨rfl, rfl, rfl, rfl, trivial⟩ | simp only [go_sem]) ?_; simp (disch := omega) only [tri, go_sem, wrap64_id, Int.tdiv_eq_ediv_of_nonneg, Int.tmod_eq_emod_of_nonneg])
            | (refine callG_pure (fun e => ⟨by first | exact ⟨rfl, trivial⟩ | exact ⟨e, trivial⟩ | exact ⟨e, e, trivial⟩ | exact ⟨rfl, rfl, trivial⟩ | exact ⟨e, e, e, trivial⟩ | simp_all only [go_sem], t11 _⟩) ?_; simp (disch := omega) only [tri, go_sem, wrap64_id, Int.tdiv_eq_ediv_of_nonneg, Int.tmod_eq_emod_of_nonneg])
            | ((first | refine fnQ_pure1 (by first | exact ⟨trivial, trivial⟩ | exact ⟨trivial, trivial, trivial⟩ | exact ⟨trivial, trivial, trivial, trivial⟩ | simp [go_sem]) ?_ | refine fnQ_pure0 (by first | exact ⟨trivial, trivial⟩ | exact ⟨trivial, trivial, trivial⟩ | exact ⟨trivial, trivial, trivial, trivial⟩ | simp [go_sem]) ?_); simp only [go_sem]; (first | exact VLe.refl _ | refine VLe_int ?_ | refine VLe_bool ?_ | refine VLe_str ?_ | skip))
            | (with_reducible refine And.intro ?_ ?_)
            | with_reducible intro _
          all_goals first
            | omega
            | skip
          simp (disch := omega) only [Int.mul_zero, Int.add_zero, wrap64_id, Bool.and_eq_true, decide_eq_true_eq]
          omega
    · refine callA_eff (t12 l _ (h.length + 1) (by simp only [go_sem]) h0 (by omega)) ⟨rfl, trivial⟩ ?_
      simp (disch := omega) only [items, go_sem, wrap64_id, Int.tdiv_eq_ediv_of_nonneg, Int.tmod_eq_emod_of_nonneg]
      refine loop_of (T := fun i : Nat × AObj => spar 96 [(0, items l), (1, .int .i64 width), (7, .int .i64 D), (8, .osl (h.length + 1) 1 6 0 l.length), (9, .int .i64 ((l.take i.1).filter (dearer D)).length), (28, items l), (29, .int .i64 l.length), (30, .int .i64 i.1)])
        (H := fun i => h ++ [i.2, .mem 1 28 (cellsIt (mix D l i.1))])
        (inv := fun i => i.1 ≤ l.length ∧ site [i.2] 0 = true) (m := fun i => l.length - i.1) (0, .emp 0) ⟨by simp only; omega, rfl⟩ ?_ ?_
      · simp only [mix_zero]
        refine Wk.temps ?_
        simp only [items, spar, List.foldl, List.replicate, go_sem, VLes_nil, VLes_cons, VLe_undef_iff, VLe_self]
        try (repeat' first | (with_reducible refine And.intro ?_ ?_) | (refine VLe_int ?_; omega) | (refine VLe_bool ?_; rfl))
        exact VLe_int rfl
      · rintro ⟨i, O⟩ ⟨i1, i2⟩ K hK
        simp only at i1 i2 hK
        have i2' : ∀ m, site (O :: m) 0 = true := fun _ => i2
        by_cases hi : i < l.length
        · have ml := mix_len D l i
          have e4 := cellsIt_drop (mix D l i) i (by omega) 4 (by omega)
          rw [mix_it D hi] at e4
          have eS := cellsIt_set (mix D l i) i (by omega)
          rw [mix_it D hi] at eS
          have eL : (cellsIt (mix D l i)).length = l.length * 6 := by rw [cellsIt_len, ml]
          have e5 : (itemC (it l i))[4]? = some (.int .i64 (it l i).penalty) := rfl
          rw [e5] at e4
          have hpn := (hv.num i).2.2.2
          have hct : ((l.take i).filter (dearer D)).length ≤ 300 := Nat.le_trans (List.length_filter_le _ _) (Nat.le_trans (List.length_take_le _ _) (by omega))
          simp (disch := omega) only [spar, items, itemC, List.foldl, List.replicate, i2', e4, eS, eL, go_sem, wrap64_id, Int.tdiv_eq_ediv_of_nonneg, Int.tmod_eq_emod_of_nonneg]
          repeat' first
            | (with_reducible refine And.intro ?_ ?_)
            | (with_reducible intro _)
          all_goals first
            | omega
            | skip
          · rename_i hcd
            have hde : dearer D (it l i) = true := by unfold dearer; simp only [Bool.and_eq_true, decide_eq_true_eq]; omega
            have ecn := cntT_succ D hi
            rw [hde, if_pos rfl] at ecn
            refine hK _ _ (i + 1, .mem (verOf (some O) + 1) 28 (itemC (it l i))) ⟨hi, rfl⟩ (by simp only; omega) ?_
            simp only [mix_succ D hi, dear1, hde, if_true, ecn]
            refine Wk.temps ?_
            simp only [items, itemC, spar, List.foldl, List.replicate, go_sem, VLes_nil, VLes_cons, VLe_undef_iff, VLe_self]
            try (repeat' first | (with_reducible refine And.intro ?_ ?_) | (refine VLe_int ?_; omega) | (refine VLe_bool ?_; rfl))
          · rename_i hcd
            have hde : dearer D (it l i) = false := by
              cases hx : dearer D (it l i) with
              | false => rfl
              | true => unfold dearer at hx; simp only [Bool.and_eq_true, decide_eq_true_eq] at hx; omega
            have ecn := cntT_succ D hi
            rw [hde] at ecn
            simp only [Bool.false_eq_true, if_false, Int.add_zero] at ecn
            refine hK _ _ (i + 1, .mem (verOf (some O) + 1) 28 (itemC (it l i))) ⟨hi, rfl⟩ (by simp only; omega) ?_
            have es : (mix D l i).set i (it l i) = mix D l i := by
              rw [← mix_it D hi, it_eq (by omega)]; exact List.set_getElem_self _
            simp only [mix_succ D hi, dear1, hde, Bool.false_eq_true, if_false, ecn, es]
            refine Wk.temps ?_
            simp only [items, itemC, spar, List.foldl, List.replicate, go_sem, VLes_nil, VLes_cons, VLe_undef_iff, VLe_self]
            try (repeat' first | (with_reducible refine And.intro ?_ ?_) | (refine VLe_int ?_; omega) | (refine VLe_bool ?_; rfl))
        · have e : i = l.length := by omega
          subst e
          have eL : (cellsIt (mix D l l.length)).length = l.length * 6 := by rw [cellsIt_len, mix_len]
          simp (disch := omega) only [spar, items, itemC, List.foldl, List.replicate, i2', go_sem, wrap64_id, Int.tdiv_eq_ediv_of_nonneg, Int.tmod_eq_emod_of_nonneg]
          refine ⟨fun hc => absurd hc (by omega), fun _ => ?_⟩
          show ∃ t' h', Wk _ _ t' h' ∧ _
          refine ⟨spar 96 [(0, items l), (1, .int .i64 width), (7, .int .i64 D), (8, items (dear D l)), (9, .int .i64 (cnt D l 0))], h ++ [O, .emp 2], ?_, ?_⟩
          · refine Wk.trans (Wk.temps (t' := spar 96 [(0, items l), (1, .int .i64 width), (7, .int .i64 D), (8, .osl (h.length + 1) 1 6 0 l.length), (9, .int .i64 (cnt D l 0))]) ?_) (Wk.trans (Wk.freeze [h.length + 1] ?_) ?_)
            · simp only [items, itemC, spar, List.foldl, List.replicate, go_sem, VLes_nil, VLes_cons, VLe_undef_iff, VLe_self]
              try (repeat' first | (with_reducible refine And.intro ?_ ?_) | (refine VLe_int ?_; omega) | (refine VLe_bool ?_; rfl))
              exact VLe_int (by simp [cnt])
            · simp only [sitesOk, go_sem]
            · simp only [killO, go_sem]
              refine Wk.temps ?_
              simp only [items, itemC, spar, List.foldl, List.replicate, go_sem, VLes_nil, VLes_cons, VLe_undef_iff, VLe_self]
              try (repeat' first | (with_reducible refine And.intro ?_ ?_) | (refine VLe_int ?_; omega) | (refine VLe_bool ?_; rfl))
              simp only [List.contains_cons, beq_self_eq_true, Bool.true_or, if_true, mix_all, cellsIt_len, dear_len, Nat.le_refl]
              have hits := @its_of (dear D l) 6 l.length (fun k => k == h.length + 1 || [].contains k) (h ++ [O, AObj.mem 1 28 (cellsIt (dear D l))]) (dear_len D l)
              unfold items at hits
              rw [dear_len] at hits
              exact hits
          · have hcd := dear_check (d := D) hD1.1 hc
            have hdp := dear_pots hD1.1 (width := width) hc l.length 0 (by omega) (by omega)
            simp only at hdp
            have hcw : checkW l width = 0 := by unfold checkW isLen; simp [hc, w0, w1]
            have hcw' : checkW (dear D l) width = 0 := by unfold checkW isLen; simp [hcd, w0, w1]
            have hcn0 := cnt_nonneg D l 0
            have hcn : cnt D l 0 ≤ 14 := by unfold cnt; have := List.length_filter_le (dearer D) (l.drop 0); simp at this ⊢; omega
            have hmul0 := Int.mul_nonneg hD1.1 hcn0
            have hmul := Int.mul_le_mul hD1.2 hcn hcn0 (by omega)
            have hb1 := potsGo_bound hv.ok width (l.length + 1) 0
            have hb2 := potsGo_bound (Valid.of (by rw [dear_len]; omega) hcd).ok width ((dear D l).length + 1) 0
            rw [dear_len] at hb2
            have key : ∃ A B a b e, breakAV l width = tri A a e ∧ breakAV (dear D l) width = tri B b e ∧ 0 ≤ a ∧ a ≤ b ∧ b ≤ a + D * cnt D l 0 ∧ b ≤ 10000000 := by
              rcases hdp with ⟨h1, h2⟩ | ⟨h1, h2, h3⟩
              · refine ⟨[], [], 0, 0, 23, ?_, ?_, by omega, by omega, by omega, by omega⟩
                · unfold breakAV; rw [if_pos hcw, if_pos (by omega)]; rfl
                · unfold breakAV; rw [if_pos hcw', if_pos (by omega)]; rfl
              · refine ⟨(brk l width).map Int.ofNat, (brk (dear D l) width).map Int.ofNat, _, _, 0, ?_, ?_, h1, h2, h3, ?_⟩
                · unfold breakAV; rw [if_pos hcw, if_neg (by omega)]; rfl
                · unfold breakAV; rw [if_pos hcw', if_neg (by omega)]; rfl
                · unfold pots; rw [dear_len]; omega
            obtain ⟨A, B, a, b, e, k1, k2, k3, k4, k5, k6⟩ := key
            have cA : ∀ h, ACalls Try.prog 13 [items l, .int .i64 width] h (tri A a e) h := fun h => by rw [← k1]; exact t13 _ _ _ (by omega)
            have cB : ∀ h, ACalls Try.prog 13 [items (dear D l), .int .i64 width] h (tri B b e) h := fun h => by rw [← k2]; exact t13 _ _ _ (by rw [dear_len]; omega)
            simp (disch := omega) only [spar, List.foldl, List.replicate, go_sem, wrap64_id, Int.tdiv_eq_ediv_of_nonneg, Int.tmod_eq_emod_of_nonneg]
            repeat' first
              | (refine callA_pure (cA _) (by first | exact ⟨rfl, trivial⟩ | exact ⟨rfl, rfl, trivial⟩ | exact ⟨rfl, rfl, rfl, trivial⟩ | exact ⟨rfl, rfl, rfl, rfl, trivial⟩ | simp only [go_sem]) ?_; simp (disch := omega) only [tri, go_sem, wrap64_id, Int.tdiv_eq_ediv_of_nonneg, Int.tmod_eq_emod_of_nonneg])
              | (refine callG_pure (fun e => ⟨by first | exact ⟨rfl, trivial⟩ | exact ⟨e, trivial⟩ | exact ⟨e, e, trivial⟩ | exact ⟨rfl, rfl, trivial⟩ | exact ⟨e, e, e, trivial⟩ | simp_all only [go_sem], cA _⟩) ?_; simp (disch := omega) only [tri, go_sem, wrap64_id, Int.tdiv_eq_ediv_of_nonneg, Int.tmod_eq_emod_of_nonneg])
              | (refine callA_pure (cB _) (by first | exact ⟨rfl, trivial⟩ | exact ⟨rfl, rfl, trivial⟩ | exact ⟨rfl, rfl, rfl, trivial⟩ | exact ⟨rfl, rfl, rfl, rfl, trivial⟩ | simp only [go_sem]) ?_; simp (disch := omega) only [tri, go_sem, wrap64_id, Int.tdiv_eq_ediv_of_nonneg, Int.tmod_eq_emod_of_nonneg])
              | (refine callG_pure (fun e => ⟨by first | exact ⟨rfl, trivial⟩ | exact ⟨e, trivial⟩ | exact ⟨e, e, trivial⟩ | exact ⟨rfl, rfl, trivial⟩ | exact ⟨e, e, e, trivial⟩ | simp_all only [go_sem], cB _⟩) ?_; simp (disch := omega) only [tri, go_sem, wrap64_id, Int.tdiv_eq_ediv_of_nonneg, Int.tmod_eq_emod_of_nonneg])
              | (refine callA_pure (t11 _) (by first | exact ⟨rfl, trivial⟩ | exact ⟨rfl, rfl, trivial⟩ | exact ⟨rfl, rfl, rfl, trivial⟩ | exact ⟨rfl, rfl, rfl, rfl, trivial⟩ | simp only [go_sem]) ?_; simp (disch := omega) only [tri, go_sem, wrap64_id, Int.tdiv_eq_ediv_of_nonneg, Int.tmod_eq_emod_of_nonneg])
              | (refine callG_pure (fun e => ⟨by first | exact ⟨rfl, trivial⟩ | exact ⟨e, trivial⟩ | exact ⟨e, e, trivial⟩ | exact ⟨rfl, rfl, trivial⟩ | exact ⟨e, e, e, trivial⟩ | simp_all only [go_sem], t11 _⟩) ?_; simp (disch := omega) only [tri, go_sem, wrap64_id, Int.tdiv_eq_ediv_of_nonneg, Int.tmod_eq_emod_of_nonneg])
              | ((first | refine fnQ_pure1 (by first | exact ⟨trivial, trivial⟩ | exact ⟨trivial, trivial, trivial⟩ | exact ⟨trivial, trivial, trivial, trivial⟩ | simp [go_sem]) ?_ | refine fnQ_pure0 (by first | exact ⟨trivial, trivial⟩ | exact ⟨trivial, trivial, trivial⟩ | exact ⟨trivial, trivial, trivial, trivial⟩ | simp [go_sem]) ?_); simp only [go_sem]; (first | exact VLe.refl _ | refine VLe_int ?_ | refine VLe_bool ?_ | refine VLe_str ?_ | skip))
              | (with_reducible refine And.intro ?_ ?_)
              | with_reducible intro _
            all_goals first
              | omega
              | skip
            simp only [Bool.and_eq_true, decide_eq_true_eq]
            omega

import Derived.Test.YtbccfgnihmfgmaaGD
set_option linter.all false
set_option linter.unusedSimpArgs false
set_option linter.unusedVariables false
set_option linter.unusedSectionVars false
section
/-! the text C9 -/
open Go Go.Proofs AF P48
set_option maxRecDepth 100000
def refBad (n : Nat) (ps : List Int) (own : Int) (x : Nat × Int) : Bool :=
  if x.1 < n then !decide (ps.getD (x.1 + 1) 0 = -1) && (decide (own = -1) || decide (ps.getD (x.1 + 1) 0 < own - x.2)) else decide (own = -1) || decide (x.2 < own)
def refFrom (l : List It) (width : Int) (ps : List Int) (f : Nat) : Bool := !decide (ps.getD f 0 < -1) && !((arcs l width f).any (refBad l.length ps (ps.getD f 0)))
def boundsS (l : List It) (width : Int) (ps : List Int) : Bool := decide (ps.length = l.length + 1) && (List.range (l.length + 1)).all (refFrom l width ps)
theorem bounds_false {l : List It} {width : Int} {ps : List Int} {f : Nat} (hf : f ≤ l.length) (h : refFrom l width ps f = false) : boundsS l width ps = false := by
  unfold boundsS
  cases he : (List.range (l.length + 1)).all (refFrom l width ps) with
  | false => simp
  | true =>
    rw [List.all_eq_true] at he
    have := he f (by simp; omega)
    rw [h] at this
    cases this
theorem ref_false {l : List It} {width : Int} {ps : List Int} {f to : Nat} {c : Int} (hf : f ≤ to) (ht : to ≤ l.length) (ha : arc l width f to = some c) (h : refBad l.length ps (ps.getD f 0) (to, c) = true) : boundsS l width ps = false := by
  refine bounds_false (f := f) (by omega) ?_
  unfold refFrom
  have : (arcs l width f).any (refBad l.length ps (ps.getD f 0)) = true := List.any_eq_true.2 ⟨(to, c), mem_arcs.2 ⟨hf, ht, ha⟩, h⟩
  rw [this]
  simp
theorem verify_ref (l : List It) (width : Int) (bs ps : List Int) (hc : checkW l width = 0) : verifyS l width bs ps = if (costS l width bs).2 = 0 then (if boundsS l width ps = true ∧ (costS l width bs).1 = ps.getD 0 0 then 0 else 18) else (costS l width bs).2 := by
  unfold verifyS
  by_cases h0 : (costS l width bs).2 = 0
  · rw [if_pos h0, if_pos h0]
    by_cases hl : ps.length = l.length + 1
    · by_cases hm : minTo ps (ps.length - 1) < -1
      · have hb : boundsS l width ps = false := by
          obtain ⟨j, h1, h2⟩ := (minTo_iff ps (-1) (ps.length - 1)).1 hm
          refine bounds_false (f := j) (by omega) ?_
          unfold refFrom
          rw [decide_eq_true h2]; rfl
        rw [hb]
        simp [hm]
      · have hall : ∀ j, j ≤ l.length → -1 ≤ ps.getD j 0 := fun j hj => by
          by_cases h : ps.getD j 0 < -1
          · exact absurd ((minTo_iff ps (-1) (ps.length - 1)).2 ⟨j, by omega, h⟩) hm
          · omega
        have key : ∀ j, j ≤ l.length → refFrom l width ps j = !badFrom l width ps j := by
          intro j hj
          unfold refFrom badFrom
          have h1 : ¬ ps.getD j 0 < -1 := by have := hall j hj; omega
          rw [decide_eq_false h1]
          simp only [Bool.not_false, Bool.true_and]
          congr 1
          rw [Bool.eq_iff_iff, List.any_eq_true, List.any_eq_true]
          refine exists_congr (fun x => and_congr_right (fun hx => ?_))
          obtain ⟨to, c⟩ := x
          obtain ⟨h2, h3, h4⟩ := mem_arcs.1 hx
          have h5 := hall j hj
          unfold refBad badArc behind
          by_cases hlt : to < l.length
          · have h6 := hall (to + 1) (by omega)
            rw [if_pos hlt, if_neg (by omega)]
            simp only [Bool.and_eq_true, Bool.not_eq_true', Bool.or_eq_true, decide_eq_true_eq, decide_eq_false_iff_not]
            omega
          · rw [if_neg hlt, if_pos (by omega)]
            simp only [Bool.and_eq_true, Bool.or_eq_true, decide_eq_true_eq]
            omega
        have hba : boundsS l width ps = !badAny l width ps := by
          unfold boundsS badAny
          rw [decide_eq_true hl, Bool.true_and, List.not_any_eq_all_not]
          rw [Bool.eq_iff_iff, List.all_eq_true, List.all_eq_true]
          refine forall_congr' (fun j => forall_congr' (fun hj => ?_))
          rw [key j (by simp at hj; omega)]
        rw [hba]
        by_cases hq : (costS l width bs).1 = ps.getD 0 0
        · rw [if_pos ⟨hl, hm, hq.symm⟩]
          cases badAny l width ps
          · simp only [hq]; rfl
          · rfl
        · rw [if_neg (fun h => hq h.2.2.symm), if_neg (fun h => hq h.2)]
    · have hb : boundsS l width ps = false := by unfold boundsS; simp [hl]
      rw [hb]
      simp [hl]
  · rw [if_neg h0, if_neg h0]

set_option maxHeartbeats 8000000 in
theorem t58 (l : List It) (width : Int) (ps : List Int) (h : List AObj) (hv : Valid l) (hc : check l = 0) (w0 : 0 ≤ width) (w1 : width ≤ 1073741824) (hp : ps.length ≤ 1000000) (hps : ∀ j, ps.getD j 0 ≤ 9223372036854775807) :
    ACalls Try.prog 58 [items l, .int .i64 width, ints ps] h (.bool (boundsS l width ps)) h := by
  have hl := hv.len
  by_cases hlen : ps.length = l.length + 1
  · have hlenI : (ps.length : Int) = (l.length : Int) + 1 := by omega
    have hne : ((ps.length : Int) = (l.length : Int) + 1) = True := eq_true hlenI
    refine acalls_of fn58 (by simp) ?_
    simp only [List.length_cons, List.length_nil, Nat.reduceAdd, Nat.reduceSub, List.replicate, List.cons_append, List.nil_append, List.append_nil]
    simp (disch := omega) only [c58, items, ints, hne, go_sem, wrap64_id, Int.tdiv_eq_ediv_of_nonneg, Int.tmod_eq_emod_of_nonneg]
    repeat' first
      | ((first | refine fnQ_pure1 ?_ ?_ | refine fnQ_pure0 ?_ ?_); (next => repeat' first | exact rvs_n | refine rvs_t ?_ | (simp [go_sem]; done)); simp only [go_sem]; (first | exact VLe.refl _ | refine VLe_int ?_ | refine VLe_bool ?_ | refine VLe_str ?_ | skip))
      | (with_reducible refine And.intro ?_ ?_)
      | with_reducible intro _
    all_goals first
      | omega
      | skip
    refine loop_of (T := fun i : Nat => spar 98 [(0, items l), (1, .int .i64 width), (2, ints ps), (7, .int .i64 i)]) (H := fun _ => h) (inv := fun i => i ≤ l.length + 1 ∧ ∀ j, j < i → refFrom l width ps j = true) (m := fun i => l.length + 1 - i) 0 ⟨by omega, by omega⟩ (Wk.temps ?_) ?_
    · (simp only [items, ints, spar, List.foldl, List.replicate, go_sem, VLes_nil, VLes_cons, VLe_undef_iff, VLe_self]; try (repeat' first | (with_reducible refine And.intro ?_ ?_) | (refine VLe_int ?_; omega) | (refine VLe_bool ?_; rfl) | exact VLe.refl _))
    · rintro f ⟨f1, f2⟩ K hK
      by_cases hf : f ≤ l.length
      · obtain ⟨own, hown⟩ : ∃ x, x = ps.getD f 0 := ⟨_, rfl⟩
        have hown' := hown.symm
        have hob := hps f
        rw [hown'] at hob
        by_cases hm : own < -1
        · have hb : boundsS l width ps = false := bounds_false hf (by unfold refFrom; rw [hown', decide_eq_true hm]; rfl)
          rw [hb]
          simp (disch := omega) only [spar, List.foldl, List.replicate, items, ints, hown', hm, go_sem, wrap64_id, Int.tdiv_eq_ediv_of_nonneg, Int.tmod_eq_emod_of_nonneg]
          repeat' first
            | ((first | refine fnQ_pure1 ?_ ?_ | refine fnQ_pure0 ?_ ?_); (next => repeat' first | exact rvs_n | refine rvs_t ?_ | (simp [go_sem]; done)); simp only [go_sem]; (first | exact VLe.refl _ | refine VLe_int ?_ | refine VLe_bool ?_ | refine VLe_str ?_ | skip))
            | (with_reducible refine And.intro ?_ ?_)
            | with_reducible intro _
          all_goals first
            | omega
            | skip
        · simp (disch := omega) only [spar, List.foldl, List.replicate, items, ints, hown', hm, go_sem, wrap64_id, Int.tdiv_eq_ediv_of_nonneg, Int.tmod_eq_emod_of_nonneg]
          repeat' first
            | ((first | refine fnQ_pure1 ?_ ?_ | refine fnQ_pure0 ?_ ?_); (next => repeat' first | exact rvs_n | refine rvs_t ?_ | (simp [go_sem]; done)); simp only [go_sem]; (first | exact VLe.refl _ | refine VLe_int ?_ | refine VLe_bool ?_ | refine VLe_str ?_ | skip))
            | (with_reducible refine And.intro ?_ ?_)
            | with_reducible intro _
          all_goals first
            | omega
            | skip
          refine loop_of (T := fun to : Nat => spar 98 [(0, items l), (1, .int .i64 width), (2, ints ps), (7, .int .i64 f), (8, .int .i64 to)]) (H := fun _ => h) (inv := fun to => f ≤ to ∧ to ≤ l.length + 1 ∧ (arcsTo l width f to).any (refBad l.length ps own) = false) (m := fun to => l.length + 1 - to) f ⟨by omega, by omega, by rw [arcsTo_self]; rfl⟩ (Wk.temps ?_) ?_
          · (simp only [items, ints, spar, List.foldl, List.replicate, go_sem, VLes_nil, VLes_cons, VLe_undef_iff, VLe_self]; try (repeat' first | (with_reducible refine And.intro ?_ ?_) | (refine VLe_int ?_; omega) | (refine VLe_bool ?_; rfl) | exact VLe.refl _))
          · rintro to ⟨j1, j2, j3⟩ K2 hK2
            by_cases ht : to ≤ l.length
            · have hx1 : ((to : Int) + 1).toNat = to + 1 := by omega
              have hab : arc l width f to = if ends l to && free l f to then cost l width f to else none := rfl
              have hskip : arc l width f to = none → (arcsTo l width f (to + 1)).any (refBad l.length ps own) = false := fun h0 => by rw [arcsTo_none j1 h0]; exact j3
              have hc54 := fun h => t54 l width f to h hv w0 w1 (by omega) ht
              cases he : ends l to with
              | false =>
                have h0 : arc l width f to = none := by rw [hab, he]; rfl
                simp (disch := omega) only [spar, List.foldl, List.replicate, items, ints, go_sem, wrap64_id, Int.tdiv_eq_ediv_of_nonneg, Int.tmod_eq_emod_of_nonneg]
                repeat' first
                  | (refine callG_false ((.bool false)) ?_; simp (disch := omega) only [items, ints, he, go_sem, wrap64_id, Int.tdiv_eq_ediv_of_nonneg, Int.tmod_eq_emod_of_nonneg])
                  | ((first | refine callA_pure (t56 l to _ ht (by omega)) ?_ ?_ | refine callA_pure (t57 l f to _ (by omega) (by omega)) ?_ ?_); (next => repeat' first | exact flags_n | refine flags_c (by first | rfl | assumption) ?_); simp (disch := omega) only [items, ints, he, go_sem, wrap64_id, Int.tdiv_eq_ediv_of_nonneg, Int.tmod_eq_emod_of_nonneg])
                  | ((first | refine callG_pure (fun e => ⟨?_, t56 l to _ ht (by omega)⟩) ?_ | refine callG_pure (fun e => ⟨?_, t57 l f to _ (by omega) (by omega)⟩) ?_); (next => repeat' first | exact flags_n | refine flags_c (by first | rfl | assumption) ?_); simp (disch := omega) only [items, ints, he, go_sem, wrap64_id, Int.tdiv_eq_ediv_of_nonneg, Int.tmod_eq_emod_of_nonneg])
                  | ((first | refine fnQ_pure1 ?_ ?_ | refine fnQ_pure0 ?_ ?_); (next => repeat' first | exact rvs_n | refine rvs_t ?_ | (simp [go_sem]; done)); simp only [go_sem]; (first | exact VLe.refl _ | refine VLe_int ?_ | refine VLe_bool ?_ | refine VLe_str ?_ | skip))
                  | (with_reducible refine And.intro ?_ ?_)
                  | with_reducible intro _
                all_goals first
                  | omega
                  | skip
                refine hK2 _ _ (to + 1) ⟨by omega, by omega, hskip h0⟩ (by omega) (Wk.temps ?_)
                (simp only [items, ints, spar, List.foldl, List.replicate, go_sem, VLes_nil, VLes_cons, VLe_undef_iff, VLe_self]; try (repeat' first | (with_reducible refine And.intro ?_ ?_) | (refine VLe_int ?_; omega) | (refine VLe_bool ?_; rfl) | exact VLe.refl _))
              | true =>
                cases hfr : free l f to with
                | false =>
                  have h0 : arc l width f to = none := by rw [hab, he, hfr]; rfl
                  simp (disch := omega) only [spar, List.foldl, List.replicate, items, ints, go_sem, wrap64_id, Int.tdiv_eq_ediv_of_nonneg, Int.tmod_eq_emod_of_nonneg]
                  repeat' first
                    | ((first | refine callA_pure (t56 l to _ ht (by omega)) ?_ ?_ | refine callA_pure (t57 l f to _ (by omega) (by omega)) ?_ ?_); (next => repeat' first | exact flags_n | refine flags_c (by first | rfl | assumption) ?_); simp (disch := omega) only [items, ints, he, hfr, go_sem, wrap64_id, Int.tdiv_eq_ediv_of_nonneg, Int.tmod_eq_emod_of_nonneg])
                    | ((first | refine callG_pure (fun e => ⟨?_, t56 l to _ ht (by omega)⟩) ?_ | refine callG_pure (fun e => ⟨?_, t57 l f to _ (by omega) (by omega)⟩) ?_); (next => repeat' first | exact flags_n | refine flags_c (by first | rfl | assumption) ?_); simp (disch := omega) only [items, ints, he, hfr, go_sem, wrap64_id, Int.tdiv_eq_ediv_of_nonneg, Int.tmod_eq_emod_of_nonneg])
                    | ((first | refine fnQ_pure1 ?_ ?_ | refine fnQ_pure0 ?_ ?_); (next => repeat' first | exact rvs_n | refine rvs_t ?_ | (simp [go_sem]; done)); simp only [go_sem]; (first | exact VLe.refl _ | refine VLe_int ?_ | refine VLe_bool ?_ | refine VLe_str ?_ | skip))
                    | (with_reducible refine And.intro ?_ ?_)
                    | with_reducible intro _
                  all_goals first
                    | omega
                    | skip
                  refine hK2 _ _ (to + 1) ⟨by omega, by omega, hskip h0⟩ (by omega) (Wk.temps ?_)
                  (simp only [items, ints, spar, List.foldl, List.replicate, go_sem, VLes_nil, VLes_cons, VLe_undef_iff, VLe_self]; try (repeat' first | (with_reducible refine And.intro ?_ ?_) | (refine VLe_int ?_; omega) | (refine VLe_bool ?_; rfl) | exact VLe.refl _))
                | true =>
                  cases hco : cost l width f to with
                  | none =>
                    have h0 : arc l width f to = none := by rw [hab, he, hfr, hco]; rfl
                    rw [hco] at hc54
                    simp only [Option.isSome_none, Option.getD_none] at hc54
                    simp (disch := omega) only [spar, List.foldl, List.replicate, items, ints, go_sem, wrap64_id, Int.tdiv_eq_ediv_of_nonneg, Int.tmod_eq_emod_of_nonneg]
                    repeat' first
                      | ((first | refine callA_pure (t56 l to _ ht (by omega)) ?_ ?_ | refine callA_pure (t57 l f to _ (by omega) (by omega)) ?_ ?_ | refine callA_pure (hc54 _) ?_ ?_); (next => repeat' first | exact flags_n | refine flags_c (by first | rfl | assumption) ?_); simp (disch := omega) only [items, ints, he, hfr, go_sem, wrap64_id, Int.tdiv_eq_ediv_of_nonneg, Int.tmod_eq_emod_of_nonneg])
                      | ((first | refine callG_pure (fun e => ⟨?_, t56 l to _ ht (by omega)⟩) ?_ | refine callG_pure (fun e => ⟨?_, t57 l f to _ (by omega) (by omega)⟩) ?_ | refine callG_pure (fun e => ⟨?_, hc54 _⟩) ?_); (next => repeat' first | exact flags_n | refine flags_c (by first | rfl | assumption) ?_); simp (disch := omega) only [items, ints, he, hfr, go_sem, wrap64_id, Int.tdiv_eq_ediv_of_nonneg, Int.tmod_eq_emod_of_nonneg])
                      | ((first | refine fnQ_pure1 ?_ ?_ | refine fnQ_pure0 ?_ ?_); (next => repeat' first | exact rvs_n | refine rvs_t ?_ | (simp [go_sem]; done)); simp only [go_sem]; (first | exact VLe.refl _ | refine VLe_int ?_ | refine VLe_bool ?_ | refine VLe_str ?_ | skip))
                      | (with_reducible refine And.intro ?_ ?_)
                      | with_reducible intro _
                    all_goals first
                      | omega
                      | skip
                    refine hK2 _ _ (to + 1) ⟨by omega, by omega, hskip h0⟩ (by omega) (Wk.temps ?_)
                    (simp only [items, ints, spar, List.foldl, List.replicate, go_sem, VLes_nil, VLes_cons, VLe_undef_iff, VLe_self]; try (repeat' first | (with_reducible refine And.intro ?_ ?_) | (refine VLe_int ?_; omega) | (refine VLe_bool ?_; rfl) | exact VLe.refl _))
                  | some c =>
                    have h0 : arc l width f to = some c := by rw [hab, he, hfr, hco]; rfl
                    have hcb := arc_bound hv.ok h0
                    rw [hco] at hc54
                    simp only [Option.isSome_some, Option.getD_some] at hc54
                    have hgo : refBad l.length ps own (to, c) = false → (arcsTo l width f (to + 1)).any (refBad l.length ps own) = false := fun hh => by rw [arcsTo_some j1 h0, List.any_append, j3]; simp [hh]
                    have hstop : refBad l.length ps own (to, c) = true → boundsS l width ps = false := fun hh => ref_false j1 ht h0 (by rw [hown']; exact hh)
                    by_cases hlt : to < l.length
                    · obtain ⟨r, hr⟩ : ∃ r, r = ps.getD (to + 1) 0 := ⟨_, rfl⟩
                      have hrb : refBad l.length ps own (to, c) = (!decide (r = -1) && (decide (own = -1) || decide (r < own - c))) := by unfold refBad; rw [if_pos hlt, ← hr]
                      have hr' := hr.symm
                      by_cases g1 : r = -1
                      · have hgo' := hgo (by rw [hrb, decide_eq_true g1]; rfl)
                        simp (disch := omega) only [spar, List.foldl, List.replicate, items, ints, hlt, hx1, hr', g1, hown', go_sem, wrap64_id, Int.tdiv_eq_ediv_of_nonneg, Int.tmod_eq_emod_of_nonneg]
                        repeat' first
                          | ((first | refine callA_pure (t56 l to _ ht (by omega)) ?_ ?_ | refine callA_pure (t57 l f to _ (by omega) (by omega)) ?_ ?_ | refine callA_pure (hc54 _) ?_ ?_); (next => repeat' first | exact flags_n | refine flags_c (by first | rfl | assumption) ?_); simp (disch := omega) only [items, ints, he, hfr, hlt, hx1, hr', g1, hown', go_sem, wrap64_id, Int.tdiv_eq_ediv_of_nonneg, Int.tmod_eq_emod_of_nonneg])
                          | ((first | refine callG_pure (fun e => ⟨?_, t56 l to _ ht (by omega)⟩) ?_ | refine callG_pure (fun e => ⟨?_, t57 l f to _ (by omega) (by omega)⟩) ?_ | refine callG_pure (fun e => ⟨?_, hc54 _⟩) ?_); (next => repeat' first | exact flags_n | refine flags_c (by first | rfl | assumption) ?_); simp (disch := omega) only [items, ints, he, hfr, hlt, hx1, hr', g1, hown', go_sem, wrap64_id, Int.tdiv_eq_ediv_of_nonneg, Int.tmod_eq_emod_of_nonneg])
                          | ((first | refine fnQ_pure1 ?_ ?_ | refine fnQ_pure0 ?_ ?_); (next => repeat' first | exact rvs_n | refine rvs_t ?_ | (simp [go_sem]; done)); simp only [go_sem]; (first | exact VLe.refl _ | refine VLe_int ?_ | refine VLe_bool ?_ | refine VLe_str ?_ | skip))
                          | (with_reducible refine And.intro ?_ ?_)
                          | with_reducible intro _
                        all_goals first
                          | omega
                          | skip
                        refine hK2 _ _ (to + 1) ⟨by omega, by omega, hgo'⟩ (by omega) (Wk.temps ?_)
                        (simp only [items, ints, spar, List.foldl, List.replicate, go_sem, VLes_nil, VLes_cons, VLe_undef_iff, VLe_self]; try (repeat' first | (with_reducible refine And.intro ?_ ?_) | (refine VLe_int ?_; omega) | (refine VLe_bool ?_; rfl) | exact VLe.refl _))
                      · by_cases g2 : own = -1 ∨ r < own - c
                        · have hb := hstop (by rw [hrb, decide_eq_false g1]; simpa using g2)
                          rw [hb]
                          simp (disch := omega) only [spar, List.foldl, List.replicate, items, ints, hlt, hx1, hr', g1, hown', go_sem, wrap64_id, Int.tdiv_eq_ediv_of_nonneg, Int.tmod_eq_emod_of_nonneg]
                          repeat' first
                            | ((first | refine callA_pure (t56 l to _ ht (by omega)) ?_ ?_ | refine callA_pure (t57 l f to _ (by omega) (by omega)) ?_ ?_ | refine callA_pure (hc54 _) ?_ ?_); (next => repeat' first | exact flags_n | refine flags_c (by first | rfl | assumption) ?_); simp (disch := omega) only [items, ints, he, hfr, hlt, hx1, hr', g1, hown', go_sem, wrap64_id, Int.tdiv_eq_ediv_of_nonneg, Int.tmod_eq_emod_of_nonneg])
                            | ((first | refine callG_pure (fun e => ⟨?_, t56 l to _ ht (by omega)⟩) ?_ | refine callG_pure (fun e => ⟨?_, t57 l f to _ (by omega) (by omega)⟩) ?_ | refine callG_pure (fun e => ⟨?_, hc54 _⟩) ?_); (next => repeat' first | exact flags_n | refine flags_c (by first | rfl | assumption) ?_); simp (disch := omega) only [items, ints, he, hfr, hlt, hx1, hr', g1, hown', go_sem, wrap64_id, Int.tdiv_eq_ediv_of_nonneg, Int.tmod_eq_emod_of_nonneg])
                            | ((first | refine fnQ_pure1 ?_ ?_ | refine fnQ_pure0 ?_ ?_); (next => repeat' first | exact rvs_n | refine rvs_t ?_ | (simp [go_sem]; done)); simp only [go_sem]; (first | exact VLe.refl _ | refine VLe_int ?_ | refine VLe_bool ?_ | refine VLe_str ?_ | skip))
                            | (with_reducible refine And.intro ?_ ?_)
                            | with_reducible intro _
                          all_goals first
                            | omega
                            | skip
                        · have hgo' := hgo (by rw [hrb, decide_eq_false g1]; simpa using g2)
                          simp (disch := omega) only [spar, List.foldl, List.replicate, items, ints, hlt, hx1, hr', g1, hown', go_sem, wrap64_id, Int.tdiv_eq_ediv_of_nonneg, Int.tmod_eq_emod_of_nonneg]
                          repeat' first
                            | ((first | refine callA_pure (t56 l to _ ht (by omega)) ?_ ?_ | refine callA_pure (t57 l f to _ (by omega) (by omega)) ?_ ?_ | refine callA_pure (hc54 _) ?_ ?_); (next => repeat' first | exact flags_n | refine flags_c (by first | rfl | assumption) ?_); simp (disch := omega) only [items, ints, he, hfr, hlt, hx1, hr', g1, hown', go_sem, wrap64_id, Int.tdiv_eq_ediv_of_nonneg, Int.tmod_eq_emod_of_nonneg])
                            | ((first | refine callG_pure (fun e => ⟨?_, t56 l to _ ht (by omega)⟩) ?_ | refine callG_pure (fun e => ⟨?_, t57 l f to _ (by omega) (by omega)⟩) ?_ | refine callG_pure (fun e => ⟨?_, hc54 _⟩) ?_); (next => repeat' first | exact flags_n | refine flags_c (by first | rfl | assumption) ?_); simp (disch := omega) only [items, ints, he, hfr, hlt, hx1, hr', g1, hown', go_sem, wrap64_id, Int.tdiv_eq_ediv_of_nonneg, Int.tmod_eq_emod_of_nonneg])
                            | ((first | refine fnQ_pure1 ?_ ?_ | refine fnQ_pure0 ?_ ?_); (next => repeat' first | exact rvs_n | refine rvs_t ?_ | (simp [go_sem]; done)); simp only [go_sem]; (first | exact VLe.refl _ | refine VLe_int ?_ | refine VLe_bool ?_ | refine VLe_str ?_ | skip))
                            | (with_reducible refine And.intro ?_ ?_)
                            | with_reducible intro _
                          all_goals first
                            | omega
                            | skip
                          refine hK2 _ _ (to + 1) ⟨by omega, by omega, hgo'⟩ (by omega) (Wk.temps ?_)
                          (simp only [items, ints, spar, List.foldl, List.replicate, go_sem, VLes_nil, VLes_cons, VLe_undef_iff, VLe_self]; try (repeat' first | (with_reducible refine And.intro ?_ ?_) | (refine VLe_int ?_; omega) | (refine VLe_bool ?_; rfl) | exact VLe.refl _))
                    · have hrb : refBad l.length ps own (to, c) = (decide (own = -1) || decide (c < own)) := by unfold refBad; rw [if_neg hlt]
                      by_cases g2 : own = -1 ∨ c < own
                      · have hb := hstop (by rw [hrb]; simpa using g2)
                        rw [hb]
                        simp (disch := omega) only [spar, List.foldl, List.replicate, items, ints, hlt, hown', go_sem, wrap64_id, Int.tdiv_eq_ediv_of_nonneg, Int.tmod_eq_emod_of_nonneg]
                        repeat' first
                          | ((first | refine callA_pure (t56 l to _ ht (by omega)) ?_ ?_ | refine callA_pure (t57 l f to _ (by omega) (by omega)) ?_ ?_ | refine callA_pure (hc54 _) ?_ ?_); (next => repeat' first | exact flags_n | refine flags_c (by first | rfl | assumption) ?_); simp (disch := omega) only [items, ints, he, hfr, hlt, hown', go_sem, wrap64_id, Int.tdiv_eq_ediv_of_nonneg, Int.tmod_eq_emod_of_nonneg])
                          | ((first | refine callG_pure (fun e => ⟨?_, t56 l to _ ht (by omega)⟩) ?_ | refine callG_pure (fun e => ⟨?_, t57 l f to _ (by omega) (by omega)⟩) ?_ | refine callG_pure (fun e => ⟨?_, hc54 _⟩) ?_); (next => repeat' first | exact flags_n | refine flags_c (by first | rfl | assumption) ?_); simp (disch := omega) only [items, ints, he, hfr, hlt, hown', go_sem, wrap64_id, Int.tdiv_eq_ediv_of_nonneg, Int.tmod_eq_emod_of_nonneg])
                          | ((first | refine fnQ_pure1 ?_ ?_ | refine fnQ_pure0 ?_ ?_); (next => repeat' first | exact rvs_n | refine rvs_t ?_ | (simp [go_sem]; done)); simp only [go_sem]; (first | exact VLe.refl _ | refine VLe_int ?_ | refine VLe_bool ?_ | refine VLe_str ?_ | skip))
                          | (with_reducible refine And.intro ?_ ?_)
                          | with_reducible intro _
                        all_goals first
                          | omega
                          | skip
                      · have hgo' := hgo (by rw [hrb]; simpa using g2)
                        simp (disch := omega) only [spar, List.foldl, List.replicate, items, ints, hlt, hown', go_sem, wrap64_id, Int.tdiv_eq_ediv_of_nonneg, Int.tmod_eq_emod_of_nonneg]
                        repeat' first
                          | ((first | refine callA_pure (t56 l to _ ht (by omega)) ?_ ?_ | refine callA_pure (t57 l f to _ (by omega) (by omega)) ?_ ?_ | refine callA_pure (hc54 _) ?_ ?_); (next => repeat' first | exact flags_n | refine flags_c (by first | rfl | assumption) ?_); simp (disch := omega) only [items, ints, he, hfr, hlt, hown', go_sem, wrap64_id, Int.tdiv_eq_ediv_of_nonneg, Int.tmod_eq_emod_of_nonneg])
                          | ((first | refine callG_pure (fun e => ⟨?_, t56 l to _ ht (by omega)⟩) ?_ | refine callG_pure (fun e => ⟨?_, t57 l f to _ (by omega) (by omega)⟩) ?_ | refine callG_pure (fun e => ⟨?_, hc54 _⟩) ?_); (next => repeat' first | exact flags_n | refine flags_c (by first | rfl | assumption) ?_); simp (disch := omega) only [items, ints, he, hfr, hlt, hown', go_sem, wrap64_id, Int.tdiv_eq_ediv_of_nonneg, Int.tmod_eq_emod_of_nonneg])
                          | ((first | refine fnQ_pure1 ?_ ?_ | refine fnQ_pure0 ?_ ?_); (next => repeat' first | exact rvs_n | refine rvs_t ?_ | (simp [go_sem]; done)); simp only [go_sem]; (first | exact VLe.refl _ | refine VLe_int ?_ | refine VLe_bool ?_ | refine VLe_str ?_ | skip))
                          | (with_reducible refine And.intro ?_ ?_)
                          | with_reducible intro _
                        all_goals first
                          | omega
                          | skip
                        refine hK2 _ _ (to + 1) ⟨by omega, by omega, hgo'⟩ (by omega) (Wk.temps ?_)
                        (simp only [items, ints, spar, List.foldl, List.replicate, go_sem, VLes_nil, VLes_cons, VLe_undef_iff, VLe_self]; try (repeat' first | (with_reducible refine And.intro ?_ ?_) | (refine VLe_int ?_; omega) | (refine VLe_bool ?_; rfl) | exact VLe.refl _))
            · have e : to = l.length + 1 := by omega
              subst e
              rw [arcsTo_all] at j3
              simp (disch := omega) only [spar, List.foldl, List.replicate, items, ints, go_sem, wrap64_id, Int.tdiv_eq_ediv_of_nonneg, Int.tmod_eq_emod_of_nonneg]
              repeat' first
                | ((first | refine fnQ_pure1 ?_ ?_ | refine fnQ_pure0 ?_ ?_); (next => repeat' first | exact rvs_n | refine rvs_t ?_ | (simp [go_sem]; done)); simp only [go_sem]; (first | exact VLe.refl _ | refine VLe_int ?_ | refine VLe_bool ?_ | refine VLe_str ?_ | skip))
                | (with_reducible refine And.intro ?_ ?_)
                | with_reducible intro _
              all_goals first
                | omega
                | skip
              refine hK _ _ (f + 1) ⟨by omega, fun j hj => ?_⟩ (by omega) (Wk.temps ?_)
              · by_cases e : j = f
                · subst e; unfold refFrom; rw [hown', j3, decide_eq_false hm]; rfl
                · exact f2 j (by omega)
              · (simp only [items, ints, spar, List.foldl, List.replicate, go_sem, VLes_nil, VLes_cons, VLe_undef_iff, VLe_self]; try (repeat' first | (with_reducible refine And.intro ?_ ?_) | (refine VLe_int ?_; omega) | (refine VLe_bool ?_; rfl) | exact VLe.refl _))
      · have e : f = l.length + 1 := by omega
        subst e
        have hb : boundsS l width ps = true := by
          unfold boundsS
          rw [decide_eq_true hlen, Bool.true_and, List.all_eq_true]
          intro j hj
          exact f2 j (by simpa using hj)
        rw [hb]
        simp (disch := omega) only [spar, List.foldl, List.replicate, items, ints, go_sem, wrap64_id, Int.tdiv_eq_ediv_of_nonneg, Int.tmod_eq_emod_of_nonneg]
        repeat' first
          | ((first | refine fnQ_pure1 ?_ ?_ | refine fnQ_pure0 ?_ ?_); (next => repeat' first | exact rvs_n | refine rvs_t ?_ | (simp [go_sem]; done)); simp only [go_sem]; (first | exact VLe.refl _ | refine VLe_int ?_ | refine VLe_bool ?_ | refine VLe_str ?_ | skip))
          | (with_reducible refine And.intro ?_ ?_)
          | with_reducible intro _
        all_goals first
          | omega
          | skip
  · have hb : boundsS l width ps = false := by unfold boundsS; simp [hlen]
    rw [hb]
    have hne : ((ps.length : Int) = (l.length : Int) + 1) = False := eq_false (by omega)
    refine acalls_of fn58 (by simp) ?_
    simp only [List.length_cons, List.length_nil, Nat.reduceAdd, Nat.reduceSub, List.replicate, List.cons_append, List.nil_append, List.append_nil]
    simp (disch := omega) only [c58, items, ints, hne, go_sem, wrap64_id, Int.tdiv_eq_ediv_of_nonneg, Int.tmod_eq_emod_of_nonneg]
    repeat' first
      | ((first | refine fnQ_pure1 ?_ ?_ | refine fnQ_pure0 ?_ ?_); (next => repeat' first | exact rvs_n | refine rvs_t ?_ | (simp [go_sem]; done)); simp only [go_sem]; (first | exact VLe.refl _ | refine VLe_int ?_ | refine VLe_bool ?_ | refine VLe_str ?_ | skip))
      | (with_reducible refine And.intro ?_ ?_)
      | with_reducible intro _
    all_goals first
      | omega
      | skip
theorem t30 (l : List It) (width : Int) (bs ps : List Int) (h : List AObj) (hl : l.length ≤ 300) (hb : bs.length ≤ 1000000) (hp : ps.length ≤ 1000000) (hps : ∀ j, ps.getD j 0 ≤ 9223372036854775807) :
    ACalls Try.prog 30 [items l, .int .i64 width, ints bs, ints ps] h (.int .i64 (verifyS l width bs ps)) h := by
  obtain ⟨c, hcc⟩ : ∃ c, c = costS l width bs := ⟨_, rfl⟩
  have hc24 : ∀ h : List AObj, ACalls Try.prog 24 [items l, .int .i64 width, ints bs] h (.tup [.int .i64 c.1, .int .i64 c.2]) h := fun h => by rw [hcc]; exact t24 l width bs h hl hb
  by_cases h0 : c.2 = 0
  · have hw : checkW l width = 0 := by
      by_cases hw : checkW l width = 0
      · exact hw
      · rw [hcc] at h0
        unfold costS linesS at h0
        rw [if_neg hw, if_neg hw] at h0
        exact absurd h0 hw
    obtain ⟨hck, w0, w1⟩ := checkW_range l width hw
    have hv := Valid.of hl hck
    rw [verify_ref l width bs ps hw, ← hcc, if_pos h0]
    cases hbd : boundsS l width ps with
    | false =>
      refine acalls_of fn30 (by simp) ?_
      simp only [List.length_cons, List.length_nil, Nat.reduceAdd, Nat.reduceSub, List.replicate, List.cons_append, List.nil_append, List.append_nil]
      simp (disch := omega) only [c30, ints, go_sem, wrap64_id, Int.tdiv_eq_ediv_of_nonneg, Int.tmod_eq_emod_of_nonneg]
      repeat' first
        | ((first | refine callA_pure (hc24 _) ?_ ?_ | refine callA_pure (t58 l width ps _ hv hck w0 w1 hp hps) ?_ ?_); (next => repeat' first | exact flags_n | refine flags_c (by first | rfl | assumption) ?_); simp (disch := omega) only [h0, hbd, ints, go_sem, wrap64_id, Int.tdiv_eq_ediv_of_nonneg, Int.tmod_eq_emod_of_nonneg])
        | ((first | refine callG_pure (fun e => ⟨?_, hc24 _⟩) ?_ | refine callG_pure (fun e => ⟨?_, t58 l width ps _ hv hck w0 w1 hp hps⟩) ?_); (next => repeat' first | exact flags_n | refine flags_c (by first | rfl | assumption) ?_); simp (disch := omega) only [h0, hbd, ints, go_sem, wrap64_id, Int.tdiv_eq_ediv_of_nonneg, Int.tmod_eq_emod_of_nonneg])
        | ((first | refine fnQ_pure1 ?_ ?_ | refine fnQ_pure0 ?_ ?_); (next => repeat' first | exact rvs_n | refine rvs_t ?_ | (simp [go_sem]; done)); simp only [go_sem]; (first | exact VLe.refl _ | refine VLe_int ?_ | refine VLe_bool ?_ | refine VLe_str ?_ | skip))
        | (with_reducible refine And.intro ?_ ?_)
        | with_reducible intro _
      all_goals first
        | omega
        | (rename_i hx; revert hx; simp; done)
        | skip
    | true =>
      have hlen : 0 < ps.length := by
        unfold boundsS at hbd
        simp only [Bool.and_eq_true, decide_eq_true_eq] at hbd
        omega
      by_cases he : c.1 = ps.getD 0 0
      · refine acalls_of fn30 (by simp) ?_
        simp only [List.length_cons, List.length_nil, Nat.reduceAdd, Nat.reduceSub, List.replicate, List.cons_append, List.nil_append, List.append_nil]
        simp (disch := omega) only [c30, ints, go_sem, wrap64_id, Int.tdiv_eq_ediv_of_nonneg, Int.tmod_eq_emod_of_nonneg]
        repeat' first
          | ((first | refine callA_pure (hc24 _) ?_ ?_ | refine callA_pure (t58 l width ps _ hv hck w0 w1 hp hps) ?_ ?_); (next => repeat' first | exact flags_n | refine flags_c (by first | rfl | assumption) ?_); simp (disch := omega) only [h0, hbd, ints, he, go_sem, wrap64_id, Int.tdiv_eq_ediv_of_nonneg, Int.tmod_eq_emod_of_nonneg])
          | ((first | refine callG_pure (fun e => ⟨?_, hc24 _⟩) ?_ | refine callG_pure (fun e => ⟨?_, t58 l width ps _ hv hck w0 w1 hp hps⟩) ?_); (next => repeat' first | exact flags_n | refine flags_c (by first | rfl | assumption) ?_); simp (disch := omega) only [h0, hbd, ints, he, go_sem, wrap64_id, Int.tdiv_eq_ediv_of_nonneg, Int.tmod_eq_emod_of_nonneg])
          | ((first | refine fnQ_pure1 ?_ ?_ | refine fnQ_pure0 ?_ ?_); (next => repeat' first | exact rvs_n | refine rvs_t ?_ | (simp [go_sem]; done)); simp only [go_sem]; (first | exact VLe.refl _ | refine VLe_int ?_ | refine VLe_bool ?_ | refine VLe_str ?_ | skip))
          | (with_reducible refine And.intro ?_ ?_)
          | with_reducible intro _
        all_goals first
          | omega
          | (rename_i hx; revert hx; simp; done)
          | (simp [he]; done)
          | skip
      · refine acalls_of fn30 (by simp) ?_
        simp only [List.length_cons, List.length_nil, Nat.reduceAdd, Nat.reduceSub, List.replicate, List.cons_append, List.nil_append, List.append_nil]
        simp (disch := omega) only [c30, ints, go_sem, wrap64_id, Int.tdiv_eq_ediv_of_nonneg, Int.tmod_eq_emod_of_nonneg]
        repeat' first
          | ((first | refine callA_pure (hc24 _) ?_ ?_ | refine callA_pure (t58 l width ps _ hv hck w0 w1 hp hps) ?_ ?_); (next => repeat' first | exact flags_n | refine flags_c (by first | rfl | assumption) ?_); simp (disch := omega) only [h0, hbd, ints, he, go_sem, wrap64_id, Int.tdiv_eq_ediv_of_nonneg, Int.tmod_eq_emod_of_nonneg])
          | ((first | refine callG_pure (fun e => ⟨?_, hc24 _⟩) ?_ | refine callG_pure (fun e => ⟨?_, t58 l width ps _ hv hck w0 w1 hp hps⟩) ?_); (next => repeat' first | exact flags_n | refine flags_c (by first | rfl | assumption) ?_); simp (disch := omega) only [h0, hbd, ints, he, go_sem, wrap64_id, Int.tdiv_eq_ediv_of_nonneg, Int.tmod_eq_emod_of_nonneg])
          | ((first | refine fnQ_pure1 ?_ ?_ | refine fnQ_pure0 ?_ ?_); (next => repeat' first | exact rvs_n | refine rvs_t ?_ | (simp [go_sem]; done)); simp only [go_sem]; (first | exact VLe.refl _ | refine VLe_int ?_ | refine VLe_bool ?_ | refine VLe_str ?_ | skip))
          | (with_reducible refine And.intro ?_ ?_)
          | with_reducible intro _
        all_goals first
          | omega
          | (rename_i hx; revert hx; simp; done)
          | (simp [he]; done)
          | skip
  · have e : verifyS l width bs ps = c.2 := by unfold verifyS; rw [← hcc, if_neg h0]
    rw [e]
    refine acalls_of fn30 (by simp) ?_
    simp only [List.length_cons, List.length_nil, Nat.reduceAdd, Nat.reduceSub, List.replicate, List.cons_append, List.nil_append, List.append_nil]
    simp (disch := omega) only [c30, ints, go_sem, wrap64_id, Int.tdiv_eq_ediv_of_nonneg, Int.tmod_eq_emod_of_nonneg]
    repeat' first
      | ((first | refine callA_pure (hc24 _) ?_ ?_); (next => repeat' first | exact flags_n | refine flags_c (by first | rfl | assumption) ?_); simp (disch := omega) only [h0, ints, go_sem, wrap64_id, Int.tdiv_eq_ediv_of_nonneg, Int.tmod_eq_emod_of_nonneg])
      | ((first | refine callG_pure (fun e => ⟨?_, hc24 _⟩) ?_); (next => repeat' first | exact flags_n | refine flags_c (by first | rfl | assumption) ?_); simp (disch := omega) only [h0, ints, go_sem, wrap64_id, Int.tdiv_eq_ediv_of_nonneg, Int.tmod_eq_emod_of_nonneg])
      | ((first | refine fnQ_pure1 ?_ ?_ | refine fnQ_pure0 ?_ ?_); (next => repeat' first | exact rvs_n | refine rvs_t ?_ | (simp [go_sem]; done)); simp only [go_sem]; (first | exact VLe.refl _ | refine VLe_int ?_ | refine VLe_bool ?_ | refine VLe_str ?_ | skip))
      | (with_reducible refine And.intro ?_ ?_)
      | with_reducible intro _
    all_goals first
      | omega
      | skip
end

section
/-! the text CA -/
open Go Go.Proofs AF P48
set_option maxRecDepth 100000
theorem t25 (a : List P48.Line) (h : List AObj) (ha : a.length ≤ 1000000) : ACalls Try.prog 25 [lnsV a, lnsV a] h (.bool true) h := by
  refine acalls_of fn25 (by simp) ?_
  simp only [List.length_cons, List.length_nil, Nat.reduceAdd, Nat.reduceSub, List.replicate, List.cons_append, List.nil_append, List.append_nil]
  simp (disch := omega) only [c25, lnsV, go_sem, wrap64_id, Int.tdiv_eq_ediv_of_nonneg, Int.tmod_eq_emod_of_nonneg]
  repeat' first
    | ((first | refine fnQ_pure1 ?_ ?_ | refine fnQ_pure0 ?_ ?_); (next => repeat' first | exact rvs_n | refine rvs_t ?_ | (simp [go_sem]; done)); simp only [go_sem]; (first | exact VLe.refl _ | refine VLe_int ?_ | refine VLe_bool ?_ | refine VLe_str ?_ | skip))
    | (with_reducible refine And.intro ?_ ?_)
    | with_reducible intro _
  all_goals first
    | omega
    | skip
  refine loop_of (T := fun i : Nat => spar 26 [(0, lnsV a), (1, lnsV a), (5, .int .i64 i)]) (H := fun _ => h) (inv := fun i => i ≤ a.length) (m := fun i => a.length - i) 0 (by omega) (Wk.temps ?_) ?_
  · (simp only [lnsV, items, ints, spar, List.foldl, List.replicate, go_sem, VLes_nil, VLes_cons, VLe_undef_iff, VLe_self]; try (repeat' first | (with_reducible refine And.intro ?_ ?_) | (refine VLe_int ?_; omega) | (refine VLe_bool ?_; rfl) | exact VLe.refl _))
  · intro i i1 K hK
    by_cases hi : i < a.length
    · simp (disch := omega) only [spar, List.foldl, List.replicate, lnsV, lineC, go_sem, wrap64_id, Int.tdiv_eq_ediv_of_nonneg, Int.tmod_eq_emod_of_nonneg]
      repeat' first
        | ((first | refine fnQ_pure1 ?_ ?_ | refine fnQ_pure0 ?_ ?_); (next => repeat' first | exact rvs_n | refine rvs_t ?_ | (simp [go_sem]; done)); simp only [go_sem]; (first | exact VLe.refl _ | refine VLe_int ?_ | refine VLe_bool ?_ | refine VLe_str ?_ | skip))
        | (with_reducible refine And.intro ?_ ?_)
        | with_reducible intro _
      all_goals first
        | omega
        | skip
      refine hK _ _ (i + 1) (by omega) (by omega) (Wk.temps ?_)
      (simp only [lnsV, lineC, items, ints, spar, List.foldl, List.replicate, go_sem, VLes_nil, VLes_cons, VLe_undef_iff, VLe_self]; try (repeat' first | (with_reducible refine And.intro ?_ ?_) | (refine VLe_int ?_; omega) | (refine VLe_bool ?_; rfl) | exact VLe.refl _))
    · have e : i = a.length := by omega
      subst e
      simp (disch := omega) only [spar, List.foldl, List.replicate, lnsV, lineC, go_sem, wrap64_id, Int.tdiv_eq_ediv_of_nonneg, Int.tmod_eq_emod_of_nonneg]
      repeat' first
        | ((first | refine fnQ_pure1 ?_ ?_ | refine fnQ_pure0 ?_ ?_); (next => repeat' first | exact rvs_n | refine rvs_t ?_ | (simp [go_sem]; done)); simp only [go_sem]; (first | exact VLe.refl _ | refine VLe_int ?_ | refine VLe_bool ?_ | refine VLe_str ?_ | skip))
        | (with_reducible refine And.intro ?_ ?_)
        | with_reducible intro _
      all_goals first
        | omega
        | skip
theorem breakAV_form (l : List It) (width : Int) : ∃ (x : List Int) (n e : Int), breakAV l width = .tup [ints x, .int .i64 n, .int .i64 e] ∧ x.length ≤ l.length + 1 := by
  unfold breakAV
  split
  · split
    · exact ⟨[], 0, 23, rfl, by simp⟩
    · exact ⟨_, _, 0, rfl, by rw [List.length_map]; exact brkGo_len l width _ _ _⟩
  · exact ⟨[], 0, _, rfl, by simp⟩
theorem feasI_form (l : List It) (width a b : Int) : ∃ (c : Int) (is : Bool) (e : Int), feasI l width a b = .tup [.int .i64 c, .bool is, .int .i64 e] := by
  unfold feasI feasAV
  split
  · split
    · split
      · split
        · split
          · exact ⟨_, _, _, rfl⟩
          · exact ⟨_, _, _, rfl⟩
        · exact ⟨_, _, _, rfl⟩
      · exact ⟨_, _, _, rfl⟩
    · exact ⟨_, _, _, rfl⟩
  · exact ⟨_, _, _, rfl⟩
theorem pots_form (l : List It) (width : Int) : ∃ (q : List Int) (e : Int), (if checkW l width = 0 then AV.tup [ints (pots l width), .int .i64 0] else .tup [ints [], .int .i64 (checkW l width)]) = .tup [ints q, .int .i64 e] ∧ q.length ≤ l.length + 1 := by
  split
  · exact ⟨_, _, rfl, by rw [pots_len]; omega⟩
  · exact ⟨_, _, rfl, by simp⟩
set_option maxHeartbeats 8000000 in
theorem law8 (l : List It) (width a b : Int) (bs ps : List Int) (h : List AObj) (hl : l.length ≤ 9223372036854775807) (hbs : bs.length ≤ 9223372036854775807) (hps : ps.length ≤ 9223372036854775807) (hpm : ∀ j, ps.getD j 0 ≤ 9223372036854775807) :
    ACalls Try.prog 8 [items l, .int .i64 width, .int .i64 a, .int .i64 b, ints bs, ints ps] h (.bool true) h := by
  cases hg : great l with
  | true =>
    refine acalls_of fn8 (by simp) ?_
    simp only [List.length_cons, List.length_nil, Nat.reduceAdd, Nat.reduceSub, List.replicate, List.cons_append, List.nil_append, List.append_nil]
    simp (disch := omega) only [c8, ints, go_sem, wrap64_id, Int.tdiv_eq_ediv_of_nonneg, Int.tmod_eq_emod_of_nonneg]
    repeat' first
      | ((first | refine callA_pure (t22 l _ hl) ?_ ?_ | refine callA_pure (t11 _) ?_ ?_); (next => repeat' first | exact flags_n | refine flags_c (by first | rfl | assumption) ?_); simp (disch := omega) only [hg, ints, go_sem, wrap64_id, Int.tdiv_eq_ediv_of_nonneg, Int.tmod_eq_emod_of_nonneg])
      | ((first | refine callG_pure (fun e => ⟨?_, t22 l _ hl⟩) ?_ | refine callG_pure (fun e => ⟨?_, t11 _⟩) ?_); (next => repeat' first | exact flags_n | refine flags_c (by first | rfl | assumption) ?_); simp (disch := omega) only [hg, ints, go_sem, wrap64_id, Int.tdiv_eq_ediv_of_nonneg, Int.tmod_eq_emod_of_nonneg])
      | ((first | refine fnQ_pure1 ?_ ?_ | refine fnQ_pure0 ?_ ?_); (next => repeat' first | exact rvs_n | refine rvs_t ?_ | (simp [go_sem]; done)); simp only [go_sem]; (first | exact VLe.refl _ | refine VLe_int ?_ | refine VLe_bool ?_ | refine VLe_str ?_ | skip))
      | (with_reducible refine And.intro ?_ ?_)
      | with_reducible intro _
    all_goals first
      | omega
      | trace_state
  | false =>
    have hgs := great_small hg
    by_cases h1 : bs.length ≤ 16
    · by_cases h2 : ps.length ≤ 16
      · obtain ⟨L, hL⟩ : ∃ L, L = linesS l width bs := ⟨_, rfl⟩
        have hLl : L.1.length ≤ 1000000 := by
          rw [hL]
          by_cases h0 : (linesS l width bs).2 = 0
          · have := (linesS_mem h0).1; omega
          · have : (linesS l width bs).1 = [] := by
              unfold linesS at h0 ⊢
              grind
            rw [this]; simp
        have c16 : ∀ h : List AObj, ACalls Try.prog 16 [items l, .int .i64 width, ints bs] h (.tup [lnsV L.1, .int .i64 L.2]) h := fun h => by rw [hL]; exact t16 l width bs h (by omega) (by omega) hgs.2
        have c23 : ∀ h : List AObj, ACalls Try.prog 23 [items l, .int .i64 width, ints bs] h (.tup [lnsV L.1, .int .i64 L.2]) h := fun h => by rw [hL]; exact t23 l width bs h (by omega) (by omega) hgs.2
        obtain ⟨C, hC⟩ : ∃ C, C = costS l width bs := ⟨_, rfl⟩
        have c20 : ∀ h : List AObj, ACalls Try.prog 20 [items l, .int .i64 width, ints bs] h (.tup [.int .i64 C.1, .int .i64 C.2]) h := fun h => by rw [hC]; exact t20 l width bs h (by omega) (by omega) hgs.2
        have c24 : ∀ h : List AObj, ACalls Try.prog 24 [items l, .int .i64 width, ints bs] h (.tup [.int .i64 C.1, .int .i64 C.2]) h := fun h => by rw [hC]; exact t24 l width bs h (by omega) (by omega)
        obtain ⟨x, n, e, hx, hxl⟩ := breakAV_form l width
        have c13 := fun h => t13 l width h (by omega)
        have c26 := fun h => t26 l width h (by omega)
        rw [hx] at c13 c26
        obtain ⟨c, is, e2, hfe⟩ := feasI_form l width a b
        have c15 := fun h => t15g l width a b h (by omega) hgs.2
        have c27 := fun h => t27 l width a b h (by omega)
        rw [hfe] at c15 c27
        obtain ⟨q, e3, hq, hql⟩ := pots_form l width
        have c14 := fun h => t14 l width h (by omega)
        have c29 := fun h => t29 l width h (by omega)
        rw [hq] at c14 c29
        obtain ⟨V, hV⟩ : ∃ V, V = verifyS l width bs ps := ⟨_, rfl⟩
        have c18 := fun h => t18 l width bs ps h (by omega) (by omega) hgs.2 (by omega) hpm
        have c30 := fun h => t30 l width bs ps h (by omega) (by omega) (by omega) hpm
        rw [← hV] at c18 c30
        have c28a := fun h => t28 x x h (by omega)
        have c28b := fun h => t28 q q h (by omega)
        have c25 := fun h => t25 L.1 h hLl
        simp only [decide_true] at c28a c28b
        refine acalls_of fn8 (by simp) ?_
        simp only [List.length_cons, List.length_nil, Nat.reduceAdd, Nat.reduceSub, List.replicate, List.cons_append, List.nil_append, List.append_nil]
        simp (disch := omega) only [c8, hg, ints, lnsV, go_sem, wrap64_id, Int.tdiv_eq_ediv_of_nonneg, Int.tmod_eq_emod_of_nonneg]
        repeat' first
          | ((first | refine callA_pure (t22 l _ hl) ?_ ?_ | refine callA_pure (c16 _) ?_ ?_ | refine callA_pure (c23 _) ?_ ?_ | refine callA_pure (c20 _) ?_ ?_ | refine callA_pure (c24 _) ?_ ?_ | refine callA_pure (c25 _) ?_ ?_ | refine callA_pure (c13 _) ?_ ?_ | refine callA_pure (c26 _) ?_ ?_ | refine callA_pure (c15 _) ?_ ?_ | refine callA_pure (c27 _) ?_ ?_ | refine callA_pure (c28a _) ?_ ?_ | refine callA_pure (c14 _) ?_ ?_ | refine callA_pure (c29 _) ?_ ?_ | refine callA_pure (c28b _) ?_ ?_ | refine callA_pure (c18 _) ?_ ?_ | refine callA_pure (c30 _) ?_ ?_ | refine callA_pure (t11 _) ?_ ?_); (next => repeat' first | exact flags_n | refine flags_c (by first | rfl | assumption) ?_); simp (disch := omega) only [hg, ints, lnsV, eq_self, go_sem, wrap64_id, Int.tdiv_eq_ediv_of_nonneg, Int.tmod_eq_emod_of_nonneg])
          | ((first | refine callG_pure (fun e => ⟨?_, t22 l _ hl⟩) ?_ | refine callG_pure (fun e => ⟨?_, c16 _⟩) ?_ | refine callG_pure (fun e => ⟨?_, c23 _⟩) ?_ | refine callG_pure (fun e => ⟨?_, c20 _⟩) ?_ | refine callG_pure (fun e => ⟨?_, c24 _⟩) ?_ | refine callG_pure (fun e => ⟨?_, c25 _⟩) ?_ | refine callG_pure (fun e => ⟨?_, c13 _⟩) ?_ | refine callG_pure (fun e => ⟨?_, c26 _⟩) ?_ | refine callG_pure (fun e => ⟨?_, c15 _⟩) ?_ | refine callG_pure (fun e => ⟨?_, c27 _⟩) ?_ | refine callG_pure (fun e => ⟨?_, c28a _⟩) ?_ | refine callG_pure (fun e => ⟨?_, c14 _⟩) ?_ | refine callG_pure (fun e => ⟨?_, c29 _⟩) ?_ | refine callG_pure (fun e => ⟨?_, c28b _⟩) ?_ | refine callG_pure (fun e => ⟨?_, c18 _⟩) ?_ | refine callG_pure (fun e => ⟨?_, c30 _⟩) ?_ | refine callG_pure (fun e => ⟨?_, t11 _⟩) ?_); (next => repeat' first | exact flags_n | refine flags_c (by first | rfl | assumption) ?_); simp (disch := omega) only [hg, ints, lnsV, eq_self, go_sem, wrap64_id, Int.tdiv_eq_ediv_of_nonneg, Int.tmod_eq_emod_of_nonneg])
          | ((first | refine fnQ_pure1 ?_ ?_ | refine fnQ_pure0 ?_ ?_); (next => repeat' first | exact rvs_n | refine rvs_t ?_ | (simp [go_sem]; done)); simp only [go_sem]; (first | exact VLe.refl _ | refine VLe_int ?_ | refine VLe_bool ?_ | refine VLe_str ?_ | skip))
          | (with_reducible refine And.intro ?_ ?_)
          | with_reducible intro _
        all_goals first
          | omega
          | (rename_i hx; revert hx; simp; done)
          | trace_state
      · refine acalls_of fn8 (by simp) ?_
        simp only [List.length_cons, List.length_nil, Nat.reduceAdd, Nat.reduceSub, List.replicate, List.cons_append, List.nil_append, List.append_nil]
        simp (disch := omega) only [c8, hg, ints, lnsV, go_sem, wrap64_id, Int.tdiv_eq_ediv_of_nonneg, Int.tmod_eq_emod_of_nonneg]
        repeat' first
          | ((first | refine callA_pure (t22 l _ hl) ?_ ?_ | refine callA_pure (t11 _) ?_ ?_); (next => repeat' first | exact flags_n | refine flags_c (by first | rfl | assumption) ?_); simp (disch := omega) only [hg, ints, go_sem, wrap64_id, Int.tdiv_eq_ediv_of_nonneg, Int.tmod_eq_emod_of_nonneg])
          | ((first | refine callG_pure (fun e => ⟨?_, t22 l _ hl⟩) ?_ | refine callG_pure (fun e => ⟨?_, t11 _⟩) ?_); (next => repeat' first | exact flags_n | refine flags_c (by first | rfl | assumption) ?_); simp (disch := omega) only [hg, ints, go_sem, wrap64_id, Int.tdiv_eq_ediv_of_nonneg, Int.tmod_eq_emod_of_nonneg])
          | ((first | refine fnQ_pure1 ?_ ?_ | refine fnQ_pure0 ?_ ?_); (next => repeat' first | exact rvs_n | refine rvs_t ?_ | (simp [go_sem]; done)); simp only [go_sem]; (first | exact VLe.refl _ | refine VLe_int ?_ | refine VLe_bool ?_ | refine VLe_str ?_ | skip))
          | (with_reducible refine And.intro ?_ ?_)
          | with_reducible intro _
        all_goals first
          | omega
          | trace_state
    · refine acalls_of fn8 (by simp) ?_
      simp only [List.length_cons, List.length_nil, Nat.reduceAdd, Nat.reduceSub, List.replicate, List.cons_append, List.nil_append, List.append_nil]
      simp (disch := omega) only [c8, hg, ints, lnsV, go_sem, wrap64_id, Int.tdiv_eq_ediv_of_nonneg, Int.tmod_eq_emod_of_nonneg]
      repeat' first
        | ((first | refine callA_pure (t22 l _ hl) ?_ ?_ | refine callA_pure (t11 _) ?_ ?_); (next => repeat' first | exact flags_n | refine flags_c (by first | rfl | assumption) ?_); simp (disch := omega) only [hg, ints, go_sem, wrap64_id, Int.tdiv_eq_ediv_of_nonneg, Int.tmod_eq_emod_of_nonneg])
        | ((first | refine callG_pure (fun e => ⟨?_, t22 l _ hl⟩) ?_ | refine callG_pure (fun e => ⟨?_, t11 _⟩) ?_); (next => repeat' first | exact flags_n | refine flags_c (by first | rfl | assumption) ?_); simp (disch := omega) only [hg, ints, go_sem, wrap64_id, Int.tdiv_eq_ediv_of_nonneg, Int.tmod_eq_emod_of_nonneg])
        | ((first | refine fnQ_pure1 ?_ ?_ | refine fnQ_pure0 ?_ ?_); (next => repeat' first | exact rvs_n | refine rvs_t ?_ | (simp [go_sem]; done)); simp only [go_sem]; (first | exact VLe.refl _ | refine VLe_int ?_ | refine VLe_bool ?_ | refine VLe_str ?_ | skip))
        | (with_reducible refine And.intro ?_ ?_)
        | with_reducible intro _
      all_goals first
        | omega
        | trace_state
end

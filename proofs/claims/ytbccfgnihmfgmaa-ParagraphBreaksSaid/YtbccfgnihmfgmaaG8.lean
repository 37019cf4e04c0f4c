import Derived.Test.YtbccfgnihmfgmaaG7
set_option linter.all false
set_option linter.unusedSimpArgs false
set_option linter.unusedVariables false
set_option linter.unusedSectionVars false
section
/-! the text BF -/
open Go Go.Proofs AF P48
set_option maxRecDepth 100000
def idxGo (bs : List Int) (x : Int) : Nat → Nat → Int
  | 0, _ => -1
  | k + 1, i => if bs.getD i 0 = x then i else idxGo bs x k (i + 1)
theorem idxGo_iff (bs : List Int) (x : Int) : ∀ (k i : Nat), -1 ≤ idxGo bs x k i ∧ (0 ≤ idxGo bs x k i ↔ ∃ j, i ≤ j ∧ j < i + k ∧ bs.getD j 0 = x) := by
  intro k
  induction k with
  | zero => intro i; simp only [idxGo]; refine ⟨by omega, fun h => by omega, ?_⟩; rintro ⟨j, h1, h2, _⟩; omega
  | succ k ih =>
    intro i
    simp only [idxGo]
    split
    · rename_i h
      exact ⟨by omega, fun _ => ⟨i, by omega, by omega, h⟩, fun _ => by omega⟩
    · rename_i h
      refine ⟨(ih (i + 1)).1, (ih (i + 1)).2.trans ⟨?_, ?_⟩⟩
      · rintro ⟨j, h1, h2, h3⟩; exact ⟨j, by omega, by omega, h3⟩
      · rintro ⟨j, h1, h2, h3⟩
        by_cases e : j = i
        · subst e; exact absurd h3 h
        · exact ⟨j, by omega, by omega, h3⟩
theorem idx_contains (bs : List Int) (x : Int) : decide (0 ≤ idxGo bs x bs.length 0) = bs.contains x := by
  rw [Bool.eq_iff_iff, decide_eq_true_eq, (idxGo_iff bs x _ _).2, List.contains_iff_mem, List.mem_iff_getElem]
  constructor
  · rintro ⟨j, _, h2, h3⟩; exact ⟨j, by omega, by simpa [List.getD_eq_getElem?_getD, show j < bs.length by omega] using h3⟩
  · rintro ⟨j, h2, h3⟩; exact ⟨j, by omega, by omega, by simpa [List.getD_eq_getElem?_getD, h2] using h3⟩
theorem t47 (bs : List Int) (x : Int) (h : List AObj) (hl : bs.length ≤ 1000000) : ACalls Try.prog 47 [ints bs, .int .i64 x] h (.int .i64 (idxGo bs x bs.length 0)) h := by
  refine acalls_of fn47 (by simp) ?_
  simp only [List.length_cons, List.length_nil, Nat.reduceAdd, Nat.reduceSub, List.replicate, List.cons_append, List.nil_append, List.append_nil]
  simp (disch := omega) only [c47, ints, go_sem, wrap64_id, Int.tdiv_eq_ediv_of_nonneg, Int.tmod_eq_emod_of_nonneg]
  refine loop_of (T := fun i : Nat => spar 19 [(0, ints bs), (1, .int .i64 x), (6, ints bs), (7, .int .i64 bs.length), (8, .int .i64 i)]) (H := fun _ => h) (inv := fun i => i ≤ bs.length ∧ idxGo bs x bs.length 0 = idxGo bs x (bs.length - i) i) (m := fun i => bs.length - i) 0 ⟨by omega, rfl⟩ (Wk.temps ?_) ?_
  · (simp only [items, ints, spar, List.foldl, List.replicate, go_sem, VLes_nil, VLes_cons, VLe_undef_iff, VLe_self]; try (repeat' first | (with_reducible refine And.intro ?_ ?_) | (refine VLe_int ?_; omega) | (refine VLe_bool ?_; rfl) | exact VLe.refl _))
  · rintro i ⟨i1, i2⟩ K hK
    rw [i2]
    by_cases hi : i < bs.length
    · rw [show bs.length - i = (bs.length - (i + 1)) + 1 by omega] at i2 ⊢
      by_cases e : bs.getD i 0 = x
      · simp (disch := omega) only [spar, List.foldl, List.replicate, ints, e, go_sem, wrap64_id, Int.tdiv_eq_ediv_of_nonneg, Int.tmod_eq_emod_of_nonneg]
        repeat' first
          | ((first | refine fnQ_pure1 ?_ ?_ | refine fnQ_pure0 ?_ ?_); (next => repeat' first | exact rvs_n | refine rvs_t ?_ | (simp [go_sem]; done)); simp only [go_sem]; (first | exact VLe.refl _ | refine VLe_int ?_ | refine VLe_bool ?_ | refine VLe_str ?_ | skip))
          | (with_reducible refine And.intro ?_ ?_)
          | with_reducible intro _
        all_goals first
          | omega
          | skip
        simp only [idxGo, if_pos e]
      · have e' : ¬ x = bs.getD i 0 := fun h => e h.symm
        simp (disch := omega) only [spar, List.foldl, List.replicate, ints, e', go_sem, wrap64_id, Int.tdiv_eq_ediv_of_nonneg, Int.tmod_eq_emod_of_nonneg]
        repeat' first
          | ((first | refine fnQ_pure1 ?_ ?_ | refine fnQ_pure0 ?_ ?_); (next => repeat' first | exact rvs_n | refine rvs_t ?_ | (simp [go_sem]; done)); simp only [go_sem]; (first | exact VLe.refl _ | refine VLe_int ?_ | refine VLe_bool ?_ | refine VLe_str ?_ | skip))
          | (with_reducible refine And.intro ?_ ?_)
          | with_reducible intro _
        all_goals first
          | omega
          | skip
        refine hK _ _ (i + 1) ⟨by omega, ?_⟩ (by omega) (Wk.temps ?_)
        · rw [i2]; simp only [idxGo, if_neg e]
        · (simp only [items, ints, spar, List.foldl, List.replicate, go_sem, VLes_nil, VLes_cons, VLe_undef_iff, VLe_self]; try (repeat' first | (with_reducible refine And.intro ?_ ?_) | (refine VLe_int ?_; omega) | (refine VLe_bool ?_; rfl) | exact VLe.refl _))
    · have e : i = bs.length := by omega
      subst e
      simp (disch := omega) only [spar, List.foldl, List.replicate, ints, go_sem, wrap64_id, Int.tdiv_eq_ediv_of_nonneg, Int.tmod_eq_emod_of_nonneg]
      repeat' first
        | ((first | refine fnQ_pure1 ?_ ?_ | refine fnQ_pure0 ?_ ?_); (next => repeat' first | exact rvs_n | refine rvs_t ?_ | (simp [go_sem]; done)); simp only [go_sem]; (first | exact VLe.refl _ | refine VLe_int ?_ | refine VLe_bool ?_ | refine VLe_str ?_ | skip))
        | (with_reducible refine And.intro ?_ ?_)
        | with_reducible intro _
      all_goals first
        | omega
        | skip
      simp only [Nat.sub_self, idxGo]
theorem t17 (bs : List Int) (x : Int) (h : List AObj) (hl : bs.length ≤ 1000000) : ACalls Try.prog 17 [ints bs, .int .i64 x] h (.bool (bs.contains x)) h := by
  rw [← idx_contains]
  refine acalls_of fn17 (by simp) ?_
  simp only [List.length_cons, List.length_nil, Nat.reduceAdd, Nat.reduceSub, List.replicate, List.cons_append, List.nil_append, List.append_nil]
  simp (disch := omega) only [c17, go_sem, wrap64_id, Int.tdiv_eq_ediv_of_nonneg, Int.tmod_eq_emod_of_nonneg]
  repeat' first
    | ((first | refine callA_pure (t47 bs x _ hl) ?_ ?_); (next => repeat' first | exact flags_n | refine flags_c (by first | rfl | assumption) ?_); simp (disch := omega) only [go_sem, wrap64_id, Int.tdiv_eq_ediv_of_nonneg, Int.tmod_eq_emod_of_nonneg])
    | ((first | refine callG_pure (fun e => ⟨?_, t47 bs x _ hl⟩) ?_); (next => repeat' first | exact flags_n | refine flags_c (by first | rfl | assumption) ?_); simp (disch := omega) only [go_sem, wrap64_id, Int.tdiv_eq_ediv_of_nonneg, Int.tmod_eq_emod_of_nonneg])
    | ((first | refine fnQ_pure1 ?_ ?_ | refine fnQ_pure0 ?_ ?_); (next => repeat' first | exact rvs_n | refine rvs_t ?_ | (simp [go_sem]; done)); simp only [go_sem]; (first | exact VLe.refl _ | refine VLe_int ?_ | refine VLe_bool ?_ | refine VLe_str ?_ | skip))
    | (with_reducible refine And.intro ?_ ?_)
    | with_reducible intro _
  all_goals first
    | omega
    | trace_state
def prevI (bs : List Int) (i : Nat) : Int := if i = 0 then -1 else bs.getD (i - 1) 0
theorem asc_drop (l : List It) (bs : List Int) (i : Nat) (h : i < bs.length) : asc l (prevI bs i) (bs.drop i) = ((decide (0 ≤ bs.getD i 0) && (decide (bs.getD i 0 ≤ l.length) && (decide (prevI bs i < bs.getD i 0) && ends l (bs.getD i 0).toNat))) && asc l (prevI bs (i + 1)) (bs.drop (i + 1))) := by
  rw [List.drop_eq_getElem_cons h]
  have e : bs[i] = bs.getD i 0 := by simp [List.getD_eq_getElem?_getD, h]
  have e2 : prevI bs (i + 1) = bs.getD i 0 := by unfold prevI; rw [if_neg (by omega)]; rfl
  rw [e, e2]
  rfl
theorem last_getD {bs : List Int} (h : bs.length ≠ 0) (n : Int) : decide (bs.getLast? = some n) = decide (bs.getD (bs.length - 1) 0 = n) := by
  rw [List.getLast?_eq_getElem?, List.getD_eq_getElem?_getD, List.getElem?_eq_getElem (by omega)]
  simp
theorem forced_all {l : List It} {bs : List Int} : allForced l bs = true ↔ ∀ j, j < l.length → (!forced l j || bs.contains (j : Int)) = true := by
  unfold allForced
  rw [List.all_eq_true]
  simp only [List.mem_range]
set_option maxHeartbeats 2000000 in
theorem t46 (l : List It) (bs : List Int) (h : List AObj) (hl : l.length ≤ 300) (hb : bs.length ≤ 1000000) : ACalls Try.prog 46 [items l, ints bs] h (.bool (brokenS l bs)) h := by
  by_cases h0 : bs.length = 0
  · have e : bs = [] := List.eq_nil_of_length_eq_zero h0
    subst e
    refine acalls_of fn46 (by simp) ?_
    simp only [List.length_cons, List.length_nil, Nat.reduceAdd, Nat.reduceSub, List.replicate, List.cons_append, List.nil_append, List.append_nil]
    simp (disch := omega) only [c46, items, ints, List.length_nil, go_sem, wrap64_id, Int.tdiv_eq_ediv_of_nonneg, Int.tmod_eq_emod_of_nonneg]
    repeat' first
      | ((first | refine fnQ_pure1 ?_ ?_ | refine fnQ_pure0 ?_ ?_); (next => repeat' first | exact rvs_n | refine rvs_t ?_ | (simp [go_sem]; done)); simp only [go_sem]; (first | exact VLe.refl _ | refine VLe_int ?_ | refine VLe_bool ?_ | refine VLe_str ?_ | skip))
      | (with_reducible refine And.intro ?_ ?_)
      | with_reducible intro _
    all_goals first
      | omega
      | trace_state
  · cases hla : lastIs l bs with
    | false =>
      have hx : brokenS l bs = false := by unfold brokenS; rw [hla]; rfl
      unfold lastIs at hla
      rw [last_getD h0, decide_eq_false_iff_not] at hla
      rw [hx]
      have ht : ((bs.length : Int) - 1).toNat = bs.length - 1 := by omega
      refine acalls_of fn46 (by simp) ?_
      simp only [List.length_cons, List.length_nil, Nat.reduceAdd, Nat.reduceSub, List.replicate, List.cons_append, List.nil_append, List.append_nil]
      simp (disch := omega) only [c46, items, ints, h0, ht, go_sem, wrap64_id, Int.tdiv_eq_ediv_of_nonneg, Int.tmod_eq_emod_of_nonneg]
      repeat' first
        | ((first | refine fnQ_pure1 ?_ ?_ | refine fnQ_pure0 ?_ ?_); (next => repeat' first | exact rvs_n | refine rvs_t ?_ | (simp [go_sem]; done)); simp only [go_sem]; (first | exact VLe.refl _ | refine VLe_int ?_ | refine VLe_bool ?_ | refine VLe_str ?_ | skip))
        | (with_reducible refine And.intro ?_ ?_)
        | with_reducible intro _
      all_goals first
        | omega
        | trace_state
    | true =>
      have hx : brokenS l bs = (asc l (-1) bs && allForced l bs) := by unfold brokenS; rw [hla]; rfl
      unfold lastIs at hla
      rw [last_getD h0, decide_eq_true_eq] at hla
      rw [hx]
      have ht : ((bs.length : Int) - 1).toNat = bs.length - 1 := by omega
      refine acalls_of fn46 (by simp) ?_
      simp only [List.length_cons, List.length_nil, Nat.reduceAdd, Nat.reduceSub, List.replicate, List.cons_append, List.nil_append, List.append_nil]
      simp (disch := omega) only [c46, items, ints, h0, ht, hla, go_sem, wrap64_id, Int.tdiv_eq_ediv_of_nonneg, Int.tmod_eq_emod_of_nonneg]
      repeat' first
        | ((first | refine fnQ_pure1 ?_ ?_ | refine fnQ_pure0 ?_ ?_); (next => repeat' first | exact rvs_n | refine rvs_t ?_ | (simp [go_sem]; done)); simp only [go_sem]; (first | exact VLe.refl _ | refine VLe_int ?_ | refine VLe_bool ?_ | refine VLe_str ?_ | skip))
        | (with_reducible refine And.intro ?_ ?_)
        | with_reducible intro _
      all_goals first
        | omega
        | skip
      have hs : asc l (-1) bs = asc l (prevI bs 0) (bs.drop 0) := rfl
      refine loop_of (T := fun i : Nat => spar 72 [(0, items l), (1, ints bs), (4, .bool false), (22, ints bs), (23, .int .i64 bs.length), (24, .int .i64 i)]) (H := fun _ => h) (inv := fun i => i ≤ bs.length ∧ asc l (-1) bs = asc l (prevI bs i) (bs.drop i)) (m := fun i => bs.length - i) 0 ⟨by omega, hs⟩ (Wk.temps ?_) ?_
      · (simp only [items, ints, spar, List.foldl, List.replicate, go_sem, VLes_nil, VLes_cons, VLe_undef_iff, VLe_self]; try (repeat' first | (with_reducible refine And.intro ?_ ?_) | (refine VLe_int ?_; omega) | (refine VLe_bool ?_; rfl) | exact VLe.refl _))
      · rintro i ⟨i1, i2⟩ K hK
        by_cases hi : i < bs.length
        · have hstep := asc_drop l bs i hi
          have hc42 : ∀ h : List AObj, 0 ≤ bs.getD i 0 → bs.getD i 0 ≤ l.length → ACalls Try.prog 42 [items l, .int .i64 (bs.getD i 0)] h (.bool (ends l (bs.getD i 0).toNat)) h := fun h a b => by
            have := t42 l (bs.getD i 0).toNat h (by omega) (by omega)
            rwa [Int.toNat_of_nonneg a] at this
          have hm1 : ((i : Int) - 1).toNat = i - 1 := by omega
          have hpv : prevI bs i = if i = 0 then -1 else bs.getD (i - 1) 0 := rfl
          cases hen : ends l (bs.getD i 0).toNat
          all_goals rw [hen] at hc42 hstep
          · simp (disch := omega) only [spar, List.foldl, List.replicate, items, ints, hm1, go_sem, wrap64_id, Int.tdiv_eq_ediv_of_nonneg, Int.tmod_eq_emod_of_nonneg]
            repeat' first
              | ((first | refine callA_pure (hc42 _ (by simp only [Bool.not_eq_true', Bool.or_eq_false_iff, decide_eq_false_iff_not] at e; omega) (by simp only [Bool.not_eq_true', Bool.or_eq_false_iff, decide_eq_false_iff_not] at e; omega)) ?_ ?_); (next => repeat' first | exact flags_n | refine flags_c (by first | rfl | assumption) ?_); simp (disch := omega) only [go_sem, wrap64_id, Int.tdiv_eq_ediv_of_nonneg, Int.tmod_eq_emod_of_nonneg])
              | ((first | refine callG_pure (fun e => ⟨?_, hc42 _ (by simp only [Bool.not_eq_true', Bool.or_eq_false_iff, decide_eq_false_iff_not] at e; omega) (by simp only [Bool.not_eq_true', Bool.or_eq_false_iff, decide_eq_false_iff_not] at e; omega)⟩) ?_); (next => repeat' first | exact flags_n | refine flags_c (by first | rfl | assumption) ?_); simp (disch := omega) only [go_sem, wrap64_id, Int.tdiv_eq_ediv_of_nonneg, Int.tmod_eq_emod_of_nonneg])
              | ((first | refine fnQ_pure1 ?_ ?_ | refine fnQ_pure0 ?_ ?_); (next => repeat' first | exact rvs_n | refine rvs_t ?_ | (simp [go_sem]; done)); simp only [go_sem]; (first | exact VLe.refl _ | refine VLe_int ?_ | refine VLe_bool ?_ | refine VLe_str ?_ | skip))
              | (with_reducible refine And.intro ?_ ?_)
              | with_reducible intro _
            all_goals first
              | omega
              | skip
            rw [i2, hstep]
            simp
          · simp (disch := omega) only [spar, List.foldl, List.replicate, items, ints, hm1, go_sem, wrap64_id, Int.tdiv_eq_ediv_of_nonneg, Int.tmod_eq_emod_of_nonneg]
            repeat' first
              | ((first | refine callA_pure (hc42 _ (by simp only [Bool.not_eq_true', Bool.or_eq_false_iff, decide_eq_false_iff_not] at e; omega) (by simp only [Bool.not_eq_true', Bool.or_eq_false_iff, decide_eq_false_iff_not] at e; omega)) ?_ ?_); (next => repeat' first | exact flags_n | refine flags_c (by first | rfl | assumption) ?_); simp (disch := omega) only [go_sem, wrap64_id, Int.tdiv_eq_ediv_of_nonneg, Int.tmod_eq_emod_of_nonneg])
              | ((first | refine callG_pure (fun e => ⟨?_, hc42 _ (by simp only [Bool.not_eq_true', Bool.or_eq_false_iff, decide_eq_false_iff_not] at e; omega) (by simp only [Bool.not_eq_true', Bool.or_eq_false_iff, decide_eq_false_iff_not] at e; omega)⟩) ?_); (next => repeat' first | exact flags_n | refine flags_c (by first | rfl | assumption) ?_); simp (disch := omega) only [go_sem, wrap64_id, Int.tdiv_eq_ediv_of_nonneg, Int.tmod_eq_emod_of_nonneg])
              | ((first | refine fnQ_pure1 ?_ ?_ | refine fnQ_pure0 ?_ ?_); (next => repeat' first | exact rvs_n | refine rvs_t ?_ | (simp [go_sem]; done)); simp only [go_sem]; (first | exact VLe.refl _ | refine VLe_int ?_ | refine VLe_bool ?_ | refine VLe_str ?_ | skip))
              | (with_reducible refine And.intro ?_ ?_)
              | with_reducible intro _
            all_goals first
              | omega
              | skip
            · rename_i hxx
              rw [i2, hstep]
              have : (decide (0 ≤ bs.getD i 0) && (decide (bs.getD i 0 ≤ ↑l.length) && (decide (prevI bs i < bs.getD i 0) && true))) = false := by
                rw [Bool.eq_false_iff]; intro hq; simp only [Bool.and_eq_true, decide_eq_true_eq] at hq; rw [hpv] at hq
                split at hq <;> omega
              rw [this]
              rfl
            · rename_i hxx
              refine hK _ _ (i + 1) ⟨by omega, ?_⟩ (by omega) (Wk.temps ?_)
              · rw [i2, hstep]
                have : (decide (0 ≤ bs.getD i 0) && (decide (bs.getD i 0 ≤ ↑l.length) && (decide (prevI bs i < bs.getD i 0) && true))) = true := by
                  simp only [Bool.and_eq_true, decide_eq_true_eq]; rw [hpv]
                  refine ⟨by omega, by omega, ?_, trivial⟩
                  split <;> omega
                rw [this]
                rfl
              · (simp only [items, ints, spar, List.foldl, List.replicate, go_sem, VLes_nil, VLes_cons, VLe_undef_iff, VLe_self]; try (repeat' first | (with_reducible refine And.intro ?_ ?_) | (refine VLe_int ?_; omega) | (refine VLe_bool ?_; rfl) | exact VLe.refl _))
        · have e : i = bs.length := by omega
          subst e
          rw [List.drop_length] at i2
          have i3 : asc l (-1) bs = true := i2
          rw [i3, Bool.true_and]
          simp (disch := omega) only [spar, List.foldl, List.replicate, items, ints, go_sem, wrap64_id, Int.tdiv_eq_ediv_of_nonneg, Int.tmod_eq_emod_of_nonneg]
          refine ⟨fun hc => absurd hc (by omega), fun _ => ?_⟩
          refine loop_of (T := fun i : Nat => spar 72 [(0, items l), (1, ints bs), (4, .bool false), (57, items l), (58, .int .i64 l.length), (59, .int .i64 i)]) (H := fun _ => h) (inv := fun i => i ≤ l.length ∧ ∀ j, j < i → (!forced l j || bs.contains (j : Int)) = true) (m := fun i => l.length - i) 0 ⟨by omega, fun j hj => absurd hj (by omega)⟩ (Wk.temps ?_) ?_
          · (simp only [items, ints, spar, List.foldl, List.replicate, go_sem, VLes_nil, VLes_cons, VLe_undef_iff, VLe_self]; try (repeat' first | (with_reducible refine And.intro ?_ ?_) | (refine VLe_int ?_; omega) | (refine VLe_bool ?_; rfl) | exact VLe.refl _))
          · rintro i ⟨i1, i2⟩ K hK
            by_cases hi : i < l.length
            · cases hfo : forced l i
              · simp (disch := omega) only [spar, List.foldl, List.replicate, items, ints, go_sem, wrap64_id, Int.tdiv_eq_ediv_of_nonneg, Int.tmod_eq_emod_of_nonneg]
                repeat' first
                  | ((first | refine callA_pure (t43 l i _) ?_ ?_ | refine callA_pure (t17 bs i _ hb) ?_ ?_); (next => repeat' first | exact flags_n | refine flags_c (by first | rfl | assumption) ?_); simp (disch := omega) only [hfo, go_sem, wrap64_id, Int.tdiv_eq_ediv_of_nonneg, Int.tmod_eq_emod_of_nonneg])
                  | ((first | refine callG_pure (fun e => ⟨?_, t43 l i _⟩) ?_ | refine callG_pure (fun e => ⟨?_, t17 bs i _ hb⟩) ?_); (next => repeat' first | exact flags_n | refine flags_c (by first | rfl | assumption) ?_); simp (disch := omega) only [hfo, go_sem, wrap64_id, Int.tdiv_eq_ediv_of_nonneg, Int.tmod_eq_emod_of_nonneg])
                  | ((first | refine fnQ_pure1 ?_ ?_ | refine fnQ_pure0 ?_ ?_); (next => repeat' first | exact rvs_n | refine rvs_t ?_ | (simp [go_sem]; done)); simp only [go_sem]; (first | exact VLe.refl _ | refine VLe_int ?_ | refine VLe_bool ?_ | refine VLe_str ?_ | skip))
                  | (with_reducible refine And.intro ?_ ?_)
                  | with_reducible intro _
                all_goals first
                  | omega
                  | (rename_i hx; revert hx; simp; done)
                  | skip
                refine hK _ _ (i + 1) ⟨by omega, fun j hj => ?_⟩ (by omega) (Wk.temps ?_)
                · by_cases ej : j = i
                  · rw [ej, hfo]; rfl
                  · exact i2 j (by omega)
                · (simp only [items, ints, spar, List.foldl, List.replicate, go_sem, VLes_nil, VLes_cons, VLe_undef_iff, VLe_self]; try (repeat' first | (with_reducible refine And.intro ?_ ?_) | (refine VLe_int ?_; omega) | (refine VLe_bool ?_; rfl) | exact VLe.refl _))
              · cases hco : bs.contains (i : Int)
                · simp (disch := omega) only [spar, List.foldl, List.replicate, items, ints, go_sem, wrap64_id, Int.tdiv_eq_ediv_of_nonneg, Int.tmod_eq_emod_of_nonneg]
                  repeat' first
                    | ((first | refine callA_pure (t43 l i _) ?_ ?_ | refine callA_pure (t17 bs i _ hb) ?_ ?_); (next => repeat' first | exact flags_n | refine flags_c (by first | rfl | assumption) ?_); simp (disch := omega) only [hfo, hco, go_sem, wrap64_id, Int.tdiv_eq_ediv_of_nonneg, Int.tmod_eq_emod_of_nonneg])
                    | ((first | refine callG_pure (fun e => ⟨?_, t43 l i _⟩) ?_ | refine callG_pure (fun e => ⟨?_, t17 bs i _ hb⟩) ?_); (next => repeat' first | exact flags_n | refine flags_c (by first | rfl | assumption) ?_); simp (disch := omega) only [hfo, hco, go_sem, wrap64_id, Int.tdiv_eq_ediv_of_nonneg, Int.tmod_eq_emod_of_nonneg])
                    | ((first | refine fnQ_pure1 ?_ ?_ | refine fnQ_pure0 ?_ ?_); (next => repeat' first | exact rvs_n | refine rvs_t ?_ | (simp [go_sem]; done)); simp only [go_sem]; (first | exact VLe.refl _ | refine VLe_int ?_ | refine VLe_bool ?_ | refine VLe_str ?_ | skip))
                    | (with_reducible refine And.intro ?_ ?_)
                    | with_reducible intro _
                  all_goals first
                    | omega
                    | skip
                  have hne : allForced l bs = false := by
                    rw [Bool.eq_false_iff]; intro hq; have := forced_all.1 hq i hi; rw [hfo, hco] at this; cases this
                  rw [hne]
                  all_goals trace_state
                · simp (disch := omega) only [spar, List.foldl, List.replicate, items, ints, go_sem, wrap64_id, Int.tdiv_eq_ediv_of_nonneg, Int.tmod_eq_emod_of_nonneg]
                  repeat' first
                    | ((first | refine callA_pure (t43 l i _) ?_ ?_ | refine callA_pure (t17 bs i _ hb) ?_ ?_); (next => repeat' first | exact flags_n | refine flags_c (by first | rfl | assumption) ?_); simp (disch := omega) only [hfo, hco, go_sem, wrap64_id, Int.tdiv_eq_ediv_of_nonneg, Int.tmod_eq_emod_of_nonneg])
                    | ((first | refine callG_pure (fun e => ⟨?_, t43 l i _⟩) ?_ | refine callG_pure (fun e => ⟨?_, t17 bs i _ hb⟩) ?_); (next => repeat' first | exact flags_n | refine flags_c (by first | rfl | assumption) ?_); simp (disch := omega) only [hfo, hco, go_sem, wrap64_id, Int.tdiv_eq_ediv_of_nonneg, Int.tmod_eq_emod_of_nonneg])
                    | ((first | refine fnQ_pure1 ?_ ?_ | refine fnQ_pure0 ?_ ?_); (next => repeat' first | exact rvs_n | refine rvs_t ?_ | (simp [go_sem]; done)); simp only [go_sem]; (first | exact VLe.refl _ | refine VLe_int ?_ | refine VLe_bool ?_ | refine VLe_str ?_ | skip))
                    | (with_reducible refine And.intro ?_ ?_)
                    | with_reducible intro _
                  all_goals first
                    | omega
                    | skip
                  refine hK _ _ (i + 1) ⟨by omega, fun j hj => ?_⟩ (by omega) (Wk.temps ?_)
                  · by_cases ej : j = i
                    · rw [ej, hfo, hco]; rfl
                    · exact i2 j (by omega)
                  · (simp only [items, ints, spar, List.foldl, List.replicate, go_sem, VLes_nil, VLes_cons, VLe_undef_iff, VLe_self]; try (repeat' first | (with_reducible refine And.intro ?_ ?_) | (refine VLe_int ?_; omega) | (refine VLe_bool ?_; rfl) | exact VLe.refl _))
            · have e : i = l.length := by omega
              subst e
              have hne : allForced l bs = true := forced_all.2 i2
              rw [hne]
              simp (disch := omega) only [spar, List.foldl, List.replicate, items, ints, go_sem, wrap64_id, Int.tdiv_eq_ediv_of_nonneg, Int.tmod_eq_emod_of_nonneg]
              repeat' first
                | ((first | refine fnQ_pure1 ?_ ?_ | refine fnQ_pure0 ?_ ?_); (next => repeat' first | exact rvs_n | refine rvs_t ?_ | (simp [go_sem]; done)); simp only [go_sem]; (first | exact VLe.refl _ | refine VLe_int ?_ | refine VLe_bool ?_ | refine VLe_str ?_ | skip))
                | (with_reducible refine And.intro ?_ ?_)
                | with_reducible intro _
              all_goals first
                | omega
                | trace_state
end

section
/-! the text BG -/
open Go Go.Proofs AF P48
set_option maxRecDepth 100000
def lnsV (ls : List P48.Line) : AV := .sl ls.length fun i => lineC (ls.getD i default)
def cellsL (ls : List P48.Line) : List AV := ls.flatMap lineC
def outLO (v : Nat) (ls : List P48.Line) : AObj := if ls = [] then .emp 1 else .mem v 44 (cellsL ls)
theorem outLO_nil (v : Nat) : outLO v [] = .emp 1 := rfl
theorem outLO_ne {ls : List P48.Line} (h : ls ≠ []) (v : Nat) : outLO v ls = .mem v 44 (cellsL ls) := if_neg h
theorem len_lineC (x : P48.Line) : (lineC x).length = 5 := rfl
theorem cellsL_len (l : List P48.Line) : (cellsL l).length = l.length * 5 := by
  induction l with
  | nil => rfl
  | cons x l ih => unfold cellsL at *; rw [List.flatMap_cons, List.length_append, ih, len_lineC, List.length_cons]; omega
theorem cellsL_range (l : List P48.Line) : (List.range l.length).flatMap (fun i => lineC (l.getD i default)) = cellsL l := by
  have : l = (List.range l.length).map (fun i => l.getD i default) := by
    apply List.ext_getElem
    · simp
    · intro i h1 h2; simp [List.getD_eq_getElem?_getD, h1]
  unfold cellsL
  conv => rhs; rw [this]
  rw [List.flatMap_map]
theorem lns_of {L : List P48.Line} {n m : Nat} {fz : Nat → Bool} {h : List AObj} (e : L.length = m) : VLe (.sl m fun i => (((cellsL L).drop (i * 5)).take 5).map (rei fz h (n + 1))) (lnsV L) := by
  subst e
  refine VLe_sl rfl (fun i hi => ?_)
  rw [← cellsL_range, chunk (fun j _ => len_lineC _) hi]
  rfl
theorem cellsL_snoc (L : List P48.Line) (x : P48.Line) : cellsL (L ++ [x]) = cellsL L ++ lineC x := by simp [cellsL]
def frmI (bs : List Int) (i : Nat) : Nat := if i = 0 then 0 else (bs.getD (i - 1) 0).toNat + 1
theorem broken_asc {l : List It} {bs : List Int} (h : brokenS l bs = true) : ∀ i, i ≤ bs.length → asc l (prevI bs i) (bs.drop i) = true := by
  have h1 : asc l (-1) bs = true := by
    unfold brokenS at h
    simp only [Bool.and_eq_true] at h
    exact h.2.1
  intro i
  induction i with
  | zero => intro _; exact h1
  | succ i ih =>
    intro hi
    have := ih (by omega)
    rw [asc_drop l bs i (by omega)] at this
    simp only [Bool.and_eq_true] at this
    exact this.2
theorem broken_nonneg {l : List It} {bs : List Int} (h : brokenS l bs = true) (i : Nat) (hi : i < bs.length) : 0 ≤ bs.getD i 0 := by
  have h1 := broken_asc h i (by omega)
  rw [asc_drop l bs i hi] at h1
  simp only [Bool.and_eq_true, decide_eq_true_eq] at h1
  exact h1.1.1
theorem broken_at {l : List It} {bs : List Int} (h : brokenS l bs = true) {i : Nat} (hi : i < bs.length) : 0 ≤ bs.getD i 0 ∧ bs.getD i 0 ≤ l.length ∧ (frmI bs i : Int) ≤ bs.getD i 0 := by
  have h1 := broken_asc h i (by omega)
  rw [asc_drop l bs i hi] at h1
  simp only [Bool.and_eq_true, decide_eq_true_eq] at h1
  refine ⟨h1.1.1, h1.1.2.1, ?_⟩
  have h2 := h1.1.2.2.1
  unfold prevI at h2
  unfold frmI
  have h3 := h1.1.1
  split at h2
  · rename_i e; rw [if_pos e]; omega
  · rename_i e; rw [if_neg e]
    have h5 := broken_nonneg h (i - 1) (by omega)
    omega
theorem nats_drop (bs : List Int) {i : Nat} (hi : i < bs.length) : (natsOf bs).drop i = (bs.getD i 0).toNat :: (natsOf bs).drop (i + 1) := by
  unfold natsOf
  rw [List.drop_eq_getElem_cons (by simpa using hi)]
  simp [List.getD_eq_getElem?_getD, hi]
set_option maxHeartbeats 4000000 in
theorem t16 (l : List It) (width : Int) (bs : List Int) (h : List AObj) (hl : l.length ≤ 300) (hb : bs.length ≤ 1000000) (hB : ∀ i, (it l i).text.length ≤ 1000000) :
    ACalls Try.prog 16 [items l, .int .i64 width, ints bs] h (.tup [lnsV (linesS l width bs).1, .int .i64 (linesS l width bs).2]) h := by
  have hnl : VLe .nl (lnsV []) := VLe_nl
  by_cases hw : checkW l width = 0
  · obtain ⟨hc, w0, w1⟩ := checkW_range l width hw
    have hv := Valid.of hl hc
    cases hbr : brokenS l bs with
    | false =>
      have e : linesS l width bs = ([], 23) := by unfold linesS; rw [if_pos hw, hbr]; rfl
      rw [e]
      refine acalls_of fn16 (by simp) ?_
      simp only [List.length_cons, List.length_nil, Nat.reduceAdd, Nat.reduceSub, List.replicate, List.cons_append, List.nil_append, List.append_nil]
      simp (disch := omega) only [c16, go_sem, wrap64_id, Int.tdiv_eq_ediv_of_nonneg, Int.tmod_eq_emod_of_nonneg]
      repeat' first
        | ((first | refine callA_pure (t38 l width _ (by omega)) ?_ ?_ | refine callA_pure (t46 l bs _ hl hb) ?_ ?_); (next => repeat' first | exact flags_n | refine flags_c (by first | rfl | assumption) ?_); simp (disch := omega) only [hw, hbr, go_sem, wrap64_id, Int.tdiv_eq_ediv_of_nonneg, Int.tmod_eq_emod_of_nonneg])
        | ((first | refine callG_pure (fun e => ⟨?_, t38 l width _ (by omega)⟩) ?_ | refine callG_pure (fun e => ⟨?_, t46 l bs _ hl hb⟩) ?_); (next => repeat' first | exact flags_n | refine flags_c (by first | rfl | assumption) ?_); simp (disch := omega) only [hw, hbr, go_sem, wrap64_id, Int.tdiv_eq_ediv_of_nonneg, Int.tmod_eq_emod_of_nonneg])
        | ((first | refine fnQ_pure1 ?_ ?_ | refine fnQ_pure0 ?_ ?_); (next => repeat' first | exact rvs_n | refine rvs_t ?_ | (simp [go_sem]; done)); simp only [go_sem]; (first | exact VLe.refl _ | refine VLe_int ?_ | refine VLe_bool ?_ | refine VLe_str ?_ | skip))
        | (with_reducible refine And.intro ?_ ?_)
        | with_reducible intro _
      all_goals first
        | omega
        | skip
      exact VLe_tup (VLes2 hnl (VLes2 (VLe.refl _) VLes.nil))
    | true =>
      refine acalls_of fn16 (by simp) ?_
      simp only [List.length_cons, List.length_nil, Nat.reduceAdd, Nat.reduceSub, List.replicate, List.cons_append, List.nil_append, List.append_nil]
      simp (disch := omega) only [c16, go_sem, wrap64_id, Int.tdiv_eq_ediv_of_nonneg, Int.tmod_eq_emod_of_nonneg]
      repeat' first
        | ((first | refine callA_pure (t38 l width _ (by omega)) ?_ ?_ | refine callA_pure (t46 l bs _ hl hb) ?_ ?_); (next => repeat' first | exact flags_n | refine flags_c (by first | rfl | assumption) ?_); simp (disch := omega) only [hw, hbr, ints, go_sem, wrap64_id, Int.tdiv_eq_ediv_of_nonneg, Int.tmod_eq_emod_of_nonneg])
        | ((first | refine callG_pure (fun e => ⟨?_, t38 l width _ (by omega)⟩) ?_ | refine callG_pure (fun e => ⟨?_, t46 l bs _ hl hb⟩) ?_); (next => repeat' first | exact flags_n | refine flags_c (by first | rfl | assumption) ?_); simp (disch := omega) only [hw, hbr, ints, go_sem, wrap64_id, Int.tdiv_eq_ediv_of_nonneg, Int.tmod_eq_emod_of_nonneg])
        | ((first | refine fnQ_pure1 ?_ ?_ | refine fnQ_pure0 ?_ ?_); (next => repeat' first | exact rvs_n | refine rvs_t ?_ | (simp [go_sem]; done)); simp only [go_sem]; (first | exact VLe.refl _ | refine VLe_int ?_ | refine VLe_bool ?_ | refine VLe_str ?_ | skip))
        | (with_reducible refine And.intro ?_ ?_)
        | with_reducible intro _
      all_goals first
        | omega
        | skip
      have hnl0 : (natsOf bs).length = bs.length := by simp [natsOf]
      refine loop_of (T := fun i : Nat × List P48.Line × AObj × AObj × Nat => spar 49 [(0, items l), (1, .int .i64 width), (2, ints bs), (9, .osl (h.length + 1) i.2.2.2.2 5 0 i.2.1.length), (10, .int .i64 (frmI bs i.1)), (25, ints bs), (26, .int .i64 bs.length), (27, .int .i64 i.1)])
        (H := fun i => h ++ [.emp 1, outLO i.2.2.2.2 i.2.1, i.2.2.1, i.2.2.2.1, .emp 0])
        (inv := fun i => i.1 ≤ bs.length ∧ i.2.1.length = i.1 ∧ linesGo l width 0 (natsOf bs) = (linesGo l width (frmI bs i.1) ((natsOf bs).drop i.1)).map (i.2.1 ++ ·) ∧ site [i.2.2.1] 0 = true ∧ site [i.2.2.2.1] 0 = true ∧ (i.2.1 = [] → i.2.2.2.2 = 1)) (m := fun i => bs.length - i.1) (0, [], .emp 0, .emp 0, 1)
        ⟨by simp only; omega, rfl, ?_, rfl, rfl, fun _ => rfl⟩ (Wk.temps ?_) ?_
      · simp only [List.drop_zero, List.nil_append]
        show _ = Option.map _ (linesGo l width 0 (natsOf bs))
        simp
      · (simp only [List.length_nil, items, ints, spar, List.foldl, List.replicate, go_sem, VLes_nil, VLes_cons, VLe_undef_iff, VLe_self]; try (repeat' first | (with_reducible refine And.intro ?_ ?_) | (refine VLe_int ?_; omega) | (refine VLe_bool ?_; rfl) | exact VLe.refl _))
        all_goals trace_state
      · rintro ⟨i, L, O2, O3, v⟩ ⟨i1, i2, i3, i4, i5, i6⟩ K hK
        simp only at i1 i2 i3 i4 i5 i6 hK
        have i4' : ∀ m, site (O2 :: m) 0 = true := fun _ => i4
        have i5' : ∀ m, site (O3 :: m) 0 = true := fun _ => i5
        by_cases hi : i < bs.length
        · obtain ⟨b0, b1, b2⟩ := broken_at hbr hi
          rw [nats_drop bs hi] at i3
          obtain ⟨to, hto⟩ : ∃ to : Nat, bs.getD i 0 = to := ⟨(bs.getD i 0).toNat, by omega⟩
          rw [hto] at b0 b1 b2
          have hto2 : (bs.getD i 0).toNat = to := by omega
          have hfr : frmI bs (i + 1) = to + 1 := by unfold frmI; rw [if_neg (by omega)]; show (bs.getD i 0).toNat + 1 = _; omega
          rw [hto2] at i3
          simp only [linesGo] at i3
          have hc44 : ∀ h : List AObj, ACalls Try.prog 44 [items l, .int .i64 width, .int .i64 (frmI bs i), .int .i64 to] h (.tup [.agg (lineC (mkLine l width (frmI bs i) to)), .bool (lineOf l width (frmI bs i) to).2.2]) h := fun h => t44 l width (frmI bs i) to h hv hB w0 w1 (by omega) (by omega)
          cases hfe : (lineOf l width (frmI bs i) to).2.2 with
          | false =>
            rw [hfe] at i3 hc44
            have e : linesS l width bs = ([], 21) := by unfold linesS; rw [if_pos hw, if_pos hbr, i3]; rfl
            rw [e]
            by_cases hL : L = []
            · subst hL
              have hv1 := i6 rfl
              subst hv1
              simp (disch := omega) only [spar, List.foldl, List.replicate, ints, hto, i4', i5', outLO_nil, List.length_nil, go_sem, wrap64_id, Int.tdiv_eq_ediv_of_nonneg, Int.tmod_eq_emod_of_nonneg]
              repeat' first
                | ((first | refine callA_pure (hc44 _) ?_ ?_); (next => repeat' first | exact flags_n | refine flags_c (by first | rfl | assumption) ?_); simp (disch := omega) only [i4', i5', madeA, lineC, go_sem, wrap64_id, Int.tdiv_eq_ediv_of_nonneg, Int.tmod_eq_emod_of_nonneg])
                | ((first | refine callG_pure (fun e => ⟨?_, hc44 _⟩) ?_); (next => repeat' first | exact flags_n | refine flags_c (by first | rfl | assumption) ?_); simp (disch := omega) only [i4', i5', madeA, lineC, go_sem, wrap64_id, Int.tdiv_eq_ediv_of_nonneg, Int.tmod_eq_emod_of_nonneg])
                | ((first | refine fnQ_pure1 ?_ ?_ | refine fnQ_pure0 ?_ ?_); (next => repeat' first | exact rvs_n | refine rvs_t ?_ | (simp [go_sem]; done)); simp only [go_sem]; (first | exact VLe.refl _ | refine VLe_int ?_ | refine VLe_bool ?_ | refine VLe_str ?_ | skip))
                | (with_reducible refine And.intro ?_ ?_)
                | with_reducible intro _
              all_goals first
                | omega
                | (simp; done)
                | skip
              exact VLe_tup (VLes2 hnl (VLes2 (VLe.refl _) VLes.nil))
            · have eO := outLO_ne hL v
              have eL := cellsL_len L
              have eT : List.take (L.length * 5) (cellsL L) = cellsL L := List.take_of_length_le (by omega)
              simp (disch := omega) only [spar, List.foldl, List.replicate, ints, hto, i4', i5', eO, go_sem, wrap64_id, Int.tdiv_eq_ediv_of_nonneg, Int.tmod_eq_emod_of_nonneg]
              repeat' first
                | ((first | refine callA_pure (hc44 _) ?_ ?_); (next => repeat' first | exact flags_n | refine flags_c (by first | rfl | assumption) ?_); simp (disch := omega) only [i4', i5', madeA, lineC, eL, eT, go_sem, wrap64_id, Int.tdiv_eq_ediv_of_nonneg, Int.tmod_eq_emod_of_nonneg])
                | ((first | refine callG_pure (fun e => ⟨?_, hc44 _⟩) ?_); (next => repeat' first | exact flags_n | refine flags_c (by first | rfl | assumption) ?_); simp (disch := omega) only [i4', i5', madeA, lineC, eL, eT, go_sem, wrap64_id, Int.tdiv_eq_ediv_of_nonneg, Int.tmod_eq_emod_of_nonneg])
                | ((first | refine fnQ_pure1 ?_ ?_ | refine fnQ_pure0 ?_ ?_); (next => repeat' first | exact rvs_n | refine rvs_t ?_ | (simp [go_sem]; done)); simp only [go_sem]; (first | exact VLe.refl _ | refine VLe_int ?_ | refine VLe_bool ?_ | refine VLe_str ?_ | skip))
                | (with_reducible refine And.intro ?_ ?_)
                | with_reducible intro _
              all_goals first
                | omega
                | (simp; done)
                | skip
              exact VLe_tup (VLes2 hnl (VLes2 (VLe.refl _) VLes.nil))
          | true =>
            rw [hfe] at i3 hc44
            by_cases hL : L = []
            · subst hL
              have hv1 := i6 rfl
              subst hv1
              simp (disch := omega) only [spar, List.foldl, List.replicate, ints, hto, i4', i5', outLO_nil, List.length_nil, go_sem, wrap64_id, Int.tdiv_eq_ediv_of_nonneg, Int.tmod_eq_emod_of_nonneg]
              repeat' first
                | ((first | refine callA_pure (hc44 _) ?_ ?_); (next => repeat' first | exact flags_n | refine flags_c (by first | rfl | assumption) ?_); simp (disch := omega) only [i4', i5', madeA, lineC, go_sem, wrap64_id, Int.tdiv_eq_ediv_of_nonneg, Int.tmod_eq_emod_of_nonneg])
                | ((first | refine callG_pure (fun e => ⟨?_, hc44 _⟩) ?_); (next => repeat' first | exact flags_n | refine flags_c (by first | rfl | assumption) ?_); simp (disch := omega) only [i4', i5', madeA, lineC, go_sem, wrap64_id, Int.tdiv_eq_ediv_of_nonneg, Int.tmod_eq_emod_of_nonneg])
                | ((first | refine fnQ_pure1 ?_ ?_ | refine fnQ_pure0 ?_ ?_); (next => repeat' first | exact rvs_n | refine rvs_t ?_ | (simp [go_sem]; done)); simp only [go_sem]; (first | exact VLe.refl _ | refine VLe_int ?_ | refine VLe_bool ?_ | refine VLe_str ?_ | skip))
                | (with_reducible refine And.intro ?_ ?_)
                | with_reducible intro _
              all_goals first
                | omega
                | (simp; done)
                | skip
              refine hK _ _ (i + 1, [mkLine l width (frmI bs i) to], .mem (verOf (some O2) + 1) 44 (lineC (mkLine l width (frmI bs i) to)), .mem (verOf (some O3) + 1) 44 (lineC (mkLine l width (frmI bs i) to)), 2) ⟨by simp only; omega, by simp at i2 ⊢; omega, ?_, rfl, rfl, by simp⟩ (by simp only; omega) ?_
              · simp only [hfr]
                rw [i3]
                simp [Option.map_map, Function.comp_def]
              · rw [outLO_ne (by simp)]
                simp only [hfr]
                refine Wk.temps ?_
                (simp only [List.length_singleton, items, ints, spar, List.foldl, List.replicate, go_sem, VLes_nil, VLes_cons, VLe_undef_iff, VLe_self]; try (repeat' first | (with_reducible refine And.intro ?_ ?_) | (refine VLe_int ?_; omega) | (refine VLe_bool ?_; rfl) | exact VLe.refl _))
            · have eO := outLO_ne hL v
              have eL := cellsL_len L
              have eT : List.take (L.length * 5) (cellsL L) = cellsL L := List.take_of_length_le (by omega)
              simp (disch := omega) only [spar, List.foldl, List.replicate, ints, hto, i4', i5', eO, go_sem, wrap64_id, Int.tdiv_eq_ediv_of_nonneg, Int.tmod_eq_emod_of_nonneg]
              repeat' first
                | ((first | refine callA_pure (hc44 _) ?_ ?_); (next => repeat' first | exact flags_n | refine flags_c (by first | rfl | assumption) ?_); simp (disch := omega) only [i4', i5', madeA, lineC, eL, eT, go_sem, wrap64_id, Int.tdiv_eq_ediv_of_nonneg, Int.tmod_eq_emod_of_nonneg])
                | ((first | refine callG_pure (fun e => ⟨?_, hc44 _⟩) ?_); (next => repeat' first | exact flags_n | refine flags_c (by first | rfl | assumption) ?_); simp (disch := omega) only [i4', i5', madeA, lineC, eL, eT, go_sem, wrap64_id, Int.tdiv_eq_ediv_of_nonneg, Int.tmod_eq_emod_of_nonneg])
                | ((first | refine fnQ_pure1 ?_ ?_ | refine fnQ_pure0 ?_ ?_); (next => repeat' first | exact rvs_n | refine rvs_t ?_ | (simp [go_sem]; done)); simp only [go_sem]; (first | exact VLe.refl _ | refine VLe_int ?_ | refine VLe_bool ?_ | refine VLe_str ?_ | skip))
                | (with_reducible refine And.intro ?_ ?_)
                | with_reducible intro _
              all_goals first
                | omega
                | (simp; done)
                | skip
              refine hK _ _ (i + 1, L ++ [mkLine l width (frmI bs i) to], .mem (verOf (some O2) + 1) 44 (lineC (mkLine l width (frmI bs i) to)), .mem (verOf (some O3) + 1) 44 (lineC (mkLine l width (frmI bs i) to)), v + 1) ⟨by simp only; omega, by simp; omega, ?_, rfl, rfl, by simp⟩ (by simp only; omega) ?_
              · simp only [hfr]
                rw [i3]
                simp [Option.map_map, Function.comp_def]
              · rw [outLO_ne (by simp)]
                simp only [hfr, cellsL_snoc]
                refine Wk.temps ?_
                (simp only [List.length_append, List.length_singleton, items, ints, spar, List.foldl, List.replicate, go_sem, VLes_nil, VLes_cons, VLe_undef_iff, VLe_self]; try (repeat' first | (with_reducible refine And.intro ?_ ?_) | (refine VLe_int ?_; omega) | (refine VLe_bool ?_; rfl) | exact VLe.refl _))
        · have e : i = bs.length := by omega
          subst e
          have e0 : (natsOf bs).drop bs.length = [] := by rw [← hnl0, List.drop_length]
          rw [e0] at i3
          have e : linesS l width bs = (L, 0) := by unfold linesS; rw [if_pos hw, if_pos hbr, i3]; simp [linesGo]
          rw [e]
          by_cases hL : L = []
          · subst hL
            have hv1 := i6 rfl
            subst hv1
            simp (disch := omega) only [spar, List.foldl, List.replicate, ints, outLO_nil, List.length_nil, go_sem, wrap64_id, Int.tdiv_eq_ediv_of_nonneg, Int.tmod_eq_emod_of_nonneg]
            repeat' first
              | ((first | refine fnQ_pure1 ?_ ?_ | refine fnQ_pure0 ?_ ?_); (next => repeat' first | exact rvs_n | refine rvs_t ?_ | (simp [go_sem]; done)); simp only [go_sem]; (first | exact VLe.refl _ | refine VLe_int ?_ | refine VLe_bool ?_ | refine VLe_str ?_ | skip))
              | (with_reducible refine And.intro ?_ ?_)
              | with_reducible intro _
            all_goals first
              | omega
              | skip
            exact VLe_tup (VLes2 hnl (VLes2 (VLe.refl _) VLes.nil))
          · have eO := outLO_ne hL v
            have eL := cellsL_len L
            simp (disch := omega) only [spar, List.foldl, List.replicate, ints, eO, eL, go_sem, wrap64_id, Int.tdiv_eq_ediv_of_nonneg, Int.tmod_eq_emod_of_nonneg]
            repeat' first
              | ((first | refine fnQ_pure1 ?_ ?_ | refine fnQ_pure0 ?_ ?_); (next => repeat' first | exact rvs_n | refine rvs_t ?_ | (simp [go_sem]; done)); simp only [go_sem]; (first | exact VLe.refl _ | refine VLe_int ?_ | refine VLe_bool ?_ | refine VLe_str ?_ | skip))
              | (with_reducible refine And.intro ?_ ?_)
              | with_reducible intro _
            all_goals first
              | omega
              | skip
            rw [if_pos (by omega)]
            exact VLe_tup (VLes2 (lns_of rfl) (VLes2 (VLe.refl _) VLes.nil))
  · have e : linesS l width bs = ([], checkW l width) := by unfold linesS; rw [if_neg hw]
    rw [e]
    refine acalls_of fn16 (by simp) ?_
    simp only [List.length_cons, List.length_nil, Nat.reduceAdd, Nat.reduceSub, List.replicate, List.cons_append, List.nil_append, List.append_nil]
    simp (disch := omega) only [c16, go_sem, wrap64_id, Int.tdiv_eq_ediv_of_nonneg, Int.tmod_eq_emod_of_nonneg]
    repeat' first
      | ((first | refine callA_pure (t38 l width _ (by omega)) ?_ ?_); (next => repeat' first | exact flags_n | refine flags_c (by first | rfl | assumption) ?_); simp (disch := omega) only [hw, go_sem, wrap64_id, Int.tdiv_eq_ediv_of_nonneg, Int.tmod_eq_emod_of_nonneg])
      | ((first | refine callG_pure (fun e => ⟨?_, t38 l width _ (by omega)⟩) ?_); (next => repeat' first | exact flags_n | refine flags_c (by first | rfl | assumption) ?_); simp (disch := omega) only [hw, go_sem, wrap64_id, Int.tdiv_eq_ediv_of_nonneg, Int.tmod_eq_emod_of_nonneg])
      | ((first | refine fnQ_pure1 ?_ ?_ | refine fnQ_pure0 ?_ ?_); (next => repeat' first | exact rvs_n | refine rvs_t ?_ | (simp [go_sem]; done)); simp only [go_sem]; (first | exact VLe.refl _ | refine VLe_int ?_ | refine VLe_bool ?_ | refine VLe_str ?_ | skip))
      | (with_reducible refine And.intro ?_ ?_)
      | with_reducible intro _
    all_goals first
      | omega
      | skip
    exact VLe_tup (VLes2 hnl (VLes2 (VLe.refl _) VLes.nil))
end

section
/-! the text BH -/
open Go Go.Proofs AF P48
set_option maxRecDepth 100000
theorem lines_mem {l : List It} {width : Int} : ∀ {ns : List Nat} {frm : Nat} {ls : List P48.Line}, linesGo l width frm ns = some ls → ∀ x ∈ ls, ∃ f t, x = mkLine l width f t ∧ t ∈ ns := by
  intro ns
  induction ns with
  | nil => intro frm ls h x hx; simp [linesGo] at h; subst h; cases hx
  | cons b r ih =>
    intro frm ls h x hx
    simp only [linesGo] at h
    split at h
    · rw [Option.map_eq_some_iff] at h
      obtain ⟨ls', h1, rfl⟩ := h
      rcases List.mem_cons.1 hx with rfl | hx
      · exact ⟨frm, b, rfl, by simp⟩
      · obtain ⟨f, t, e1, e2⟩ := ih h1 x hx
        exact ⟨f, t, e1, by simp [e2]⟩
    · cases h
theorem lines_len {l : List It} {width : Int} : ∀ {ns : List Nat} {frm : Nat} {ls : List P48.Line}, linesGo l width frm ns = some ls → ls.length = ns.length := by
  intro ns
  induction ns with
  | nil => intro frm ls h; simp [linesGo] at h; subst h; rfl
  | cons b r ih =>
    intro frm ls h
    simp only [linesGo] at h
    split at h
    · rw [Option.map_eq_some_iff] at h
      obtain ⟨ls', h1, rfl⟩ := h
      simp [ih h1]
    · cases h
theorem sumCost_snoc (l : List It) (L : List P48.Line) (x : P48.Line) : sumCost l (L ++ [x]) = sumCost l L + (x.badness + penalty l x.to.toNat) := by
  induction L with
  | nil => simp [sumCost]
  | cons y L ih => simp only [List.cons_append, sumCost, ih]; omega
theorem sumCost_take (l : List It) {L : List P48.Line} {i : Nat} (h : i < L.length) : sumCost l (L.take (i + 1)) = sumCost l (L.take i) + ((L.getD i default).badness + penalty l (L.getD i default).to.toNat) := by
  rw [List.take_add_one, List.getElem?_eq_getElem h, Option.toList_some, sumCost_snoc]
  simp [List.getD_eq_getElem?_getD, h]
theorem linesS_mem {l : List It} {width : Int} {bs : List Int} (h : (linesS l width bs).2 = 0) : (linesS l width bs).1.length = bs.length ∧ ∀ x ∈ (linesS l width bs).1, ∃ f t : Nat, x = mkLine l width f t ∧ t ≤ l.length := by
  unfold linesS at h ⊢
  by_cases hw : checkW l width = 0
  · rw [if_pos hw] at h ⊢
    by_cases hb : brokenS l bs = true
    · rw [if_pos hb] at h ⊢
      cases hg : linesGo l width 0 (natsOf bs) with
      | none => rw [hg] at h; cases h
      | some ls =>
        refine ⟨by rw [lines_len hg]; simp [natsOf], fun x hx => ?_⟩
        obtain ⟨f, t, e1, e2⟩ := lines_mem hg x hx
        refine ⟨f, t, e1, ?_⟩
        unfold natsOf at e2
        rw [List.mem_map] at e2
        obtain ⟨a, a1, rfl⟩ := e2
        rw [List.mem_iff_getElem] at a1
        obtain ⟨j, j1, rfl⟩ := a1
        have := broken_at hb j1
        have e : bs.getD j 0 = bs[j] := by simp [List.getD_eq_getElem?_getD, j1]
        omega
    · rw [if_neg hb] at h; simp at h
  · rw [if_neg hw] at h; exact absurd h hw
set_option maxHeartbeats 4000000 in
theorem t20 (l : List It) (width : Int) (bs : List Int) (h : List AObj) (hl : l.length ≤ 300) (hb : bs.length ≤ 1000000) (hB : ∀ i, (it l i).text.length ≤ 1000000) :
    ACalls Try.prog 20 [items l, .int .i64 width, ints bs] h (.tup [.int .i64 (costS l width bs).1, .int .i64 (costS l width bs).2]) h := by
  have hc16 : ∀ h : List AObj, ACalls Try.prog 16 [items l, .int .i64 width, ints bs] h (.tup [lnsV (linesS l width bs).1, .int .i64 (linesS l width bs).2]) h := fun h => t16 l width bs h hl hb hB
  by_cases h0 : (linesS l width bs).2 = 0
  · have e : costS l width bs = (sumCost l (linesS l width bs).1, 0) := by unfold costS; rw [if_pos h0]
    have hw : checkW l width = 0 := by
      unfold linesS at h0
      split at h0
      · assumption
      · exact h0
    obtain ⟨hc, w0, w1⟩ := checkW_range l width hw
    obtain ⟨hlen, hmem⟩ := linesS_mem h0
    rw [e]
    obtain ⟨L, hL⟩ : ∃ L, L = (linesS l width bs).1 := ⟨_, rfl⟩
    rw [← hL] at hlen hmem hc16 ⊢
    rw [h0] at hc16
    have hat : ∀ i, i < L.length → 0 ≤ (L.getD i default).badness ∧ (L.getD i default).badness ≤ 10000 ∧ 0 ≤ (L.getD i default).to ∧ (L.getD i default).to ≤ l.length ∧ 0 ≤ penalty l (L.getD i default).to.toNat ∧ penalty l (L.getD i default).to.toNat ≤ 10000 := by
      intro i hi
      obtain ⟨f, t, e1, e2⟩ := hmem (L.getD i default) (by simp [List.getD_eq_getElem?_getD, hi])
      have h1 := fit_nonneg l width (sumOf Item.width l (begin_ l f t) t) (sumOf Item.stretch l (begin_ l f t) t) (sumOf Item.shrink l (begin_ l f t) t) t
      have h2 : 0 ≤ (mkLine l width f t).badness ∧ (mkLine l width f t).badness ≤ 10000 := h1
      have h3 := penalty_nonneg hc t
      rw [e1]
      have h4 : (mkLine l width f t).to = t := rfl
      rw [h4]
      simp only [Int.toNat_natCast]
      refine ⟨h2.1, h2.2, by omega, by omega, ?_, ?_⟩ <;> omega
    have hsum : ∀ i, i ≤ L.length → 0 ≤ sumCost l (L.take i) ∧ sumCost l (L.take i) ≤ 20000 * i := by
      intro i
      induction i with
      | zero => intro _; simp [sumCost]
      | succ i ih => intro hi; have := ih (by omega); have := hat i (by omega); rw [sumCost_take l (by omega)]; omega
    refine acalls_of fn20 (by simp) ?_
    simp only [List.length_cons, List.length_nil, Nat.reduceAdd, Nat.reduceSub, List.replicate, List.cons_append, List.nil_append, List.append_nil]
    simp (disch := omega) only [c20, go_sem, wrap64_id, Int.tdiv_eq_ediv_of_nonneg, Int.tmod_eq_emod_of_nonneg]
    repeat' first
      | ((first | refine callA_pure (hc16 _) ?_ ?_); (next => repeat' first | exact flags_n | refine flags_c (by first | rfl | assumption) ?_); simp (disch := omega) only [lnsV, go_sem, wrap64_id, Int.tdiv_eq_ediv_of_nonneg, Int.tmod_eq_emod_of_nonneg])
      | ((first | refine callG_pure (fun e => ⟨?_, hc16 _⟩) ?_); (next => repeat' first | exact flags_n | refine flags_c (by first | rfl | assumption) ?_); simp (disch := omega) only [lnsV, go_sem, wrap64_id, Int.tdiv_eq_ediv_of_nonneg, Int.tmod_eq_emod_of_nonneg])
      | ((first | refine fnQ_pure1 ?_ ?_ | refine fnQ_pure0 ?_ ?_); (next => repeat' first | exact rvs_n | refine rvs_t ?_ | (simp [go_sem]; done)); simp only [go_sem]; (first | exact VLe.refl _ | refine VLe_int ?_ | refine VLe_bool ?_ | refine VLe_str ?_ | skip))
      | (with_reducible refine And.intro ?_ ?_)
      | with_reducible intro _
    all_goals first
      | omega
      | skip
    refine loop_of (T := fun i : Nat × AObj => spar 40 [(0, items l), (10, .int .i64 (sumCost l (L.take i.1))), (23, lnsV L), (24, .int .i64 L.length), (25, .int .i64 i.1)]) (H := fun i => h ++ [i.2]) (inv := fun i => i.1 ≤ L.length ∧ site [i.2] 0 = true) (m := fun i => L.length - i.1) (0, .emp 0) ⟨by simp only; omega, rfl⟩ (Wk.temps ?_) ?_
    · (simp only [lnsV, List.take_zero, sumCost, items, ints, spar, List.foldl, List.replicate, go_sem, VLes_nil, VLes_cons, VLe_undef_iff, VLe_self]; try (repeat' first | (with_reducible refine And.intro ?_ ?_) | (refine VLe_int ?_; omega) | (refine VLe_bool ?_; rfl) | exact VLe.refl _))
    · rintro ⟨i, O⟩ ⟨i1, i2⟩ K hK
      simp only at i1 i2 hK
      have i2' : ∀ m, site (O :: m) 0 = true := fun _ => i2
      by_cases hi : i < L.length
      · obtain ⟨a1, a2, a3, a4, a5, a6⟩ := hat i hi
        have hs := hsum i (by omega)
        have hst := sumCost_take l hi
        obtain ⟨to, hto⟩ : ∃ to : Nat, (L.getD i default).to = to := ⟨(L.getD i default).to.toNat, by omega⟩
        rw [hto] at a3 a4 a5 a6 hst
        simp only [Int.toNat_natCast] at a5 a6 hst
        simp (disch := omega) only [spar, List.foldl, List.replicate, lnsV, i2', lineC, hto, go_sem, wrap64_id, Int.tdiv_eq_ediv_of_nonneg, Int.tmod_eq_emod_of_nonneg]
        repeat' first
          | ((first | refine callA_pure (t45 l to _) ?_ ?_); (next => repeat' first | exact flags_n | refine flags_c (by first | rfl | assumption) ?_); simp (disch := omega) only [i2', lineC, hto, go_sem, wrap64_id, Int.tdiv_eq_ediv_of_nonneg, Int.tmod_eq_emod_of_nonneg])
          | ((first | refine callG_pure (fun e => ⟨?_, t45 l to _⟩) ?_); (next => repeat' first | exact flags_n | refine flags_c (by first | rfl | assumption) ?_); simp (disch := omega) only [i2', lineC, hto, go_sem, wrap64_id, Int.tdiv_eq_ediv_of_nonneg, Int.tmod_eq_emod_of_nonneg])
          | ((first | refine fnQ_pure1 ?_ ?_ | refine fnQ_pure0 ?_ ?_); (next => repeat' first | exact rvs_n | refine rvs_t ?_ | (simp [go_sem]; done)); simp only [go_sem]; (first | exact VLe.refl _ | refine VLe_int ?_ | refine VLe_bool ?_ | refine VLe_str ?_ | skip))
          | (with_reducible refine And.intro ?_ ?_)
          | with_reducible intro _
        all_goals first
          | omega
          | skip
        refine hK _ _ (i + 1, .mem (verOf (some O) + 1) 44 (lineC (L.getD i default))) ⟨by simp only; omega, rfl⟩ (by simp only; omega) ?_
        simp only [hst, lineC, hto]
        refine Wk.temps ?_
        (simp only [lnsV, lineC, items, ints, spar, List.foldl, List.replicate, go_sem, VLes_nil, VLes_cons, VLe_undef_iff, VLe_self]; try (repeat' first | (with_reducible refine And.intro ?_ ?_) | (refine VLe_int ?_; omega) | (refine VLe_bool ?_; rfl) | exact VLe.refl _))
      · have e : i = L.length := by omega
        subst e
        rw [List.take_length]
        simp (disch := omega) only [spar, List.foldl, List.replicate, lnsV, i2', go_sem, wrap64_id, Int.tdiv_eq_ediv_of_nonneg, Int.tmod_eq_emod_of_nonneg]
        repeat' first
          | ((first | refine fnQ_pure1 ?_ ?_ | refine fnQ_pure0 ?_ ?_); (next => repeat' first | exact rvs_n | refine rvs_t ?_ | (simp [go_sem]; done)); simp only [go_sem]; (first | exact VLe.refl _ | refine VLe_int ?_ | refine VLe_bool ?_ | refine VLe_str ?_ | skip))
          | (with_reducible refine And.intro ?_ ?_)
          | with_reducible intro _
        all_goals first
          | omega
          | trace_state
  · have e : costS l width bs = (0, (linesS l width bs).2) := by unfold costS; rw [if_neg h0]
    rw [e]
    refine acalls_of fn20 (by simp) ?_
    simp only [List.length_cons, List.length_nil, Nat.reduceAdd, Nat.reduceSub, List.replicate, List.cons_append, List.nil_append, List.append_nil]
    simp (disch := omega) only [c20, go_sem, wrap64_id, Int.tdiv_eq_ediv_of_nonneg, Int.tmod_eq_emod_of_nonneg]
    repeat' first
      | ((first | refine callA_pure (hc16 _) ?_ ?_); (next => repeat' first | exact flags_n | refine flags_c (by first | rfl | assumption) ?_); simp (disch := omega) only [h0, lnsV, go_sem, wrap64_id, Int.tdiv_eq_ediv_of_nonneg, Int.tmod_eq_emod_of_nonneg])
      | ((first | refine callG_pure (fun e => ⟨?_, hc16 _⟩) ?_); (next => repeat' first | exact flags_n | refine flags_c (by first | rfl | assumption) ?_); simp (disch := omega) only [h0, lnsV, go_sem, wrap64_id, Int.tdiv_eq_ediv_of_nonneg, Int.tmod_eq_emod_of_nonneg])
      | ((first | refine fnQ_pure1 ?_ ?_ | refine fnQ_pure0 ?_ ?_); (next => repeat' first | exact rvs_n | refine rvs_t ?_ | (simp [go_sem]; done)); simp only [go_sem]; (first | exact VLe.refl _ | refine VLe_int ?_ | refine VLe_bool ?_ | refine VLe_str ?_ | skip))
      | (with_reducible refine And.intro ?_ ?_)
      | with_reducible intro _
    all_goals first
      | omega
      | rfl
      | trace_state
end

section
/-! the text BI -/
open Go Go.Proofs AF P48
set_option maxRecDepth 100000
def bitOn (m : Int) (i : Nat) : Bool := decide (andK .u16 (shrK .u16 m i) 1 = 1)
def chosenL (m : Int) (n : Nat) : List Nat := (List.range n).filter (bitOn m)
theorem chosenL_succ (m : Int) (n : Nat) : chosenL m (n + 1) = chosenL m n ++ (if bitOn m n then [n] else []) := by
  unfold chosenL
  rw [List.range_succ, List.filter_append]
  cases h : bitOn m n <;> simp [h]
theorem chosenL_len (m : Int) (n : Nat) : (chosenL m n).length ≤ n := by
  unfold chosenL
  exact Nat.le_trans (List.length_filter_le _ _) (by simp)
def outNO (v : Nat) (ls : List Nat) : AObj := if ls = [] then .emp 1 else .mem v 3 (cellsI (ls.map Int.ofNat))
theorem outNO_nil (v : Nat) : outNO v [] = .emp 1 := rfl
theorem outNO_ne {ls : List Nat} (h : ls ≠ []) (v : Nat) : outNO v ls = .mem v 3 (cellsI (ls.map Int.ofNat)) := if_neg h
set_option maxHeartbeats 4000000 in
theorem t19 (l : List It) (m : Int) (h : List AObj) (hl : l.length ≤ 300) :
    ACalls Try.prog 19 [items l, .int .u16 m] h (ints ((chosenL m l.length ++ [l.length]).map Int.ofNat)) h := by
  refine acalls_of fn19 (by simp) ?_
  simp only [List.length_cons, List.length_nil, Nat.reduceAdd, Nat.reduceSub, List.replicate, List.cons_append, List.nil_append, List.append_nil]
  simp (disch := omega) only [c19, items, go_sem, wrap64_id, Int.tdiv_eq_ediv_of_nonneg, Int.tmod_eq_emod_of_nonneg]
  repeat' first
    | ((first | refine fnQ_pure1 ?_ ?_ | refine fnQ_pure0 ?_ ?_); (next => repeat' first | exact rvs_n | refine rvs_t ?_ | (simp [go_sem]; done)); simp only [go_sem]; (first | exact VLe.refl _ | refine VLe_int ?_ | refine VLe_bool ?_ | refine VLe_str ?_ | skip))
    | (with_reducible refine And.intro ?_ ?_)
    | with_reducible intro _
  all_goals first
    | omega
    | skip
  refine loop_of (T := fun i : Nat × AObj × Nat => spar 27 [(0, items l), (1, .int .u16 m), (5, .osl (h.length + 1) i.2.2 1 0 (chosenL m i.1).length), (7, items l), (8, .int .i64 l.length), (9, .int .i64 i.1)]) (H := fun i => h ++ [.emp 1, outNO i.2.2 (chosenL m i.1), i.2.1, .emp 0, .emp 0, .emp 0]) (inv := fun i => i.1 ≤ l.length ∧ site [i.2.1] 0 = true ∧ (chosenL m i.1 = [] → i.2.2 = 1)) (m := fun i => l.length - i.1) (0, .emp 0, 1) ⟨by simp only; omega, rfl, fun _ => rfl⟩ (Wk.temps ?_) ?_
  · (simp only [chosenL, List.range_zero, List.filter_nil, List.length_nil, items, ints, spar, List.foldl, List.replicate, go_sem, VLes_nil, VLes_cons, VLe_undef_iff, VLe_self]; try (repeat' first | (with_reducible refine And.intro ?_ ?_) | (refine VLe_int ?_; omega) | (refine VLe_bool ?_; rfl) | exact VLe.refl _))
  · rintro ⟨i, O, v⟩ ⟨i1, i2, i3⟩ K hK
    simp only at i1 i2 i3 hK
    have i2' : ∀ m, site (O :: m) 0 = true := fun _ => i2
    obtain ⟨L, hL⟩ : ∃ L, L = chosenL m i := ⟨_, rfl⟩
    have hLl := chosenL_len m i
    rw [← hL] at i3 hLl
    simp only [← hL]
    have eL : (cellsI (L.map Int.ofNat)).length = L.length := by rw [cellsI_len, List.length_map]
    have eT : List.take L.length (cellsI (L.map Int.ofNat)) = cellsI (L.map Int.ofNat) := List.take_of_length_le (by omega)
    have hsu := chosenL_succ m i
    rw [← hL] at hsu
    by_cases hi : i < l.length
    · cases hb : bitOn m i with
      | false =>
        rw [hb] at hsu
        simp only [Bool.false_eq_true, if_false, List.append_nil] at hsu
        unfold bitOn at hb
        simp only [decide_eq_false_iff_not] at hb
        simp (disch := omega) only [spar, List.foldl, List.replicate, items, i2', hb, go_sem, wrap64_id, Int.tdiv_eq_ediv_of_nonneg, Int.tmod_eq_emod_of_nonneg]
        repeat' first
          | ((first | refine fnQ_pure1 ?_ ?_ | refine fnQ_pure0 ?_ ?_); (next => repeat' first | exact rvs_n | refine rvs_t ?_ | (simp [go_sem]; done)); simp only [go_sem]; (first | exact VLe.refl _ | refine VLe_int ?_ | refine VLe_bool ?_ | refine VLe_str ?_ | skip))
          | (with_reducible refine And.intro ?_ ?_)
          | with_reducible intro _
        all_goals first
          | omega
          | skip
        refine hK _ _ (i + 1, O, v) ⟨by simp only; omega, i2, by simp only [hsu]; exact i3⟩ (by simp only; omega) ?_
        simp only [hsu]
        refine Wk.temps ?_
        (simp only [items, ints, spar, List.foldl, List.replicate, go_sem, VLes_nil, VLes_cons, VLe_undef_iff, VLe_self]; try (repeat' first | (with_reducible refine And.intro ?_ ?_) | (refine VLe_int ?_; omega) | (refine VLe_bool ?_; rfl) | exact VLe.refl _))
      | true =>
        rw [hb] at hsu
        simp only [if_true] at hsu
        unfold bitOn at hb
        simp only [decide_eq_true_eq] at hb
        by_cases hn : L = []
        · subst hn
          have hv1 := i3 rfl
          subst hv1
          simp (disch := omega) only [spar, List.foldl, List.replicate, items, i2', hb, outNO_nil, List.length_nil, madeA, go_sem, wrap64_id, Int.tdiv_eq_ediv_of_nonneg, Int.tmod_eq_emod_of_nonneg]
          repeat' first
            | ((first | refine fnQ_pure1 ?_ ?_ | refine fnQ_pure0 ?_ ?_); (next => repeat' first | exact rvs_n | refine rvs_t ?_ | (simp [go_sem]; done)); simp only [go_sem]; (first | exact VLe.refl _ | refine VLe_int ?_ | refine VLe_bool ?_ | refine VLe_str ?_ | skip))
            | (with_reducible refine And.intro ?_ ?_)
            | with_reducible intro _
          all_goals first
            | omega
            | (simp; done)
            | skip
          refine hK _ _ (i + 1, .mem (verOf (some O) + 1) 3 [.int .i64 i], 2) ⟨by simp only; omega, rfl, by simp [hsu]⟩ (by simp only; omega) ?_
          simp only [hsu, List.nil_append]
          rw [outNO_ne (by simp)]
          refine Wk.temps ?_
          (simp only [List.length_singleton, items, ints, spar, List.foldl, List.replicate, go_sem, VLes_nil, VLes_cons, VLe_undef_iff, VLe_self]; try (repeat' first | (with_reducible refine And.intro ?_ ?_) | (refine VLe_int ?_; omega) | (refine VLe_bool ?_; rfl) | exact VLe.refl _))
        · have eO := outNO_ne hn v
          simp (disch := omega) only [spar, List.foldl, List.replicate, items, i2', hb, eO, eL, eT, madeA, go_sem, wrap64_id, Int.tdiv_eq_ediv_of_nonneg, Int.tmod_eq_emod_of_nonneg]
          repeat' first
            | ((first | refine fnQ_pure1 ?_ ?_ | refine fnQ_pure0 ?_ ?_); (next => repeat' first | exact rvs_n | refine rvs_t ?_ | (simp [go_sem]; done)); simp only [go_sem]; (first | exact VLe.refl _ | refine VLe_int ?_ | refine VLe_bool ?_ | refine VLe_str ?_ | skip))
            | (with_reducible refine And.intro ?_ ?_)
            | with_reducible intro _
          all_goals first
            | omega
            | (simp; done)
            | skip
          refine hK _ _ (i + 1, .mem (verOf (some O) + 1) 3 [.int .i64 i], v + 1) ⟨by simp only; omega, rfl, by simp [hsu]⟩ (by simp only; omega) ?_
          simp only [hsu]
          rw [outNO_ne (by simp)]
          have e1 : cellsI ((L ++ [i]).map Int.ofNat) = cellsI (L.map Int.ofNat) ++ [.int .i64 i] := by simp [cellsI]
          rw [e1]
          refine Wk.temps ?_
          (simp only [List.length_append, List.length_singleton, items, ints, spar, List.foldl, List.replicate, go_sem, VLes_nil, VLes_cons, VLe_undef_iff, VLe_self]; try (repeat' first | (with_reducible refine And.intro ?_ ?_) | (refine VLe_int ?_; omega) | (refine VLe_bool ?_; rfl) | exact VLe.refl _))
    · have e : i = l.length := by omega
      subst e
      rw [← hL]
      have e1 : cellsI ((L ++ [l.length]).map Int.ofNat) = cellsI (L.map Int.ofNat) ++ [.int .i64 l.length] := by simp [cellsI]
      by_cases hn : L = []
      · subst hn
        have hv1 := i3 rfl
        subst hv1
        simp (disch := omega) only [spar, List.foldl, List.replicate, items, i2', outNO_nil, List.length_nil, madeA, go_sem, wrap64_id, Int.tdiv_eq_ediv_of_nonneg, Int.tmod_eq_emod_of_nonneg]
        repeat' first
          | ((first | refine fnQ_pure1 ?_ ?_ | refine fnQ_pure0 ?_ ?_); (next => repeat' first | exact rvs_n | refine rvs_t ?_ | (simp [go_sem]; done)); simp only [go_sem]; (first | exact VLe.refl _ | refine VLe_int ?_ | refine VLe_bool ?_ | refine VLe_str ?_ | skip))
          | (with_reducible refine And.intro ?_ ?_)
          | with_reducible intro _
        all_goals first
          | omega
          | (simp; done)
          | skip
        exact ints_of (p := [Int.ofNat l.length]) rfl
      · have eO := outNO_ne hn v
        simp (disch := omega) only [spar, List.foldl, List.replicate, items, i2', eO, eL, eT, madeA, go_sem, wrap64_id, Int.tdiv_eq_ediv_of_nonneg, Int.tmod_eq_emod_of_nonneg]
        repeat' first
          | ((first | refine fnQ_pure1 ?_ ?_ | refine fnQ_pure0 ?_ ?_); (next => repeat' first | exact rvs_n | refine rvs_t ?_ | (simp [go_sem]; done)); simp only [go_sem]; (first | exact VLe.refl _ | refine VLe_int ?_ | refine VLe_bool ?_ | refine VLe_str ?_ | skip))
          | (with_reducible refine And.intro ?_ ?_)
          | with_reducible intro _
        all_goals first
          | omega
          | (simp; done)
          | skip
        rw [← e1, if_pos (by rw [cellsI_len, List.length_map, List.length_append, List.length_singleton]; omega)]
        exact ints_of (by rw [List.length_map, List.length_append, List.length_singleton])
end

section
/-! the text BJ -/
open Go Go.Proofs AF P48
set_option maxRecDepth 100000
theorem t81 (x : Int) (h : List AObj) : ACalls Try.prog 81 [.int .i64 x] h (.bool false) h := by
  refine acalls_of fn81 (by simp) ?_
  simp only [List.length_cons, List.length_nil, Nat.reduceAdd, Nat.reduceSub, List.replicate, List.cons_append, List.nil_append, List.append_nil]
  simp (disch := omega) only [c81, go_sem, wrap64_id, Int.tdiv_eq_ediv_of_nonneg, Int.tmod_eq_emod_of_nonneg]
  repeat' first
    | ((first | refine fnQ_pure1 ?_ ?_ | refine fnQ_pure0 ?_ ?_); (next => repeat' first | exact rvs_n | refine rvs_t ?_ | (simp [go_sem]; done)); simp only [go_sem]; (first | exact VLe.refl _ | refine VLe_int ?_ | refine VLe_bool ?_ | refine VLe_str ?_ | skip))
    | (with_reducible refine And.intro ?_ ?_)
    | with_reducible intro _
  all_goals first
    | omega
    | trace_state
def cmpI (a b : Int) : Int := if a < b then -1 else if b < a then 1 else 0
theorem t49 (a b : Int) (h : List AObj) : ACalls Try.prog 49 [.int .i64 a, .int .i64 b] h (.int .i64 (cmpI a b)) h := by
  refine acalls_of fn49 (by simp) ?_
  simp only [List.length_cons, List.length_nil, Nat.reduceAdd, Nat.reduceSub, List.replicate, List.cons_append, List.nil_append, List.append_nil]
  simp (disch := omega) only [c49, go_sem, wrap64_id, Int.tdiv_eq_ediv_of_nonneg, Int.tmod_eq_emod_of_nonneg]
  repeat' first
    | ((first | refine callA_pure (t81 _ _) ?_ ?_); (next => repeat' first | exact flags_n | refine flags_c (by first | rfl | assumption) ?_); simp (disch := omega) only [go_sem, wrap64_id, Int.tdiv_eq_ediv_of_nonneg, Int.tmod_eq_emod_of_nonneg])
    | ((first | refine callG_pure (fun e => ⟨?_, t81 _ _⟩) ?_); (next => repeat' first | exact flags_n | refine flags_c (by first | rfl | assumption) ?_); simp (disch := omega) only [go_sem, wrap64_id, Int.tdiv_eq_ediv_of_nonneg, Int.tmod_eq_emod_of_nonneg])
    | ((first | refine fnQ_pure1 ?_ ?_ | refine fnQ_pure0 ?_ ?_); (next => repeat' first | exact rvs_n | refine rvs_t ?_ | (simp [go_sem]; done)); simp only [go_sem]; (first | exact VLe.refl _ | refine VLe_int ?_ | refine VLe_bool ?_ | refine VLe_str ?_ | skip))
    | (with_reducible refine And.intro ?_ ?_)
    | with_reducible intro _
  all_goals first
    | omega
    | (unfold cmpI; split <;> (try split) <;> omega)
    | trace_state
def cmpL : List Int → List Int → Int
  | [], [] => 0
  | [], _ :: _ => -1
  | _ :: _, [] => 1
  | a :: l, b :: m => if cmpI a b = 0 then cmpL l m else cmpI a b
theorem lex_cmp : ∀ (a b : List Nat), lexLe a b = true → cmpL (a.map Int.ofNat) (b.map Int.ofNat) ≤ 0 := by
  intro a
  induction a with
  | nil => intro b _; cases b <;> simp [cmpL]
  | cons x a ih =>
    intro b h
    cases b with
    | nil => cases h
    | cons y b =>
      simp only [lexLe, Bool.or_eq_true, Bool.and_eq_true, decide_eq_true_eq] at h
      simp only [List.map_cons, cmpL]
      rcases h with h | ⟨rfl, h⟩
      · have : cmpI (Int.ofNat x) (Int.ofNat y) = -1 := by unfold cmpI; rw [if_pos (by simp; omega)]
        rw [this]; simp
      · have : cmpI (Int.ofNat x) (Int.ofNat x) = 0 := by unfold cmpI; simp
        rw [this, if_pos rfl]
        exact ih b h
theorem drop_getD (a : List Int) {i : Nat} (h : i < a.length) : a.drop i = a.getD i 0 :: a.drop (i + 1) := by
  rw [List.drop_eq_getElem_cons h]; simp [List.getD_eq_getElem?_getD, h]
set_option maxHeartbeats 2000000 in
theorem t21 (a b : List Int) (h : List AObj) (ha : a.length ≤ 1000000) (hb : b.length ≤ 1000000) : ACalls Try.prog 21 [ints a, ints b] h (.int .i64 (cmpL a b)) h := by
  refine acalls_of fn21 (by simp) ?_
  simp only [List.length_cons, List.length_nil, Nat.reduceAdd, Nat.reduceSub, List.replicate, List.cons_append, List.nil_append, List.append_nil]
  simp (disch := omega) only [c21, ints, go_sem, wrap64_id, Int.tdiv_eq_ediv_of_nonneg, Int.tmod_eq_emod_of_nonneg]
  refine loop_of (T := fun i : Nat => spar 36 [(0, ints a), (1, ints b), (9, ints a), (10, .int .i64 a.length), (11, .int .i64 i)]) (H := fun _ => h) (inv := fun i => i ≤ a.length ∧ i ≤ b.length ∧ cmpL a b = cmpL (a.drop i) (b.drop i)) (m := fun i => a.length - i) 0 ⟨by omega, by omega, rfl⟩ (Wk.temps ?_) ?_
  · (simp only [items, ints, spar, List.foldl, List.replicate, go_sem, VLes_nil, VLes_cons, VLe_undef_iff, VLe_self]; try (repeat' first | (with_reducible refine And.intro ?_ ?_) | (refine VLe_int ?_; omega) | (refine VLe_bool ?_; rfl) | exact VLe.refl _))
  · rintro i ⟨i1, i2, i3⟩ K hK
    by_cases hi : i < a.length
    · rw [drop_getD a hi] at i3
      by_cases hj : i < b.length
      · rw [drop_getD b hj] at i3
        simp only [cmpL] at i3
        by_cases hc : cmpI (a.getD i 0) (b.getD i 0) = 0
        · rw [if_pos hc] at i3
          simp (disch := omega) only [spar, List.foldl, List.replicate, ints, go_sem, wrap64_id, Int.tdiv_eq_ediv_of_nonneg, Int.tmod_eq_emod_of_nonneg]
          repeat' first
            | ((first | refine callA_pure (t49 _ _ _) ?_ ?_); (next => repeat' first | exact flags_n | refine flags_c (by first | rfl | assumption) ?_); simp (disch := omega) only [hc, ints, go_sem, wrap64_id, Int.tdiv_eq_ediv_of_nonneg, Int.tmod_eq_emod_of_nonneg])
            | ((first | refine callG_pure (fun e => ⟨?_, t49 _ _ _⟩) ?_); (next => repeat' first | exact flags_n | refine flags_c (by first | rfl | assumption) ?_); simp (disch := omega) only [hc, ints, go_sem, wrap64_id, Int.tdiv_eq_ediv_of_nonneg, Int.tmod_eq_emod_of_nonneg])
            | ((first | refine fnQ_pure1 ?_ ?_ | refine fnQ_pure0 ?_ ?_); (next => repeat' first | exact rvs_n | refine rvs_t ?_ | (simp [go_sem]; done)); simp only [go_sem]; (first | exact VLe.refl _ | refine VLe_int ?_ | refine VLe_bool ?_ | refine VLe_str ?_ | skip))
            | (with_reducible refine And.intro ?_ ?_)
            | with_reducible intro _
          all_goals first
            | omega
            | skip
          refine hK _ _ (i + 1) ⟨by omega, by omega, i3⟩ (by omega) (Wk.temps ?_)
          (simp only [items, ints, spar, List.foldl, List.replicate, go_sem, VLes_nil, VLes_cons, VLe_undef_iff, VLe_self]; try (repeat' first | (with_reducible refine And.intro ?_ ?_) | (refine VLe_int ?_; omega) | (refine VLe_bool ?_; rfl) | exact VLe.refl _))
        · rw [if_neg hc] at i3
          rw [i3]
          simp (disch := omega) only [spar, List.foldl, List.replicate, ints, go_sem, wrap64_id, Int.tdiv_eq_ediv_of_nonneg, Int.tmod_eq_emod_of_nonneg]
          repeat' first
            | ((first | refine callA_pure (t49 _ _ _) ?_ ?_); (next => repeat' first | exact flags_n | refine flags_c (by first | rfl | assumption) ?_); simp (disch := omega) only [hc, ints, go_sem, wrap64_id, Int.tdiv_eq_ediv_of_nonneg, Int.tmod_eq_emod_of_nonneg])
            | ((first | refine callG_pure (fun e => ⟨?_, t49 _ _ _⟩) ?_); (next => repeat' first | exact flags_n | refine flags_c (by first | rfl | assumption) ?_); simp (disch := omega) only [hc, ints, go_sem, wrap64_id, Int.tdiv_eq_ediv_of_nonneg, Int.tmod_eq_emod_of_nonneg])
            | ((first | refine fnQ_pure1 ?_ ?_ | refine fnQ_pure0 ?_ ?_); (next => repeat' first | exact rvs_n | refine rvs_t ?_ | (simp [go_sem]; done)); simp only [go_sem]; (first | exact VLe.refl _ | refine VLe_int ?_ | refine VLe_bool ?_ | refine VLe_str ?_ | skip))
            | (with_reducible refine And.intro ?_ ?_)
            | with_reducible intro _
          all_goals first
            | omega
            | trace_state
      · have e : b.drop i = [] := List.drop_eq_nil_of_le (by omega)
        rw [e] at i3
        simp only [cmpL] at i3
        rw [i3]
        simp (disch := omega) only [spar, List.foldl, List.replicate, ints, go_sem, wrap64_id, Int.tdiv_eq_ediv_of_nonneg, Int.tmod_eq_emod_of_nonneg]
        repeat' first
          | ((first | refine fnQ_pure1 ?_ ?_ | refine fnQ_pure0 ?_ ?_); (next => repeat' first | exact rvs_n | refine rvs_t ?_ | (simp [go_sem]; done)); simp only [go_sem]; (first | exact VLe.refl _ | refine VLe_int ?_ | refine VLe_bool ?_ | refine VLe_str ?_ | skip))
          | (with_reducible refine And.intro ?_ ?_)
          | with_reducible intro _
        all_goals first
          | omega
          | trace_state
    · have e : a.drop i = [] := List.drop_eq_nil_of_le (by omega)
      have e' : i = a.length := by omega
      rw [e] at i3
      by_cases hj : i < b.length
      · rw [drop_getD b hj] at i3
        simp only [cmpL] at i3
        rw [i3]
        simp (disch := omega) only [spar, List.foldl, List.replicate, ints, go_sem, wrap64_id, Int.tdiv_eq_ediv_of_nonneg, Int.tmod_eq_emod_of_nonneg]
        repeat' first
          | ((first | refine fnQ_pure1 ?_ ?_ | refine fnQ_pure0 ?_ ?_); (next => repeat' first | exact rvs_n | refine rvs_t ?_ | (simp [go_sem]; done)); simp only [go_sem]; (first | exact VLe.refl _ | refine VLe_int ?_ | refine VLe_bool ?_ | refine VLe_str ?_ | skip))
          | (with_reducible refine And.intro ?_ ?_)
          | with_reducible intro _
        all_goals first
          | omega
          | trace_state
      · have e2 : b.drop i = [] := List.drop_eq_nil_of_le (by omega)
        rw [e2] at i3
        simp only [cmpL] at i3
        rw [i3]
        simp (disch := omega) only [spar, List.foldl, List.replicate, ints, go_sem, wrap64_id, Int.tdiv_eq_ediv_of_nonneg, Int.tmod_eq_emod_of_nonneg]
        repeat' first
          | ((first | refine fnQ_pure1 ?_ ?_ | refine fnQ_pure0 ?_ ?_); (next => repeat' first | exact rvs_n | refine rvs_t ?_ | (simp [go_sem]; done)); simp only [go_sem]; (first | exact VLe.refl _ | refine VLe_int ?_ | refine VLe_bool ?_ | refine VLe_str ?_ | skip))
          | (with_reducible refine And.intro ?_ ?_)
          | with_reducible intro _
        all_goals first
          | omega
          | trace_state
end

section
/-! the text BK -/
open Go Go.Proofs AF P48
set_option maxRecDepth 100000
theorem brkGo_len (l : List It) (width : Int) (p : List Int) : ∀ (k frm : Nat), (brkGo l width p k frm).length ≤ k := by
  intro k
  induction k with
  | zero => intro frm; simp [brkGo]
  | succ k ih =>
    intro frm
    unfold brkGo
    split
    · simp
    · split
      · simp; exact ih _
      · simp
theorem len_nat (L : List Nat) : (L.map Int.ofNat).length = L.length := List.length_map ..
set_option maxHeartbeats 4000000 in
theorem law7 (l : List It) (width att : Int) (h : List AObj) (hl : l.length ≤ 9223372036854775807) (m0 : 0 ≤ att) (m1 : att ≤ 65535) : ACalls Try.prog 7 [items l, .int .i64 width, .int .u16 att] h (.bool true) h := by
  cases hf : fine l width with
  | false =>
    refine acalls_of fn7 (by simp) ?_
    simp only [List.length_cons, List.length_nil, Nat.reduceAdd, Nat.reduceSub, List.replicate, List.cons_append, List.nil_append, List.append_nil]
    simp (disch := omega) only [c7, hf, go_sem, wrap64_id, Int.tdiv_eq_ediv_of_nonneg, Int.tmod_eq_emod_of_nonneg]
    repeat' first
      | ((first | refine callA_pure (t10 l width _ hl) ?_ ?_ | refine callA_pure (t11 _) ?_ ?_); (next => repeat' first | exact flags_n | refine flags_c (by first | rfl | assumption) ?_); simp (disch := omega) only [hf, go_sem, wrap64_id, Int.tdiv_eq_ediv_of_nonneg, Int.tmod_eq_emod_of_nonneg])
      | ((first | refine callG_pure (fun e => ⟨?_, t10 l width _ hl⟩) ?_ | refine callG_pure (fun e => ⟨?_, t11 _⟩) ?_); (next => repeat' first | exact flags_n | refine flags_c (by first | rfl | assumption) ?_); simp (disch := omega) only [hf, go_sem, wrap64_id, Int.tdiv_eq_ediv_of_nonneg, Int.tmod_eq_emod_of_nonneg])
      | ((first | refine fnQ_pure1 ?_ ?_ | refine fnQ_pure0 ?_ ?_); (next => repeat' first | exact rvs_n | refine rvs_t ?_ | (simp [go_sem]; done)); simp only [go_sem]; (first | exact VLe.refl _ | refine VLe_int ?_ | refine VLe_bool ?_ | refine VLe_str ?_ | skip))
      | (with_reducible refine And.intro ?_ ?_)
      | with_reducible intro _
  | true =>
    have hg := great_small (fine_great hf)
    obtain ⟨l14, hc, w0, w1⟩ := fine_spec hf
    have hv := Valid.of (by omega) hc
    have hw := fine_checkW hf
    obtain ⟨ns, hns⟩ : ∃ ns, ns = chosenL att l.length ++ [l.length] := ⟨_, rfl⟩
    have hnl : ns.length ≤ 15 := by rw [hns, List.length_append, List.length_singleton]; have := chosenL_len att l.length; omega
    have hc19 : ∀ h : List AObj, ACalls Try.prog 19 [items l, .int .u16 att] h (ints (ns.map Int.ofNat)) h := fun h => by rw [hns]; exact t19 l att h (by omega)
    obtain ⟨c, hcc⟩ : ∃ c, c = costS l width (ns.map Int.ofNat) := ⟨_, rfl⟩
    have hc20 : ∀ h : List AObj, ACalls Try.prog 20 [items l, .int .i64 width, ints (ns.map Int.ofNat)] h (.tup [.int .i64 c.1, .int .i64 c.2]) h := fun h => by rw [hcc]; exact t20 l width _ h (by omega) (by rw [len_nat]; omega) hg.2
    obtain ⟨n, hn⟩ : ∃ n, n = (pots l width).getD 0 0 := ⟨_, rfl⟩
    by_cases hneg : n < 0
    · have hb : breakAV l width = .tup [ints [], .int .i64 0, .int .i64 23] := by unfold breakAV; rw [if_pos hw, ← hn, if_pos hneg]
      have hc13 : ∀ h : List AObj, ACalls Try.prog 13 [items l, .int .i64 width] h (.tup [ints [], .int .i64 0, .int .i64 23]) h := fun h => by rw [← hb]; exact t13 l width h (by omega)
      have hne : ¬ c.2 = 0 := by
        rw [hcc]
        refine cost_err hw ns ?_
        cases hp : path l width 0 ns with
        | none => rfl
        | some x => have := path_ge hc hp; omega
      refine acalls_of fn7 (by simp) ?_
      simp only [List.length_cons, List.length_nil, Nat.reduceAdd, Nat.reduceSub, List.replicate, List.cons_append, List.nil_append, List.append_nil]
      simp (disch := omega) only [c7, hf, go_sem, wrap64_id, Int.tdiv_eq_ediv_of_nonneg, Int.tmod_eq_emod_of_nonneg]
      repeat' first
        | ((first | refine callA_pure (t10 l width _ hl) ?_ ?_ | refine callA_pure (hc19 _) ?_ ?_ | refine callA_pure (hc20 _) ?_ ?_ | refine callA_pure (hc13 _) ?_ ?_ | refine callA_pure (t11 _) ?_ ?_); (next => repeat' first | exact flags_n | refine flags_c (by first | rfl | assumption) ?_); simp (disch := omega) only [hf, ints, List.length_nil, hne, go_sem, wrap64_id, Int.tdiv_eq_ediv_of_nonneg, Int.tmod_eq_emod_of_nonneg])
        | ((first | refine callG_pure (fun e => ⟨?_, t10 l width _ hl⟩) ?_ | refine callG_pure (fun e => ⟨?_, hc19 _⟩) ?_ | refine callG_pure (fun e => ⟨?_, hc20 _⟩) ?_ | refine callG_pure (fun e => ⟨?_, hc13 _⟩) ?_ | refine callG_pure (fun e => ⟨?_, t11 _⟩) ?_); (next => repeat' first | exact flags_n | refine flags_c (by first | rfl | assumption) ?_); simp (disch := omega) only [hf, ints, List.length_nil, hne, go_sem, wrap64_id, Int.tdiv_eq_ediv_of_nonneg, Int.tmod_eq_emod_of_nonneg])
        | ((first | refine fnQ_pure1 ?_ ?_ | refine fnQ_pure0 ?_ ?_); (next => repeat' first | exact rvs_n | refine rvs_t ?_ | (simp [go_sem]; done)); simp only [go_sem]; (first | exact VLe.refl _ | refine VLe_int ?_ | refine VLe_bool ?_ | refine VLe_str ?_ | skip))
        | (with_reducible refine And.intro ?_ ?_)
        | with_reducible intro _
      all_goals first
        | omega
        | trace_state
    · obtain ⟨br, hbr⟩ : ∃ br, br = brk l width := ⟨_, rfl⟩
      have hb : breakAV l width = .tup [ints (br.map Int.ofNat), .int .i64 n, .int .i64 0] := by unfold breakAV; rw [if_pos hw, ← hn, if_neg hneg, hbr]
      have hc13 : ∀ h : List AObj, ACalls Try.prog 13 [items l, .int .i64 width] h (.tup [ints (br.map Int.ofNat), .int .i64 n, .int .i64 0]) h := fun h => by rw [← hb]; exact t13 l width h (by omega)
      have hpb := brk_path hc (width := width) (l.length + 1) 0 (by omega) (by omega) (by omega)
      have hbl : br.length ≤ 15 := by rw [hbr]; exact Nat.le_trans (brkGo_len l width _ _ _) (by omega)
      have hown : costS l width (br.map Int.ofNat) = (n, 0) := by rw [← cost_path hw, hbr, hn]; exact hpb
      have hc20b : ∀ h : List AObj, ACalls Try.prog 20 [items l, .int .i64 width, ints (br.map Int.ofNat)] h (.tup [.int .i64 n, .int .i64 0]) h := fun h => by
        have := t20 l width (br.map Int.ofNat) h (by omega) (by rw [len_nat]; omega) hg.2
        rwa [hown] at this
      have hc21 : ∀ h : List AObj, ACalls Try.prog 21 [ints (br.map Int.ofNat), ints (ns.map Int.ofNat)] h (.int .i64 (cmpL (br.map Int.ofNat) (ns.map Int.ofNat))) h := fun h => t21 _ _ h (by rw [len_nat]; omega) (by rw [len_nat]; omega)
      have hfin : c.2 = 0 → n ≤ c.1 ∧ (c.1 = n → cmpL (br.map Int.ofNat) (ns.map Int.ofNat) ≤ 0) := by
        intro h0
        have hp : path l width 0 ns = some c.1 := by rw [cost_path hw, ← hcc, ← h0]
        have h1 := path_ge hc hp
        refine ⟨by omega, fun he => ?_⟩
        refine lex_cmp _ _ ?_
        rw [hbr]
        refine brk_first hc (l.length + 1) 0 ns (by omega) (by omega) ?_
        rw [hp, he, hn]
      by_cases h0 : c.2 = 0
      · obtain ⟨f1, f2⟩ := hfin h0
        refine acalls_of fn7 (by simp) ?_
        simp only [List.length_cons, List.length_nil, Nat.reduceAdd, Nat.reduceSub, List.replicate, List.cons_append, List.nil_append, List.append_nil]
        simp (disch := omega) only [c7, hf, go_sem, wrap64_id, Int.tdiv_eq_ediv_of_nonneg, Int.tmod_eq_emod_of_nonneg]
        repeat' first
          | ((first | refine callA_pure (t10 l width _ hl) ?_ ?_ | refine callA_pure (hc19 _) ?_ ?_ | refine callA_pure (hc20 _) ?_ ?_ | refine callA_pure (hc13 _) ?_ ?_ | refine callA_pure (hc20b _) ?_ ?_ | refine callA_pure (hc21 _) ?_ ?_ | refine callA_pure (t11 _) ?_ ?_); (next => repeat' first | exact flags_n | refine flags_c (by first | rfl | assumption) ?_); simp (disch := omega) only [hf, h0, go_sem, wrap64_id, Int.tdiv_eq_ediv_of_nonneg, Int.tmod_eq_emod_of_nonneg])
          | ((first | refine callG_pure (fun e => ⟨?_, t10 l width _ hl⟩) ?_ | refine callG_pure (fun e => ⟨?_, hc19 _⟩) ?_ | refine callG_pure (fun e => ⟨?_, hc20 _⟩) ?_ | refine callG_pure (fun e => ⟨?_, hc13 _⟩) ?_ | refine callG_pure (fun e => ⟨?_, hc20b _⟩) ?_ | refine callG_pure (fun e => ⟨?_, hc21 _⟩) ?_ | refine callG_pure (fun e => ⟨?_, t11 _⟩) ?_); (next => repeat' first | exact flags_n | refine flags_c (by first | rfl | assumption) ?_); simp (disch := omega) only [hf, h0, go_sem, wrap64_id, Int.tdiv_eq_ediv_of_nonneg, Int.tmod_eq_emod_of_nonneg])
          | ((first | refine fnQ_pure1 ?_ ?_ | refine fnQ_pure0 ?_ ?_); (next => repeat' first | exact rvs_n | refine rvs_t ?_ | (simp [go_sem]; done)); simp only [go_sem]; (first | exact VLe.refl _ | refine VLe_int ?_ | refine VLe_bool ?_ | refine VLe_str ?_ | skip))
          | (with_reducible refine And.intro ?_ ?_)
          | with_reducible intro _
        all_goals first
          | omega
          | skip
        simp only [Bool.or_eq_true, Bool.and_eq_true, decide_eq_true_eq]
        omega
      · refine acalls_of fn7 (by simp) ?_
        simp only [List.length_cons, List.length_nil, Nat.reduceAdd, Nat.reduceSub, List.replicate, List.cons_append, List.nil_append, List.append_nil]
        simp (disch := omega) only [c7, hf, go_sem, wrap64_id, Int.tdiv_eq_ediv_of_nonneg, Int.tmod_eq_emod_of_nonneg]
        repeat' first
          | ((first | refine callA_pure (t10 l width _ hl) ?_ ?_ | refine callA_pure (hc19 _) ?_ ?_ | refine callA_pure (hc20 _) ?_ ?_ | refine callA_pure (hc13 _) ?_ ?_ | refine callA_pure (hc20b _) ?_ ?_ | refine callA_pure (hc21 _) ?_ ?_ | refine callA_pure (t11 _) ?_ ?_); (next => repeat' first | exact flags_n | refine flags_c (by first | rfl | assumption) ?_); simp (disch := omega) only [hf, h0, go_sem, wrap64_id, Int.tdiv_eq_ediv_of_nonneg, Int.tmod_eq_emod_of_nonneg])
          | ((first | refine callG_pure (fun e => ⟨?_, t10 l width _ hl⟩) ?_ | refine callG_pure (fun e => ⟨?_, hc19 _⟩) ?_ | refine callG_pure (fun e => ⟨?_, hc20 _⟩) ?_ | refine callG_pure (fun e => ⟨?_, hc13 _⟩) ?_ | refine callG_pure (fun e => ⟨?_, hc20b _⟩) ?_ | refine callG_pure (fun e => ⟨?_, hc21 _⟩) ?_ | refine callG_pure (fun e => ⟨?_, t11 _⟩) ?_); (next => repeat' first | exact flags_n | refine flags_c (by first | rfl | assumption) ?_); simp (disch := omega) only [hf, h0, go_sem, wrap64_id, Int.tdiv_eq_ediv_of_nonneg, Int.tmod_eq_emod_of_nonneg])
          | ((first | refine fnQ_pure1 ?_ ?_ | refine fnQ_pure0 ?_ ?_); (next => repeat' first | exact rvs_n | refine rvs_t ?_ | (simp [go_sem]; done)); simp only [go_sem]; (first | exact VLe.refl _ | refine VLe_int ?_ | refine VLe_bool ?_ | refine VLe_str ?_ | skip))
          | (with_reducible refine And.intro ?_ ?_)
          | with_reducible intro _
        all_goals first
          | omega
          | trace_state
end

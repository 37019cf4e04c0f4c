import Derived.Test.YtonpflblcnpegaaDoorE12
set_option linter.all false
set_option linter.unusedSimpArgs false
set_option linter.unusedVariables false
set_option linter.unusedSectionVars false
open Go Go.Proofs AF HY
namespace HY
set_option maxRecDepth 100000
def notMark (c : UInt8) : Bool := !decide (kind c = 2)
theorem some_inner {s : List UInt8} (h : checkC s = 0) (hs : s.length ≤ 64) : s.any notMark = !decide (s = []) := by
  rw [checkC_eq, if_neg (by omega)] at h
  cases s with
  | nil => rfl
  | cons c r =>
    have hb : badAt (c :: r) 0 = false := by
      cases hb : badAt (c :: r) 0 with
      | false => rfl
      | true => rw [if_pos (any_range_true (i := 0) (by simp) hb)] at h; cases h
    have hm : notMark c = true := by
      unfold badAt at hb
      simp [ch, rightAt] at hb
      unfold notMark
      simp [hb.2]
    simp [hm]
theorem inner_len (s : List UInt8) : (inner s).length ≤ s.length := by
  unfold inner trimSuf trimPre
  split <;> split <;> simp <;> omega
theorem any_snoc_take {s : List UInt8} {p : UInt8 → Bool} {i : Nat} (h : i < s.length) : (s.take (i + 1)).any p = ((s.take i).any p || p (ch s i)) := by
  rw [List.take_add_one, List.any_append, List.getElem?_eq_getElem h]
  simp [ch, h]
theorem any_first {s : List UInt8} {p : UInt8 → Bool} {i : Nat} (h : i < s.length) (hp : p (ch s i) = true) : s.any p = true := by
  rw [List.any_eq_true]
  exact ⟨s[i], List.getElem_mem h, by simpa [ch, h] using hp⟩
set_option maxHeartbeats 8000000 in
theorem t87 (p : Pat) (h : List AObj) (hl : p.letters.length ≤ 1000000000) (hv : p.levels.length ≤ 1000000000) : ACalls Tryd.prog 54 [.agg (patC p)] h (.int .i64 (checkPat p)) h := by
  unfold checkPat
  by_cases g0 : 64 < p.letters.length
  · have k0 : (64 < (p.letters.length : Int)) = True := eq_true (by omega)
    rw [if_pos g0]
    refine acalls_of fn54d (by simp) ?_
    simp only [List.length_cons, List.length_nil, Nat.reduceAdd, Nat.reduceSub, List.replicate, List.cons_append, List.nil_append, List.append_nil]
    simp (disch := omega) only [c54d, patC, k0, go_sem, wrap64_id, Int.tdiv_eq_ediv_of_nonneg, Int.tmod_eq_emod_of_nonneg]
    repeat' first
      | ((first | refine fnQ_pure1 ?_ ?_ | refine fnQ_pure0 ?_ ?_); (next => repeat' first | exact rvs_n | refine rvs_t ?_ | (simp [go_sem]; done)); simp only [go_sem]; (first | exact VLe.refl _ | refine VLe_int ?_ | refine VLe_bool ?_ | refine VLe_str ?_ | skip))
      | (with_reducible refine And.intro ?_ ?_)
      | with_reducible intro _
    all_goals first
      | omega
      | (rename_i hx; revert hx; simp; done)
      | (simp; done)
      | skip
  · have k0 : (64 < (p.letters.length : Int)) = False := eq_false (by omega)
    rw [if_neg g0]
    have hil := inner_len p.letters
    have htl : (trimPre p.letters [46]).length ≤ 1000000000 := by
      unfold trimPre
      split
      · rw [List.length_drop]; omega
      · omega
    obtain ⟨own, hown⟩ : ∃ o, o = inner p.letters := ⟨_, rfl⟩
    have c101 := fun h => t101 p.letters [46] h hl (by simp)
    have c100 : ∀ h : List AObj, ACalls Tryd.prog 83 [.str (trimPre p.letters [46]), .str [46]] h (.str own) h := fun h => by rw [hown]; exact t100 _ [46] h htl (by simp)
    rw [← hown] at hil ⊢
    obtain ⟨q, hq⟩ : ∃ q, q = checkC own := ⟨_, rfl⟩
    have c104 : ∀ h : List AObj, ACalls Tryd.prog 70 [.str own] h (.int .i64 q) h := fun h => by rw [hq]; exact t104 own h (by omega)
    have hso : q = 0 → own.any notMark = !decide (own = []) := fun e => some_inner (by rw [← hq]; exact e) (by omega)
    rw [← hq]
    refine acalls_of fn54d (by simp) ?_
    simp only [List.length_cons, List.length_nil, Nat.reduceAdd, Nat.reduceSub, List.replicate, List.cons_append, List.nil_append, List.append_nil]
    simp (disch := omega) only [c54d, patC, k0, go_sem, wrap64_id, Int.tdiv_eq_ediv_of_nonneg, Int.tmod_eq_emod_of_nonneg]
    repeat' first
      | ((first | refine callA_pure (c101 _) ?_ ?_ | refine callA_pure (c100 _) ?_ ?_); (next => repeat' first | exact flags_n | refine flags_c (by first | rfl | assumption) ?_); simp (disch := omega) only [k0, patC, go_sem, wrap64_id, Int.tdiv_eq_ediv_of_nonneg, Int.tmod_eq_emod_of_nonneg])
      | ((first | refine callG_pure (fun e => ⟨?_, c101 _⟩) ?_ | refine callG_pure (fun e => ⟨?_, c100 _⟩) ?_); (next => repeat' first | exact flags_n | refine flags_c (by first | rfl | assumption) ?_); simp (disch := omega) only [k0, patC, go_sem, wrap64_id, Int.tdiv_eq_ediv_of_nonneg, Int.tmod_eq_emod_of_nonneg])
      | ((first | refine fnQ_pure1 ?_ ?_ | refine fnQ_pure0 ?_ ?_); (next => repeat' first | exact rvs_n | refine rvs_t ?_ | (simp [go_sem]; done)); simp only [go_sem]; (first | exact VLe.refl _ | refine VLe_int ?_ | refine VLe_bool ?_ | refine VLe_str ?_ | skip))
      | (with_reducible refine And.intro ?_ ?_)
      | with_reducible intro _
    all_goals first
      | omega
      | (rename_i hx; revert hx; simp; done)
      | (simp; done)
      | skip
    refine loop_of (T := fun i : Nat => spar 80 [(1, .op h.length 1 0), (3, .str own), (4, .fn (.func 85) [] []), (5, .bool ((own.take i).any notMark)), (16, .int .i64 own.length), (17, .int .i64 i)]) (H := fun _ => h ++ [.mem 1 32 [.str p.letters, intsV p.levels]])
      (inv := fun i => i ≤ own.length ∧ ∀ j, j < i → onlyC (ch own j) = true) (m := fun i => own.length - i) 0 ⟨by omega, by omega⟩ (Wk.temps ?_) ?_
    · (simp only [List.take_zero, List.any_nil, spar, List.foldl, List.replicate, go_sem, VLes_nil, VLes_cons, VLe_undef_iff, VLe_self]; try (repeat' first | (with_reducible refine And.intro ?_ ?_) | (refine VLe_int ?_; omega) | (refine VLe_bool ?_; rfl) | exact VLe.refl _))
    · rintro i ⟨i1, i2⟩ K hK
      by_cases hi : i < own.length
      · have c102 := fun h => t102 (ch own i) h
        cases hb : onlyC (ch own i) with
        | false =>
          rw [hb] at c102
          rw [if_pos (any_first (p := fun c => !onlyC c) hi (by rw [hb]; rfl))]
          simp (disch := omega) only [spar, List.foldl, List.replicate, ch_eq, go_sem, wrap64_id, Int.tdiv_eq_ediv_of_nonneg, Int.tmod_eq_emod_of_nonneg]
          repeat' first
            | (refine callV_pure (c102 _) ?_; simp (disch := omega) only [ch_eq, go_sem, wrap64_id, Int.tdiv_eq_ediv_of_nonneg, Int.tmod_eq_emod_of_nonneg])
            | ((first | refine fnQ_pure1 ?_ ?_ | refine fnQ_pure0 ?_ ?_); (next => repeat' first | exact rvs_n | refine rvs_t ?_ | (simp [go_sem]; done)); simp only [go_sem]; (first | exact VLe.refl _ | refine VLe_int ?_ | refine VLe_bool ?_ | refine VLe_str ?_ | skip))
            | (with_reducible refine And.intro ?_ ?_)
            | with_reducible intro _
          all_goals first
            | omega
            | (rename_i hx; revert hx; simp; done)
            | (simp; done)
            | skip
        | true =>
          rw [hb] at c102
          have hst := any_snoc_take (p := notMark) hi
          simp (disch := omega) only [spar, List.foldl, List.replicate, ch_eq, go_sem, wrap64_id, Int.tdiv_eq_ediv_of_nonneg, Int.tmod_eq_emod_of_nonneg]
          repeat' first
            | (refine callV_pure (c102 _) ?_; simp (disch := omega) only [ch_eq, go_sem, wrap64_id, Int.tdiv_eq_ediv_of_nonneg, Int.tmod_eq_emod_of_nonneg])
            | ((first | refine callA_pure (t103b _ _) ?_ ?_); (next => repeat' first | exact flags_n | refine flags_c (by first | rfl | assumption) ?_); simp (disch := omega) only [ch_eq, go_sem, wrap64_id, Int.tdiv_eq_ediv_of_nonneg, Int.tmod_eq_emod_of_nonneg])
            | ((first | refine callG_pure (fun e => ⟨?_, t103b _ _⟩) ?_); (next => repeat' first | exact flags_n | refine flags_c (by first | rfl | assumption) ?_); simp (disch := omega) only [ch_eq, go_sem, wrap64_id, Int.tdiv_eq_ediv_of_nonneg, Int.tmod_eq_emod_of_nonneg])
            | ((first | refine fnQ_pure1 ?_ ?_ | refine fnQ_pure0 ?_ ?_); (next => repeat' first | exact rvs_n | refine rvs_t ?_ | (simp [go_sem]; done)); simp only [go_sem]; (first | exact VLe.refl _ | refine VLe_int ?_ | refine VLe_bool ?_ | refine VLe_str ?_ | skip))
            | (with_reducible refine And.intro ?_ ?_)
            | with_reducible intro _
          all_goals first
            | omega
            | (rename_i hx; revert hx; simp; done)
            | (simp; done)
            | skip
          refine hK _ _ (i + 1) ⟨by omega, fun j hj => ?_⟩ (by omega) ?_
          · by_cases e : j = i
            · subst e; exact hb
            · exact i2 j (by omega)
          · rw [hst]
            unfold notMark
            refine Wk.temps ?_
            (simp only [spar, List.foldl, List.replicate, go_sem, VLes_nil, VLes_cons, VLe_undef_iff, VLe_self]; try (repeat' first | (with_reducible refine And.intro ?_ ?_) | (refine VLe_int ?_; omega) | (refine VLe_bool ?_; rfl) | exact VLe.refl _))
      · have e : i = own.length := by omega
        subst e
        have hall : own.any (fun c => !onlyC c) = false := by
          rw [List.any_eq_false]
          intro x hx
          obtain ⟨j, hj, rfl⟩ := List.mem_iff_getElem.1 hx
          have := i2 j hj
          simpa [ch, hj] using this
        rw [hall, if_neg (by simp), List.take_length]
        by_cases g1 : q = 0
        · rw [if_neg (show ¬ q ≠ 0 by simpa using g1), hso g1]
          by_cases g2 : own = []
          · rw [if_pos g2, decide_eq_true g2]
            simp (disch := omega) only [spar, List.foldl, List.replicate, go_sem, wrap64_id, Int.tdiv_eq_ediv_of_nonneg, Int.tmod_eq_emod_of_nonneg]
            repeat' first
              | ((first | refine callA_pure (c104 _) ?_ ?_); (next => repeat' first | exact flags_n | refine flags_c (by first | rfl | assumption) ?_); simp (disch := omega) only [g1, go_sem, wrap64_id, Int.tdiv_eq_ediv_of_nonneg, Int.tmod_eq_emod_of_nonneg])
              | ((first | refine callG_pure (fun e => ⟨?_, c104 _⟩) ?_); (next => repeat' first | exact flags_n | refine flags_c (by first | rfl | assumption) ?_); simp (disch := omega) only [g1, go_sem, wrap64_id, Int.tdiv_eq_ediv_of_nonneg, Int.tmod_eq_emod_of_nonneg])
              | ((first | refine fnQ_pure1 ?_ ?_ | refine fnQ_pure0 ?_ ?_); (next => repeat' first | exact rvs_n | refine rvs_t ?_ | (simp [go_sem]; done)); simp only [go_sem]; (first | exact VLe.refl _ | refine VLe_int ?_ | refine VLe_bool ?_ | refine VLe_str ?_ | skip))
              | (with_reducible refine And.intro ?_ ?_)
              | with_reducible intro _
            all_goals first
              | omega
              | (rename_i hx; revert hx; simp; done)
              | (simp; done)
              | skip
          · rw [if_neg g2, decide_eq_false g2]
            obtain ⟨L, hL⟩ : ∃ L, L = p.levels := ⟨_, rfl⟩
            obtain ⟨S, hS⟩ : ∃ S, S = p.letters := ⟨_, rfl⟩
            rw [← hL] at hv ⊢
            rw [← hS] at hl g0 hil ⊢
            have c105 := fun h => t105 S h hl
            have c106 := fun h => t106 L badLev 87 h hv t107
            have c108 := fun h => t108 S [46] h hl (by simp)
            have c109 := fun h => t109 S [46] h hl (by simp)
            have hcl := clus_len S
            by_cases g3 : L.length = (clus S).length + 1
            · have hx1 : ((L.length : Int) - 1).toNat = L.length - 1 := by omega
              have k3 : ((L.length : Int) = ((clus S).length : Int) + 1) = True := eq_true (by omega)
              rw [if_neg (show ¬ L.length ≠ (clus S).length + 1 by simpa using g3)]
              simp (disch := omega) only [spar, List.foldl, List.replicate, intsV, go_sem, wrap64_id, Int.tdiv_eq_ediv_of_nonneg, Int.tmod_eq_emod_of_nonneg]
              repeat' first
                | ((first | refine callA_pure (c104 _) ?_ ?_ | refine callA_pure (c105 _) ?_ ?_ | refine callA_pure (c106 _) ?_ ?_ | refine callA_pure (c108 _) ?_ ?_ | refine callA_pure (c109 _) ?_ ?_); (next => repeat' first | exact flags_n | refine flags_c (by first | rfl | assumption) ?_); simp (disch := omega) only [g1, intsV, strs, k3, hx1, go_sem, wrap64_id, Int.tdiv_eq_ediv_of_nonneg, Int.tmod_eq_emod_of_nonneg])
                | ((first | refine callG_pure (fun e => ⟨?_, c104 _⟩) ?_ | refine callG_pure (fun e => ⟨?_, c105 _⟩) ?_ | refine callG_pure (fun e => ⟨?_, c106 _⟩) ?_ | refine callG_pure (fun e => ⟨?_, c108 _⟩) ?_ | refine callG_pure (fun e => ⟨?_, c109 _⟩) ?_); (next => repeat' first | exact flags_n | refine flags_c (by first | rfl | assumption) ?_); simp (disch := omega) only [g1, intsV, strs, k3, hx1, go_sem, wrap64_id, Int.tdiv_eq_ediv_of_nonneg, Int.tmod_eq_emod_of_nonneg])
                | ((first | refine fnQ_pure1 ?_ ?_ | refine fnQ_pure0 ?_ ?_); (next => repeat' first | exact rvs_n | refine rvs_t ?_ | (simp [go_sem]; done)); simp only [go_sem]; (first | exact VLe.refl _ | refine VLe_int ?_ | refine VLe_bool ?_ | refine VLe_str ?_ | skip))
                | (with_reducible refine And.intro ?_ ?_)
                | with_reducible intro _
              all_goals first
                | omega
                | (rename_i hx; revert hx; simp; done)
                | (simp; done)
                | skip
              all_goals first | (rename_i hx; exact hx.1) | (rename_i hx; exact hx.2) | (rename_i hx; exact hx.1.1) | (rename_i hx; exact hx.1.2) | (rename_i hx; exact hx.2.1) | (rename_i hx; exact hx.2.2) | grind | trace_state
            · have k3 : ((L.length : Int) = ((clus S).length : Int) + 1) = False := eq_false (by omega)
              rw [if_pos g3]
              simp (disch := omega) only [spar, List.foldl, List.replicate, intsV, go_sem, wrap64_id, Int.tdiv_eq_ediv_of_nonneg, Int.tmod_eq_emod_of_nonneg]
              repeat' first
                | ((first | refine callA_pure (c104 _) ?_ ?_ | refine callA_pure (c105 _) ?_ ?_); (next => repeat' first | exact flags_n | refine flags_c (by first | rfl | assumption) ?_); simp (disch := omega) only [g1, intsV, strs, k3, go_sem, wrap64_id, Int.tdiv_eq_ediv_of_nonneg, Int.tmod_eq_emod_of_nonneg])
                | ((first | refine callG_pure (fun e => ⟨?_, c104 _⟩) ?_ | refine callG_pure (fun e => ⟨?_, c105 _⟩) ?_); (next => repeat' first | exact flags_n | refine flags_c (by first | rfl | assumption) ?_); simp (disch := omega) only [g1, intsV, strs, k3, go_sem, wrap64_id, Int.tdiv_eq_ediv_of_nonneg, Int.tmod_eq_emod_of_nonneg])
                | ((first | refine fnQ_pure1 ?_ ?_ | refine fnQ_pure0 ?_ ?_); (next => repeat' first | exact rvs_n | refine rvs_t ?_ | (simp [go_sem]; done)); simp only [go_sem]; (first | exact VLe.refl _ | refine VLe_int ?_ | refine VLe_bool ?_ | refine VLe_str ?_ | skip))
                | (with_reducible refine And.intro ?_ ?_)
                | with_reducible intro _
              all_goals first
                | omega
                | (rename_i hx; revert hx; simp; done)
                | (simp; done)
                | skip
        · rw [if_pos g1]
          simp (disch := omega) only [spar, List.foldl, List.replicate, go_sem, wrap64_id, Int.tdiv_eq_ediv_of_nonneg, Int.tmod_eq_emod_of_nonneg]
          repeat' first
            | ((first | refine callA_pure (c104 _) ?_ ?_); (next => repeat' first | exact flags_n | refine flags_c (by first | rfl | assumption) ?_); simp (disch := omega) only [g1, go_sem, wrap64_id, Int.tdiv_eq_ediv_of_nonneg, Int.tmod_eq_emod_of_nonneg])
            | ((first | refine callG_pure (fun e => ⟨?_, c104 _⟩) ?_); (next => repeat' first | exact flags_n | refine flags_c (by first | rfl | assumption) ?_); simp (disch := omega) only [g1, go_sem, wrap64_id, Int.tdiv_eq_ediv_of_nonneg, Int.tmod_eq_emod_of_nonneg])
            | ((first | refine fnQ_pure1 ?_ ?_ | refine fnQ_pure0 ?_ ?_); (next => repeat' first | exact rvs_n | refine rvs_t ?_ | (simp [go_sem]; done)); simp only [go_sem]; (first | exact VLe.refl _ | refine VLe_int ?_ | refine VLe_bool ?_ | refine VLe_str ?_ | skip))
            | (with_reducible refine And.intro ?_ ?_)
            | with_reducible intro _
          all_goals first
            | omega
            | (rename_i hx; revert hx; simp; done)
            | (simp; done)
            | skip
end HY

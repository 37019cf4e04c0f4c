import Derived.Test.YtonpflblcnpegaaDoorK4
set_option linter.all false
set_option linter.unusedSimpArgs false
set_option linter.unusedVariables false
set_option linter.unusedSectionVars false
section
set_option linter.all false
set_option linter.unusedSimpArgs false
set_option linter.unusedVariables false
set_option linter.unusedSectionVars false
open Go Go.Proofs AF HY
namespace HY
set_option maxRecDepth 100000
def notMark (c : UInt8) : Bool := !decide (kind c = 2)
theorem some_inner {s : List UInt8} (h : checkC s = 0) (hs : s.length ≤ 64) : s.any notMark = !decide (s = []) := by
  rw [checkC_eq, if_neg (by omega)] at h
  cases s with
  | nil => rfl
  | cons c r =>
    have hb : badAt (c :: r) 0 = false := by
      cases hb : badAt (c :: r) 0 with
      | false => rfl
      | true => rw [if_pos (any_range_true (i := 0) (by simp) hb)] at h; cases h
    have hm : notMark c = true := by
      unfold badAt at hb
      simp [ch, rightAt] at hb
      unfold notMark
      simp [hb.2]
    simp [hm]
theorem inner_len (s : List UInt8) : (inner s).length ≤ s.length := by
  unfold inner trimSuf trimPre
  split <;> split <;> simp <;> omega
theorem any_snoc_take {s : List UInt8} {p : UInt8 → Bool} {i : Nat} (h : i < s.length) : (s.take (i + 1)).any p = ((s.take i).any p || p (ch s i)) := by
  rw [List.take_add_one, List.any_append, List.getElem?_eq_getElem h]
  simp [ch, h]
theorem any_first {s : List UInt8} {p : UInt8 → Bool} {i : Nat} (h : i < s.length) (hp : p (ch s i) = true) : s.any p = true := by
  rw [List.any_eq_true]
  exact ⟨s[i], List.getElem_mem h, by simpa [ch, h] using hp⟩
set_option maxHeartbeats 8000000 in
theorem t87 (p : Pat) (h : List AObj) (hl : p.letters.length ≤ 1000000000) (hv : p.levels.length ≤ 1000000000) : ACalls Tryd.prog 54 [.agg (patC p)] h (.int .i64 (checkPat p)) h := by
  unfold checkPat
  by_cases g0 : 64 < p.letters.length
  · have k0 : (64 < (p.letters.length : Int)) = True := eq_true (by omega)
    rw [if_pos g0]
    refine acalls_of fn54d (by simp) ?_
    simp only [List.length_cons, List.length_nil, Nat.reduceAdd, Nat.reduceSub, List.replicate, List.cons_append, List.nil_append, List.append_nil]
    simp (disch := omega) only [c54d, patC, k0, go_sem, wrap64_id, Int.tdiv_eq_ediv_of_nonneg, Int.tmod_eq_emod_of_nonneg]
    repeat' first
      | ((first | refine fnQ_pure1 ?_ ?_ | refine fnQ_pure0 ?_ ?_); (next => repeat' first | exact rvs_n | refine rvs_t ?_ | (simp [go_sem]; done)); simp only [go_sem]; (first | exact VLe.refl _ | refine VLe_int ?_ | refine VLe_bool ?_ | refine VLe_str ?_ | skip))
      | (with_reducible refine And.intro ?_ ?_)
      | with_reducible intro _
    all_goals first
      | omega
      | (rename_i hx; revert hx; simp; done)
      | (simp; done)
      | skip
  · have k0 : (64 < (p.letters.length : Int)) = False := eq_false (by omega)
    rw [if_neg g0]
    have hil := inner_len p.letters
    have htl : (trimPre p.letters [46]).length ≤ 1000000000 := by
      unfold trimPre
      split
      · rw [List.length_drop]; omega
      · omega
    obtain ⟨own, hown⟩ : ∃ o, o = inner p.letters := ⟨_, rfl⟩
    have c101 := fun h => t101 p.letters [46] h hl (by simp)
    have c100 : ∀ h : List AObj, ACalls Tryd.prog 83 [.str (trimPre p.letters [46]), .str [46]] h (.str own) h := fun h => by rw [hown]; exact t100 _ [46] h htl (by simp)
    rw [← hown] at hil ⊢
    obtain ⟨q, hq⟩ : ∃ q, q = checkC own := ⟨_, rfl⟩
    have c104 : ∀ h : List AObj, ACalls Tryd.prog 70 [.str own] h (.int .i64 q) h := fun h => by rw [hq]; exact t104 own h (by omega)
    have hso : q = 0 → own.any notMark = !decide (own = []) := fun e => some_inner (by rw [← hq]; exact e) (by omega)
    rw [← hq]
    refine acalls_of fn54d (by simp) ?_
    simp only [List.length_cons, List.length_nil, Nat.reduceAdd, Nat.reduceSub, List.replicate, List.cons_append, List.nil_append, List.append_nil]
    simp (disch := omega) only [c54d, patC, k0, go_sem, wrap64_id, Int.tdiv_eq_ediv_of_nonneg, Int.tmod_eq_emod_of_nonneg]
    repeat' first
      | ((first | refine callA_pure (c101 _) ?_ ?_ | refine callA_pure (c100 _) ?_ ?_); (next => repeat' first | exact flags_n | refine flags_c (by first | rfl | assumption) ?_); simp (disch := omega) only [k0, patC, go_sem, wrap64_id, Int.tdiv_eq_ediv_of_nonneg, Int.tmod_eq_emod_of_nonneg])
      | ((first | refine callG_pure (fun e => ⟨?_, c101 _⟩) ?_ | refine callG_pure (fun e => ⟨?_, c100 _⟩) ?_); (next => repeat' first | exact flags_n | refine flags_c (by first | rfl | assumption) ?_); simp (disch := omega) only [k0, patC, go_sem, wrap64_id, Int.tdiv_eq_ediv_of_nonneg, Int.tmod_eq_emod_of_nonneg])
      | ((first | refine fnQ_pure1 ?_ ?_ | refine fnQ_pure0 ?_ ?_); (next => repeat' first | exact rvs_n | refine rvs_t ?_ | (simp [go_sem]; done)); simp only [go_sem]; (first | exact VLe.refl _ | refine VLe_int ?_ | refine VLe_bool ?_ | refine VLe_str ?_ | skip))
      | (with_reducible refine And.intro ?_ ?_)
      | with_reducible intro _
    all_goals first
      | omega
      | (rename_i hx; revert hx; simp; done)
      | (simp; done)
      | skip
    refine loop_of (T := fun i : Nat => spar 80 [(1, .op h.length 1 0), (3, .str own), (4, .fn (.func 85) [] []), (5, .bool ((own.take i).any notMark)), (16, .int .i64 own.length), (17, .int .i64 i)]) (H := fun _ => h ++ [.mem 1 32 [.str p.letters, intsV p.levels]])
      (inv := fun i => i ≤ own.length ∧ ∀ j, j < i → onlyC (ch own j) = true) (m := fun i => own.length - i) 0 ⟨by omega, by omega⟩ (Wk.temps ?_) ?_
    · (simp only [List.take_zero, List.any_nil, spar, List.foldl, List.replicate, go_sem, VLes_nil, VLes_cons, VLe_undef_iff, VLe_self]; try (repeat' first | (with_reducible refine And.intro ?_ ?_) | (refine VLe_int ?_; omega) | (refine VLe_bool ?_; rfl) | exact VLe.refl _))
    · rintro i ⟨i1, i2⟩ K hK
      by_cases hi : i < own.length
      · have c102 := fun h => t102 (ch own i) h
        cases hb : onlyC (ch own i) with
        | false =>
          rw [hb] at c102
          rw [if_pos (any_first (p := fun c => !onlyC c) hi (by rw [hb]; rfl))]
          simp (disch := omega) only [spar, List.foldl, List.replicate, ch_eq, go_sem, wrap64_id, Int.tdiv_eq_ediv_of_nonneg, Int.tmod_eq_emod_of_nonneg]
          repeat' first
            | (refine callV_pure (c102 _) ?_; simp (disch := omega) only [ch_eq, go_sem, wrap64_id, Int.tdiv_eq_ediv_of_nonneg, Int.tmod_eq_emod_of_nonneg])
            | ((first | refine fnQ_pure1 ?_ ?_ | refine fnQ_pure0 ?_ ?_); (next => repeat' first | exact rvs_n | refine rvs_t ?_ | (simp [go_sem]; done)); simp only [go_sem]; (first | exact VLe.refl _ | refine VLe_int ?_ | refine VLe_bool ?_ | refine VLe_str ?_ | skip))
            | (with_reducible refine And.intro ?_ ?_)
            | with_reducible intro _
          all_goals first
            | omega
            | (rename_i hx; revert hx; simp; done)
            | (simp; done)
            | skip
        | true =>
          rw [hb] at c102
          have hst := any_snoc_take (p := notMark) hi
          simp (disch := omega) only [spar, List.foldl, List.replicate, ch_eq, go_sem, wrap64_id, Int.tdiv_eq_ediv_of_nonneg, Int.tmod_eq_emod_of_nonneg]
          repeat' first
            | (refine callV_pure (c102 _) ?_; simp (disch := omega) only [ch_eq, go_sem, wrap64_id, Int.tdiv_eq_ediv_of_nonneg, Int.tmod_eq_emod_of_nonneg])
            | ((first | refine callA_pure (t103b _ _) ?_ ?_); (next => repeat' first | exact flags_n | refine flags_c (by first | rfl | assumption) ?_); simp (disch := omega) only [ch_eq, go_sem, wrap64_id, Int.tdiv_eq_ediv_of_nonneg, Int.tmod_eq_emod_of_nonneg])
            | ((first | refine callG_pure (fun e => ⟨?_, t103b _ _⟩) ?_); (next => repeat' first | exact flags_n | refine flags_c (by first | rfl | assumption) ?_); simp (disch := omega) only [ch_eq, go_sem, wrap64_id, Int.tdiv_eq_ediv_of_nonneg, Int.tmod_eq_emod_of_nonneg])
            | ((first | refine fnQ_pure1 ?_ ?_ | refine fnQ_pure0 ?_ ?_); (next => repeat' first | exact rvs_n | refine rvs_t ?_ | (simp [go_sem]; done)); simp only [go_sem]; (first | exact VLe.refl _ | refine VLe_int ?_ | refine VLe_bool ?_ | refine VLe_str ?_ | skip))
            | (with_reducible refine And.intro ?_ ?_)
            | with_reducible intro _
          all_goals first
            | omega
            | (rename_i hx; revert hx; simp; done)
            | (simp; done)
            | skip
          refine hK _ _ (i + 1) ⟨by omega, fun j hj => ?_⟩ (by omega) ?_
          · by_cases e : j = i
            · subst e; exact hb
            · exact i2 j (by omega)
          · rw [hst]
            unfold notMark
            refine Wk.temps ?_
            (simp only [spar, List.foldl, List.replicate, go_sem, VLes_nil, VLes_cons, VLe_undef_iff, VLe_self]; try (repeat' first | (with_reducible refine And.intro ?_ ?_) | (refine VLe_int ?_; omega) | (refine VLe_bool ?_; rfl) | exact VLe.refl _))
      · have e : i = own.length := by omega
        subst e
        have hall : own.any (fun c => !onlyC c) = false := by
          rw [List.any_eq_false]
          intro x hx
          obtain ⟨j, hj, rfl⟩ := List.mem_iff_getElem.1 hx
          have := i2 j hj
          simpa [ch, hj] using this
        rw [hall, if_neg (by simp), List.take_length]
        by_cases g1 : q = 0
        · rw [if_neg (show ¬ q ≠ 0 by simpa using g1), hso g1]
          by_cases g2 : own = []
          · rw [if_pos g2, decide_eq_true g2]
            simp (disch := omega) only [spar, List.foldl, List.replicate, go_sem, wrap64_id, Int.tdiv_eq_ediv_of_nonneg, Int.tmod_eq_emod_of_nonneg]
            repeat' first
              | ((first | refine callA_pure (c104 _) ?_ ?_); (next => repeat' first | exact flags_n | refine flags_c (by first | rfl | assumption) ?_); simp (disch := omega) only [g1, go_sem, wrap64_id, Int.tdiv_eq_ediv_of_nonneg, Int.tmod_eq_emod_of_nonneg])
              | ((first | refine callG_pure (fun e => ⟨?_, c104 _⟩) ?_); (next => repeat' first | exact flags_n | refine flags_c (by first | rfl | assumption) ?_); simp (disch := omega) only [g1, go_sem, wrap64_id, Int.tdiv_eq_ediv_of_nonneg, Int.tmod_eq_emod_of_nonneg])
              | ((first | refine fnQ_pure1 ?_ ?_ | refine fnQ_pure0 ?_ ?_); (next => repeat' first | exact rvs_n | refine rvs_t ?_ | (simp [go_sem]; done)); simp only [go_sem]; (first | exact VLe.refl _ | refine VLe_int ?_ | refine VLe_bool ?_ | refine VLe_str ?_ | skip))
              | (with_reducible refine And.intro ?_ ?_)
              | with_reducible intro _
            all_goals first
              | omega
              | (rename_i hx; revert hx; simp; done)
              | (simp; done)
              | skip
          · rw [if_neg g2, decide_eq_false g2]
            obtain ⟨L, hL⟩ : ∃ L, L = p.levels := ⟨_, rfl⟩
            obtain ⟨S, hS⟩ : ∃ S, S = p.letters := ⟨_, rfl⟩
            rw [← hL] at hv ⊢
            rw [← hS] at hl g0 hil ⊢
            have c105 := fun h => t105 S h hl
            have c106 := fun h => t106 L badLev 87 h hv t107
            have c108 := fun h => t108 S [46] h hl (by simp)
            have c109 := fun h => t109 S [46] h hl (by simp)
            have hcl := clus_len S
            by_cases g3 : L.length = (clus S).length + 1
            · have hx1 : ((L.length : Int) - 1).toNat = L.length - 1 := by omega
              have k3 : ((L.length : Int) = ((clus S).length : Int) + 1) = True := eq_true (by omega)
              rw [if_neg (show ¬ L.length ≠ (clus S).length + 1 by simpa using g3)]
              simp (disch := omega) only [spar, List.foldl, List.replicate, intsV, go_sem, wrap64_id, Int.tdiv_eq_ediv_of_nonneg, Int.tmod_eq_emod_of_nonneg]
              repeat' first
                | ((first | refine callA_pure (c104 _) ?_ ?_ | refine callA_pure (c105 _) ?_ ?_ | refine callA_pure (c106 _) ?_ ?_ | refine callA_pure (c108 _) ?_ ?_ | refine callA_pure (c109 _) ?_ ?_); (next => repeat' first | exact flags_n | refine flags_c (by first | rfl | assumption) ?_); simp (disch := omega) only [g1, intsV, strs, k3, hx1, go_sem, wrap64_id, Int.tdiv_eq_ediv_of_nonneg, Int.tmod_eq_emod_of_nonneg])
                | ((first | refine callG_pure (fun e => ⟨?_, c104 _⟩) ?_ | refine callG_pure (fun e => ⟨?_, c105 _⟩) ?_ | refine callG_pure (fun e => ⟨?_, c106 _⟩) ?_ | refine callG_pure (fun e => ⟨?_, c108 _⟩) ?_ | refine callG_pure (fun e => ⟨?_, c109 _⟩) ?_); (next => repeat' first | exact flags_n | refine flags_c (by first | rfl | assumption) ?_); simp (disch := omega) only [g1, intsV, strs, k3, hx1, go_sem, wrap64_id, Int.tdiv_eq_ediv_of_nonneg, Int.tmod_eq_emod_of_nonneg])
                | ((first | refine fnQ_pure1 ?_ ?_ | refine fnQ_pure0 ?_ ?_); (next => repeat' first | exact rvs_n | refine rvs_t ?_ | (simp [go_sem]; done)); simp only [go_sem]; (first | exact VLe.refl _ | refine VLe_int ?_ | refine VLe_bool ?_ | refine VLe_str ?_ | skip))
                | (with_reducible refine And.intro ?_ ?_)
                | with_reducible intro _
              all_goals first
                | omega
                | (rename_i hx; revert hx; simp; done)
                | (simp; done)
                | skip
              all_goals first | (rename_i hx; exact hx.1) | (rename_i hx; exact hx.2) | (rename_i hx; exact hx.1.1) | (rename_i hx; exact hx.1.2) | (rename_i hx; exact hx.2.1) | (rename_i hx; exact hx.2.2) | grind | trace_state
            · have k3 : ((L.length : Int) = ((clus S).length : Int) + 1) = False := eq_false (by omega)
              rw [if_pos g3]
              simp (disch := omega) only [spar, List.foldl, List.replicate, intsV, go_sem, wrap64_id, Int.tdiv_eq_ediv_of_nonneg, Int.tmod_eq_emod_of_nonneg]
              repeat' first
                | ((first | refine callA_pure (c104 _) ?_ ?_ | refine callA_pure (c105 _) ?_ ?_); (next => repeat' first | exact flags_n | refine flags_c (by first | rfl | assumption) ?_); simp (disch := omega) only [g1, intsV, strs, k3, go_sem, wrap64_id, Int.tdiv_eq_ediv_of_nonneg, Int.tmod_eq_emod_of_nonneg])
                | ((first | refine callG_pure (fun e => ⟨?_, c104 _⟩) ?_ | refine callG_pure (fun e => ⟨?_, c105 _⟩) ?_); (next => repeat' first | exact flags_n | refine flags_c (by first | rfl | assumption) ?_); simp (disch := omega) only [g1, intsV, strs, k3, go_sem, wrap64_id, Int.tdiv_eq_ediv_of_nonneg, Int.tmod_eq_emod_of_nonneg])
                | ((first | refine fnQ_pure1 ?_ ?_ | refine fnQ_pure0 ?_ ?_); (next => repeat' first | exact rvs_n | refine rvs_t ?_ | (simp [go_sem]; done)); simp only [go_sem]; (first | exact VLe.refl _ | refine VLe_int ?_ | refine VLe_bool ?_ | refine VLe_str ?_ | skip))
                | (with_reducible refine And.intro ?_ ?_)
                | with_reducible intro _
              all_goals first
                | omega
                | (rename_i hx; revert hx; simp; done)
                | (simp; done)
                | skip
        · rw [if_pos g1]
          simp (disch := omega) only [spar, List.foldl, List.replicate, go_sem, wrap64_id, Int.tdiv_eq_ediv_of_nonneg, Int.tmod_eq_emod_of_nonneg]
          repeat' first
            | ((first | refine callA_pure (c104 _) ?_ ?_); (next => repeat' first | exact flags_n | refine flags_c (by first | rfl | assumption) ?_); simp (disch := omega) only [g1, go_sem, wrap64_id, Int.tdiv_eq_ediv_of_nonneg, Int.tmod_eq_emod_of_nonneg])
            | ((first | refine callG_pure (fun e => ⟨?_, c104 _⟩) ?_); (next => repeat' first | exact flags_n | refine flags_c (by first | rfl | assumption) ?_); simp (disch := omega) only [g1, go_sem, wrap64_id, Int.tdiv_eq_ediv_of_nonneg, Int.tmod_eq_emod_of_nonneg])
            | ((first | refine fnQ_pure1 ?_ ?_ | refine fnQ_pure0 ?_ ?_); (next => repeat' first | exact rvs_n | refine rvs_t ?_ | (simp [go_sem]; done)); simp only [go_sem]; (first | exact VLe.refl _ | refine VLe_int ?_ | refine VLe_bool ?_ | refine VLe_str ?_ | skip))
            | (with_reducible refine And.intro ?_ ?_)
            | with_reducible intro _
          all_goals first
            | omega
            | (rename_i hx; revert hx; simp; done)
            | (simp; done)
            | skip
end HY
end

section
set_option linter.all false
set_option linter.unusedSimpArgs false
set_option linter.unusedVariables false
set_option linter.unusedSectionVars false
open Go Go.Proofs AF HY
namespace HY
set_option maxRecDepth 100000
theorem trimPre_pos {s : List UInt8} (h : 0 < s.length ∧ ch s 0 = 46) : trimPre s [46] = s.drop 1 := by
  unfold trimPre
  rw [hasPre_dot, if_pos (by simp [h])]
  rfl
theorem trimPre_neg {s : List UInt8} (h : ¬ (0 < s.length ∧ ch s 0 = 46)) : trimPre s [46] = s := by
  unfold trimPre
  rw [hasPre_dot, if_neg]
  simpa using h
theorem trimSuf_pos {s : List UInt8} (h : 0 < s.length ∧ ch s (s.length - 1) = 46) : trimSuf s [46] = s.take (s.length - 1) := by
  unfold trimSuf
  rw [hasSuf_dot, if_pos (by simp [h])]
  rfl
theorem trimSuf_neg {s : List UInt8} (h : ¬ (0 < s.length ∧ ch s (s.length - 1) = 46)) : trimSuf s [46] = s := by
  unfold trimSuf
  rw [hasSuf_dot, if_neg]
  simpa using h
theorem toNat46 {c : UInt8} : (((c.toNat : Int)) = 46) = (c = 46) := by
  apply propext
  constructor
  · intro h
    apply UInt8.toNat_inj.1
    have : c.toNat = 46 := by omega
    rw [this]; rfl
  · intro h; rw [h]; rfl
set_option maxHeartbeats 4000000 in
theorem t116 (s : List UInt8) (h : List AObj) (hs : s.length ≤ 1000000000) : ACalls Tryd.prog 90 [.str s] h (.str (inner s)) h := by
  unfold inner
  obtain ⟨t, ht⟩ : ∃ t, t = trimPre s [46] := ⟨_, rfl⟩
  rw [← ht]
  have hx : ((t.length : Int) - 1).toNat = t.length - 1 := by omega
  by_cases g0 : s = []
  · subst g0
    rw [ht]
    refine acalls_of fn90d (by simp) ?_
    simp only [List.length_cons, List.length_nil, Nat.reduceAdd, Nat.reduceSub, List.replicate, List.cons_append, List.nil_append, List.append_nil]
    simp (disch := omega) only [c90d, go_sem, wrap64_id, Int.tdiv_eq_ediv_of_nonneg, Int.tmod_eq_emod_of_nonneg]
    repeat' first
      | ((first | refine fnQ_pure1 ?_ ?_ | refine fnQ_pure0 ?_ ?_); (next => repeat' first | exact rvs_n | refine rvs_t ?_ | (simp [go_sem]; done)); simp only [go_sem]; (first | exact VLe.refl _ | refine VLe_int ?_ | refine VLe_bool ?_ | refine VLe_str ?_ | skip))
      | (with_reducible refine And.intro ?_ ?_)
      | with_reducible intro _
    all_goals first
      | omega
      | (rename_i hx; revert hx; simp; done)
      | (simp; done)
      | skip
  have k0 : (s = []) = False := eq_false g0
  have hs0 : 0 < s.length := List.length_pos_iff.2 g0
  have tail : t.length ≤ 1000000000 := by
    rw [ht]
    unfold trimPre
    split
    · rw [List.length_drop]; omega
    · omega
  by_cases g1 : ch s 0 = 46
  · rw [trimPre_pos ⟨hs0, g1⟩] at ht
    have k1 : (ch s 0 = 46) = True := eq_true g1
    have hd : List.take (s.length - Int.toNat 1) (List.drop (Int.toNat 1) s) = t := by
      rw [ht, show Int.toNat 1 = 1 from rfl, show s.length - 1 = (s.drop 1).length by simp, List.take_length]
    by_cases g3 : t = []
    · rw [trimSuf_neg (by rw [g3]; simp)]
      have k3 : (t = []) = True := eq_true g3
      refine acalls_of fn90d (by simp) ?_
      simp only [List.length_cons, List.length_nil, Nat.reduceAdd, Nat.reduceSub, List.replicate, List.cons_append, List.nil_append, List.append_nil]
      simp (disch := omega) only [c90d, k0, k1, hd, k3, ch_eq, toNat46, go_sem, wrap64_id, Int.tdiv_eq_ediv_of_nonneg, Int.tmod_eq_emod_of_nonneg]
      repeat' first
        | ((first | refine fnQ_pure1 ?_ ?_ | refine fnQ_pure0 ?_ ?_); (next => repeat' first | exact rvs_n | refine rvs_t ?_ | (simp [go_sem]; done)); simp only [go_sem]; (first | exact VLe.refl _ | refine VLe_int ?_ | refine VLe_bool ?_ | refine VLe_str ?_ | skip))
        | (with_reducible refine And.intro ?_ ?_)
        | with_reducible intro _
      all_goals first
        | omega
        | (rename_i hx; revert hx; simp; done)
        | (simp; done)
        | skip
    · have k3 : (t = []) = False := eq_false g3
      have ht0 : 0 < t.length := List.length_pos_iff.2 g3
      by_cases g4 : ch t (t.length - 1) = 46
      · have k4 : (ch t (t.length - 1) = 46) = True := eq_true g4
        rw [trimSuf_pos ⟨ht0, g4⟩]
        refine acalls_of fn90d (by simp) ?_
        simp only [List.length_cons, List.length_nil, Nat.reduceAdd, Nat.reduceSub, List.replicate, List.cons_append, List.nil_append, List.append_nil]
        simp (disch := omega) only [c90d, k0, k1, hd, k3, k4, hx, ch_eq, toNat46, go_sem, wrap64_id, Int.tdiv_eq_ediv_of_nonneg, Int.tmod_eq_emod_of_nonneg]
        repeat' first
          | ((first | refine fnQ_pure1 ?_ ?_ | refine fnQ_pure0 ?_ ?_); (next => repeat' first | exact rvs_n | refine rvs_t ?_ | (simp [go_sem]; done)); simp only [go_sem]; (first | exact VLe.refl _ | refine VLe_int ?_ | refine VLe_bool ?_ | refine VLe_str ?_ | skip))
          | (with_reducible refine And.intro ?_ ?_)
          | with_reducible intro _
        all_goals first
          | omega
          | (rename_i hx; revert hx; simp; done)
          | (simp; done)
          | skip
      · have k4 : (ch t (t.length - 1) = 46) = False := eq_false g4
        rw [trimSuf_neg (by simp [g4])]
        refine acalls_of fn90d (by simp) ?_
        simp only [List.length_cons, List.length_nil, Nat.reduceAdd, Nat.reduceSub, List.replicate, List.cons_append, List.nil_append, List.append_nil]
        simp (disch := omega) only [c90d, k0, k1, hd, k3, k4, hx, ch_eq, toNat46, go_sem, wrap64_id, Int.tdiv_eq_ediv_of_nonneg, Int.tmod_eq_emod_of_nonneg]
        repeat' first
          | ((first | refine fnQ_pure1 ?_ ?_ | refine fnQ_pure0 ?_ ?_); (next => repeat' first | exact rvs_n | refine rvs_t ?_ | (simp [go_sem]; done)); simp only [go_sem]; (first | exact VLe.refl _ | refine VLe_int ?_ | refine VLe_bool ?_ | refine VLe_str ?_ | skip))
          | (with_reducible refine And.intro ?_ ?_)
          | with_reducible intro _
        all_goals first
          | omega
          | (rename_i hx; revert hx; simp; done)
          | (simp; done)
          | skip
  · rw [trimPre_neg (by simp [g1])] at ht
    subst ht
    have k1 : (ch t 0 = 46) = False := eq_false g1
    by_cases g4 : ch t (t.length - 1) = 46
    · have k4 : (ch t (t.length - 1) = 46) = True := eq_true g4
      rw [trimSuf_pos ⟨hs0, g4⟩]
      refine acalls_of fn90d (by simp) ?_
      simp only [List.length_cons, List.length_nil, Nat.reduceAdd, Nat.reduceSub, List.replicate, List.cons_append, List.nil_append, List.append_nil]
      simp (disch := omega) only [c90d, k0, k1, k4, hx, ch_eq, toNat46, go_sem, wrap64_id, Int.tdiv_eq_ediv_of_nonneg, Int.tmod_eq_emod_of_nonneg]
      repeat' first
        | ((first | refine fnQ_pure1 ?_ ?_ | refine fnQ_pure0 ?_ ?_); (next => repeat' first | exact rvs_n | refine rvs_t ?_ | (simp [go_sem]; done)); simp only [go_sem]; (first | exact VLe.refl _ | refine VLe_int ?_ | refine VLe_bool ?_ | refine VLe_str ?_ | skip))
        | (with_reducible refine And.intro ?_ ?_)
        | with_reducible intro _
      all_goals first
        | omega
        | (rename_i hx; revert hx; simp; done)
        | (simp; done)
        | skip
    · have k4 : (ch t (t.length - 1) = 46) = False := eq_false g4
      rw [trimSuf_neg (by simp [g4])]
      refine acalls_of fn90d (by simp) ?_
      simp only [List.length_cons, List.length_nil, Nat.reduceAdd, Nat.reduceSub, List.replicate, List.cons_append, List.nil_append, List.append_nil]
      simp (disch := omega) only [c90d, k0, k1, k4, hx, ch_eq, toNat46, go_sem, wrap64_id, Int.tdiv_eq_ediv_of_nonneg, Int.tmod_eq_emod_of_nonneg]
      repeat' first
        | ((first | refine fnQ_pure1 ?_ ?_ | refine fnQ_pure0 ?_ ?_); (next => repeat' first | exact rvs_n | refine rvs_t ?_ | (simp [go_sem]; done)); simp only [go_sem]; (first | exact VLe.refl _ | refine VLe_int ?_ | refine VLe_bool ?_ | refine VLe_str ?_ | skip))
        | (with_reducible refine And.intro ?_ ?_)
        | with_reducible intro _
      all_goals first
        | omega
        | (rename_i hx; revert hx; simp; done)
        | (simp; done)
        | skip
theorem checkC_inner {s : List UInt8} (h : s.length ≤ 64) : checkC (inner s) = checkC s := by
  have := inner_len s
  rw [checkC_eq (inner s), checkC_eq s, if_neg (show ¬ 65536 < (inner s).length by omega), if_neg (show ¬ 65536 < s.length by omega), bad_inner]
theorem any_badLev {l : List Int} {i : Nat} (hi : i < l.length) (hb : badLev (l.getD i 0) = true) : l.any badLev = true := by
  rw [List.any_eq_true]
  exact ⟨l[i], List.getElem_mem hi, by simpa [List.getD_eq_getElem?_getD, hi] using hb⟩
theorem clus_pos {s : List UInt8} (h : s ≠ []) : 0 < (clus s).length := by
  cases hc : clus s with
  | nil =>
    exfalso
    have := clus_join s
    rw [hc] at this
    exact h (by simpa using this.symm)
  | cons a r => simp
end HY
end

section
set_option linter.all false
set_option linter.unusedSimpArgs false
set_option linter.unusedVariables false
set_option linter.unusedSectionVars false
open Go Go.Proofs AF HY
namespace HY
set_option maxRecDepth 100000
set_option maxHeartbeats 400000 in
theorem t92 (p : Pat) (h : List AObj) (hl : p.letters.length ≤ 1000000000) (hv : p.levels.length ≤ 1000000000) : ACalls Tryd.prog 55 [.agg (patC p)] h (.int .i64 (checkPat p)) h := by
  obtain ⟨S, L⟩ := p
  unfold checkPat
  dsimp only at hl hv ⊢
  by_cases g0 : 64 < S.length
  · have k0 : (64 < (S.length : Int)) = True := eq_true (by omega)
    rw [if_pos g0]
    refine acalls_of fn55d (by simp) ?_
    simp only [List.length_cons, List.length_nil, Nat.reduceAdd, Nat.reduceSub, List.replicate, List.cons_append, List.nil_append, List.append_nil]
    simp (disch := omega) only [c55d, patC, k0, go_sem, wrap64_id, Int.tdiv_eq_ediv_of_nonneg, Int.tmod_eq_emod_of_nonneg]
    repeat' first
      | ((first | refine fnQ_pure1 ?_ ?_ | refine fnQ_pure0 ?_ ?_); (next => repeat' first | exact rvs_n | refine rvs_t ?_ | (simp [go_sem]; done)); simp only [go_sem]; (first | exact VLe.refl _ | refine VLe_int ?_ | refine VLe_bool ?_ | refine VLe_str ?_ | skip))
      | (with_reducible refine And.intro ?_ ?_)
      | with_reducible intro _
    all_goals first
      | omega
      | (rename_i hx; revert hx; simp; done)
      | (simp; done)
      | skip
  have k0 : (64 < (S.length : Int)) = False := eq_false (by omega)
  rw [if_neg g0, checkC_inner (by omega)]
  have hil := inner_len S
  have c116 : ∀ h : List AObj, ACalls Tryd.prog 90 [.str S] h (.str (inner S)) h := fun h => t116 S h hl
  have c71 : ∀ h : List AObj, ACalls Tryd.prog 53 [.str S] h (strs (clus S)) h := fun h => t71 S h hl
  have c118 : ∀ h : List AObj, ACalls Tryd.prog 91 [.str S] h (.int .i64 (checkC S)) h := fun h => t118 S h hl
  have hiS : inner S ≠ [] → S ≠ [] := fun e e2 => e (by rw [e2]; rfl)
  obtain ⟨own, hown⟩ : ∃ o, o = inner S := ⟨_, rfl⟩
  rw [← hown] at c116 hil hiS ⊢
  obtain ⟨q, hq⟩ : ∃ q, q = checkC S := ⟨_, rfl⟩
  rw [← hq] at c118 ⊢
  refine acalls_of fn55d (by simp) ?_
  simp only [List.length_cons, List.length_nil, Nat.reduceAdd, Nat.reduceSub, List.replicate, List.cons_append, List.nil_append, List.append_nil]
  simp (disch := omega) only [c55d, patC, k0, go_sem, wrap64_id, Int.tdiv_eq_ediv_of_nonneg, Int.tmod_eq_emod_of_nonneg]
  repeat' first
    | ((first | refine callA_pure (c116 _) ?_ ?_); (next => repeat' first | exact flags_n | refine flags_c (by first | rfl | assumption) ?_); simp (disch := omega) only [k0, patC, go_sem, wrap64_id, Int.tdiv_eq_ediv_of_nonneg, Int.tmod_eq_emod_of_nonneg])
    | ((first | refine callG_pure (fun e => ⟨?_, c116 _⟩) ?_); (next => repeat' first | exact flags_n | refine flags_c (by first | rfl | assumption) ?_); simp (disch := omega) only [k0, patC, go_sem, wrap64_id, Int.tdiv_eq_ediv_of_nonneg, Int.tmod_eq_emod_of_nonneg])
    | ((first | refine fnQ_pure1 ?_ ?_ | refine fnQ_pure0 ?_ ?_); (next => repeat' first | exact rvs_n | refine rvs_t ?_ | (simp [go_sem]; done)); simp only [go_sem]; (first | exact VLe.refl _ | refine VLe_int ?_ | refine VLe_bool ?_ | refine VLe_str ?_ | skip))
    | (with_reducible refine And.intro ?_ ?_)
    | with_reducible intro _
  all_goals first
    | omega
    | (rename_i hx; revert hx; simp; done)
    | (simp; done)
    | skip
  refine loop_of (T := fun i : Nat => spar 102 [(1, .op h.length 1 0), (3, .str own), (4, .int .i64 i)]) (H := fun _ => h ++ [.mem 1 32 [.str S, intsV L]])
    (inv := fun i => i ≤ own.length ∧ ∀ j, j < i → onlyC (ch own j) = true) (m := fun i => own.length - i) 0 ⟨by omega, by omega⟩ (Wk.temps ?_) ?_
  · (simp only [spar, List.foldl, List.replicate, go_sem, VLes_nil, VLes_cons, VLe_undef_iff, VLe_self]; try (repeat' first | (with_reducible refine And.intro ?_ ?_) | (refine VLe_int ?_; omega) | (refine VLe_bool ?_; rfl) | exact VLe.refl _))
  rintro i ⟨i1, i2⟩ K hK
  by_cases hi : i < own.length
  · cases hb : onlyC (ch own i) with
    | false =>
      rw [if_pos (any_first (p := fun c => !onlyC c) hi (by rw [hb]; rfl))]
      unfold onlyC at hb
      simp only [Bool.or_eq_false_iff, decide_eq_false_iff_not] at hb
      have k1 : (kind (ch own i) = 1) = False := eq_false hb.1.1
      have k2 : (kind (ch own i) = 2) = False := eq_false hb.1.2
      have k3 : (kind (ch own i) = 4) = False := eq_false hb.2
      simp (disch := omega) only [spar, List.foldl, List.replicate, ch_eq, go_sem, wrap64_id, Int.tdiv_eq_ediv_of_nonneg, Int.tmod_eq_emod_of_nonneg]
      repeat' first
        | ((first | refine callA_pure (t117b _ _) ?_ ?_); (next => repeat' first | exact flags_n | refine flags_c (by first | rfl | assumption) ?_); simp (disch := omega) only [ch_eq, k1, k2, k3, go_sem, wrap64_id, Int.tdiv_eq_ediv_of_nonneg, Int.tmod_eq_emod_of_nonneg])
        | ((first | refine callG_pure (fun e => ⟨?_, t117b _ _⟩) ?_); (next => repeat' first | exact flags_n | refine flags_c (by first | rfl | assumption) ?_); simp (disch := omega) only [ch_eq, k1, k2, k3, go_sem, wrap64_id, Int.tdiv_eq_ediv_of_nonneg, Int.tmod_eq_emod_of_nonneg])
        | ((first | refine fnQ_pure1 ?_ ?_ | refine fnQ_pure0 ?_ ?_); (next => repeat' first | exact rvs_n | refine rvs_t ?_ | (simp [go_sem]; done)); simp only [go_sem]; (first | exact VLe.refl _ | refine VLe_int ?_ | refine VLe_bool ?_ | refine VLe_str ?_ | skip))
        | (with_reducible refine And.intro ?_ ?_)
        | with_reducible intro _
      all_goals first
        | omega
        | (rename_i hx; revert hx; simp; done)
        | (simp; done)
        | skip
    | true =>
      have hk : (¬ kind (ch own i) = 1 ∧ ¬ kind (ch own i) = 2 ∧ ¬ kind (ch own i) = 4) = False := eq_false (by unfold onlyC at hb; grind)
      simp (disch := omega) only [spar, List.foldl, List.replicate, ch_eq, go_sem, wrap64_id, Int.tdiv_eq_ediv_of_nonneg, Int.tmod_eq_emod_of_nonneg]
      repeat' first
        | ((first | refine callA_pure (t117b _ _) ?_ ?_); (next => repeat' first | exact flags_n | refine flags_c (by first | rfl | assumption) ?_); simp (disch := omega) only [ch_eq, go_sem, wrap64_id, Int.tdiv_eq_ediv_of_nonneg, Int.tmod_eq_emod_of_nonneg])
        | ((first | refine callG_pure (fun e => ⟨?_, t117b _ _⟩) ?_); (next => repeat' first | exact flags_n | refine flags_c (by first | rfl | assumption) ?_); simp (disch := omega) only [ch_eq, go_sem, wrap64_id, Int.tdiv_eq_ediv_of_nonneg, Int.tmod_eq_emod_of_nonneg])
        | ((first | refine fnQ_pure1 ?_ ?_ | refine fnQ_pure0 ?_ ?_); (next => repeat' first | exact rvs_n | refine rvs_t ?_ | (simp [go_sem]; done)); simp only [go_sem]; (first | exact VLe.refl _ | refine VLe_int ?_ | refine VLe_bool ?_ | refine VLe_str ?_ | skip))
        | (with_reducible refine And.intro ?_ ?_)
        | with_reducible intro _
      all_goals first
        | omega
        | (rename_i hx; revert hx; simp; done)
        | (simp; done)
        | skip
      all_goals first | (refine hK _ _ (i + 1) ⟨by omega, fun j hj => ?_⟩ (by omega) (Wk.temps ?_)
                         · by_cases e : j = i
                           · subst e; exact hb
                           · exact i2 j (by omega)
                         · (simp only [spar, List.foldl, List.replicate, go_sem, VLes_nil, VLes_cons, VLe_undef_iff, VLe_self]; try (repeat' first | (with_reducible refine And.intro ?_ ?_) | (refine VLe_int ?_; omega) | (refine VLe_bool ?_; rfl) | exact VLe.refl _))) | (exfalso; unfold onlyC at hb; grind) | trace_state
  have e : i = own.length := by omega
  subst e
  have hall : own.any (fun c => !onlyC c) = false := by
    rw [List.any_eq_false]
    intro x hx
    obtain ⟨j, hj, rfl⟩ := List.mem_iff_getElem.1 hx
    have := i2 j hj
    simpa [ch, hj] using this
  rw [hall, if_neg (by simp)]
  by_cases g1 : q = 0
  case neg =>
    rw [if_pos g1]
    simp (disch := omega) only [spar, List.foldl, List.replicate, go_sem, wrap64_id, Int.tdiv_eq_ediv_of_nonneg, Int.tmod_eq_emod_of_nonneg]
    repeat' first
      | ((first | refine callA_pure (c118 _) ?_ ?_); (next => repeat' first | exact flags_n | refine flags_c (by first | rfl | assumption) ?_); simp (disch := omega) only [g1, go_sem, wrap64_id, Int.tdiv_eq_ediv_of_nonneg, Int.tmod_eq_emod_of_nonneg])
      | ((first | refine callG_pure (fun e => ⟨?_, c118 _⟩) ?_); (next => repeat' first | exact flags_n | refine flags_c (by first | rfl | assumption) ?_); simp (disch := omega) only [g1, go_sem, wrap64_id, Int.tdiv_eq_ediv_of_nonneg, Int.tmod_eq_emod_of_nonneg])
      | ((first | refine fnQ_pure1 ?_ ?_ | refine fnQ_pure0 ?_ ?_); (next => repeat' first | exact rvs_n | refine rvs_t ?_ | (simp [go_sem]; done)); simp only [go_sem]; (first | exact VLe.refl _ | refine VLe_int ?_ | refine VLe_bool ?_ | refine VLe_str ?_ | skip))
      | (with_reducible refine And.intro ?_ ?_)
      | with_reducible intro _
    all_goals first
      | omega
      | (rename_i hx; revert hx; simp; done)
      | (simp; done)
      | skip
  rw [if_neg (show ¬ q ≠ 0 by simpa using g1)]
  by_cases g2 : own = []
  case pos =>
    rw [if_pos g2]
    have k2 : (own = []) = True := eq_true g2
    simp (disch := omega) only [spar, List.foldl, List.replicate, go_sem, wrap64_id, Int.tdiv_eq_ediv_of_nonneg, Int.tmod_eq_emod_of_nonneg]
    repeat' first
      | ((first | refine callA_pure (c118 _) ?_ ?_); (next => repeat' first | exact flags_n | refine flags_c (by first | rfl | assumption) ?_); simp (disch := omega) only [g1, k2, go_sem, wrap64_id, Int.tdiv_eq_ediv_of_nonneg, Int.tmod_eq_emod_of_nonneg])
      | ((first | refine callG_pure (fun e => ⟨?_, c118 _⟩) ?_); (next => repeat' first | exact flags_n | refine flags_c (by first | rfl | assumption) ?_); simp (disch := omega) only [g1, k2, go_sem, wrap64_id, Int.tdiv_eq_ediv_of_nonneg, Int.tmod_eq_emod_of_nonneg])
      | ((first | refine fnQ_pure1 ?_ ?_ | refine fnQ_pure0 ?_ ?_); (next => repeat' first | exact rvs_n | refine rvs_t ?_ | (simp [go_sem]; done)); simp only [go_sem]; (first | exact VLe.refl _ | refine VLe_int ?_ | refine VLe_bool ?_ | refine VLe_str ?_ | skip))
      | (with_reducible refine And.intro ?_ ?_)
      | with_reducible intro _
    all_goals first
      | omega
      | (rename_i hx; revert hx; simp; done)
      | (simp; done)
      | skip
  rw [if_neg g2]
  have k2 : (own = []) = False := eq_false g2
  have hSn := hiS g2
  have hS0 : 0 < S.length := List.length_pos_iff.2 hSn
  have hcp := clus_pos hSn
  by_cases g3 : L.length = (clus S).length + 1
  case neg =>
    have k3 : ((L.length : Int) = ((clus S).length : Int) + 1) = False := eq_false (by omega)
    rw [if_pos g3]
    have hcl := clus_len S
    simp (disch := omega) only [spar, List.foldl, List.replicate, intsV, go_sem, wrap64_id, Int.tdiv_eq_ediv_of_nonneg, Int.tmod_eq_emod_of_nonneg]
    repeat' first
      | ((first | refine callA_pure (c118 _) ?_ ?_ | refine callA_pure (c71 _) ?_ ?_); (next => repeat' first | exact flags_n | refine flags_c (by first | rfl | assumption) ?_); simp (disch := omega) only [g1, k2, intsV, strs, k3, go_sem, wrap64_id, Int.tdiv_eq_ediv_of_nonneg, Int.tmod_eq_emod_of_nonneg])
      | ((first | refine callG_pure (fun e => ⟨?_, c118 _⟩) ?_ | refine callG_pure (fun e => ⟨?_, c71 _⟩) ?_); (next => repeat' first | exact flags_n | refine flags_c (by first | rfl | assumption) ?_); simp (disch := omega) only [g1, k2, intsV, strs, k3, go_sem, wrap64_id, Int.tdiv_eq_ediv_of_nonneg, Int.tmod_eq_emod_of_nonneg])
      | ((first | refine fnQ_pure1 ?_ ?_ | refine fnQ_pure0 ?_ ?_); (next => repeat' first | exact rvs_n | refine rvs_t ?_ | (simp [go_sem]; done)); simp only [go_sem]; (first | exact VLe.refl _ | refine VLe_int ?_ | refine VLe_bool ?_ | refine VLe_str ?_ | skip))
      | (with_reducible refine And.intro ?_ ?_)
      | with_reducible intro _
    all_goals first
      | omega
      | (rename_i hx; revert hx; simp; done)
      | (simp; done)
      | skip
  have k3 : ((L.length : Int) = ((clus S).length : Int) + 1) = True := eq_true (by omega)
  have hcl := clus_len S
  rw [if_neg (show ¬ L.length ≠ (clus S).length + 1 by simpa using g3)]
  simp (disch := omega) only [spar, List.foldl, List.replicate, intsV, go_sem, wrap64_id, Int.tdiv_eq_ediv_of_nonneg, Int.tmod_eq_emod_of_nonneg]
  repeat' first
    | ((first | refine callA_pure (c118 _) ?_ ?_ | refine callA_pure (c71 _) ?_ ?_); (next => repeat' first | exact flags_n | refine flags_c (by first | rfl | assumption) ?_); simp (disch := omega) only [g1, k2, intsV, strs, k3, go_sem, wrap64_id, Int.tdiv_eq_ediv_of_nonneg, Int.tmod_eq_emod_of_nonneg])
    | ((first | refine callG_pure (fun e => ⟨?_, c118 _⟩) ?_ | refine callG_pure (fun e => ⟨?_, c71 _⟩) ?_); (next => repeat' first | exact flags_n | refine flags_c (by first | rfl | assumption) ?_); simp (disch := omega) only [g1, k2, intsV, strs, k3, go_sem, wrap64_id, Int.tdiv_eq_ediv_of_nonneg, Int.tmod_eq_emod_of_nonneg])
    | ((first | refine fnQ_pure1 ?_ ?_ | refine fnQ_pure0 ?_ ?_); (next => repeat' first | exact rvs_n | refine rvs_t ?_ | (simp [go_sem]; done)); simp only [go_sem]; (first | exact VLe.refl _ | refine VLe_int ?_ | refine VLe_bool ?_ | refine VLe_str ?_ | skip))
    | (with_reducible refine And.intro ?_ ?_)
    | with_reducible intro _
  all_goals first
    | omega
    | (rename_i hx; revert hx; simp; done)
    | (simp; done)
    | skip
  refine loop_of (T := fun i : Nat => spar 102 [(1, .op h.length 1 0), (6, .int .i64 i)]) (H := fun _ => h ++ [.mem 1 32 [.str S, intsV L]])
    (inv := fun i => i ≤ L.length ∧ ∀ j, j < i → badLev (L.getD j 0) = false) (m := fun i => L.length - i) 0 ⟨by omega, by omega⟩ (Wk.temps ?_) ?_
  · (simp only [intsV, spar, List.foldl, List.replicate, go_sem, VLes_nil, VLes_cons, VLe_undef_iff, VLe_self]; try (repeat' first | (with_reducible refine And.intro ?_ ?_) | (refine VLe_int ?_; omega) | (refine VLe_bool ?_; rfl) | exact VLe.refl _))
  rintro i ⟨i1, i2⟩ K hK
  by_cases hi : i < L.length
  · cases hb : badLev (L.getD i 0) with
    | true =>
      rw [if_pos (.inl (any_badLev hi hb))]
      have k4 : (L.getD i 0 < 0 ∨ 9 < L.getD i 0) = True := eq_true (by unfold badLev at hb; grind)
      simp (disch := omega) only [spar, List.foldl, List.replicate, intsV, go_sem, wrap64_id, Int.tdiv_eq_ediv_of_nonneg, Int.tmod_eq_emod_of_nonneg]
      repeat' first
        | ((first | refine fnQ_pure1 ?_ ?_ | refine fnQ_pure0 ?_ ?_); (next => repeat' first | exact rvs_n | refine rvs_t ?_ | (simp [go_sem]; done)); simp only [go_sem]; (first | exact VLe.refl _ | refine VLe_int ?_ | refine VLe_bool ?_ | refine VLe_str ?_ | skip))
        | (with_reducible refine And.intro ?_ ?_)
        | with_reducible intro _
      all_goals first
        | omega
        | (rename_i hx; revert hx; simp; done)
        | (simp; done)
        | skip
      all_goals first | (exfalso; unfold badLev at hb; grind) | trace_state
    | false =>
      unfold badLev at hb
      simp only [Bool.or_eq_false_iff, decide_eq_false_iff_not] at hb
      simp (disch := omega) only [spar, List.foldl, List.replicate, intsV, go_sem, wrap64_id, Int.tdiv_eq_ediv_of_nonneg, Int.tmod_eq_emod_of_nonneg]
      repeat' first
        | ((first | refine fnQ_pure1 ?_ ?_ | refine fnQ_pure0 ?_ ?_); (next => repeat' first | exact rvs_n | refine rvs_t ?_ | (simp [go_sem]; done)); simp only [go_sem]; (first | exact VLe.refl _ | refine VLe_int ?_ | refine VLe_bool ?_ | refine VLe_str ?_ | skip))
        | (with_reducible refine And.intro ?_ ?_)
        | with_reducible intro _
      all_goals first
        | omega
        | (rename_i hx; revert hx; simp; done)
        | (simp; done)
        | skip
      all_goals first | (refine hK _ _ (i + 1) ⟨by omega, fun j hj => ?_⟩ (by omega) (Wk.temps ?_)
                         · by_cases e : j = i
                           · subst e; unfold badLev; simp only [Bool.or_eq_false_iff, decide_eq_false_iff_not]; exact hb
                           · exact i2 j (by omega)
                         · (simp only [intsV, spar, List.foldl, List.replicate, go_sem, VLes_nil, VLes_cons, VLe_undef_iff, VLe_self]; try (repeat' first | (with_reducible refine And.intro ?_ ?_) | (refine VLe_int ?_; omega) | (refine VLe_bool ?_; rfl) | exact VLe.refl _))) | (exfalso; grind) | trace_state
  have e : i = L.length := by omega
  subst e
  have hall : L.any badLev = false := by
    rw [List.any_eq_false]
    intro x hx
    obtain ⟨j, hj, rfl⟩ := List.mem_iff_getElem.1 hx
    have := i2 j hj
    simpa [List.getD_eq_getElem?_getD, hj] using this
  have hx1 : ((L.length : Int) - 1).toNat = L.length - 1 := by omega
  have hx2 : ((S.length : Int) - 1).toNat = S.length - 1 := by omega
  rw [hall, hasPre_dot, hasSuf_dot, decide_eq_true hS0]
  simp (disch := omega) only [spar, List.foldl, List.replicate, intsV, go_sem, wrap64_id, Int.tdiv_eq_ediv_of_nonneg, Int.tmod_eq_emod_of_nonneg]
  repeat' first
    | ((first | refine fnQ_pure1 ?_ ?_ | refine fnQ_pure0 ?_ ?_); (next => repeat' first | exact rvs_n | refine rvs_t ?_ | (simp [go_sem]; done)); simp only [go_sem]; (first | exact VLe.refl _ | refine VLe_int ?_ | refine VLe_bool ?_ | refine VLe_str ?_ | skip))
    | (with_reducible refine And.intro ?_ ?_)
    | with_reducible intro _
  all_goals first
    | omega
    | (rename_i hx; revert hx; simp; done)
    | (simp; done)
    | skip
  · rename_i hx
    simp only [ch_eq, hx1, hx2, toNat46] at hx
    rw [if_pos]
    rcases hx with hx | hx
    · exact .inr (.inl hx)
    · exact .inr (.inr hx)
  · rename_i hx
    simp only [ch_eq, hx1, hx2, toNat46] at hx
    rw [if_neg]
    rintro (hf | ⟨ha, hb⟩ | ⟨ha, hb⟩)
    · exact hf
    · exact hb (hx.1 ha)
    · exact hb (hx.2 ha)
end HY
end

section
set_option linter.all false
set_option linter.unusedSimpArgs false
set_option linter.unusedVariables false
set_option linter.unusedSectionVars false
open Go Go.Proofs AF HY
namespace HY
set_option maxRecDepth 100000
def patsV (ps : List Pat) : AV := .sl ps.length fun i => patC (ps.getD i default)
def firstE : List Pat → Int
  | [] => 0
  | p :: r => if checkPat p = 0 then firstE r else checkPat p
def checkPats (ps : List Pat) : Int := if 4096 < ps.length then 4 else firstE ps
def okPats (ps : List Pat) : Prop := ps.length ≤ 1000000000 ∧ ∀ i, i < ps.length → (ps.getD i default).letters.length ≤ 1000000000 ∧ (ps.getD i default).levels.length ≤ 1000000000
theorem drop_pat {ps : List Pat} {i : Nat} (h : i < ps.length) : ps.drop i = ps.getD i default :: ps.drop (i + 1) := by
  rw [List.drop_eq_getElem_cons h]; simp [List.getD_eq_getElem?_getD, h]
theorem t64 (ps : List Pat) (h : List AObj) (hok : okPats ps) : ACalls Tryd.prog 25 [patsV ps] h (.int .i64 (checkPats ps)) h := by
  obtain ⟨hl, hp⟩ := hok
  unfold checkPats
  by_cases g0 : 4096 < ps.length
  · have k0 : (4096 < (ps.length : Int)) = True := eq_true (by omega)
    rw [if_pos g0]
    refine acalls_of fn25d (by simp) ?_
    simp only [List.length_cons, List.length_nil, Nat.reduceAdd, Nat.reduceSub, List.replicate, List.cons_append, List.nil_append, List.append_nil]
    simp (disch := omega) only [c25d, patsV, k0, go_sem, wrap64_id, Int.tdiv_eq_ediv_of_nonneg, Int.tmod_eq_emod_of_nonneg]
    repeat' first
      | ((first | refine fnQ_pure1 ?_ ?_ | refine fnQ_pure0 ?_ ?_); (next => repeat' first | exact rvs_n | refine rvs_t ?_ | (simp [go_sem]; done)); simp only [go_sem]; (first | exact VLe.refl _ | refine VLe_int ?_ | refine VLe_bool ?_ | refine VLe_str ?_ | skip))
      | (with_reducible refine And.intro ?_ ?_)
      | with_reducible intro _
    all_goals first
      | omega
      | (rename_i hx; revert hx; simp; done)
      | (simp; done)
      | skip
  have k0 : (4096 < (ps.length : Int)) = False := eq_false (by omega)
  rw [if_neg g0]
  refine acalls_of fn25d (by simp) ?_
  simp only [List.length_cons, List.length_nil, Nat.reduceAdd, Nat.reduceSub, List.replicate, List.cons_append, List.nil_append, List.append_nil]
  simp (disch := omega) only [c25d, patsV, k0, go_sem, wrap64_id, Int.tdiv_eq_ediv_of_nonneg, Int.tmod_eq_emod_of_nonneg]
  repeat' first
    | ((first | refine fnQ_pure1 ?_ ?_ | refine fnQ_pure0 ?_ ?_); (next => repeat' first | exact rvs_n | refine rvs_t ?_ | (simp [go_sem]; done)); simp only [go_sem]; (first | exact VLe.refl _ | refine VLe_int ?_ | refine VLe_bool ?_ | refine VLe_str ?_ | skip))
    | (with_reducible refine And.intro ?_ ?_)
    | with_reducible intro _
  all_goals first
    | omega
    | (rename_i hx; revert hx; simp; done)
    | (simp; done)
    | skip
  refine loop_of (T := fun i : Nat × AObj => spar 21 [(9, patsV ps), (10, .int .i64 ps.length), (11, .int .i64 i.1)]) (H := fun i => h ++ [i.2])
    (inv := fun i => i.1 ≤ ps.length ∧ firstE ps = firstE (ps.drop i.1) ∧ site [i.2] 0 = true) (m := fun i => ps.length - i.1) (0, .emp 0) ⟨by simp, by simp, rfl⟩ (Wk.temps ?_) ?_
  · (simp only [patsV, spar, List.foldl, List.replicate, go_sem, VLes_nil, VLes_cons, VLe_undef_iff, VLe_self]; try (repeat' first | (with_reducible refine And.intro ?_ ?_) | (refine VLe_int ?_; omega) | (refine VLe_bool ?_; rfl) | exact VLe.refl _))
  rintro ⟨i, O⟩ ⟨i1, i2, i3⟩ K hK
  simp only at i1 i2 i3 hK
  have i3' : ∀ m, site (O :: m) 0 = true := fun _ => i3
  rw [i2]
  by_cases hi : i < ps.length
  · obtain ⟨b1, b2⟩ := hp i hi
    rw [drop_pat hi] at i2 ⊢
    obtain ⟨p, hpp⟩ : ∃ p, p = ps.getD i default := ⟨_, rfl⟩
    have epp := hpp.symm
    rw [← hpp] at i2 b1 b2 ⊢
    simp only [firstE] at i2 ⊢
    have c87 := fun h => t87 p h b1 b2
    obtain ⟨q, hq⟩ : ∃ q, q = checkPat p := ⟨_, rfl⟩
    rw [← hq] at c87 i2 ⊢
    by_cases g1 : q = 0
    · rw [if_pos g1] at i2 ⊢
      simp (disch := omega) only [spar, List.foldl, List.replicate, patsV, patC, epp, i3', go_sem, wrap64_id, Int.tdiv_eq_ediv_of_nonneg, Int.tmod_eq_emod_of_nonneg]
      repeat' first
        | ((first | refine callA_pure (c87 _) ?_ ?_); (next => repeat' first | exact flags_n | refine flags_c (by first | rfl | assumption) ?_); simp (disch := omega) only [g1, go_sem, wrap64_id, Int.tdiv_eq_ediv_of_nonneg, Int.tmod_eq_emod_of_nonneg])
        | ((first | refine callG_pure (fun e => ⟨?_, c87 _⟩) ?_); (next => repeat' first | exact flags_n | refine flags_c (by first | rfl | assumption) ?_); simp (disch := omega) only [g1, go_sem, wrap64_id, Int.tdiv_eq_ediv_of_nonneg, Int.tmod_eq_emod_of_nonneg])
        | ((first | refine fnQ_pure1 ?_ ?_ | refine fnQ_pure0 ?_ ?_); (next => repeat' first | exact rvs_n | refine rvs_t ?_ | (simp [go_sem]; done)); simp only [go_sem]; (first | exact VLe.refl _ | refine VLe_int ?_ | refine VLe_bool ?_ | refine VLe_str ?_ | skip))
        | (with_reducible refine And.intro ?_ ?_)
        | with_reducible intro _
      all_goals first
        | omega
        | (rename_i hx; revert hx; simp; done)
        | (simp; done)
        | skip
      refine hK _ _ (i + 1, .mem (verOf (some O) + 1) 32 [.str p.letters, intsV p.levels]) ⟨by simp only; omega, i2, rfl⟩ (by simp only; omega) (Wk.temps ?_)
      (simp only [patsV, patC, spar, List.foldl, List.replicate, go_sem, VLes_nil, VLes_cons, VLe_undef_iff, VLe_self]; try (repeat' first | (with_reducible refine And.intro ?_ ?_) | (refine VLe_int ?_; omega) | (refine VLe_bool ?_; rfl) | exact VLe.refl _))
    · rw [if_neg g1]
      simp (disch := omega) only [spar, List.foldl, List.replicate, patsV, patC, epp, i3', go_sem, wrap64_id, Int.tdiv_eq_ediv_of_nonneg, Int.tmod_eq_emod_of_nonneg]
      repeat' first
        | ((first | refine callA_pure (c87 _) ?_ ?_); (next => repeat' first | exact flags_n | refine flags_c (by first | rfl | assumption) ?_); simp (disch := omega) only [g1, go_sem, wrap64_id, Int.tdiv_eq_ediv_of_nonneg, Int.tmod_eq_emod_of_nonneg])
        | ((first | refine callG_pure (fun e => ⟨?_, c87 _⟩) ?_); (next => repeat' first | exact flags_n | refine flags_c (by first | rfl | assumption) ?_); simp (disch := omega) only [g1, go_sem, wrap64_id, Int.tdiv_eq_ediv_of_nonneg, Int.tmod_eq_emod_of_nonneg])
        | ((first | refine fnQ_pure1 ?_ ?_ | refine fnQ_pure0 ?_ ?_); (next => repeat' first | exact rvs_n | refine rvs_t ?_ | (simp [go_sem]; done)); simp only [go_sem]; (first | exact VLe.refl _ | refine VLe_int ?_ | refine VLe_bool ?_ | refine VLe_str ?_ | skip))
        | (with_reducible refine And.intro ?_ ?_)
        | with_reducible intro _
      all_goals first
        | omega
        | (rename_i hx; revert hx; simp; done)
        | (simp; done)
        | skip
  · have e : i = ps.length := by omega
    subst e
    rw [List.drop_length]
    simp (disch := omega) only [spar, List.foldl, List.replicate, patsV, patC, go_sem, wrap64_id, Int.tdiv_eq_ediv_of_nonneg, Int.tmod_eq_emod_of_nonneg]
    repeat' first
      | ((first | refine fnQ_pure1 ?_ ?_ | refine fnQ_pure0 ?_ ?_); (next => repeat' first | exact rvs_n | refine rvs_t ?_ | (simp [go_sem]; done)); simp only [go_sem]; (first | exact VLe.refl _ | refine VLe_int ?_ | refine VLe_bool ?_ | refine VLe_str ?_ | skip))
      | (with_reducible refine And.intro ?_ ?_)
      | with_reducible intro _
    all_goals first
      | omega
      | (rename_i hx; revert hx; simp; done)
      | (simp; done)
      | skip
theorem t69 (ps : List Pat) (h : List AObj) (hok : okPats ps) : ACalls Tryd.prog 26 [patsV ps] h (.int .i64 (checkPats ps)) h := by
  obtain ⟨hl, hp⟩ := hok
  unfold checkPats
  by_cases g0 : 4096 < ps.length
  · have k0 : (4096 < (ps.length : Int)) = True := eq_true (by omega)
    rw [if_pos g0]
    refine acalls_of fn26d (by simp) ?_
    simp only [List.length_cons, List.length_nil, Nat.reduceAdd, Nat.reduceSub, List.replicate, List.cons_append, List.nil_append, List.append_nil]
    simp (disch := omega) only [c26d, patsV, k0, go_sem, wrap64_id, Int.tdiv_eq_ediv_of_nonneg, Int.tmod_eq_emod_of_nonneg]
    repeat' first
      | ((first | refine fnQ_pure1 ?_ ?_ | refine fnQ_pure0 ?_ ?_); (next => repeat' first | exact rvs_n | refine rvs_t ?_ | (simp [go_sem]; done)); simp only [go_sem]; (first | exact VLe.refl _ | refine VLe_int ?_ | refine VLe_bool ?_ | refine VLe_str ?_ | skip))
      | (with_reducible refine And.intro ?_ ?_)
      | with_reducible intro _
    all_goals first
      | omega
      | (rename_i hx; revert hx; simp; done)
      | (simp; done)
      | skip
  have k0 : (4096 < (ps.length : Int)) = False := eq_false (by omega)
  rw [if_neg g0]
  refine acalls_of fn26d (by simp) ?_
  simp only [List.length_cons, List.length_nil, Nat.reduceAdd, Nat.reduceSub, List.replicate, List.cons_append, List.nil_append, List.append_nil]
  simp (disch := omega) only [c26d, patsV, k0, go_sem, wrap64_id, Int.tdiv_eq_ediv_of_nonneg, Int.tmod_eq_emod_of_nonneg]
  repeat' first
    | ((first | refine fnQ_pure1 ?_ ?_ | refine fnQ_pure0 ?_ ?_); (next => repeat' first | exact rvs_n | refine rvs_t ?_ | (simp [go_sem]; done)); simp only [go_sem]; (first | exact VLe.refl _ | refine VLe_int ?_ | refine VLe_bool ?_ | refine VLe_str ?_ | skip))
    | (with_reducible refine And.intro ?_ ?_)
    | with_reducible intro _
  all_goals first
    | omega
    | (rename_i hx; revert hx; simp; done)
    | (simp; done)
    | skip
  refine loop_of (T := fun i : Nat => spar 22 [(0, patsV ps), (3, .int .i64 i)]) (H := fun i => h)
    (inv := fun i => i ≤ ps.length ∧ firstE ps = firstE (ps.drop i)) (m := fun i => ps.length - i) 0 ⟨by simp, by simp⟩ (Wk.temps ?_) ?_
  · (simp only [patsV, spar, List.foldl, List.replicate, go_sem, VLes_nil, VLes_cons, VLe_undef_iff, VLe_self]; try (repeat' first | (with_reducible refine And.intro ?_ ?_) | (refine VLe_int ?_; omega) | (refine VLe_bool ?_; rfl) | exact VLe.refl _))
  rintro i ⟨i1, i2⟩ K hK
  rw [i2]
  by_cases hi : i < ps.length
  · obtain ⟨b1, b2⟩ := hp i hi
    rw [drop_pat hi] at i2 ⊢
    obtain ⟨p, hpp⟩ : ∃ p, p = ps.getD i default := ⟨_, rfl⟩
    have epp := hpp.symm
    rw [← hpp] at i2 b1 b2 ⊢
    simp only [firstE] at i2 ⊢
    have c92 := fun h => t92 p h b1 b2
    obtain ⟨q, hq⟩ : ∃ q, q = checkPat p := ⟨_, rfl⟩
    rw [← hq] at c92 i2 ⊢
    by_cases g1 : q = 0
    · rw [if_pos g1] at i2 ⊢
      simp (disch := omega) only [spar, List.foldl, List.replicate, patsV, patC, epp, go_sem, wrap64_id, Int.tdiv_eq_ediv_of_nonneg, Int.tmod_eq_emod_of_nonneg]
      repeat' first
        | ((first | refine callA_pure (c92 _) ?_ ?_); (next => repeat' first | exact flags_n | refine flags_c (by first | rfl | assumption) ?_); simp (disch := omega) only [g1, go_sem, wrap64_id, Int.tdiv_eq_ediv_of_nonneg, Int.tmod_eq_emod_of_nonneg])
        | ((first | refine callG_pure (fun e => ⟨?_, c92 _⟩) ?_); (next => repeat' first | exact flags_n | refine flags_c (by first | rfl | assumption) ?_); simp (disch := omega) only [g1, go_sem, wrap64_id, Int.tdiv_eq_ediv_of_nonneg, Int.tmod_eq_emod_of_nonneg])
        | ((first | refine fnQ_pure1 ?_ ?_ | refine fnQ_pure0 ?_ ?_); (next => repeat' first | exact rvs_n | refine rvs_t ?_ | (simp [go_sem]; done)); simp only [go_sem]; (first | exact VLe.refl _ | refine VLe_int ?_ | refine VLe_bool ?_ | refine VLe_str ?_ | skip))
        | (with_reducible refine And.intro ?_ ?_)
        | with_reducible intro _
      all_goals first
        | omega
        | (rename_i hx; revert hx; simp; done)
        | (simp; done)
        | skip
      refine hK _ _ (i + 1) ⟨by omega, i2⟩ (by omega) (Wk.temps ?_)
      (simp only [patsV, patC, spar, List.foldl, List.replicate, go_sem, VLes_nil, VLes_cons, VLe_undef_iff, VLe_self]; try (repeat' first | (with_reducible refine And.intro ?_ ?_) | (refine VLe_int ?_; omega) | (refine VLe_bool ?_; rfl) | exact VLe.refl _))
    · rw [if_neg g1]
      simp (disch := omega) only [spar, List.foldl, List.replicate, patsV, patC, epp, go_sem, wrap64_id, Int.tdiv_eq_ediv_of_nonneg, Int.tmod_eq_emod_of_nonneg]
      repeat' first
        | ((first | refine callA_pure (c92 _) ?_ ?_); (next => repeat' first | exact flags_n | refine flags_c (by first | rfl | assumption) ?_); simp (disch := omega) only [g1, go_sem, wrap64_id, Int.tdiv_eq_ediv_of_nonneg, Int.tmod_eq_emod_of_nonneg])
        | ((first | refine callG_pure (fun e => ⟨?_, c92 _⟩) ?_); (next => repeat' first | exact flags_n | refine flags_c (by first | rfl | assumption) ?_); simp (disch := omega) only [g1, go_sem, wrap64_id, Int.tdiv_eq_ediv_of_nonneg, Int.tmod_eq_emod_of_nonneg])
        | ((first | refine fnQ_pure1 ?_ ?_ | refine fnQ_pure0 ?_ ?_); (next => repeat' first | exact rvs_n | refine rvs_t ?_ | (simp [go_sem]; done)); simp only [go_sem]; (first | exact VLe.refl _ | refine VLe_int ?_ | refine VLe_bool ?_ | refine VLe_str ?_ | skip))
        | (with_reducible refine And.intro ?_ ?_)
        | with_reducible intro _
      all_goals first
        | omega
        | (rename_i hx; revert hx; simp; done)
        | (simp; done)
        | skip
  · have e : i = ps.length := by omega
    subst e
    rw [List.drop_length]
    simp (disch := omega) only [spar, List.foldl, List.replicate, patsV, patC, go_sem, wrap64_id, Int.tdiv_eq_ediv_of_nonneg, Int.tmod_eq_emod_of_nonneg]
    repeat' first
      | ((first | refine fnQ_pure1 ?_ ?_ | refine fnQ_pure0 ?_ ?_); (next => repeat' first | exact rvs_n | refine rvs_t ?_ | (simp [go_sem]; done)); simp only [go_sem]; (first | exact VLe.refl _ | refine VLe_int ?_ | refine VLe_bool ?_ | refine VLe_str ?_ | skip))
      | (with_reducible refine And.intro ?_ ?_)
      | with_reducible intro _
    all_goals first
      | omega
      | (rename_i hx; revert hx; simp; done)
      | (simp; done)
      | skip
def startE (ps : List Pat) (w : List UInt8) : Int := if checkPats ps = 0 then (if isWord w = true then 0 else 11) else 1
theorem t112 (ps : List Pat) (w : List UInt8) (h : List AObj) (hok : okPats ps) (hw : w.length ≤ 1000000000) : ACalls Tryd.prog 40 [patsV ps, .str w] h (.int .i64 (startE ps w)) h := by
  unfold startE
  have c64 := fun h => t64 ps h hok
  have c88 := fun h => t88 w h hw
  obtain ⟨q, hq⟩ : ∃ q, q = checkPats ps := ⟨_, rfl⟩
  obtain ⟨u, hu⟩ : ∃ u, u = isWord w := ⟨_, rfl⟩
  rw [← hq] at c64 ⊢
  rw [← hu] at c88 ⊢
  by_cases g1 : q = 0
  · rw [if_pos g1]
    cases u with
    | true =>
      refine acalls_of fn40d (by simp) ?_
      simp only [List.length_cons, List.length_nil, Nat.reduceAdd, Nat.reduceSub, List.replicate, List.cons_append, List.nil_append, List.append_nil]
      simp (disch := omega) only [c40d, patsV, go_sem, wrap64_id, Int.tdiv_eq_ediv_of_nonneg, Int.tmod_eq_emod_of_nonneg]
      repeat' first
        | ((first | refine callA_pure (c64 _) ?_ ?_ | refine callA_pure (c88 _) ?_ ?_); (next => repeat' first | exact flags_n | refine flags_c (by first | rfl | assumption) ?_); simp (disch := omega) only [patsV, g1, go_sem, wrap64_id, Int.tdiv_eq_ediv_of_nonneg, Int.tmod_eq_emod_of_nonneg])
        | ((first | refine callG_pure (fun e => ⟨?_, c64 _⟩) ?_ | refine callG_pure (fun e => ⟨?_, c88 _⟩) ?_); (next => repeat' first | exact flags_n | refine flags_c (by first | rfl | assumption) ?_); simp (disch := omega) only [patsV, g1, go_sem, wrap64_id, Int.tdiv_eq_ediv_of_nonneg, Int.tmod_eq_emod_of_nonneg])
        | ((first | refine fnQ_pure1 ?_ ?_ | refine fnQ_pure0 ?_ ?_); (next => repeat' first | exact rvs_n | refine rvs_t ?_ | (simp [go_sem]; done)); simp only [go_sem]; (first | exact VLe.refl _ | refine VLe_int ?_ | refine VLe_bool ?_ | refine VLe_str ?_ | skip))
        | (with_reducible refine And.intro ?_ ?_)
        | with_reducible intro _
      all_goals first
        | omega
        | (rename_i hx; revert hx; simp; done)
        | (simp; done)
        | skip
    | false =>
      refine acalls_of fn40d (by simp) ?_
      simp only [List.length_cons, List.length_nil, Nat.reduceAdd, Nat.reduceSub, List.replicate, List.cons_append, List.nil_append, List.append_nil]
      simp (disch := omega) only [c40d, patsV, go_sem, wrap64_id, Int.tdiv_eq_ediv_of_nonneg, Int.tmod_eq_emod_of_nonneg]
      repeat' first
        | ((first | refine callA_pure (c64 _) ?_ ?_ | refine callA_pure (c88 _) ?_ ?_); (next => repeat' first | exact flags_n | refine flags_c (by first | rfl | assumption) ?_); simp (disch := omega) only [patsV, g1, go_sem, wrap64_id, Int.tdiv_eq_ediv_of_nonneg, Int.tmod_eq_emod_of_nonneg])
        | ((first | refine callG_pure (fun e => ⟨?_, c64 _⟩) ?_ | refine callG_pure (fun e => ⟨?_, c88 _⟩) ?_); (next => repeat' first | exact flags_n | refine flags_c (by first | rfl | assumption) ?_); simp (disch := omega) only [patsV, g1, go_sem, wrap64_id, Int.tdiv_eq_ediv_of_nonneg, Int.tmod_eq_emod_of_nonneg])
        | ((first | refine fnQ_pure1 ?_ ?_ | refine fnQ_pure0 ?_ ?_); (next => repeat' first | exact rvs_n | refine rvs_t ?_ | (simp [go_sem]; done)); simp only [go_sem]; (first | exact VLe.refl _ | refine VLe_int ?_ | refine VLe_bool ?_ | refine VLe_str ?_ | skip))
        | (with_reducible refine And.intro ?_ ?_)
        | with_reducible intro _
      all_goals first
        | omega
        | (rename_i hx; revert hx; simp; done)
        | (simp; done)
        | skip
  · rw [if_neg g1]
    refine acalls_of fn40d (by simp) ?_
    simp only [List.length_cons, List.length_nil, Nat.reduceAdd, Nat.reduceSub, List.replicate, List.cons_append, List.nil_append, List.append_nil]
    simp (disch := omega) only [c40d, patsV, go_sem, wrap64_id, Int.tdiv_eq_ediv_of_nonneg, Int.tmod_eq_emod_of_nonneg]
    repeat' first
      | ((first | refine callA_pure (c64 _) ?_ ?_ | refine callA_pure (c88 _) ?_ ?_); (next => repeat' first | exact flags_n | refine flags_c (by first | rfl | assumption) ?_); simp (disch := omega) only [patsV, g1, go_sem, wrap64_id, Int.tdiv_eq_ediv_of_nonneg, Int.tmod_eq_emod_of_nonneg])
      | ((first | refine callG_pure (fun e => ⟨?_, c64 _⟩) ?_ | refine callG_pure (fun e => ⟨?_, c88 _⟩) ?_); (next => repeat' first | exact flags_n | refine flags_c (by first | rfl | assumption) ?_); simp (disch := omega) only [patsV, g1, go_sem, wrap64_id, Int.tdiv_eq_ediv_of_nonneg, Int.tmod_eq_emod_of_nonneg])
      | ((first | refine fnQ_pure1 ?_ ?_ | refine fnQ_pure0 ?_ ?_); (next => repeat' first | exact rvs_n | refine rvs_t ?_ | (simp [go_sem]; done)); simp only [go_sem]; (first | exact VLe.refl _ | refine VLe_int ?_ | refine VLe_bool ?_ | refine VLe_str ?_ | skip))
      | (with_reducible refine And.intro ?_ ?_)
      | with_reducible intro _
    all_goals first
      | omega
      | (rename_i hx; revert hx; simp; done)
      | (simp; done)
      | skip
theorem t119 (ps : List Pat) (w : List UInt8) (h : List AObj) (hok : okPats ps) (hw : w.length ≤ 1000000000) : ACalls Tryd.prog 57 [patsV ps, .str w] h (.int .i64 (startE ps w)) h := by
  unfold startE
  have c64 := fun h => t69 ps h hok
  have c88 := fun h => t93 w h hw
  obtain ⟨q, hq⟩ : ∃ q, q = checkPats ps := ⟨_, rfl⟩
  obtain ⟨u, hu⟩ : ∃ u, u = isWord w := ⟨_, rfl⟩
  rw [← hq] at c64 ⊢
  rw [← hu] at c88 ⊢
  by_cases g1 : q = 0
  · rw [if_pos g1]
    cases u with
    | true =>
      refine acalls_of fn57d (by simp) ?_
      simp only [List.length_cons, List.length_nil, Nat.reduceAdd, Nat.reduceSub, List.replicate, List.cons_append, List.nil_append, List.append_nil]
      simp (disch := omega) only [c57d, patsV, go_sem, wrap64_id, Int.tdiv_eq_ediv_of_nonneg, Int.tmod_eq_emod_of_nonneg]
      repeat' first
        | ((first | refine callA_pure (c64 _) ?_ ?_ | refine callA_pure (c88 _) ?_ ?_); (next => repeat' first | exact flags_n | refine flags_c (by first | rfl | assumption) ?_); simp (disch := omega) only [patsV, g1, go_sem, wrap64_id, Int.tdiv_eq_ediv_of_nonneg, Int.tmod_eq_emod_of_nonneg])
        | ((first | refine callG_pure (fun e => ⟨?_, c64 _⟩) ?_ | refine callG_pure (fun e => ⟨?_, c88 _⟩) ?_); (next => repeat' first | exact flags_n | refine flags_c (by first | rfl | assumption) ?_); simp (disch := omega) only [patsV, g1, go_sem, wrap64_id, Int.tdiv_eq_ediv_of_nonneg, Int.tmod_eq_emod_of_nonneg])
        | ((first | refine fnQ_pure1 ?_ ?_ | refine fnQ_pure0 ?_ ?_); (next => repeat' first | exact rvs_n | refine rvs_t ?_ | (simp [go_sem]; done)); simp only [go_sem]; (first | exact VLe.refl _ | refine VLe_int ?_ | refine VLe_bool ?_ | refine VLe_str ?_ | skip))
        | (with_reducible refine And.intro ?_ ?_)
        | with_reducible intro _
      all_goals first
        | omega
        | (rename_i hx; revert hx; simp; done)
        | (simp; done)
        | skip
    | false =>
      refine acalls_of fn57d (by simp) ?_
      simp only [List.length_cons, List.length_nil, Nat.reduceAdd, Nat.reduceSub, List.replicate, List.cons_append, List.nil_append, List.append_nil]
      simp (disch := omega) only [c57d, patsV, go_sem, wrap64_id, Int.tdiv_eq_ediv_of_nonneg, Int.tmod_eq_emod_of_nonneg]
      repeat' first
        | ((first | refine callA_pure (c64 _) ?_ ?_ | refine callA_pure (c88 _) ?_ ?_); (next => repeat' first | exact flags_n | refine flags_c (by first | rfl | assumption) ?_); simp (disch := omega) only [patsV, g1, go_sem, wrap64_id, Int.tdiv_eq_ediv_of_nonneg, Int.tmod_eq_emod_of_nonneg])
        | ((first | refine callG_pure (fun e => ⟨?_, c64 _⟩) ?_ | refine callG_pure (fun e => ⟨?_, c88 _⟩) ?_); (next => repeat' first | exact flags_n | refine flags_c (by first | rfl | assumption) ?_); simp (disch := omega) only [patsV, g1, go_sem, wrap64_id, Int.tdiv_eq_ediv_of_nonneg, Int.tmod_eq_emod_of_nonneg])
        | ((first | refine fnQ_pure1 ?_ ?_ | refine fnQ_pure0 ?_ ?_); (next => repeat' first | exact rvs_n | refine rvs_t ?_ | (simp [go_sem]; done)); simp only [go_sem]; (first | exact VLe.refl _ | refine VLe_int ?_ | refine VLe_bool ?_ | refine VLe_str ?_ | skip))
        | (with_reducible refine And.intro ?_ ?_)
        | with_reducible intro _
      all_goals first
        | omega
        | (rename_i hx; revert hx; simp; done)
        | (simp; done)
        | skip
  · rw [if_neg g1]
    refine acalls_of fn57d (by simp) ?_
    simp only [List.length_cons, List.length_nil, Nat.reduceAdd, Nat.reduceSub, List.replicate, List.cons_append, List.nil_append, List.append_nil]
    simp (disch := omega) only [c57d, patsV, go_sem, wrap64_id, Int.tdiv_eq_ediv_of_nonneg, Int.tmod_eq_emod_of_nonneg]
    repeat' first
      | ((first | refine callA_pure (c64 _) ?_ ?_ | refine callA_pure (c88 _) ?_ ?_); (next => repeat' first | exact flags_n | refine flags_c (by first | rfl | assumption) ?_); simp (disch := omega) only [patsV, g1, go_sem, wrap64_id, Int.tdiv_eq_ediv_of_nonneg, Int.tmod_eq_emod_of_nonneg])
      | ((first | refine callG_pure (fun e => ⟨?_, c64 _⟩) ?_ | refine callG_pure (fun e => ⟨?_, c88 _⟩) ?_); (next => repeat' first | exact flags_n | refine flags_c (by first | rfl | assumption) ?_); simp (disch := omega) only [patsV, g1, go_sem, wrap64_id, Int.tdiv_eq_ediv_of_nonneg, Int.tmod_eq_emod_of_nonneg])
      | ((first | refine fnQ_pure1 ?_ ?_ | refine fnQ_pure0 ?_ ?_); (next => repeat' first | exact rvs_n | refine rvs_t ?_ | (simp [go_sem]; done)); simp only [go_sem]; (first | exact VLe.refl _ | refine VLe_int ?_ | refine VLe_bool ?_ | refine VLe_str ?_ | skip))
      | (with_reducible refine And.intro ?_ ?_)
      | with_reducible intro _
    all_goals first
      | omega
      | (rename_i hx; revert hx; simp; done)
      | (simp; done)
      | skip
end HY
end

section
set_option linter.all false
set_option linter.unusedSimpArgs false
set_option linter.unusedVariables false
set_option linter.unusedSectionVars false
open Go Go.Proofs AF HY
namespace HY
set_option maxRecDepth 100000
theorem mem_madeA {z : List AV} {c : AV} : ∀ {n : Nat}, c ∈ madeA z n → c ∈ z := by
  intro n
  induction n with
  | zero => intro h; simp [madeA] at h
  | succ n ih => intro h; simp only [madeA, List.mem_append] at h; exact h.elim id ih
theorem t140 (n : Nat) (h : List AObj) (k : Nat) (hk : site h k = true) (hn : 0 < n) (hn1 : n ≤ 1000000000) :
    ACalls Tryd.prog 97 [.nl, .int .i64 n] h (.osl k (verOf (getO k h) + 1) 1 0 0) (setO k h (.mem (verOf (getO k h) + 1) 9 (madeA [.str []] n))) := by
  refine acallsM fn97d k (by simp) ?_
  simp only [List.length_cons, List.length_nil, Nat.reduceAdd, Nat.reduceSub, List.replicate, List.cons_append, List.nil_append, List.append_nil]
  simp (disch := omega) only [c97d, go_sem, wrap64_id, Int.tdiv_eq_ediv_of_nonneg, Int.tmod_eq_emod_of_nonneg]
  repeat' first
    | (with_reducible refine And.intro ?_ ?_)
    | (with_reducible intro _)
  all_goals first
    | omega
    | skip
  have e0 : ((n : Int) - (0 - 0)).toNat = n := by omega
  rw [e0]
  exact ⟨h.length + 1, 1, 1, 0, 0, 9, madeA [.str []] n, [AObj.emp 1, AObj.mem 1 9 (madeA [.str []] n)], ⟨trivial, trivial⟩, rfl, rfl, by omega, by simp only [go_sem], fun c hc => by have := mem_madeA hc; simp at this; subst this; rfl, hk, rfl, rfl⟩
structure Src (h : List AObj) (e : AV) (n : Nat) (cs : List AV) : Prop where
  flag : e.flag = true
  strip : e.strip = e
  lenOk : ∀ X, okL (h ++ X) .len [e] = True
  len : ∀ X, valL (h ++ X) .len [e] = .int .i64 n
  cells : ∀ X, sliceCells (h ++ X) e = some (n, cs)
  apart : ∀ k v z p m, h.length ≤ k → apartS (.osl k v z p m) e = true
theorem strC_app (a b : List (List UInt8)) : strC (a ++ b) = strC a ++ strC b := by simp [strC]
theorem flatten_take_succ {α : Type} (L : List (List α)) {i : Nat} (h : i < L.length) : (L.take (i + 1)).flatten = (L.take i).flatten ++ L.getD i [] := by
  rw [List.take_add_one, List.flatten_append, List.getElem?_eq_getElem h]
  simp [List.getD_eq_getElem?_getD, h]
theorem flatten_take_le {α : Type} (L : List (List α)) (i : Nat) : (L.take i).flatten.length ≤ L.flatten.length := by
  conv => rhs; rw [← List.take_append_drop i L, List.flatten_append, List.length_append]
  omega
set_option maxHeartbeats 4000000 in
theorem t135 (Ls : List (List (List UInt8))) (E : Nat → AV) (h : List AObj) (k v : Nat) (cs : List AV) (hk : getO k h = some (.mem v 33 cs)) (hcl : cs.length = Ls.length) (hE : ∀ i, i < Ls.length → cs[i]? = some (E i) ∧ Src h (E i) (Ls.getD i []).length (strC (Ls.getD i [])))
    (h0 : 0 < Ls.flatten.length) (h1 : Ls.flatten.length ≤ 1000000000) (h2 : Ls.length ≤ 1000000000) (hv : (v == v) = true) : ACalls Tryd.prog 73 [.osl k v 1 0 Ls.length] h (strs Ls.flatten) h := by
  have hkl : k < h.length := getO_lt hk
  have hL : ∀ X, liveS (h ++ X) k v = true := fun X => by rw [liveS_left hkl]; unfold liveS; rw [hk]; simp
  have hC : ∀ X, cellsOf (h ++ X) k v = some cs := fun X => by rw [cellsOf_left hkl]; exact cellsOf_of hk
  have hLs : 0 < Ls.length := by
    cases Ls with
    | nil => simp at h0
    | cons => simp
  refine acalls_of fn73d (by simp) ?_
  simp only [List.length_cons, List.length_nil, Nat.reduceAdd, Nat.reduceSub, List.replicate, List.cons_append, List.nil_append, List.append_nil]
  simp (disch := omega) only [c73d, hL, hC, go_sem, wrap64_id, Int.tdiv_eq_ediv_of_nonneg, Int.tmod_eq_emod_of_nonneg]
  repeat' first
    | ((first | refine fnQ_pure1 ?_ ?_ | refine fnQ_pure0 ?_ ?_); (next => repeat' first | exact rvs_n | refine rvs_t ?_ | (simp [go_sem]; done)); simp only [go_sem]; (first | exact VLe.refl _ | refine VLe_int ?_ | refine VLe_bool ?_ | refine VLe_str ?_ | skip))
    | (with_reducible refine And.intro ?_ ?_)
    | with_reducible intro _
  all_goals first
    | omega
    | (rename_i hx; revert hx; simp; done)
    | (simp; done)
    | skip
  refine loop_of (T := fun i : Nat => spar 36 [(0, .osl k v 1 0 Ls.length), (3, .int .i64 (Ls.take i).flatten.length), (9, .osl k v 1 0 Ls.length), (10, .int .i64 Ls.length), (11, .int .i64 i)]) (H := fun i => h ++ [.emp 1, .emp 0, .emp 0])
    (inv := fun i => i ≤ Ls.length) (m := fun i => Ls.length - i) 0 (by omega) (Wk.temps ?_) ?_
  · (simp only [spar, List.foldl, List.replicate, go_sem, VLes_nil, VLes_cons, VLe_undef_iff, VLe_self]; try (repeat' first | (with_reducible refine And.intro ?_ ?_) | (refine VLe_int ?_; omega) | (refine VLe_bool ?_; rfl) | exact VLe.refl _))
  rintro i i1 K hK
  by_cases hi : i < Ls.length
  · obtain ⟨c1, ⟨s1, s2, s3, s4, s5, s6⟩⟩ := hE i hi
    have hst := flatten_take_succ Ls hi
    have hle := flatten_take_le Ls (i + 1)
    rw [hst, List.length_append] at hle
    simp (disch := omega) only [spar, List.foldl, List.replicate, hL, hC, c1, s1, s2, s3, s4, hcl, go_sem, wrap64_id, Int.tdiv_eq_ediv_of_nonneg, Int.tmod_eq_emod_of_nonneg]
    repeat' first
      | ((first | refine fnQ_pure1 ?_ ?_ | refine fnQ_pure0 ?_ ?_); (next => repeat' first | exact rvs_n | refine rvs_t ?_ | (simp [go_sem]; done)); simp only [go_sem]; (first | exact VLe.refl _ | refine VLe_int ?_ | refine VLe_bool ?_ | refine VLe_str ?_ | skip))
      | (with_reducible refine And.intro ?_ ?_)
      | with_reducible intro _
    all_goals first
      | omega
      | (rename_i hx; revert hx; simp; done)
      | (simp; done)
      | skip
    have hln : (List.take (i + 1) Ls).flatten.length = (List.take i Ls).flatten.length + (Ls.getD i []).length := by rw [hst, List.length_append]
    refine hK _ _ (i + 1) (by omega) (by omega) (Wk.temps ?_)
    (simp only [spar, List.foldl, List.replicate, go_sem, VLes_nil, VLes_cons, VLe_undef_iff, VLe_self]; try (repeat' first | (with_reducible refine And.intro ?_ ?_) | (refine VLe_int ?_; omega) | (refine VLe_bool ?_; rfl) | exact VLe.refl _))
  have e : i = Ls.length := by omega
  subst e
  rw [List.take_length]
  obtain ⟨N, hN⟩ : ∃ N, N = Ls.flatten.length := ⟨_, rfl⟩
  rw [← hN] at h0 h1 ⊢
  simp (disch := omega) only [spar, List.foldl, List.replicate, hL, hC, hcl, go_sem, wrap64_id, Int.tdiv_eq_ediv_of_nonneg, Int.tmod_eq_emod_of_nonneg]
  refine ⟨fun hf => absurd hf (by omega), fun _ => ?_⟩
  refine callA_eff (t140 N _ (h.length + 2) (by simp only [go_sem]) h0 h1) ⟨rfl, rfl, trivial⟩ ?_
  simp (disch := omega) only [hL, hC, go_sem, wrap64_id, Int.tdiv_eq_ediv_of_nonneg, Int.tmod_eq_emod_of_nonneg]
  repeat' first
    | ((first | refine fnQ_pure1 ?_ ?_ | refine fnQ_pure0 ?_ ?_); (next => repeat' first | exact rvs_n | refine rvs_t ?_ | (simp [go_sem]; done)); simp only [go_sem]; (first | exact VLe.refl _ | refine VLe_int ?_ | refine VLe_bool ?_ | refine VLe_str ?_ | skip))
    | (with_reducible refine And.intro ?_ ?_)
    | with_reducible intro _
  all_goals first
    | omega
    | (rename_i hx; revert hx; simp; done)
    | (simp; done)
    | skip
  refine loop_of (T := fun i : Nat × Nat × Nat => spar 36 [(6, .osl (h.length + 2) i.2.1 1 0 i.2.2), (25, .osl k v 1 0 Ls.length), (26, .int .i64 Ls.length), (27, .int .i64 i.1)]) (H := fun i => h ++ [.emp 1, .emp 0, .mem i.2.1 9 (if i.1 = 0 then madeA [.str []] N else strC (Ls.take i.1).flatten)])
    (inv := fun i => i.1 ≤ Ls.length ∧ i.2.2 = (Ls.take i.1).flatten.length) (m := fun i => Ls.length - i.1) (0, 1, 0) ⟨by simp, by simp⟩ (Wk.temps ?_) ?_
  · (simp only [spar, List.foldl, List.replicate, go_sem, VLes_nil, VLes_cons, VLe_undef_iff, VLe_self]; try (repeat' first | (with_reducible refine And.intro ?_ ?_) | (refine VLe_int ?_; omega) | (refine VLe_bool ?_; rfl) | exact VLe.refl _))
  rintro ⟨i, w, m⟩ ⟨i1, i2⟩ K hK
  simp only at i1 i2 hK
  by_cases hi : i < Ls.length
  · obtain ⟨c1, ⟨s1, s2, s3, s4, s5, s6⟩⟩ := hE i hi
    have hst := flatten_take_succ Ls hi
    have hle := flatten_take_le Ls (i + 1)
    rw [hst, List.length_append, ← hN] at hle
    have eT : ∀ n, List.take m (if i = 0 then madeA [.str []] n else strC (Ls.take i).flatten) = strC (Ls.take i).flatten := by
      intro n
      split
      · rename_i e0; subst e0; subst i2; rfl
      · exact List.take_of_length_le (by rw [strC_len, i2]; exact Nat.le_refl _)
    obtain ⟨ms, hms⟩ : ∃ ms, ms = (if i = 0 then madeA [.str []] N else strC (Ls.take i).flatten) := ⟨_, rfl⟩
    have eT' := eT N
    rw [← hms] at eT' ⊢
    have hml : m ≤ ms.length := by
      have := congrArg List.length eT'
      rw [List.length_take, strC_len, ← i2] at this
      omega
    have hsl := strC_len (Ls.getD i [])
    simp (disch := omega) only [spar, List.foldl, List.replicate, hL, hC, c1, s1, s2, s3, s4, s5, s6, hcl, eT', hsl, go_sem, wrap64_id, Int.tdiv_eq_ediv_of_nonneg, Int.tmod_eq_emod_of_nonneg]
    repeat' first
      | ((first | refine fnQ_pure1 ?_ ?_ | refine fnQ_pure0 ?_ ?_); (next => repeat' first | exact rvs_n | refine rvs_t ?_ | (simp [go_sem]; done)); simp only [go_sem]; (first | exact VLe.refl _ | refine VLe_int ?_ | refine VLe_bool ?_ | refine VLe_str ?_ | skip))
      | (with_reducible refine And.intro ?_ ?_)
      | with_reducible intro _
    all_goals first
      | omega
      | (rename_i hx; revert hx; simp; done)
      | (simp; done)
      | skip
    have hfin : h ++ [AObj.emp 1, AObj.emp 0, AObj.mem (w + 1) 9 (strC (List.take i Ls).flatten ++ strC (Ls.getD i []))] = h ++ [AObj.emp 1, AObj.emp 0, AObj.mem (w + 1) 9 (if i + 1 = 0 then madeA [.str []] N else strC (Ls.take (i + 1)).flatten)] := by rw [if_neg (by omega), hst, strC_app]
    rw [hfin]
    refine hK _ _ (i + 1, w + 1, m + (Ls.getD i []).length) ⟨by simp only; omega, by simp only; rw [hst, List.length_append, i2]⟩ (by simp only; omega) (Wk.temps ?_)
    (simp only [spar, List.foldl, List.replicate, go_sem, VLes_nil, VLes_cons, VLe_undef_iff, VLe_self]; try (repeat' first | (with_reducible refine And.intro ?_ ?_) | (refine VLe_int ?_; omega) | (refine VLe_bool ?_; rfl) | exact VLe.refl _))
  · have e : i = Ls.length := by omega
    subst e
    rw [List.take_length, ← hN] at i2
    subst i2
    rw [List.take_length, if_neg (by omega)]
    have eL : (strC Ls.flatten).length = m := by rw [strC_len, hN]
    simp (disch := omega) only [spar, List.foldl, List.replicate, hL, hC, hcl, eL, go_sem, wrap64_id, Int.tdiv_eq_ediv_of_nonneg, Int.tmod_eq_emod_of_nonneg]
    repeat' first
      | ((first | refine fnQ_pure1 ?_ ?_ | refine fnQ_pure0 ?_ ?_); (next => repeat' first | exact rvs_n | refine rvs_t ?_ | (simp [go_sem]; done)); simp only [go_sem]; (first | exact VLe.refl _ | refine VLe_int ?_ | refine VLe_bool ?_ | refine VLe_str ?_ | skip))
      | (with_reducible refine And.intro ?_ ?_)
      | with_reducible intro _
    all_goals first
      | omega
      | (rename_i hx; revert hx; simp; done)
      | (simp; done)
      | skip
    rw [if_pos (by omega)]
    exact strs_of hN.symm
end HY
end

section
set_option linter.all false
set_option linter.unusedSimpArgs false
set_option linter.unusedVariables false
set_option linter.unusedSectionVars false
open Go Go.Proofs AF HY
namespace HY
set_option maxRecDepth 100000
def eqS (n m : Nat) (f g : Nat → List UInt8) : Bool := decide (n = m) && (List.range n).all fun i => decide (f i = g i)
def matchAt (pat l : List (List UInt8)) (at_ : Nat) : Bool := (List.range pat.length).all fun i => decide (l.getD (at_ + i) [] = pat.getD i [])
def positions (pat l : List (List UInt8)) : List Nat := (List.range (l.length + 1 - pat.length)).filter (matchAt pat l)
def addAt (all : List Int) (at_ : Nat) : List Int → List Int
  | [] => all
  | x :: r => addAt (all.set at_ (max (all.getD at_ 0) x)) (at_ + 1) r
def addPat (l : List (List UInt8)) (all : List Int) (p : Pat) : List Int := (positions (clus (fold p.letters)) l).foldl (fun a i => addAt a i p.levels) all
def unitsOf (w : List UInt8) : List (List UInt8) := [46] :: (clus (fold w) ++ [[46]])
def allLevels (ps : List Pat) (l : List (List UInt8)) : List Int := ps.foldl (addPat l) (List.replicate (l.length + 1) 0)
def levelsOf (ps : List Pat) (w : List UInt8) : List Int := ((allLevels ps (unitsOf w)).drop 2).take ((unitsOf w).length - 1 - 2)
theorem addAt_len (r : List Int) : ∀ (all : List Int) (i : Nat), (addAt all i r).length = all.length := by
  induction r with
  | nil => intro all i; rfl
  | cons x r ih => intro all i; simp only [addAt]; rw [ih, List.length_set]
theorem foldl_len {α : Type} {f : List Int → α → List Int} (hf : ∀ a x, (f a x).length = a.length) (l : List α) : ∀ all, (l.foldl f all).length = all.length := by
  induction l with
  | nil => intro all; rfl
  | cons x l ih => intro all; rw [List.foldl_cons, ih, hf]
theorem addPat_len (l : List (List UInt8)) (all : List Int) (p : Pat) : (addPat l all p).length = all.length := foldl_len (fun a x => addAt_len _ _ _) _ _
theorem filter_at {p : Nat → Bool} {N i : Nat} (h : i < N) : ∃ rest, (List.range N).filter p = (List.range (i + 1)).filter p ++ rest := by
  obtain ⟨r, rfl⟩ : ∃ r, N = i + 1 + r := ⟨N - (i + 1), by omega⟩
  exact ⟨_, by rw [List.range_add, List.filter_append]⟩
theorem filter_succ_t {p : Nat → Bool} {i : Nat} (h : p i = true) : (List.range (i + 1)).filter p = (List.range i).filter p ++ [i] := by
  rw [List.range_succ, List.filter_append]; simp [h]
theorem filter_succ_f {p : Nat → Bool} {i : Nat} (h : p i = false) : (List.range (i + 1)).filter p = (List.range i).filter p := by
  rw [List.range_succ, List.filter_append]; simp [h]
theorem filter_get {p : Nat → Bool} {N i : Nat} (h : i < N) (hp : p i = true) : ∃ (hj : ((List.range i).filter p).length < ((List.range N).filter p).length), ((List.range N).filter p)[((List.range i).filter p).length] = i := by
  obtain ⟨rest, e⟩ := filter_at (p := p) h
  rw [filter_succ_t hp, List.append_assoc] at e
  refine ⟨by rw [e]; simp, ?_⟩
  simp only [e]
  rw [List.getElem_append_right (Nat.le_refl _)]
  simp
theorem all_take {f g : Nat → List UInt8} {n i : Nat} (h : ∀ j, j < n → f j = g j) : ((List.range n).all fun i => decide (f i = g i)) = true := by
  rw [List.all_eq_true]
  intro j hj
  simpa using h j (by simpa using hj)
theorem all_false {f g : Nat → List UInt8} {n i : Nat} (hi : i < n) (h : ¬ f i = g i) : ((List.range n).all fun i => decide (f i = g i)) = false := by
  rw [Bool.eq_false_iff]
  intro hc
  rw [List.all_eq_true] at hc
  have := hc i (by simpa using hi)
  simp at this
  exact h this
theorem t143 (n m : Nat) (f g : Nat → List UInt8) (h : List AObj) (hn : n ≤ 1000000000) : ACalls Tryd.prog 34 [.sl n fun i => [.str (f i)], .sl m fun i => [.str (g i)]] h (.bool (eqS n m f g)) h := by
  unfold eqS
  by_cases g0 : n = m
  · subst g0
    refine acalls_of fn34d (by simp) ?_
    simp only [List.length_cons, List.length_nil, Nat.reduceAdd, Nat.reduceSub, List.replicate, List.cons_append, List.nil_append, List.append_nil]
    simp (disch := omega) only [c34d, go_sem, wrap64_id, Int.tdiv_eq_ediv_of_nonneg, Int.tmod_eq_emod_of_nonneg]
    repeat' first
      | ((first | refine fnQ_pure1 ?_ ?_ | refine fnQ_pure0 ?_ ?_); (next => repeat' first | exact rvs_n | refine rvs_t ?_ | (simp [go_sem]; done)); simp only [go_sem]; (first | exact VLe.refl _ | refine VLe_int ?_ | refine VLe_bool ?_ | refine VLe_str ?_ | skip))
      | (with_reducible refine And.intro ?_ ?_)
      | with_reducible intro _
    all_goals first
      | omega
      | (rename_i hx; revert hx; simp; done)
      | (simp; done)
      | skip
    refine loop_of (T := fun i : Nat => spar 26 [(0, .sl n fun i => [.str (f i)]), (1, .sl n fun i => [.str (g i)]), (12, .int .i64 n), (13, .int .i64 i)]) (H := fun _ => h) (inv := fun i => i ≤ n ∧ ∀ j, j < i → f j = g j) (m := fun i => n - i) 0 ⟨by omega, by omega⟩ (Wk.temps ?_) ?_
    · (simp only [spar, List.foldl, List.replicate, go_sem, VLes_nil, VLes_cons, VLe_undef_iff, VLe_self]; try (repeat' first | (with_reducible refine And.intro ?_ ?_) | (refine VLe_int ?_; omega) | (refine VLe_bool ?_; rfl) | exact VLe.refl _))
    rintro i ⟨i1, i2⟩ K hK
    by_cases hi : i < n
    · by_cases hb : f i = g i
      · have k1 : (f i = g i) = True := eq_true hb
        simp (disch := omega) only [spar, List.foldl, List.replicate, k1, go_sem, wrap64_id, Int.tdiv_eq_ediv_of_nonneg, Int.tmod_eq_emod_of_nonneg]
        repeat' first
          | ((first | refine fnQ_pure1 ?_ ?_ | refine fnQ_pure0 ?_ ?_); (next => repeat' first | exact rvs_n | refine rvs_t ?_ | (simp [go_sem]; done)); simp only [go_sem]; (first | exact VLe.refl _ | refine VLe_int ?_ | refine VLe_bool ?_ | refine VLe_str ?_ | skip))
          | (with_reducible refine And.intro ?_ ?_)
          | with_reducible intro _
        all_goals first
          | omega
          | (rename_i hx; revert hx; simp; done)
          | (simp; done)
          | skip
        refine hK _ _ (i + 1) ⟨by omega, fun j hj => ?_⟩ (by omega) (Wk.temps ?_)
        · by_cases e : j = i
          · subst e; exact hb
          · exact i2 j (by omega)
        · (simp only [spar, List.foldl, List.replicate, go_sem, VLes_nil, VLes_cons, VLe_undef_iff, VLe_self]; try (repeat' first | (with_reducible refine And.intro ?_ ?_) | (refine VLe_int ?_; omega) | (refine VLe_bool ?_; rfl) | exact VLe.refl _))
      · have k1 : (f i = g i) = False := eq_false hb
        rw [all_false hi hb]
        simp (disch := omega) only [spar, List.foldl, List.replicate, k1, go_sem, wrap64_id, Int.tdiv_eq_ediv_of_nonneg, Int.tmod_eq_emod_of_nonneg]
        repeat' first
          | ((first | refine fnQ_pure1 ?_ ?_ | refine fnQ_pure0 ?_ ?_); (next => repeat' first | exact rvs_n | refine rvs_t ?_ | (simp [go_sem]; done)); simp only [go_sem]; (first | exact VLe.refl _ | refine VLe_int ?_ | refine VLe_bool ?_ | refine VLe_str ?_ | skip))
          | (with_reducible refine And.intro ?_ ?_)
          | with_reducible intro _
        all_goals first
          | omega
          | (rename_i hx; revert hx; simp; done)
          | (simp; done)
          | skip
    · have e : i = n := by omega
      subst e
      rw [all_take (i := 0) i2]
      simp (disch := omega) only [spar, List.foldl, List.replicate, go_sem, wrap64_id, Int.tdiv_eq_ediv_of_nonneg, Int.tmod_eq_emod_of_nonneg]
      repeat' first
        | ((first | refine fnQ_pure1 ?_ ?_ | refine fnQ_pure0 ?_ ?_); (next => repeat' first | exact rvs_n | refine rvs_t ?_ | (simp [go_sem]; done)); simp only [go_sem]; (first | exact VLe.refl _ | refine VLe_int ?_ | refine VLe_bool ?_ | refine VLe_str ?_ | skip))
        | (with_reducible refine And.intro ?_ ?_)
        | with_reducible intro _
      all_goals first
        | omega
        | (rename_i hx; revert hx; simp; done)
        | (simp; done)
        | skip
  · have k0 : ((n : Int) = m) = False := eq_false (by omega)
    rw [decide_eq_false g0]
    refine acalls_of fn34d (by simp) ?_
    simp only [List.length_cons, List.length_nil, Nat.reduceAdd, Nat.reduceSub, List.replicate, List.cons_append, List.nil_append, List.append_nil]
    simp (disch := omega) only [c34d, k0, go_sem, wrap64_id, Int.tdiv_eq_ediv_of_nonneg, Int.tmod_eq_emod_of_nonneg]
    repeat' first
      | ((first | refine fnQ_pure1 ?_ ?_ | refine fnQ_pure0 ?_ ?_); (next => repeat' first | exact rvs_n | refine rvs_t ?_ | (simp [go_sem]; done)); simp only [go_sem]; (first | exact VLe.refl _ | refine VLe_int ?_ | refine VLe_bool ?_ | refine VLe_str ?_ | skip))
      | (with_reducible refine And.intro ?_ ?_)
      | with_reducible intro _
    all_goals first
      | omega
      | (rename_i hx; revert hx; simp; done)
      | (simp; done)
      | skip
theorem fold_len (s : List UInt8) : (fold s).length = s.length := by simp [fold]
theorem t136 (s : List UInt8) (h : List AObj) (hs : s.length ≤ 1000000000) : ACalls Tryd.prog 62 [.str s] h (strs (clus (fold s))) h := by
  refine acalls_of fn62d (by simp) ?_
  simp only [List.length_cons, List.length_nil, Nat.reduceAdd, Nat.reduceSub, List.replicate, List.cons_append, List.nil_append, List.append_nil]
  simp (disch := omega) only [c62d, go_sem, wrap64_id, Int.tdiv_eq_ediv_of_nonneg, Int.tmod_eq_emod_of_nonneg]
  repeat' first
    | ((first | refine callA_pure (t141 s _ hs) ?_ ?_ | refine callA_pure (t105 (fold s) _ (by rw [fold_len]; exact hs)) ?_ ?_); (next => repeat' first | exact flags_n | refine flags_c (by first | rfl | assumption) ?_); simp (disch := omega) only [strs, go_sem, wrap64_id, Int.tdiv_eq_ediv_of_nonneg, Int.tmod_eq_emod_of_nonneg])
    | ((first | refine callG_pure (fun e => ⟨?_, t141 s _ hs⟩) ?_ | refine callG_pure (fun e => ⟨?_, t105 (fold s) _ (by rw [fold_len]; exact hs)⟩) ?_); (next => repeat' first | exact flags_n | refine flags_c (by first | rfl | assumption) ?_); simp (disch := omega) only [strs, go_sem, wrap64_id, Int.tdiv_eq_ediv_of_nonneg, Int.tmod_eq_emod_of_nonneg])
    | ((first | refine fnQ_pure1 ?_ ?_ | refine fnQ_pure0 ?_ ?_); (next => repeat' first | exact rvs_n | refine rvs_t ?_ | (simp [go_sem]; done)); simp only [go_sem]; (first | exact VLe.refl _ | refine VLe_int ?_ | refine VLe_bool ?_ | refine VLe_str ?_ | skip))
    | (with_reducible refine And.intro ?_ ?_)
    | with_reducible intro _
  all_goals first
    | omega
    | (rename_i hx; revert hx; simp; done)
    | (simp; done)
    | skip
def placesF (a b : List (List UInt8)) : AV := .fn (.func 98) [] [.ip [strs a], .ip [strs b]]
theorem flag_placesF (a b : List (List UInt8)) : (placesF a b).flag = true := rfl
theorem strip_placesF (a b : List (List UInt8)) : (placesF a b).strip = placesF a b := rfl
attribute [go_sem] flag_placesF strip_placesF
theorem t138 (a b : List (List UInt8)) (h : List AObj) : ACalls Tryd.prog 75 [strs a, strs b] h (placesF a b) h := by
  refine acalls_of fn75d (by simp) ?_
  simp only [List.length_cons, List.length_nil, Nat.reduceAdd, Nat.reduceSub, List.replicate, List.cons_append, List.nil_append, List.append_nil]
  simp (disch := omega) only [c75d, strs, go_sem, wrap64_id, Int.tdiv_eq_ediv_of_nonneg, Int.tmod_eq_emod_of_nonneg]
  repeat' first
    | ((first | refine fnQ_pure1 ?_ ?_ | refine fnQ_pure0 ?_ ?_); (next => repeat' first | exact rvs_n | refine rvs_t ?_ | (simp [go_sem]; done)); simp only [go_sem]; (first | exact VLe.refl _ | refine VLe_int ?_ | refine VLe_bool ?_ | refine VLe_str ?_ | skip))
    | (with_reducible refine And.intro ?_ ?_)
    | with_reducible intro _
  all_goals first
    | omega
    | (rename_i hx; revert hx; simp; done)
    | (simp; done)
    | skip
def posX (a b : List (List UInt8)) : List (List AV) := (positions a b).map fun (i : Nat) => [.int .i64 (i : Int)]
theorem match_eqS (pat l : List (List UInt8)) (i : Nat) : eqS pat.length pat.length (fun k => l.getD (i + k) []) (fun k => pat.getD k []) = matchAt pat l i := by simp [eqS, matchAt]
theorem it142 (pat l : List (List UInt8)) (hp : pat.length ≤ 1000000000) (hl : l.length ≤ 1000000000) : Iter Tryd.prog 98 [.ip [strs pat], .ip [strs l]] (posX pat l) := by
  intro h ts L S E hS hE body start hts
  refine acallsQ_of fn98d (by simp) ?_
  simp only [List.length_cons, List.length_nil, Nat.reduceAdd, Nat.reduceSub, List.replicate, List.cons_append, List.nil_append, List.append_nil]
  simp (disch := omega) only [c98d, strs, go_sem, wrap64_id, Int.tdiv_eq_ediv_of_nonneg, Int.tmod_eq_emod_of_nonneg]
  repeat' first
    | ((first | refine fnQ_pure1 ?_ ?_ | refine fnQ_pure0 ?_ ?_); (next => repeat' first | exact rvs_n | refine rvs_t ?_ | (simp [go_sem]; done)); simp only [go_sem]; (first | exact VLe.refl _ | refine VLe_int ?_ | refine VLe_bool ?_ | refine VLe_str ?_ | skip))
    | (with_reducible refine And.intro ?_ ?_)
    | with_reducible intro _
  all_goals first
    | omega
    | (rename_i hx; revert hx; simp; done)
    | (simp; done)
    | skip
  refine loop_of (T := fun i : Nat × List AObj => spar 29 [(0, .yld h.length), (1, .ip [strs pat]), (2, .ip [strs l]), (4, .int .i64 i.1)]) (H := fun i => i.2 ++ [.lp .ready ts L])
    (inv := fun i => S ((List.range i.1).filter (matchAt pat l)).length i.2 ∧ i.1 ≤ l.length + 1 - pat.length) (m := fun i => l.length + 1 - i.1) (0, h) ⟨start, by simp⟩ (Wk.temps ?_) ?_
  · (simp only [strs, spar, List.foldl, List.replicate, go_sem, VLes_nil, VLes_cons, VLe_undef_iff, VLe_self]; try (repeat' first | (with_reducible refine And.intro ?_ ?_) | (refine VLe_int ?_; omega) | (refine VLe_bool ?_; rfl) | exact VLe.refl _))
  rintro ⟨i, hh⟩ ⟨i1, i2⟩ K hK
  simp only at i1 i2 hK
  obtain ⟨hlen, hlow⟩ := hS _ _ i1
  have he := match_eqS pat l i
  have hx : ((i : Int) + (pat.length : Int)).toNat - i = pat.length := by omega
  by_cases hi : i < l.length + 1 - pat.length
  · have k0 : ((i : Int) + (pat.length : Int) ≤ (l.length : Int)) = True := eq_true (by omega)
    have c143 := fun h => t143 pat.length pat.length (fun k => l.getD (i + k) []) (fun k => pat.getD k []) h hp
    cases hb : matchAt pat l i with
    | false =>
      rw [he, hb] at c143
      rw [← filter_succ_f hb] at i1
      simp (disch := omega) only [spar, List.foldl, List.replicate, strs, k0, hx, go_sem, wrap64_id, Int.tdiv_eq_ediv_of_nonneg, Int.tmod_eq_emod_of_nonneg]
      repeat' first
        | ((first | refine callA_pure (c143 _) ?_ ?_); (next => repeat' first | exact flags_n | refine flags_c (by first | rfl | assumption) ?_); simp (disch := omega) only [strs, k0, hx, go_sem, wrap64_id, Int.tdiv_eq_ediv_of_nonneg, Int.tmod_eq_emod_of_nonneg])
        | ((first | refine callG_pure (fun e => ⟨?_, c143 _⟩) ?_); (next => repeat' first | exact flags_n | refine flags_c (by first | rfl | assumption) ?_); simp (disch := omega) only [strs, k0, hx, go_sem, wrap64_id, Int.tdiv_eq_ediv_of_nonneg, Int.tmod_eq_emod_of_nonneg])
        | ((first | refine fnQ_pure1 ?_ ?_ | refine fnQ_pure0 ?_ ?_); (next => repeat' first | exact rvs_n | refine rvs_t ?_ | (simp [go_sem]; done)); simp only [go_sem]; (first | exact VLe.refl _ | refine VLe_int ?_ | refine VLe_bool ?_ | refine VLe_str ?_ | skip))
        | (with_reducible refine And.intro ?_ ?_)
        | with_reducible intro _
      all_goals first
        | omega
        | (rename_i hx; revert hx; simp; done)
        | (simp; done)
        | skip
      refine hK _ _ (i + 1, hh) ⟨i1, by simp only; omega⟩ (by simp only; omega) (Wk.temps ?_)
      (simp only [strs, spar, List.foldl, List.replicate, go_sem, VLes_nil, VLes_cons, VLe_undef_iff, VLe_self]; try (repeat' first | (with_reducible refine And.intro ?_ ?_) | (refine VLe_int ?_; omega) | (refine VLe_bool ?_; rfl) | exact VLe.refl _))
    | true =>
      rw [he, hb] at c143
      obtain ⟨hj, hget⟩ := filter_get hi hb
      have hb' := body _ hh [] (by simpa [posX, positions] using hj) i1
      have hxx : (posX pat l)[((List.range i).filter (matchAt pat l)).length]'(by simpa [posX, positions] using hj) = [.int .i64 (i : Int)] := by
        simp only [posX, positions, List.getElem_map, hget]
      rw [hxx] at hb'
      simp (disch := omega) only [spar, List.foldl, List.replicate, strs, k0, hx, go_sem, wrap64_id, Int.tdiv_eq_ediv_of_nonneg, Int.tmod_eq_emod_of_nonneg]
      repeat' first
        | ((first | refine callA_pure (c143 _) ?_ ?_); (next => repeat' first | exact flags_n | refine flags_c (by first | rfl | assumption) ?_); simp (disch := omega) only [strs, k0, hx, go_sem, wrap64_id, Int.tdiv_eq_ediv_of_nonneg, Int.tmod_eq_emod_of_nonneg])
        | ((first | refine callG_pure (fun e => ⟨?_, c143 _⟩) ?_); (next => repeat' first | exact flags_n | refine flags_c (by first | rfl | assumption) ?_); simp (disch := omega) only [strs, k0, hx, go_sem, wrap64_id, Int.tdiv_eq_ediv_of_nonneg, Int.tmod_eq_emod_of_nonneg])
        | ((first | refine fnQ_pure1 ?_ ?_ | refine fnQ_pure0 ?_ ?_); (next => repeat' first | exact rvs_n | refine rvs_t ?_ | (simp [go_sem]; done)); simp only [go_sem]; (first | exact VLe.refl _ | refine VLe_int ?_ | refine VLe_bool ?_ | refine VLe_str ?_ | skip))
        | (with_reducible refine And.intro ?_ ?_)
        | with_reducible intro _
      all_goals first
        | omega
        | (rename_i hx; revert hx; simp; done)
        | (simp; done)
        | skip
      all_goals first
        | exact ⟨.ready, ts, L, getO_i hlen⟩
        | skip
      refine AYield.mono ?_ hb'
      rintro v h' ⟨hh', ⟨rfl, hn, rfl⟩ | ⟨st, rfl, hs', rfl⟩⟩
      · simp (disch := omega) only [go_sem, wrap64_id, Int.tdiv_eq_ediv_of_nonneg, Int.tmod_eq_emod_of_nonneg]
        repeat' first
          | ((first | refine fnQ_pure1 ?_ ?_ | refine fnQ_pure0 ?_ ?_); (next => repeat' first | exact rvs_n | refine rvs_t ?_ | (simp [go_sem]; done)); simp only [go_sem]; (first | exact VLe.refl _ | refine VLe_int ?_ | refine VLe_bool ?_ | refine VLe_str ?_ | skip))
          | (with_reducible refine And.intro ?_ ?_)
          | with_reducible intro _
        all_goals first
          | omega
          | (rename_i hx; revert hx; simp; done)
          | (simp; done)
          | skip
        refine hK _ _ (i + 1, hh') ⟨?_, by simp only; omega⟩ (by simp only; omega) (Wk.temps ?_)
        · simp only
          rw [filter_succ_t hb, List.length_append]
          exact hn
        · (simp only [strs, spar, List.foldl, List.replicate, go_sem, VLes_nil, VLes_cons, VLe_undef_iff, VLe_self]; try (repeat' first | (with_reducible refine And.intro ?_ ?_) | (refine VLe_int ?_; omega) | (refine VLe_bool ?_; rfl) | exact VLe.refl _))
      · simp (disch := omega) only [go_sem, wrap64_id, Int.tdiv_eq_ediv_of_nonneg, Int.tmod_eq_emod_of_nonneg]
        obtain ⟨r1, r2⟩ := (hE _ _ hs').ret (L := L) st hts
        exact fnQ_eff0 trivial r1 r2 ⟨_, .inr ⟨st, hs', rfl⟩⟩ (VLe.refl _)
  · have k0 : ((i : Int) + (pat.length : Int) ≤ (l.length : Int)) = False := eq_false (by omega)
    have e : i = l.length + 1 - pat.length := by omega
    simp (disch := omega) only [spar, List.foldl, List.replicate, strs, k0, go_sem, wrap64_id, Int.tdiv_eq_ediv_of_nonneg, Int.tmod_eq_emod_of_nonneg]
    repeat' first
      | ((first | refine fnQ_pure1 ?_ ?_ | refine fnQ_pure0 ?_ ?_); (next => repeat' first | exact rvs_n | refine rvs_t ?_ | (simp [go_sem]; done)); simp only [go_sem]; (first | exact VLe.refl _ | refine VLe_int ?_ | refine VLe_bool ?_ | refine VLe_str ?_ | skip))
      | (with_reducible refine And.intro ?_ ?_)
      | with_reducible intro _
    all_goals first
      | omega
      | (rename_i hx; revert hx; simp; done)
      | (simp; done)
      | skip
    subst e
    obtain ⟨r1, r2⟩ := (hS _ _ i1).ret (L := L) .ready hts
    exact fnQ_effn0 trivial r1 r2 ⟨hh, .inl ⟨by simpa [posX, positions] using i1, rfl⟩⟩ (VLe.refl _)
end HY
end

section
set_option linter.all false
set_option linter.unusedSimpArgs false
set_option linter.unusedVariables false
set_option linter.unusedSectionVars false
open Go Go.Proofs AF HY
namespace HY
set_option maxRecDepth 100000
theorem callV_eff {P : Program} {f : Nat} {first cap args : List AV} {d : Option Nat} {nx : Nx} {t : List AV} {h h' : List AObj} {v : AV} (hc : ACalls P f (first ++ args ++ cap) h v h') (hn : nx (putA t d v) h') : callV P (.fn (.func f) first cap :: args) d nx t h := ⟨v, h', hc, hn⟩
theorem intsC_set (all : List Int) {a : Nat} (x : Int) (ha : a < all.length) : List.take a (intsC all) ++ [.int .i64 x] ++ List.drop (a + 1) (intsC all) = intsC (all.set a x) := by
  unfold intsC
  rw [List.map_set, List.set_eq_take_append_cons_drop, if_pos (by simpa using ha), List.append_assoc]
  rfl
theorem intsC_get {all : List Int} {a : Nat} (ha : a < all.length) : (intsC all)[a]? = some (.int .i64 (all.getD a 0)) := by simp [intsC, List.getD_eq_getElem?_getD, ha]
theorem intsC_low {all : List Int} {n : Nat} : lowO n (.mem 1 3 (intsC all)) := by
  intro c hc
  unfold intsC at hc
  rw [List.mem_map] at hc
  obtain ⟨x, _, rfl⟩ := hc
  rfl
theorem madeA_ints (n : Nat) : madeA [.int .i64 0] n = intsC (List.replicate n 0) := by
  induction n with
  | zero => rfl
  | succ n ih => simp only [madeA, ih, List.replicate_succ]; rfl
theorem t137 (k v k2 n a : Nat) (all : List Int) (z x : Int) (h : List AObj) (hk : getO k h = some (.mem v 26 [.osl k2 1 1 0 n])) (hk2 : getO k2 h = some (.mem 1 3 (intsC all))) (hn : all.length = n) (ha : a < n) (hz : z = a) :
    ACalls Tryd.prog 74 [.int .i64 z, .int .i64 x, .op k v 0] h (.tup []) (setO k2 h (.mem 1 3 (intsC (all.set a (max (all.getD a 0) x))))) := by
  subst hz
  subst hn
  have hc := cellsOf_of hk
  have hc2 := cellsOf_of hk2
  have hg := intsC_get ha
  have hlen := intsC_len all
  have hst := intsC_set all (max (all.getD a 0) x) ha
  refine acalls_of fn74d (by simp) ?_
  simp only [List.length_cons, List.length_nil, Nat.reduceAdd, Nat.reduceSub, List.replicate, List.cons_append, List.nil_append, List.append_nil]
  simp (disch := omega) only [c74d, hc, hc2, hk2, hg, hlen, go_sem, wrap64_id, Int.tdiv_eq_ediv_of_nonneg, Int.tmod_eq_emod_of_nonneg]
  repeat' first
    | ((first | refine fnQ_pure1 ?_ ?_ | refine fnQ_pure0 ?_ ?_); (next => repeat' first | exact rvs_n | refine rvs_t ?_ | (simp [go_sem]; done)); simp only [go_sem]; (first | exact VLe.refl _ | refine VLe_int ?_ | refine VLe_bool ?_ | refine VLe_str ?_ | skip))
    | (with_reducible refine And.intro ?_ ?_)
    | with_reducible intro _
  all_goals first
    | omega
    | (rename_i hx; revert hx; simp; done)
    | (simp; done)
    | skip
  rw [hst]
  refine fnQ_effn0 trivial len_setO (fun o ho => ?_) ⟨rfl, rfl⟩ (VLe.refl _)
  rcases mem_setO ho with h4 | rfl
  · exact .inl h4
  · exact .inr intsC_low
theorem src_sl (h : List AObj) (L : List (List UInt8)) : Src h (strs L) L.length (strC L) := by
  refine ⟨rfl, rfl, fun X => rfl, fun X => rfl, fun X => ?_, fun k v z p m _ => rfl⟩
  show some (L.length, (List.range L.length).flatMap fun i => [AV.str (L.getD i [])]) = _
  congr 2
  rw [← List.map_eq_flatMap]
  unfold strC
  apply List.ext_getElem
  · simp
  · intro i h1 h2
    simp at h1
    simp [List.getD_eq_getElem?_getD, h1]
theorem src_osl {h : List AObj} {k v : Nat} {ty : TypeId} {L : List (List UInt8)} (hk : getO k h = some (.mem v ty (strC L))) : Src h (.osl k v 1 0 L.length) L.length (strC L) := by
  have hkl := getO_lt hk
  refine ⟨rfl, rfl, fun X => ?_, fun X => rfl, fun X => ?_, fun k' v' z p m hk' => ?_⟩
  · show (liveS (h ++ X) k v = true) = True
    rw [liveS_left hkl]
    unfold liveS
    rw [hk]
    simp
  · rw [sliceCells_osl, getO_left hkl, hk, slcOf_mem, if_pos (by rw [strC_len]; simp)]
    simp [strC_len]
    try exact List.take_of_length_le (by rw [strC_len]; exact Nat.le_refl _)
  · show (k' != k) = true
    rw [bne_iff_ne]
    omega
theorem c135_units (w : List UInt8) (b : Nat) (H : List AObj) (hw : w.length ≤ 1000000000 - 2) (h1 : getO (b + 1) H = some (.mem 1 9 [.str [46]])) (h2 : getO (b + 2) H = some (.mem 1 9 [.str [46]]))
    (h3 : getO (b + 3) H = some (.mem 1 33 [.osl (b + 1) 1 1 0 1, strs (clus (fold w)), .osl (b + 2) 1 1 0 1])) : ACalls Tryd.prog 73 [.osl (b + 3) 1 1 0 3] H (strs (unitsOf w)) H := by
  have hcl := clus_len (fold w)
  rw [fold_len] at hcl
  have e : unitsOf w = [[[46]], clus (fold w), [[46]]].flatten := by simp [unitsOf]
  rw [e]
  refine t135 [[[46]], clus (fold w), [[46]]] (fun i => if i = 0 then .osl (b + 1) 1 1 0 1 else if i = 1 then strs (clus (fold w)) else .osl (b + 2) 1 1 0 1) H (b + 3) 1 _ h3 rfl ?_ (by simp) (by simp; omega) (by simp) (by simp)
  intro i hi
  have : i = 0 ∨ i = 1 ∨ i = 2 := by have : i < 3 := hi; omega
  rcases this with rfl | rfl | rfl
  · exact ⟨rfl, src_osl (L := [[46]]) h1⟩
  · exact ⟨rfl, src_sl H _⟩
  · exact ⟨rfl, src_osl (L := [[46]]) h2⟩
theorem intsV_mid {p : List Int} {k m n : Nat} {fz : Nat → Bool} {h : List AObj} (e : k + m ≤ p.length) : VLe (.sl m fun i => ((List.drop (k + i) (intsC p)).take 1).map (rei fz h (n + 1))) (intsV ((p.drop k).take m)) := by
  refine VLe_sl (by rw [List.length_take, List.length_drop]; omega) (fun i hi => ?_)
  rw [List.length_take, List.length_drop] at hi
  have h1 : k + i < (intsC p).length := by rw [intsC_len]; omega
  rw [List.drop_eq_getElem_cons h1]
  simp [intsC, List.getD_eq_getElem?_getD, show i < m by omega, show k + i < p.length by omega]
  rfl
theorem madeA1 {z : List AV} : madeA z 1 = z := by simp [madeA]
theorem madeA3 {z : List AV} : madeA z 3 = z ++ (z ++ z) := by simp [madeA]
def ob131 (b : Nat) (A : List (List UInt8)) (len : Nat) (all : List Int) (O : AObj) : List AObj :=
  [.emp 1, .mem 1 9 [.str [46]], .mem 1 9 [.str [46]], .mem 1 33 [.osl (b + 1) 1 1 0 1, strs A, .osl (b + 2) 1 1 0 1], .mem 1 3 (intsC all), .mem 1 26 [.osl (b + 4) 1 1 0 len], .mem 1 89 [.fn (.func 74) [] [.op (b + 5) 1 0]], O]
def wfPats (ps : List Pat) : Prop := ∀ i, i < ps.length → (ps.getD i default).levels.length = (clus (fold (ps.getD i default).letters)).length + 1
set_option maxHeartbeats 4000000 in
theorem t131 (ps : List Pat) (w : List UInt8) (h : List AObj) (hok : okPats ps) (hw : w.length ≤ 1000000) (hw0 : 0 < (clus (fold w)).length) (hwf : wfPats ps) : ACalls Tryd.prog 41 [patsV ps, .str w] h (intsV (levelsOf ps w)) h := by
  have hcl := clus_len (fold w)
  rw [fold_len] at hcl
  obtain ⟨A, hA⟩ : ∃ A, A = clus (fold w) := ⟨_, rfl⟩
  have c136 : ∀ h, ACalls Tryd.prog 62 [.str w] h (strs A) h := fun h => by rw [hA]; exact t136 w h (by omega)
  have hul : (unitsOf w).length = A.length + 2 := by rw [hA]; simp [unitsOf]
  obtain ⟨l, hl⟩ : ∃ l, l = unitsOf w := ⟨_, rfl⟩
  have c135 : ∀ H : List AObj, getO (h.length + 1) H = some (.mem 1 9 [.str [46]]) → getO (h.length + 2) H = some (.mem 1 9 [.str [46]]) → getO (h.length + 3) H = some (.mem 1 33 [.osl (h.length + 1) 1 1 0 1, strs A, .osl (h.length + 2) 1 1 0 1]) →
      ACalls Tryd.prog 73 [.osl (h.length + 3) 1 1 0 3] H (strs l) H := fun H h1 h2 h3 => by
    rw [hl]; rw [hA] at h3; exact c135_units w h.length H (by omega) h1 h2 h3
  unfold levelsOf
  rw [← hl] at hul ⊢
  rw [← hA] at hw0 hcl
  obtain ⟨hpl, hp⟩ := hok
  have hz : ((l.length : Int) + 1).toNat = l.length + 1 := by omega
  refine acalls_of fn41d (by simp) ?_
  simp only [List.length_cons, List.length_nil, Nat.reduceAdd, Nat.reduceSub, List.replicate, List.cons_append, List.nil_append, List.append_nil]
  simp (disch := omega) only [c41d, patsV, strs, madeA1, madeA3, hz, madeA_ints, go_sem, wrap64_id, Int.tdiv_eq_ediv_of_nonneg, Int.tmod_eq_emod_of_nonneg]
  repeat' first
    | ((first | refine callA_pure (c136 _) ?_ ?_ | refine callA_pure (c135 _ (by simp only [strs, go_sem]) (by simp only [strs, go_sem]) (by simp only [strs, go_sem])) ?_ ?_); (next => repeat' first | exact flags_n | refine flags_c (by first | rfl | assumption) ?_); simp (disch := omega) only [patsV, strs, madeA1, madeA3, hz, madeA_ints, go_sem, wrap64_id, Int.tdiv_eq_ediv_of_nonneg, Int.tmod_eq_emod_of_nonneg])
    | ((first | refine callG_pure (fun e => ⟨?_, c136 _⟩) ?_ | refine callG_pure (fun e => ⟨?_, c135 _ (by simp only [strs, go_sem]) (by simp only [strs, go_sem]) (by simp only [strs, go_sem])⟩) ?_); (next => repeat' first | exact flags_n | refine flags_c (by first | rfl | assumption) ?_); simp (disch := omega) only [patsV, strs, madeA1, madeA3, hz, madeA_ints, go_sem, wrap64_id, Int.tdiv_eq_ediv_of_nonneg, Int.tmod_eq_emod_of_nonneg])
    | ((first | refine fnQ_pure1 ?_ ?_ | refine fnQ_pure0 ?_ ?_); (next => repeat' first | exact rvs_n | refine rvs_t ?_ | (simp [go_sem]; done)); simp only [go_sem]; (first | exact VLe.refl _ | refine VLe_int ?_ | refine VLe_bool ?_ | refine VLe_str ?_ | skip))
    | (with_reducible refine And.intro ?_ ?_)
    | with_reducible intro _
  all_goals first
    | omega
    | (rename_i hx; revert hx; simp; done)
    | (simp; done)
    | skip
  refine loop_of (T := fun i : Nat × List Int × AObj => spar 57 [(5, strs l), (6, .op (h.length + 5) 1 0), (7, .op (h.length + 6) 1 0), (24, patsV ps), (25, .int .i64 ps.length), (26, .int .i64 i.1)]) (H := fun i => h ++ ob131 h.length A (l.length + 1) i.2.1 i.2.2)
    (inv := fun i => i.1 ≤ ps.length ∧ i.2.1.length = l.length + 1 ∧ allLevels ps l = (ps.drop i.1).foldl (addPat l) i.2.1 ∧ site [i.2.2] 0 = true) (m := fun i => ps.length - i.1) (0, List.replicate (l.length + 1) 0, .emp 0) ⟨by simp, by simp, by simp [allLevels], rfl⟩ (Wk.temps ?_) ?_
  · (simp only [strs, patsV, spar, List.foldl, List.replicate, go_sem, VLes_nil, VLes_cons, VLe_undef_iff, VLe_self]; try (repeat' first | (with_reducible refine And.intro ?_ ?_) | (refine VLe_int ?_; omega) | (refine VLe_bool ?_; rfl) | exact VLe.refl _))
  rintro ⟨i, all, O⟩ ⟨i1, i2, i3, i4⟩ K hK
  simp only at i1 i2 i3 i4 hK
  have i4' : ∀ m, site (O :: m) 0 = true := fun _ => i4
  by_cases hi : i < ps.length
  · obtain ⟨b1, b2⟩ := hp i hi
    have hwp := hwf i hi
    rw [drop_pat hi, List.foldl_cons] at i3
    obtain ⟨p, hpp⟩ : ∃ p, p = ps.getD i default := ⟨_, rfl⟩
    have epp := hpp.symm
    rw [← hpp] at i3 b1 b2 hwp
    obtain ⟨pat, hpat⟩ : ∃ pat, pat = clus (fold p.letters) := ⟨_, rfl⟩
    have c136p : ∀ h, ACalls Tryd.prog 62 [.str p.letters] h (strs pat) h := fun h => by rw [hpat]; exact t136 _ h b1
    have hpl2 := clus_len (fold p.letters)
    rw [fold_len] at hpl2
    rw [← hpat] at hwp hpl2
    have c138 := fun h => t138 pat l h
    have hit := it142 pat l (by omega) (by omega)
    simp (disch := omega) only [spar, List.foldl, List.replicate, patsV, patC, epp, i4', ob131, go_sem, wrap64_id, Int.tdiv_eq_ediv_of_nonneg, Int.tmod_eq_emod_of_nonneg]
    repeat' first
      | ((first | refine callA_pure (c136p _) ?_ ?_ | refine callA_pure (c138 _) ?_ ?_); (next => repeat' first | exact flags_n | refine flags_c (by first | rfl | assumption) ?_); simp (disch := omega) only [patsV, patC, epp, i4', strs, ob131, go_sem, wrap64_id, Int.tdiv_eq_ediv_of_nonneg, Int.tmod_eq_emod_of_nonneg])
      | ((first | refine callG_pure (fun e => ⟨?_, c136p _⟩) ?_ | refine callG_pure (fun e => ⟨?_, c138 _⟩) ?_); (next => repeat' first | exact flags_n | refine flags_c (by first | rfl | assumption) ?_); simp (disch := omega) only [patsV, patC, epp, i4', strs, ob131, go_sem, wrap64_id, Int.tdiv_eq_ediv_of_nonneg, Int.tmod_eq_emod_of_nonneg])
      | ((first | refine fnQ_pure1 ?_ ?_ | refine fnQ_pure0 ?_ ?_); (next => repeat' first | exact rvs_n | refine rvs_t ?_ | (simp [go_sem]; done)); simp only [go_sem]; (first | exact VLe.refl _ | refine VLe_int ?_ | refine VLe_bool ?_ | refine VLe_str ?_ | skip))
      | (with_reducible refine And.intro ?_ ?_)
      | with_reducible intro _
    all_goals first
      | omega
      | (rename_i hx; revert hx; simp; done)
      | (simp; done)
      | skip
    obtain ⟨OO, hOO⟩ : ∃ x : AObj, x = .mem (verOf (some O) + 1) 32 [.str p.letters, intsV p.levels] := ⟨_, rfl⟩
    obtain ⟨ov, hov⟩ : ∃ x : Nat, x = verOf (some O) + 1 := ⟨_, rfl⟩
    rw [← hov] at hOO ⊢
    rw [show h ++ [AObj.emp 1, AObj.mem 1 9 [AV.str [46]], AObj.mem 1 9 [AV.str [46]], AObj.mem 1 33 [AV.osl (h.length + 1) 1 1 0 1, AV.sl A.length fun i => [AV.str (A.getD i [])], AV.osl (h.length + 2) 1 1 0 1],
        AObj.mem 1 3 (intsC all), AObj.mem 1 26 [AV.osl (h.length + 4) 1 1 0 (l.length + 1)], AObj.mem 1 89 [AV.fn (Fn.func 74) [] [AV.op (h.length + 5) 1 0]],
        AObj.mem ov 32 [AV.str p.letters, intsV p.levels]] = h ++ ob131 h.length A (l.length + 1) all OO by rw [hOO]; rfl]
    refine range_iter (xs := posX pat l) hit (by intro a ha; simp [posX] at ha; obtain ⟨_, _, rfl⟩ := ha; rfl)
      (S := fun j hh => hh = h ++ ob131 h.length A (l.length + 1) (((positions pat l).take j).foldl (fun a i => addAt a i p.levels) all) OO)
      (E := fun _ _ => False) ?_ (fun _ _ h => h.elim) ?_ ?_ ?_ ?_ (fun _ _ h => h.elim)
    · rintro j hh rfl
      refine LowI.app rfl (fun o ho => ?_)
      simp only [ob131, List.mem_cons, List.not_mem_nil, or_false] at ho
      rcases ho with rfl | rfl | rfl | rfl | rfl | rfl | rfl | rfl
      case inr.inr.inr.inr.inl => exact .inr ⟨intsC_low, intsC_low⟩
      all_goals (left; simp [ob131])
    · simp
    · simp [lowV, lowV.lowVs, placesF, intsV, ob131]
      try omega
    · rintro j hh tl L hj rfl hlen
      have hjp : j < (positions pat l).length := by simpa [posX] using hj
      have hxj : (posX pat l)[j] = [.int .i64 (((positions pat l)[j] : Nat) : Int)] := by simp [posX]
      rw [hxj]
      have hqm : (positions pat l)[j] < l.length + 1 - pat.length := by
        have := List.getElem_mem hjp
        unfold positions at this
        rw [List.mem_filter, List.mem_range] at this
        exact this.1
      have hst : ((positions pat l).take (j + 1)).foldl (fun a i => addAt a i p.levels) all = addAt (((positions pat l).take j).foldl (fun a i => addAt a i p.levels) all) (positions pat l)[j] p.levels := by
        rw [List.take_add_one, List.getElem?_eq_getElem hjp, Option.toList_some, List.foldl_append]; rfl
      obtain ⟨q, hq⟩ : ∃ q, q = (positions pat l)[j] := ⟨_, rfl⟩
      obtain ⟨all1, hall1⟩ : ∃ a, a = ((positions pat l).take j).foldl (fun a i => addAt a i p.levels) all := ⟨_, rfl⟩
      have hal : all1.length = l.length + 1 := by rw [hall1, foldl_len (fun a x => addAt_len _ _ _), i2]
      rw [← hq, ← hall1] at hst
      rw [← hq] at hqm ⊢
      rw [← hall1]
      simp only [setsA]
      subst hOO
      simp (disch := omega) only [List.append_assoc, eq_self, ob131, strs, intsV, go_sem, wrap64_id, Int.tdiv_eq_ediv_of_nonneg, Int.tmod_eq_emod_of_nonneg]
      repeat' first
        | ((first | refine fnQ_pure1 ?_ ?_ | refine fnQ_pure0 ?_ ?_); (next => repeat' first | exact rvs_n | refine rvs_t ?_ | (simp [go_sem]; done)); simp only [go_sem]; (first | exact VLe.refl _ | refine VLe_int ?_ | refine VLe_bool ?_ | refine VLe_str ?_ | skip))
        | (with_reducible refine And.intro ?_ ?_)
        | with_reducible intro _
      all_goals first
        | omega
        | (rename_i hx; revert hx; simp; done)
        | (simp; done)
        | skip
      refine loop_of (T := fun k : Nat × List Int => spar 57 [(7, .op (h.length + 6) 1 0), (10, .int .i64 q), (37, intsV p.levels), (38, .int .i64 p.levels.length), (39, .int .i64 k.1)])
        (H := fun k => h ++ (AObj.emp 1 :: AObj.mem 1 9 [AV.str [46]] :: AObj.mem 1 9 [AV.str [46]] :: AObj.mem 1 33 [AV.osl (h.length + 1) 1 1 0 1, strs A, AV.osl (h.length + 2) 1 1 0 1] :: AObj.mem 1 3 (intsC k.2) ::
          AObj.mem 1 26 [AV.osl (h.length + 4) 1 1 0 (l.length + 1)] :: AObj.mem 1 89 [AV.fn (Fn.func 74) [] [AV.op (h.length + 5) 1 0]] :: AObj.mem ov 32 [AV.str p.letters, intsV p.levels] :: AObj.lp LS.busy _ L :: tl))
        (inv := fun k => k.1 ≤ p.levels.length ∧ k.2.length = l.length + 1 ∧ addAt all1 q p.levels = addAt k.2 (q + k.1) (p.levels.drop k.1)) (m := fun k => p.levels.length - k.1) (0, all1) ⟨by simp, hal, by simp⟩ (Wk.temps ?_) ?_
      · (simp only [intsV, spar, List.foldl, List.replicate, go_sem, VLes_nil, VLes_cons, VLe_undef_iff, VLe_self]; try (repeat' first | (with_reducible refine And.intro ?_ ?_) | (refine VLe_int ?_; omega) | (refine VLe_bool ?_; rfl) | exact VLe.refl _))
      rintro ⟨k, all2⟩ ⟨k1, k2, k3⟩ K2 hK2
      simp only at k1 k2 k3 hK2
      by_cases hk : k < p.levels.length
      · have e : p.levels.drop k = p.levels.getD k 0 :: p.levels.drop (k + 1) := by rw [List.drop_eq_getElem_cons hk]; simp [List.getD_eq_getElem?_getD, hk]
        rw [e] at k3
        simp only [addAt] at k3
        simp (disch := omega) only [spar, List.foldl, List.replicate, strs, intsV, go_sem, wrap64_id, Int.tdiv_eq_ediv_of_nonneg, Int.tmod_eq_emod_of_nonneg]
        repeat' first
          | ((first | refine fnQ_pure1 ?_ ?_ | refine fnQ_pure0 ?_ ?_); (next => repeat' first | exact rvs_n | refine rvs_t ?_ | (simp [go_sem]; done)); simp only [go_sem]; (first | exact VLe.refl _ | refine VLe_int ?_ | refine VLe_bool ?_ | refine VLe_str ?_ | skip))
          | (with_reducible refine And.intro ?_ ?_)
          | with_reducible intro _
        all_goals first
          | omega
          | (rename_i hx; revert hx; simp; done)
          | (simp; done)
          | skip
        refine callV_eff (t137 (h.length + 5) 1 (h.length + 4) (l.length + 1) (q + k) all2 _ _ _ (by simp only [go_sem]) (by simp only [go_sem]) k2 (by omega) (by omega)) ?_
        simp (disch := omega) only [strs, intsV, go_sem, wrap64_id, Int.tdiv_eq_ediv_of_nonneg, Int.tmod_eq_emod_of_nonneg]
        repeat' first
          | ((first | refine fnQ_pure1 ?_ ?_ | refine fnQ_pure0 ?_ ?_); (next => repeat' first | exact rvs_n | refine rvs_t ?_ | (simp [go_sem]; done)); simp only [go_sem]; (first | exact VLe.refl _ | refine VLe_int ?_ | refine VLe_bool ?_ | refine VLe_str ?_ | skip))
          | (with_reducible refine And.intro ?_ ?_)
          | with_reducible intro _
        all_goals first
          | omega
          | (rename_i hx; revert hx; simp; done)
          | (simp; done)
          | skip
        refine hK2 _ _ (k + 1, all2.set (q + k) (max (all2.getD (q + k) 0) (p.levels.getD k 0))) ⟨by simp only; omega, by simp only [List.length_set]; exact k2, by rw [k3]; rfl⟩ (by simp only; omega) (Wk.temps ?_)
        (simp only [intsV, spar, List.foldl, List.replicate, go_sem, VLes_nil, VLes_cons, VLe_undef_iff, VLe_self]; try (repeat' first | (with_reducible refine And.intro ?_ ?_) | (refine VLe_int ?_; omega) | (refine VLe_bool ?_; rfl) | exact VLe.refl _))
      · have e : k = p.levels.length := by omega
        subst e
        rw [List.drop_length] at k3
        simp only [addAt] at k3
        simp (disch := omega) only [spar, List.foldl, List.replicate, strs, intsV, go_sem, wrap64_id, Int.tdiv_eq_ediv_of_nonneg, Int.tmod_eq_emod_of_nonneg]
        repeat' first
          | ((first | refine fnQ_pure1 ?_ ?_ | refine fnQ_pure0 ?_ ?_); (next => repeat' first | exact rvs_n | refine rvs_t ?_ | (simp [go_sem]; done)); simp only [go_sem]; (first | exact VLe.refl _ | refine VLe_int ?_ | refine VLe_bool ?_ | refine VLe_str ?_ | skip))
          | (with_reducible refine And.intro ?_ ?_)
          | with_reducible intro _
        all_goals first
          | omega
          | (rename_i hx; revert hx; simp; done)
          | (simp; done)
          | skip
        rw [hst, k3]
        exact ⟨h ++ ob131 h.length A (l.length + 1) all2 (.mem ov 32 [.str p.letters, intsV p.levels]), by rw [List.append_assoc]; rfl, by simp [ob131], rfl⟩
    · rintro hh rfl
      have hpx : (posX pat l).length = (positions pat l).length := by simp [posX]
      rw [hpx, List.take_length]
      have hnx : (positions pat l).foldl (fun a i => addAt a i p.levels) all = addPat l all p := by unfold addPat; rw [← hpat]
      rw [hnx]
      simp (disch := omega) only [spar, List.foldl, List.replicate, strs, intsV, go_sem, wrap64_id, Int.tdiv_eq_ediv_of_nonneg, Int.tmod_eq_emod_of_nonneg]
      repeat' first
        | ((first | refine fnQ_pure1 ?_ ?_ | refine fnQ_pure0 ?_ ?_); (next => repeat' first | exact rvs_n | refine rvs_t ?_ | (simp [go_sem]; done)); simp only [go_sem]; (first | exact VLe.refl _ | refine VLe_int ?_ | refine VLe_bool ?_ | refine VLe_str ?_ | skip))
        | (with_reducible refine And.intro ?_ ?_)
        | with_reducible intro _
      all_goals first
        | omega
        | (rename_i hx; revert hx; simp; done)
        | (simp; done)
        | skip
      subst hOO
      refine hK _ _ (i + 1, addPat l all p, .mem ov 32 [.str p.letters, intsV p.levels]) ⟨by simp only; omega, by simp only; rw [addPat_len, i2], i3, rfl⟩ (by simp only; omega) (Wk.temps ?_)
      (simp only [strs, patsV, patC, intsV, spar, List.foldl, List.replicate, go_sem, VLes_nil, VLes_cons, VLe_undef_iff, VLe_self]; try (repeat' first | (with_reducible refine And.intro ?_ ?_) | (refine VLe_int ?_; omega) | (refine VLe_bool ?_; rfl) | exact VLe.refl _))
  · have e : i = ps.length := by omega
    subst e
    rw [List.drop_length, List.foldl_nil] at i3
    have hlen := intsC_len all
    have hx1 : ((l.length : Int) - 1).toNat - (2 : Int).toNat = l.length - 1 - 2 := by omega
    simp (disch := omega) only [spar, List.foldl, List.replicate, strs, ob131, hx1, hlen, go_sem, wrap64_id, Int.tdiv_eq_ediv_of_nonneg, Int.tmod_eq_emod_of_nonneg]
    repeat' first
      | ((first | refine fnQ_pure1 ?_ ?_ | refine fnQ_pure0 ?_ ?_); (next => repeat' first | exact rvs_n | refine rvs_t ?_ | (simp [go_sem]; done)); simp only [go_sem]; (first | exact VLe.refl _ | refine VLe_int ?_ | refine VLe_bool ?_ | refine VLe_str ?_ | skip))
      | (with_reducible refine And.intro ?_ ?_)
      | with_reducible intro _
    all_goals first
      | omega
      | (rename_i hx; revert hx; simp; done)
      | (simp; done)
      | skip
    rw [i3, if_pos (by rw [hlen, i2, show Int.toNat 2 = 2 from rfl]; omega)]
    exact intsV_mid (by rw [i2]; omega)
end HY
end

section
set_option linter.all false
set_option linter.unusedSimpArgs false
set_option linter.unusedVariables false
set_option linter.unusedSectionVars false
open Go Go.Proofs AF HY
namespace HY
set_option maxRecDepth 100000
theorem strC_range (A : List (List UInt8)) : (List.range A.length).flatMap (fun i => [AV.str (A.getD i [])]) = strC A := by
  rw [← List.map_eq_flatMap]
  unfold strC
  apply List.ext_getElem
  · simp
  · intro i h1 h2
    simp at h1
    simp [List.getD_eq_getElem?_getD, h1]
theorem strC_get {L : List (List UInt8)} {i : Nat} (hi : i < L.length) : (strC L)[i]? = some (.str (L.getD i [])) := by simp [strC, List.getD_eq_getElem?_getD, hi]
def same (pat l : List (List UInt8)) (a k : Nat) : Bool := (List.range k).all fun i => decide (l.getD (a + i) [] = pat.getD i [])
theorem same_zero (pat l : List (List UInt8)) (a : Nat) : same pat l a 0 = true := rfl
theorem same_succ (pat l : List (List UInt8)) (a k : Nat) : same pat l a (k + 1) = (same pat l a k && decide (l.getD (a + k) [] = pat.getD k [])) := by
  unfold same; rw [List.range_succ, List.all_append]; simp
theorem same_all (pat l : List (List UInt8)) (a : Nat) : same pat l a pat.length = matchAt pat l a := rfl
def ob120 (l : List (List UInt8)) (all : List Int) : List AObj := [.emp 1, .mem 3 9 (strC l), .emp 0, .mem 1 9 [.str [46]], .emp 0, .mem 1 3 (intsC all)]
theorem foldl_filter_t {f : List Int → Nat → List Int} {p : Nat → Bool} {i : Nat} {a : List Int} (h : p i = true) : ((List.range (i + 1)).filter p).foldl f a = f (((List.range i).filter p).foldl f a) i := by
  rw [filter_succ_t h, List.foldl_append]; rfl
set_option maxHeartbeats 8000000 in
theorem t120 (ps : List Pat) (w : List UInt8) (h : List AObj) (hok : okPats ps) (hw : w.length ≤ 1000000) (hw0 : 0 < (clus (fold w)).length) (hwf : wfPats ps) : ACalls Tryd.prog 58 [patsV ps, .str w] h (intsV (levelsOf ps w)) h := by
  have hcl := clus_len (fold w)
  rw [fold_len] at hcl
  obtain ⟨A, hA⟩ : ∃ A, A = clus (fold w) := ⟨_, rfl⟩
  have c132 := fun h => t132 w h (by omega)
  have c71 : ∀ h, ACalls Tryd.prog 53 [.str (fold w)] h (strs A) h := fun h => by rw [hA]; exact t71 _ h (by rw [fold_len]; omega)
  have hul : (unitsOf w).length = 1 + A.length + 1 := by rw [hA]; simp [unitsOf]; omega
  obtain ⟨l, hl⟩ : ∃ l, l = unitsOf w := ⟨_, rfl⟩
  have hll : strC l = [.str [46]] ++ strC A ++ [.str [46]] := by rw [hl, hA]; simp [unitsOf, strC]
  unfold levelsOf
  rw [← hl] at hul ⊢
  rw [← hA] at hw0 hcl
  obtain ⟨hpl, hp⟩ := hok
  have hN : 1 + A.length + 1 = l.length := by omega
  have hz2 : ((l.length : Int) + 1).toNat = l.length + 1 := by omega
  have eA := strC_len A
  have el := strC_len l
  have eT : List.take (1 + A.length) (AV.str [46] :: strC A) = AV.str [46] :: strC A := List.take_of_length_le (by simp [eA]; omega)
  have hll' : AV.str [46] :: strC A ++ [AV.str [46]] = strC l := hll.symm
  have hll2 : AV.str [46] :: (strC A ++ [AV.str [46]]) = strC l := hll.symm
  refine acalls_of fn58d (by simp) ?_
  simp only [List.length_cons, List.length_nil, Nat.reduceAdd, Nat.reduceSub, List.replicate, List.cons_append, List.nil_append, List.append_nil]
  simp (disch := omega) only [c58d, patsV, strs, madeA1, strC_range, eA, eT, hN, hz2, madeA_ints, hll', hll2, go_sem, wrap64_id, Int.tdiv_eq_ediv_of_nonneg, Int.tmod_eq_emod_of_nonneg]
  repeat' first
    | ((first | refine callA_pure (c132 _) ?_ ?_ | refine callA_pure (c71 _) ?_ ?_); (next => repeat' first | exact flags_n | refine flags_c (by first | rfl | assumption) ?_); simp (disch := omega) only [patsV, strs, madeA1, strC_range, eA, eT, hN, hz2, madeA_ints, hll', hll2, go_sem, wrap64_id, Int.tdiv_eq_ediv_of_nonneg, Int.tmod_eq_emod_of_nonneg])
    | ((first | refine callG_pure (fun e => ⟨?_, c132 _⟩) ?_ | refine callG_pure (fun e => ⟨?_, c71 _⟩) ?_); (next => repeat' first | exact flags_n | refine flags_c (by first | rfl | assumption) ?_); simp (disch := omega) only [patsV, strs, madeA1, strC_range, eA, eT, hN, hz2, madeA_ints, hll', hll2, go_sem, wrap64_id, Int.tdiv_eq_ediv_of_nonneg, Int.tmod_eq_emod_of_nonneg])
    | ((first | refine fnQ_pure1 ?_ ?_ | refine fnQ_pure0 ?_ ?_); (next => repeat' first | exact rvs_n | refine rvs_t ?_ | (simp [go_sem]; done)); simp only [go_sem]; (first | exact VLe.refl _ | refine VLe_int ?_ | refine VLe_bool ?_ | refine VLe_str ?_ | skip))
    | (with_reducible refine And.intro ?_ ?_)
    | with_reducible intro _
  all_goals first
    | omega
    | (rename_i hx; revert hx; simp; done)
    | (simp; done)
    | skip
  refine loop_of (T := fun i : Nat × List Int => spar 100 [(0, patsV ps), (5, .osl (h.length + 1) 3 1 0 l.length), (6, .osl (h.length + 5) 1 1 0 (l.length + 1)), (7, .int .i64 i.1)]) (H := fun i => h ++ ob120 l i.2)
    (inv := fun i => i.1 ≤ ps.length ∧ i.2.length = l.length + 1 ∧ allLevels ps l = (ps.drop i.1).foldl (addPat l) i.2) (m := fun i => ps.length - i.1) (0, List.replicate (l.length + 1) 0) ⟨by simp, by simp, by simp [allLevels]⟩ (Wk.temps ?_) ?_
  · (simp only [strs, patsV, spar, List.foldl, List.replicate, go_sem, VLes_nil, VLes_cons, VLe_undef_iff, VLe_self]; try (repeat' first | (with_reducible refine And.intro ?_ ?_) | (refine VLe_int ?_; omega) | (refine VLe_bool ?_; rfl) | exact VLe.refl _))
  rintro ⟨i, all⟩ ⟨i1, i2, i3⟩ K hK
  simp only at i1 i2 i3 hK
  by_cases hi : i < ps.length
  · obtain ⟨b1, b2⟩ := hp i hi
    have hwp := hwf i hi
    rw [drop_pat hi, List.foldl_cons] at i3
    obtain ⟨p, hpp⟩ : ∃ p, p = ps.getD i default := ⟨_, rfl⟩
    have epp := hpp.symm
    rw [← hpp] at i3 b1 b2 hwp
    obtain ⟨pat, hpat⟩ : ∃ pat, pat = clus (fold p.letters) := ⟨_, rfl⟩
    have c132p := fun h => t132 p.letters h b1
    have c71p : ∀ h, ACalls Tryd.prog 53 [.str (fold p.letters)] h (strs pat) h := fun h => by rw [hpat]; exact t71 _ h (by rw [fold_len]; exact b1)
    have hpl2 := clus_len (fold p.letters)
    rw [fold_len] at hpl2
    rw [← hpat] at hwp hpl2
    obtain ⟨M, hM⟩ : ∃ M, M = l.length + 1 - pat.length := ⟨_, rfl⟩
    have hap : addPat l all p = ((List.range M).filter (matchAt pat l)).foldl (fun a i => addAt a i p.levels) all := by unfold addPat positions; rw [← hpat, hM]
    simp (disch := omega) only [spar, List.foldl, List.replicate, patsV, patC, epp, ob120, strs, go_sem, wrap64_id, Int.tdiv_eq_ediv_of_nonneg, Int.tmod_eq_emod_of_nonneg]
    repeat' first
      | ((first | refine callA_pure (c132p _) ?_ ?_ | refine callA_pure (c71p _) ?_ ?_); (next => repeat' first | exact flags_n | refine flags_c (by first | rfl | assumption) ?_); simp (disch := omega) only [patsV, patC, epp, ob120, strs, go_sem, wrap64_id, Int.tdiv_eq_ediv_of_nonneg, Int.tmod_eq_emod_of_nonneg])
      | ((first | refine callG_pure (fun e => ⟨?_, c132p _⟩) ?_ | refine callG_pure (fun e => ⟨?_, c71p _⟩) ?_); (next => repeat' first | exact flags_n | refine flags_c (by first | rfl | assumption) ?_); simp (disch := omega) only [patsV, patC, epp, ob120, strs, go_sem, wrap64_id, Int.tdiv_eq_ediv_of_nonneg, Int.tmod_eq_emod_of_nonneg])
      | ((first | refine fnQ_pure1 ?_ ?_ | refine fnQ_pure0 ?_ ?_); (next => repeat' first | exact rvs_n | refine rvs_t ?_ | (simp [go_sem]; done)); simp only [go_sem]; (first | exact VLe.refl _ | refine VLe_int ?_ | refine VLe_bool ?_ | refine VLe_str ?_ | skip))
      | (with_reducible refine And.intro ?_ ?_)
      | with_reducible intro _
    all_goals first
      | omega
      | (rename_i hx; revert hx; simp; done)
      | (simp; done)
      | skip
    refine loop_of (T := fun j : Nat × List Int => spar 100 [(0, patsV ps), (5, .osl (h.length + 1) 3 1 0 l.length), (6, .osl (h.length + 5) 1 1 0 (l.length + 1)), (7, .int .i64 i), (8, strs pat), (9, .int .i64 j.1)]) (H := fun j => h ++ ob120 l j.2)
      (inv := fun j => j.1 ≤ M ∧ j.2.length = l.length + 1 ∧ j.2 = ((List.range j.1).filter (matchAt pat l)).foldl (fun a i => addAt a i p.levels) all) (m := fun j => M - j.1) (0, all) ⟨by simp, i2, by simp⟩ (Wk.temps ?_) ?_
    · (simp only [strs, patsV, patC, spar, List.foldl, List.replicate, go_sem, VLes_nil, VLes_cons, VLe_undef_iff, VLe_self]; try (repeat' first | (with_reducible refine And.intro ?_ ?_) | (refine VLe_int ?_; omega) | (refine VLe_bool ?_; rfl) | exact VLe.refl _))
    rintro ⟨a, al⟩ ⟨j1, j2, j3⟩ K2 hK2
    simp only at j1 j2 j3 hK2
    by_cases hj : a < M
    · have k0 : ((a : Int) + (pat.length : Int) ≤ (l.length : Int)) = True := eq_true (by omega)
      simp (disch := omega) only [spar, List.foldl, List.replicate, strs, patsV, patC, epp, ob120, k0, go_sem, wrap64_id, Int.tdiv_eq_ediv_of_nonneg, Int.tmod_eq_emod_of_nonneg]
      repeat' first
        | ((first | refine fnQ_pure1 ?_ ?_ | refine fnQ_pure0 ?_ ?_); (next => repeat' first | exact rvs_n | refine rvs_t ?_ | (simp [go_sem]; done)); simp only [go_sem]; (first | exact VLe.refl _ | refine VLe_int ?_ | refine VLe_bool ?_ | refine VLe_str ?_ | skip))
        | (with_reducible refine And.intro ?_ ?_)
        | with_reducible intro _
      all_goals first
        | omega
        | (rename_i hx; revert hx; simp; done)
        | (simp; done)
        | skip
      refine loop_of (T := fun k : Nat => spar 100 [(0, patsV ps), (5, .osl (h.length + 1) 3 1 0 l.length), (6, .osl (h.length + 5) 1 1 0 (l.length + 1)), (7, .int .i64 i), (8, strs pat), (9, .int .i64 a), (10, .bool (same pat l a k)), (11, .int .i64 k)]) (H := fun k => h ++ ob120 l al)
        (inv := fun k => k ≤ pat.length) (m := fun k => pat.length - k) 0 (by simp) (Wk.temps ?_) ?_
      · (simp only [strs, patsV, patC, same_zero, spar, List.foldl, List.replicate, go_sem, VLes_nil, VLes_cons, VLe_undef_iff, VLe_self]; try (repeat' first | (with_reducible refine And.intro ?_ ?_) | (refine VLe_int ?_; omega) | (refine VLe_bool ?_; rfl) | exact VLe.refl _))
      rintro k k1 K3 hK3
      by_cases hk : k < pat.length
      · have hg := strC_get (L := l) (i := a + k) (by omega)
        have hx : ((a : Int) + (k : Int)).toNat = a + k := by omega
        have hsu := same_succ pat l a k
        cases hs : same pat l a k with
        | false =>
          rw [hs, Bool.false_and] at hsu
          simp (disch := omega) only [spar, List.foldl, List.replicate, strs, patsV, patC, epp, ob120, hg, hx, el, go_sem, wrap64_id, Int.tdiv_eq_ediv_of_nonneg, Int.tmod_eq_emod_of_nonneg]
          repeat' first
            | ((first | refine fnQ_pure1 ?_ ?_ | refine fnQ_pure0 ?_ ?_); (next => repeat' first | exact rvs_n | refine rvs_t ?_ | (simp [go_sem]; done)); simp only [go_sem]; (first | exact VLe.refl _ | refine VLe_int ?_ | refine VLe_bool ?_ | refine VLe_str ?_ | skip))
            | (with_reducible refine And.intro ?_ ?_)
            | with_reducible intro _
          all_goals first
            | omega
            | (rename_i hx; revert hx; simp; done)
            | (simp; done)
            | skip
          refine hK3 _ _ (k + 1) (by omega) (by omega) (Wk.temps ?_)
          rw [hsu]
          (simp only [strs, patsV, patC, spar, List.foldl, List.replicate, go_sem, VLes_nil, VLes_cons, VLe_undef_iff, VLe_self]; try (repeat' first | (with_reducible refine And.intro ?_ ?_) | (refine VLe_int ?_; omega) | (refine VLe_bool ?_; rfl) | exact VLe.refl _))
        | true =>
          rw [hs, Bool.true_and] at hsu
          simp (disch := omega) only [spar, List.foldl, List.replicate, strs, patsV, patC, epp, ob120, hg, hx, el, go_sem, wrap64_id, Int.tdiv_eq_ediv_of_nonneg, Int.tmod_eq_emod_of_nonneg]
          repeat' first
            | ((first | refine fnQ_pure1 ?_ ?_ | refine fnQ_pure0 ?_ ?_); (next => repeat' first | exact rvs_n | refine rvs_t ?_ | (simp [go_sem]; done)); simp only [go_sem]; (first | exact VLe.refl _ | refine VLe_int ?_ | refine VLe_bool ?_ | refine VLe_str ?_ | skip))
            | (with_reducible refine And.intro ?_ ?_)
            | with_reducible intro _
          all_goals first
            | omega
            | (rename_i hx; revert hx; simp; done)
            | (simp; done)
            | skip
          refine hK3 _ _ (k + 1) (by omega) (by omega) (Wk.temps ?_)
          rw [hsu]
          (simp only [strs, patsV, patC, spar, List.foldl, List.replicate, go_sem, VLes_nil, VLes_cons, VLe_undef_iff, VLe_self]; try (repeat' first | (with_reducible refine And.intro ?_ ?_) | (refine VLe_int ?_; omega) | (refine VLe_bool ?_; rfl) | exact VLe.refl _))
          exact VLe_bool (decide_eq_decide.2 eq_comm)
      · have e : k = pat.length := by omega
        subst e
        rw [same_all]
        cases hb : matchAt pat l a with
        | false =>
          simp (disch := omega) only [spar, List.foldl, List.replicate, strs, patsV, patC, epp, ob120, go_sem, wrap64_id, Int.tdiv_eq_ediv_of_nonneg, Int.tmod_eq_emod_of_nonneg]
          repeat' first
            | ((first | refine fnQ_pure1 ?_ ?_ | refine fnQ_pure0 ?_ ?_); (next => repeat' first | exact rvs_n | refine rvs_t ?_ | (simp [go_sem]; done)); simp only [go_sem]; (first | exact VLe.refl _ | refine VLe_int ?_ | refine VLe_bool ?_ | refine VLe_str ?_ | skip))
            | (with_reducible refine And.intro ?_ ?_)
            | with_reducible intro _
          all_goals first
            | omega
            | (rename_i hx; revert hx; simp; done)
            | (simp; done)
            | skip
          refine loop_of (T := fun k : Nat => spar 100 [(0, patsV ps), (5, .osl (h.length + 1) 3 1 0 l.length), (6, .osl (h.length + 5) 1 1 0 (l.length + 1)), (7, .int .i64 i), (8, strs pat), (9, .int .i64 a), (10, .bool false), (12, .int .i64 k)]) (H := fun k => h ++ ob120 l al)
            (inv := fun k => True) (m := fun k => k) 0 trivial (Wk.temps ?_) ?_
          · (simp only [strs, patsV, patC, spar, List.foldl, List.replicate, go_sem, VLes_nil, VLes_cons, VLe_undef_iff, VLe_self]; try (repeat' first | (with_reducible refine And.intro ?_ ?_) | (refine VLe_int ?_; omega) | (refine VLe_bool ?_; rfl) | exact VLe.refl _))
          rintro k - K3 hK3
          simp (disch := omega) only [spar, List.foldl, List.replicate, strs, patsV, patC, epp, ob120, go_sem, wrap64_id, Int.tdiv_eq_ediv_of_nonneg, Int.tmod_eq_emod_of_nonneg]
          repeat' first
            | ((first | refine fnQ_pure1 ?_ ?_ | refine fnQ_pure0 ?_ ?_); (next => repeat' first | exact rvs_n | refine rvs_t ?_ | (simp [go_sem]; done)); simp only [go_sem]; (first | exact VLe.refl _ | refine VLe_int ?_ | refine VLe_bool ?_ | refine VLe_str ?_ | skip))
            | (with_reducible refine And.intro ?_ ?_)
            | with_reducible intro _
          all_goals first
            | omega
            | (rename_i hx; revert hx; simp; done)
            | (simp; done)
            | skip
          refine hK2 _ _ (a + 1, al) ⟨by simp only; omega, j2, by simp only; rw [filter_succ_f hb]; exact j3⟩ (by simp only; omega) (Wk.temps ?_)
          (simp only [strs, patsV, patC, spar, List.foldl, List.replicate, go_sem, VLes_nil, VLes_cons, VLe_undef_iff, VLe_self]; try (repeat' first | (with_reducible refine And.intro ?_ ?_) | (refine VLe_int ?_; omega) | (refine VLe_bool ?_; rfl) | exact VLe.refl _))
        | true =>
          simp (disch := omega) only [spar, List.foldl, List.replicate, strs, patsV, patC, epp, ob120, go_sem, wrap64_id, Int.tdiv_eq_ediv_of_nonneg, Int.tmod_eq_emod_of_nonneg]
          repeat' first
            | ((first | refine fnQ_pure1 ?_ ?_ | refine fnQ_pure0 ?_ ?_); (next => repeat' first | exact rvs_n | refine rvs_t ?_ | (simp [go_sem]; done)); simp only [go_sem]; (first | exact VLe.refl _ | refine VLe_int ?_ | refine VLe_bool ?_ | refine VLe_str ?_ | skip))
            | (with_reducible refine And.intro ?_ ?_)
            | with_reducible intro _
          all_goals first
            | omega
            | (rename_i hx; revert hx; simp; done)
            | (simp; done)
            | skip
          refine loop_of (T := fun k : Nat × List Int => spar 100 [(0, patsV ps), (5, .osl (h.length + 1) 3 1 0 l.length), (6, .osl (h.length + 5) 1 1 0 (l.length + 1)), (7, .int .i64 i), (8, strs pat), (9, .int .i64 a), (10, .bool true), (12, .int .i64 k.1)]) (H := fun k => h ++ ob120 l k.2)
            (inv := fun k => k.1 ≤ p.levels.length ∧ k.2.length = l.length + 1 ∧ addAt al a p.levels = addAt k.2 (a + k.1) (p.levels.drop k.1)) (m := fun k => p.levels.length - k.1) (0, al) ⟨by simp, j2, by simp⟩ (Wk.temps ?_) ?_
          · (simp only [strs, patsV, patC, spar, List.foldl, List.replicate, go_sem, VLes_nil, VLes_cons, VLe_undef_iff, VLe_self]; try (repeat' first | (with_reducible refine And.intro ?_ ?_) | (refine VLe_int ?_; omega) | (refine VLe_bool ?_; rfl) | exact VLe.refl _))
          rintro ⟨k, al2⟩ ⟨q1, q2, q3⟩ K3 hK3
          simp only at q1 q2 q3 hK3
          have hilen := intsC_len al2
          by_cases hk : k < p.levels.length
          · have e : p.levels.drop k = p.levels.getD k 0 :: p.levels.drop (k + 1) := by rw [List.drop_eq_getElem_cons hk]; simp [List.getD_eq_getElem?_getD, hk]
            rw [e] at q3
            simp only [addAt] at q3
            have k4 : ((k : Int) ≤ (pat.length : Int)) = True := eq_true (by omega)
            have hx : ((a : Int) + (k : Int)).toNat = a + k := by omega
            have hg := intsC_get (all := al2) (a := a + k) (by omega)
            have hst := intsC_set al2 (max (al2.getD (a + k) 0) (p.levels.getD k 0)) (a := a + k) (by omega)
            simp (disch := omega) only [spar, List.foldl, List.replicate, strs, patsV, patC, epp, ob120, intsV, k4, hx, hg, hilen, go_sem, wrap64_id, Int.tdiv_eq_ediv_of_nonneg, Int.tmod_eq_emod_of_nonneg]
            repeat' first
              | ((first | refine fnQ_pure1 ?_ ?_ | refine fnQ_pure0 ?_ ?_); (next => repeat' first | exact rvs_n | refine rvs_t ?_ | (simp [go_sem]; done)); simp only [go_sem]; (first | exact VLe.refl _ | refine VLe_int ?_ | refine VLe_bool ?_ | refine VLe_str ?_ | skip))
              | (with_reducible refine And.intro ?_ ?_)
              | with_reducible intro _
            all_goals first
              | omega
              | (rename_i hx; revert hx; simp; done)
              | (simp; done)
              | skip
            rw [hst]
            refine hK3 _ _ (k + 1, al2.set (a + k) (max (al2.getD (a + k) 0) (p.levels.getD k 0))) ⟨by simp only; omega, by simp only [List.length_set]; exact q2, by rw [q3]; rfl⟩ (by simp only; omega) (Wk.temps ?_)
            (simp only [strs, patsV, patC, intsV, spar, List.foldl, List.replicate, go_sem, VLes_nil, VLes_cons, VLe_undef_iff, VLe_self]; try (repeat' first | (with_reducible refine And.intro ?_ ?_) | (refine VLe_int ?_; omega) | (refine VLe_bool ?_; rfl) | exact VLe.refl _))
          · have e : k = p.levels.length := by omega
            have k4 : ((k : Int) ≤ (pat.length : Int)) = False := eq_false (by omega)
            have q4 : addAt al a p.levels = al2 := by rw [q3, e, List.drop_length]; rfl
            simp (disch := omega) only [spar, List.foldl, List.replicate, strs, patsV, patC, epp, ob120, intsV, k4, go_sem, wrap64_id, Int.tdiv_eq_ediv_of_nonneg, Int.tmod_eq_emod_of_nonneg]
            repeat' first
              | ((first | refine fnQ_pure1 ?_ ?_ | refine fnQ_pure0 ?_ ?_); (next => repeat' first | exact rvs_n | refine rvs_t ?_ | (simp [go_sem]; done)); simp only [go_sem]; (first | exact VLe.refl _ | refine VLe_int ?_ | refine VLe_bool ?_ | refine VLe_str ?_ | skip))
              | (with_reducible refine And.intro ?_ ?_)
              | with_reducible intro _
            all_goals first
              | omega
              | (rename_i hx; revert hx; simp; done)
              | (simp; done)
              | skip
            refine hK2 _ _ (a + 1, al2) ⟨by simp only; omega, q2, by simp only; rw [foldl_filter_t hb, ← j3, q4]⟩ (by simp only; omega) (Wk.temps ?_)
            (simp only [strs, patsV, patC, spar, List.foldl, List.replicate, go_sem, VLes_nil, VLes_cons, VLe_undef_iff, VLe_self]; try (repeat' first | (with_reducible refine And.intro ?_ ?_) | (refine VLe_int ?_; omega) | (refine VLe_bool ?_; rfl) | exact VLe.refl _))
    · have e : a = M := by omega
      subst e
      have k0 : ((a : Int) + (pat.length : Int) ≤ (l.length : Int)) = False := eq_false (by omega)
      rw [← hap] at j3
      subst j3
      simp (disch := omega) only [spar, List.foldl, List.replicate, strs, patsV, patC, epp, ob120, k0, go_sem, wrap64_id, Int.tdiv_eq_ediv_of_nonneg, Int.tmod_eq_emod_of_nonneg]
      repeat' first
        | ((first | refine fnQ_pure1 ?_ ?_ | refine fnQ_pure0 ?_ ?_); (next => repeat' first | exact rvs_n | refine rvs_t ?_ | (simp [go_sem]; done)); simp only [go_sem]; (first | exact VLe.refl _ | refine VLe_int ?_ | refine VLe_bool ?_ | refine VLe_str ?_ | skip))
        | (with_reducible refine And.intro ?_ ?_)
        | with_reducible intro _
      all_goals first
        | omega
        | (rename_i hx; revert hx; simp; done)
        | (simp; done)
        | skip
      refine hK _ _ (i + 1, addPat l all p) ⟨by simp only; omega, j2, i3⟩ (by simp only; omega) (Wk.temps ?_)
      (simp only [strs, patsV, patC, spar, List.foldl, List.replicate, go_sem, VLes_nil, VLes_cons, VLe_undef_iff, VLe_self]; try (repeat' first | (with_reducible refine And.intro ?_ ?_) | (refine VLe_int ?_; omega) | (refine VLe_bool ?_; rfl) | exact VLe.refl _))
  · have e : i = ps.length := by omega
    subst e
    rw [List.drop_length, List.foldl_nil] at i3
    have hlen := intsC_len all
    have hx1 : ((l.length : Int) - 1).toNat - (2 : Int).toNat = l.length - 1 - 2 := by omega
    simp (disch := omega) only [spar, List.foldl, List.replicate, strs, patsV, patC, ob120, hx1, hlen, go_sem, wrap64_id, Int.tdiv_eq_ediv_of_nonneg, Int.tmod_eq_emod_of_nonneg]
    repeat' first
      | ((first | refine fnQ_pure1 ?_ ?_ | refine fnQ_pure0 ?_ ?_); (next => repeat' first | exact rvs_n | refine rvs_t ?_ | (simp [go_sem]; done)); simp only [go_sem]; (first | exact VLe.refl _ | refine VLe_int ?_ | refine VLe_bool ?_ | refine VLe_str ?_ | skip))
      | (with_reducible refine And.intro ?_ ?_)
      | with_reducible intro _
    all_goals first
      | omega
      | (rename_i hx; revert hx; simp; done)
      | (simp; done)
      | skip
    rw [i3, if_pos (by rw [hlen, i2, show Int.toNat 2 = 2 from rfl]; omega)]
    exact intsV_mid (by rw [i2]; omega)
end HY
end

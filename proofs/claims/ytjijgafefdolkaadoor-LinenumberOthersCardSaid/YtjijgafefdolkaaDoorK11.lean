import Derived.Test.YtjijgafefdolkaaDoorK10
import Derived.Test.YtjijgafefdolkaaDoorK9
import Derived.Test.YtjijgafefdolkaaDoorRows
import Derived.LaidLaws
set_option linter.all false
set_option linter.unusedSimpArgs false
set_option linter.unusedVariables false
set_option linter.unusedSectionVars false
section
open Go Go.Proofs AF HY P48
namespace LN
set_option maxRecDepth 100000
theorem strs0 {f : Nat → List AV} : VLe (.sl 0 f) (strs []) := VLe.sl_eq rfl (fun i hi => absurd hi (by simp))
theorem refT_fuel (m : List (List UInt8 × Int)) (it : Int → List UInt8) {n n' : Nat} {s : List UInt8} (h : s.length < n) (h' : s.length < n') : refT m it n s = refT m it n' s := by
  rw [refT_resN m it s.length n (s.length + 1) s (Nat.le_refl _) h (by omega), refT_resN m it s.length n' (s.length + 1) s (Nat.le_refl _) h' (by omega)]
theorem bytesA_isByte {S : List UInt8} {c : AV} (h : c ∈ bytesA S) : isByte c := by
  unfold bytesA at h
  obtain ⟨b, _, rfl⟩ := List.mem_map.1 h
  exact isByte_u8 b
theorem bytesA_back (S : List UInt8) : List.map AF.byteOf (bytesA S) = S := byteOf_bytesA S
set_option maxHeartbeats 16000000 in
theorem t30 (ts L : List (List UInt8)) (V : List Int) (h : List AObj) (h1 : ts.length ≤ 1000000) (h2 : L.length ≤ 1000000) (h3 : V.length ≤ 1000000)
    (h4 : ∀ i, i < ts.length → (ts.getD i []).length ≤ 1000000) (h5 : ∀ i, i < L.length → (L.getD i []).length ≤ 1000000) :
    ACalls Tryd.prog 30 [strs ts, strs L, intsV V] h (.tup [strs (resO Lib.itoa ts L V).2, .int .i64 (resO Lib.itoa ts L V).1]) h := by
  obtain ⟨R, hRR⟩ : ∃ R, R = resO Lib.itoa ts L V := ⟨_, rfl⟩
  rw [← hRR]
  by_cases g1 : L.length = V.length
  · have k1 : ((L.length : Int) = V.length) = True := eq_true (by omega)
    by_cases g2 : 4096 < L.length
    · have k2 : (4096 < (L.length : Int)) = True := eq_true (by omega)
      have hV : R = (4, []) := by rw [hRR]; unfold resO; rw [if_neg (fun hc => hc g1), if_pos (.inl g2)]
      rw [hV]
      refine acalls_of fn30l (by simp) ?_
      simp only [List.length_cons, List.length_nil, Nat.reduceAdd, Nat.reduceSub, List.replicate, List.cons_append, List.nil_append, List.append_nil]
      simp (disch := omega) only [c30l, k1, k2, strs, intsV, madeA, go_sem, wrap64_id, Int.tdiv_eq_ediv_of_nonneg, Int.tmod_eq_emod_of_nonneg]
      repeat' first
        | ((first | refine fnQ_pure1 ?_ ?_ | refine fnQ_pure0 ?_ ?_); (next => repeat' first | exact rvs_n | refine rvs_t ?_ | (simp [go_sem]; done)); simp only [go_sem]; (first | exact VLe.refl _ | refine VLe_int ?_ | refine VLe_bool ?_ | refine VLe_str ?_ | skip))
        | (with_reducible refine And.intro ?_ ?_)
        | with_reducible intro _
      all_goals first
        | omega
        | (rename_i hx; revert hx; simp; done)
        | (simp; done)
        | skip
      all_goals exact VLe_tup ⟨strs0, VLe.refl _, trivial⟩
    have k2 : (4096 < (L.length : Int)) = False := eq_false (by omega)
    by_cases g3 : 4096 < ts.length
    · have k3 : (4096 < (ts.length : Int)) = True := eq_true (by omega)
      have hV : R = (4, []) := by rw [hRR]; unfold resO; rw [if_neg (fun hc => hc g1), if_pos (.inr g3)]
      rw [hV]
      refine acalls_of fn30l (by simp) ?_
      simp only [List.length_cons, List.length_nil, Nat.reduceAdd, Nat.reduceSub, List.replicate, List.cons_append, List.nil_append, List.append_nil]
      simp (disch := omega) only [c30l, k1, k2, k3, strs, intsV, madeA, go_sem, wrap64_id, Int.tdiv_eq_ediv_of_nonneg, Int.tmod_eq_emod_of_nonneg]
      repeat' first
        | ((first | refine fnQ_pure1 ?_ ?_ | refine fnQ_pure0 ?_ ?_); (next => repeat' first | exact rvs_n | refine rvs_t ?_ | (simp [go_sem]; done)); simp only [go_sem]; (first | exact VLe.refl _ | refine VLe_int ?_ | refine VLe_bool ?_ | refine VLe_str ?_ | skip))
        | (with_reducible refine And.intro ?_ ?_)
        | with_reducible intro _
      all_goals first
        | omega
        | (rename_i hx; revert hx; simp; done)
        | (simp; done)
        | skip
      all_goals exact VLe_tup ⟨strs0, VLe.refl _, trivial⟩
    have k3 : (4096 < (ts.length : Int)) = False := eq_false (by omega)
    have hR : R = if (bindL (L.zip V) []).1 ≠ 0 then ((bindL (L.zip V) []).1, []) else resAll (bindL (L.zip V) []).2 Lib.itoa ts := by
      rw [hRR]; unfold resO; rw [if_neg (fun hc => hc g1), if_neg (by rintro (h | h) <;> omega)]
    refine acalls_of fn30l (by simp) ?_
    simp only [List.length_cons, List.length_nil, Nat.reduceAdd, Nat.reduceSub, List.replicate, List.cons_append, List.nil_append, List.append_nil]
    simp (disch := omega) only [c30l, k1, k2, k3, strs, intsV, madeA, go_sem, wrap64_id, Int.tdiv_eq_ediv_of_nonneg, Int.tmod_eq_emod_of_nonneg]
    repeat' first
      | ((first | refine fnQ_pure1 ?_ ?_ | refine fnQ_pure0 ?_ ?_); (next => repeat' first | exact rvs_n | refine rvs_t ?_ | (simp [go_sem]; done)); simp only [go_sem]; (first | exact VLe.refl _ | refine VLe_int ?_ | refine VLe_bool ?_ | refine VLe_str ?_ | skip))
      | (with_reducible refine And.intro ?_ ?_)
      | with_reducible intro _
    all_goals first
      | omega
      | (rename_i hx; revert hx; simp; done)
      | (simp; done)
      | skip
    refine loop_of (T := fun i : Nat => spar 149 [(0, strs ts), (1, strs L), (2, intsV V), (8, .int .i64 i)])
      (H := fun _ => h ++ [.emp 1, .emp 0, .emp 0, .emp 0, .emp 0, .emp 0, .emp 0, .emp 0, .emp 0, .emp 0, .emp 0, .emp 0, .emp 0, .emp 0, .emp 0, .emp 0])
      (inv := fun i => i ≤ L.length ∧ bindL (L.zip V) [] = bindL ((L.zip V).drop i) ((L.zip V).take i) ∧ ∀ j, j < i → 1 ≤ V.getD j 0 ∧ V.getD j 0 ≤ 4096) (m := fun i => L.length - i) 0 ⟨Nat.zero_le _, rfl, fun j hj => by omega⟩ (Wk.temps ?_) ?_
    · (simp only [strs, intsV, spar, List.foldl, List.replicate, go_sem, VLes_nil, VLes_cons, VLe_undef_iff, VLe_self]; try (repeat' first | (with_reducible refine And.intro ?_ ?_) | (refine VLe_int ?_; omega) | (refine VLe_bool ?_; rfl) | exact VLe.refl _))
    rintro i ⟨i1, i2, i3⟩ K hK
    by_cases hi : i < L.length
    · have q0 : ((i : Int) < L.length) = True := eq_true (by omega)
      have q00 : ((i : Int) < V.length) = True := eq_true (by omega)
      have hz := zip_drop (V := V) hi (by omega)
      rw [hz] at i2
      have c53 := fun h => t53 (L.getD i []) h (by have := h5 i hi; omega)
      have c54 := fun h => t54 L (L.getD i []) h (by omega)
      obtain ⟨p, hp1, hp2⟩ := place_before g1 hi
      rw [hp1] at c54
      have hnx : (L.zip V).take i ++ [(L.getD i [], V.getD i 0)] = (L.zip V).take (i + 1) := by
        have hlz : i < (L.zip V).length := by simp; omega
        rw [List.take_add_one, List.getElem?_eq_getElem hlz]
        rw [List.drop_eq_getElem_cons hlz] at hz
        have := List.head_eq_of_cons_eq hz
        rw [this]
        rfl
      obtain ⟨l, hl⟩ : ∃ l, l = L.getD i [] := ⟨_, rfl⟩
      obtain ⟨v, hv⟩ : ∃ v, v = V.getD i 0 := ⟨_, rfl⟩
      have el := hl.symm
      have ev := hv.symm
      rw [el, ev] at i2 hnx
      rw [el] at c53 c54 hp2
      simp only [bindL] at i2
      cases hn : isName l with
      | false =>
        rw [hn] at c53 i2
        rw [if_pos rfl] at i2
        have hV : R = (14, []) := by rw [hR, i2]; rfl
        rw [hV]
        simp (disch := omega) only [spar, List.foldl, List.replicate, strs, intsV, madeA, el, ev, q0, q00, go_sem, wrap64_id, Int.tdiv_eq_ediv_of_nonneg, Int.tmod_eq_emod_of_nonneg]
        repeat' first
          | ((first | refine callA_pure (c53 _) ?_ ?_); (next => repeat' first | exact flags_n | refine flags_c (by first | rfl | assumption) ?_); simp (disch := omega) only [strs, intsV, madeA, el, ev, q0, q00, go_sem, wrap64_id, Int.tdiv_eq_ediv_of_nonneg, Int.tmod_eq_emod_of_nonneg])
          | ((first | refine callU_of (fun _ => c53 _) ?_ ?_); (next => repeat' first | exact flags_n | refine flags_c (by first | rfl | assumption) ?_); simp (disch := omega) only [strs, intsV, madeA, el, ev, q0, q00, go_sem, wrap64_id, Int.tdiv_eq_ediv_of_nonneg, Int.tmod_eq_emod_of_nonneg])
          | ((first | refine callG_pure (fun e => ⟨?_, c53 _⟩) ?_); (next => repeat' first | exact flags_n | refine flags_c (by first | rfl | assumption) ?_); simp (disch := omega) only [strs, intsV, madeA, el, ev, q0, q00, go_sem, wrap64_id, Int.tdiv_eq_ediv_of_nonneg, Int.tmod_eq_emod_of_nonneg])
          | ((first | refine fnQ_pure1 ?_ ?_ | refine fnQ_pure0 ?_ ?_); (next => repeat' first | exact rvs_n | refine rvs_t ?_ | (simp [go_sem]; done)); simp only [go_sem]; (first | exact VLe.refl _ | refine VLe_int ?_ | refine VLe_bool ?_ | refine VLe_str ?_ | skip))
          | (with_reducible refine And.intro ?_ ?_)
          | with_reducible intro _
        all_goals first
          | omega
          | (rename_i hx; revert hx; simp; done)
          | (simp; done)
          | skip
        all_goals exact VLe_tup ⟨strs0, VLe.refl _, trivial⟩
      | true =>
      rw [hn] at c53 i2
      rw [if_neg (by simp)] at i2
      by_cases hpi : p < i
      · have k4 : ((p : Int) < i) = True := eq_true (by omega)
        rw [if_pos (hp2.1 hpi)] at i2
        have hV : R = (7, []) := by rw [hR, i2]; rfl
        rw [hV]
        simp (disch := omega) only [spar, List.foldl, List.replicate, strs, intsV, madeA, el, ev, q0, q00, k4, go_sem, wrap64_id, Int.tdiv_eq_ediv_of_nonneg, Int.tmod_eq_emod_of_nonneg]
        repeat' first
          | ((first | refine callA_pure (c53 _) ?_ ?_ | refine callA_pure (c54 _) ?_ ?_); (next => repeat' first | exact flags_n | refine flags_c (by first | rfl | assumption) ?_); simp (disch := omega) only [strs, intsV, madeA, el, ev, q0, q00, k4, go_sem, wrap64_id, Int.tdiv_eq_ediv_of_nonneg, Int.tmod_eq_emod_of_nonneg])
          | ((first | refine callU_of (fun _ => c53 _) ?_ ?_ | refine callU_of (fun _ => c54 _) ?_ ?_); (next => repeat' first | exact flags_n | refine flags_c (by first | rfl | assumption) ?_); simp (disch := omega) only [strs, intsV, madeA, el, ev, q0, q00, k4, go_sem, wrap64_id, Int.tdiv_eq_ediv_of_nonneg, Int.tmod_eq_emod_of_nonneg])
          | ((first | refine callG_pure (fun e => ⟨?_, c53 _⟩) ?_ | refine callG_pure (fun e => ⟨?_, c54 _⟩) ?_); (next => repeat' first | exact flags_n | refine flags_c (by first | rfl | assumption) ?_); simp (disch := omega) only [strs, intsV, madeA, el, ev, q0, q00, k4, go_sem, wrap64_id, Int.tdiv_eq_ediv_of_nonneg, Int.tmod_eq_emod_of_nonneg])
          | ((first | refine fnQ_pure1 ?_ ?_ | refine fnQ_pure0 ?_ ?_); (next => repeat' first | exact rvs_n | refine rvs_t ?_ | (simp [go_sem]; done)); simp only [go_sem]; (first | exact VLe.refl _ | refine VLe_int ?_ | refine VLe_bool ?_ | refine VLe_str ?_ | skip))
          | (with_reducible refine And.intro ?_ ?_)
          | with_reducible intro _
        all_goals first
          | omega
          | (rename_i hx; revert hx; simp; done)
          | (simp; done)
          | skip
        all_goals exact VLe_tup ⟨strs0, VLe.refl _, trivial⟩
      have k4 : ((p : Int) < i) = False := eq_false (by omega)
      rw [if_neg (fun hc => hpi (hp2.2 hc))] at i2
      by_cases r1 : v < 1
      · have q1 : (v < 1) = True := eq_true r1
        rw [if_pos (.inl r1)] at i2
        have hV : R = (2, []) := by rw [hR, i2]; rfl
        rw [hV]
        simp (disch := omega) only [spar, List.foldl, List.replicate, strs, intsV, madeA, el, ev, q0, q00, k4, q1, go_sem, wrap64_id, Int.tdiv_eq_ediv_of_nonneg, Int.tmod_eq_emod_of_nonneg]
        repeat' first
          | ((first | refine callA_pure (c53 _) ?_ ?_ | refine callA_pure (c54 _) ?_ ?_); (next => repeat' first | exact flags_n | refine flags_c (by first | rfl | assumption) ?_); simp (disch := omega) only [strs, intsV, madeA, el, ev, q0, q00, k4, q1, go_sem, wrap64_id, Int.tdiv_eq_ediv_of_nonneg, Int.tmod_eq_emod_of_nonneg])
          | ((first | refine callU_of (fun _ => c53 _) ?_ ?_ | refine callU_of (fun _ => c54 _) ?_ ?_); (next => repeat' first | exact flags_n | refine flags_c (by first | rfl | assumption) ?_); simp (disch := omega) only [strs, intsV, madeA, el, ev, q0, q00, k4, q1, go_sem, wrap64_id, Int.tdiv_eq_ediv_of_nonneg, Int.tmod_eq_emod_of_nonneg])
          | ((first | refine callG_pure (fun e => ⟨?_, c53 _⟩) ?_ | refine callG_pure (fun e => ⟨?_, c54 _⟩) ?_); (next => repeat' first | exact flags_n | refine flags_c (by first | rfl | assumption) ?_); simp (disch := omega) only [strs, intsV, madeA, el, ev, q0, q00, k4, q1, go_sem, wrap64_id, Int.tdiv_eq_ediv_of_nonneg, Int.tmod_eq_emod_of_nonneg])
          | ((first | refine fnQ_pure1 ?_ ?_ | refine fnQ_pure0 ?_ ?_); (next => repeat' first | exact rvs_n | refine rvs_t ?_ | (simp [go_sem]; done)); simp only [go_sem]; (first | exact VLe.refl _ | refine VLe_int ?_ | refine VLe_bool ?_ | refine VLe_str ?_ | skip))
          | (with_reducible refine And.intro ?_ ?_)
          | with_reducible intro _
        all_goals first
          | omega
          | (rename_i hx; revert hx; simp; done)
          | (simp; done)
          | skip
        all_goals exact VLe_tup ⟨strs0, VLe.refl _, trivial⟩
      have q1 : (v < 1) = False := eq_false r1
      by_cases r2 : 4096 < v
      · have q2 : (4096 < v) = True := eq_true r2
        rw [if_pos (.inr r2)] at i2
        have hV : R = (2, []) := by rw [hR, i2]; rfl
        rw [hV]
        simp (disch := omega) only [spar, List.foldl, List.replicate, strs, intsV, madeA, el, ev, q0, q00, k4, q1, q2, go_sem, wrap64_id, Int.tdiv_eq_ediv_of_nonneg, Int.tmod_eq_emod_of_nonneg]
        repeat' first
          | ((first | refine callA_pure (c53 _) ?_ ?_ | refine callA_pure (c54 _) ?_ ?_); (next => repeat' first | exact flags_n | refine flags_c (by first | rfl | assumption) ?_); simp (disch := omega) only [strs, intsV, madeA, el, ev, q0, q00, k4, q1, q2, go_sem, wrap64_id, Int.tdiv_eq_ediv_of_nonneg, Int.tmod_eq_emod_of_nonneg])
          | ((first | refine callU_of (fun _ => c53 _) ?_ ?_ | refine callU_of (fun _ => c54 _) ?_ ?_); (next => repeat' first | exact flags_n | refine flags_c (by first | rfl | assumption) ?_); simp (disch := omega) only [strs, intsV, madeA, el, ev, q0, q00, k4, q1, q2, go_sem, wrap64_id, Int.tdiv_eq_ediv_of_nonneg, Int.tmod_eq_emod_of_nonneg])
          | ((first | refine callG_pure (fun e => ⟨?_, c53 _⟩) ?_ | refine callG_pure (fun e => ⟨?_, c54 _⟩) ?_); (next => repeat' first | exact flags_n | refine flags_c (by first | rfl | assumption) ?_); simp (disch := omega) only [strs, intsV, madeA, el, ev, q0, q00, k4, q1, q2, go_sem, wrap64_id, Int.tdiv_eq_ediv_of_nonneg, Int.tmod_eq_emod_of_nonneg])
          | ((first | refine fnQ_pure1 ?_ ?_ | refine fnQ_pure0 ?_ ?_); (next => repeat' first | exact rvs_n | refine rvs_t ?_ | (simp [go_sem]; done)); simp only [go_sem]; (first | exact VLe.refl _ | refine VLe_int ?_ | refine VLe_bool ?_ | refine VLe_str ?_ | skip))
          | (with_reducible refine And.intro ?_ ?_)
          | with_reducible intro _
        all_goals first
          | omega
          | (rename_i hx; revert hx; simp; done)
          | (simp; done)
          | skip
        all_goals exact VLe_tup ⟨strs0, VLe.refl _, trivial⟩
      have q2 : (4096 < v) = False := eq_false r2
      rw [if_neg (by rintro (h | h) <;> contradiction), hnx] at i2
      simp (disch := omega) only [spar, List.foldl, List.replicate, strs, intsV, madeA, el, ev, q0, q00, k4, q1, q2, go_sem, wrap64_id, Int.tdiv_eq_ediv_of_nonneg, Int.tmod_eq_emod_of_nonneg]
      repeat' first
        | ((first | refine callA_pure (c53 _) ?_ ?_ | refine callA_pure (c54 _) ?_ ?_); (next => repeat' first | exact flags_n | refine flags_c (by first | rfl | assumption) ?_); simp (disch := omega) only [strs, intsV, madeA, el, ev, q0, q00, k4, q1, q2, go_sem, wrap64_id, Int.tdiv_eq_ediv_of_nonneg, Int.tmod_eq_emod_of_nonneg])
        | ((first | refine callU_of (fun _ => c53 _) ?_ ?_ | refine callU_of (fun _ => c54 _) ?_ ?_); (next => repeat' first | exact flags_n | refine flags_c (by first | rfl | assumption) ?_); simp (disch := omega) only [strs, intsV, madeA, el, ev, q0, q00, k4, q1, q2, go_sem, wrap64_id, Int.tdiv_eq_ediv_of_nonneg, Int.tmod_eq_emod_of_nonneg])
        | ((first | refine callG_pure (fun e => ⟨?_, c53 _⟩) ?_ | refine callG_pure (fun e => ⟨?_, c54 _⟩) ?_); (next => repeat' first | exact flags_n | refine flags_c (by first | rfl | assumption) ?_); simp (disch := omega) only [strs, intsV, madeA, el, ev, q0, q00, k4, q1, q2, go_sem, wrap64_id, Int.tdiv_eq_ediv_of_nonneg, Int.tmod_eq_emod_of_nonneg])
        | ((first | refine fnQ_pure1 ?_ ?_ | refine fnQ_pure0 ?_ ?_); (next => repeat' first | exact rvs_n | refine rvs_t ?_ | (simp [go_sem]; done)); simp only [go_sem]; (first | exact VLe.refl _ | refine VLe_int ?_ | refine VLe_bool ?_ | refine VLe_str ?_ | skip))
        | (with_reducible refine And.intro ?_ ?_)
        | with_reducible intro _
      all_goals first
        | omega
        | (rename_i hx; revert hx; simp; done)
        | (simp; done)
        | skip
      refine hK _ _ (i + 1) ⟨hi, i2, fun j hj => ?_⟩ (by omega) (Wk.temps ?_)
      · rcases Nat.lt_succ_iff_lt_or_eq.1 hj with hj | hj
        · exact i3 j hj
        · subst hj; rw [ev]; exact ⟨by omega, by omega⟩
      · (simp only [strs, intsV, spar, List.foldl, List.replicate, go_sem, VLes_nil, VLes_cons, VLe_undef_iff, VLe_self]; try (repeat' first | (with_reducible refine And.intro ?_ ?_) | (refine VLe_int ?_; omega) | (refine VLe_bool ?_; rfl) | exact VLe.refl _))
    have e : i = L.length := by omega
    subst e
    rw [List.drop_eq_nil_of_le (by simp; omega), List.take_of_length_le (by simp; omega)] at i2
    simp only [bindL] at i2
    have hR : R = resAll (L.zip V) Lib.itoa ts := by rw [hR, i2, if_neg (by simp)]
    obtain ⟨m, hm⟩ : ∃ m, m = L.zip V := ⟨_, rfl⟩
    rw [← hm] at hR
    have q0 : ((L.length : Int) < L.length) = False := eq_false (by omega)
    obtain ⟨fx, hfx⟩ : ∃ fx : List UInt8 → List UInt8, fx = fun t => (resV m Lib.itoa t).1 := ⟨_, rfl⟩
    simp (disch := omega) only [spar, List.foldl, List.replicate, strs, intsV, madeA, q0, go_sem, wrap64_id, Int.tdiv_eq_ediv_of_nonneg, Int.tmod_eq_emod_of_nonneg]
    repeat' first
      | ((first | refine fnQ_pure1 ?_ ?_ | refine fnQ_pure0 ?_ ?_); (next => repeat' first | exact rvs_n | refine rvs_t ?_ | (simp [go_sem]; done)); simp only [go_sem]; (first | exact VLe.refl _ | refine VLe_int ?_ | refine VLe_bool ?_ | refine VLe_str ?_ | skip))
      | (with_reducible refine And.intro ?_ ?_)
      | with_reducible intro _
    all_goals first
      | omega
      | (rename_i hx; revert hx; simp; done)
      | (simp; done)
      | skip
    refine loop_of (T := fun i : Nat × Nat × AObj × AObj × AObj × AObj => spar 149 [(0, strs ts), (1, strs L), (2, intsV V), (9, .osl (h.length + 6) i.2.1 1 0 i.1), (10, .int .i64 i.1)])
      (H := fun i => h ++ [.emp 1, .emp 0, .emp 0, .emp 0, .emp 0, .emp 0, .mem i.2.1 9 (strC ((ts.take i.1).map fx)), .emp 0, i.2.2.1, i.2.2.2.1, .emp 0, .emp 0, i.2.2.2.2.1, .emp 0, i.2.2.2.2.2, .emp 0])
      (inv := fun i => i.1 ≤ ts.length ∧ (∀ j, j < i.1 → (resV m Lib.itoa (ts.getD j [])).2 = 0) ∧ site [i.2.2.1] 0 = true ∧ site [i.2.2.2.1] 0 = true ∧ site [i.2.2.2.2.1] 0 = true ∧ site [i.2.2.2.2.2] 0 = true) (m := fun i => ts.length - i.1)
      (0, 1, .emp 0, .emp 0, .emp 0, .emp 0) ⟨Nat.zero_le _, fun j hj => by simp only at hj; omega, rfl, rfl, rfl, rfl⟩ (Wk.temps ?_) ?_
    · (simp only [strs, intsV, spar, List.foldl, List.replicate, go_sem, VLes_nil, VLes_cons, VLe_undef_iff, VLe_self]; try (repeat' first | (with_reducible refine And.intro ?_ ?_) | (refine VLe_int ?_; omega) | (refine VLe_bool ?_; rfl) | exact VLe.refl _))
    rintro ⟨i, v, O8, O9, O12, O14⟩ ⟨j1, j2, j3, j4, j5, j6⟩ K hK
    simp only at j1 j2 j3 j4 j5 j6 hK
    have j3' : ∀ m, site (O8 :: m) 0 = true := fun _ => j3
    have j4' : ∀ m, site (O9 :: m) 0 = true := fun _ => j4
    have j5' : ∀ m, site (O12 :: m) 0 = true := fun _ => j5
    have j6' : ∀ m, site (O14 :: m) 0 = true := fun _ => j6
    have hcl : (strC ((ts.take i).map fx)).length = i := by simp [strC]; omega
    by_cases hi : i < ts.length
    · have q1 : ((i : Int) < ts.length) = True := eq_true (by omega)
      have hsl := h4 i hi
      obtain ⟨s, hs⟩ : ∃ s, s = ts.getD i [] := ⟨_, rfl⟩
      have es := hs.symm
      rw [es] at hsl
      have herr : (resV m Lib.itoa s).2 ≠ 0 → R = ((resV m Lib.itoa s).2, []) := fun hne => by
        rw [hR, hs]
        exact resAll_err hi j2 (by rw [es]; exact hne)
      by_cases g5 : 65536 < s.length
      · have k5 : (65536 < (s.length : Int)) = True := eq_true (by omega)
        have hv4 : resV m Lib.itoa s = ([], 4) := by unfold resV; rw [if_pos g5]
        have hV : R = (4, []) := by rw [herr (by rw [hv4]; decide), hv4]
        rw [hV]
        simp (disch := omega) only [spar, List.foldl, List.replicate, strs, intsV, madeA, es, q1, k5, go_sem, wrap64_id, Int.tdiv_eq_ediv_of_nonneg, Int.tmod_eq_emod_of_nonneg]
        repeat' first
          | ((first | refine fnQ_pure1 ?_ ?_ | refine fnQ_pure0 ?_ ?_); (next => repeat' first | exact rvs_n | refine rvs_t ?_ | (simp [go_sem]; done)); simp only [go_sem]; (first | exact VLe.refl _ | refine VLe_int ?_ | refine VLe_bool ?_ | refine VLe_str ?_ | skip))
          | (with_reducible refine And.intro ?_ ?_)
          | with_reducible intro _
        all_goals first
          | omega
          | (rename_i hx; revert hx; simp; done)
          | (simp; done)
          | skip
        all_goals exact VLe_tup ⟨strs0, VLe.refl _, trivial⟩
      have k5 : (65536 < (s.length : Int)) = False := eq_false (by omega)
      have hrv : resV m Lib.itoa s = match refT m Lib.itoa (s.length + 1) s with
          | none => ([], 26)
          | some t => if 65536 < t.length then ([], 4) else (t, 0) := by
        unfold resV
        rw [if_neg g5, refT_resN m Lib.itoa s.length (s.length + 1) (s.length + 1) s (Nat.le_refl _) (by omega) (by omega)]
        rfl
      simp (disch := omega) only [spar, List.foldl, List.replicate, strs, intsV, madeA, es, q1, k5, j3', go_sem, wrap64_id, Int.tdiv_eq_ediv_of_nonneg, Int.tmod_eq_emod_of_nonneg]
      repeat' first
        | ((first | refine fnQ_pure1 ?_ ?_ | refine fnQ_pure0 ?_ ?_); (next => repeat' first | exact rvs_n | refine rvs_t ?_ | (simp [go_sem]; done)); simp only [go_sem]; (first | exact VLe.refl _ | refine VLe_int ?_ | refine VLe_bool ?_ | refine VLe_str ?_ | skip))
        | (with_reducible refine And.intro ?_ ?_)
        | with_reducible intro _
      all_goals first
        | omega
        | (rename_i hx; revert hx; simp; done)
        | (simp; done)
        | skip
      refine loop_of (T := fun k : Nat × List UInt8 × Nat × AObj => spar 149 [(0, strs ts), (1, strs L), (2, intsV V), (9, .osl (h.length + 6) v 1 0 i), (10, .int .i64 i), (11, .str s), (12, .osl (h.length + 8) k.2.2.1 1 0 k.2.1.length), (13, .int .i64 k.1)])
        (H := fun k => h ++ [.emp 1, .emp 0, .emp 0, .emp 0, .emp 0, .emp 0, .mem v 9 (strC ((ts.take i).map fx)), .emp 0, .mem k.2.2.1 5 (bytesA k.2.1), k.2.2.2, .emp 0, .emp 0, O12, .emp 0, O14, .emp 0])
        (inv := fun k => k.1 ≤ s.length ∧ refT m Lib.itoa (s.length + 1) s = (refT m Lib.itoa (s.length - k.1 + 1) (s.drop k.1)).map (k.2.1 ++ ·) ∧ k.2.1.length ≤ 21 * k.1 ∧ site [k.2.2.2] 0 = true) (m := fun k => s.length - k.1) (0, [], verOf (some O8) + 1, O9)
        ⟨Nat.zero_le _, by simp, by simp, j4⟩ (Wk.temps ?_) ?_
      · (simp only [strs, intsV, spar, List.foldl, List.replicate, go_sem, VLes_nil, VLes_cons, VLe_undef_iff, VLe_self]; try (repeat' first | (with_reducible refine And.intro ?_ ?_) | (refine VLe_int ?_; omega) | (refine VLe_bool ?_; rfl) | exact VLe.refl _))
      rintro ⟨k, S, w, P9⟩ ⟨a1, a2, a3, a4⟩ K2 hK2
      simp only at a1 a2 a3 a4 hK2
      have a4' : ∀ m, site (P9 :: m) 0 = true := fun _ => a4
      have eB := bytesA_len S
      have eTB : List.take S.length (bytesA S) = bytesA S := List.take_of_length_le (by omega)
      by_cases hk : k < s.length
      · have z0 : ((k : Int) < s.length) = True := eq_true (by omega)
        obtain ⟨c, hc⟩ : ∃ c, c = s.getD k 0 := ⟨_, rfl⟩
        have e1 : (s[k]?).getD 0 = c := by rw [hc, List.getD_eq_getElem?_getD]
        have edr : s.drop k = c :: s.drop (k + 1) := by rw [List.drop_eq_getElem_cons hk, hc]; simp [List.getD_eq_getElem?_getD, hk]
        have hbc := c.toNat_lt
        rw [edr, show s.length - k + 1 = (s.length - (k + 1) + 1) + 1 by omega, refT] at a2
        by_cases h64 : c = 64
        · have z1 : ((c.toNat : Int) = 64) = True := eq_true (by rw [h64]; rfl)
          rw [if_neg (fun hx => hx h64)] at a2
          obtain ⟨r1, hr1⟩ : ∃ r1, r1 = s.drop (k + 1) := ⟨_, rfl⟩
          have hr1l : r1.length = s.length - (k + 1) := by rw [hr1]; simp
          obtain ⟨nm, hnm⟩ : ∃ nm, nm = r1.takeWhile ld := ⟨_, rfl⟩
          have hnl : nm.length ≤ r1.length := by rw [hnm]; exact tw_len
          rw [← hr1, ← hnm] at a2
          have c54 := fun h => t54 L nm h (by omega)
          have hpn := place_num g1 (V := V) nm
          rw [← hm] at hpn
          have rtk : ((k : Int) + 1).toNat = k + 1 := by omega
          have eN : ∀ mm : Nat, mm = k + 1 + nm.length → List.take (mm - (k + 1)) (List.drop (k + 1) s) = nm := fun mm hmm => by
            rw [← hr1, show mm - (k + 1) = nm.length by omega, hnm, tw_take]
          simp (disch := omega) only [spar, List.foldl, List.replicate, strs, intsV, e1, z0, z1, go_sem, wrap64_id, Int.tdiv_eq_ediv_of_nonneg, Int.tmod_eq_emod_of_nonneg]
          repeat' first
            | ((first | refine fnQ_pure1 ?_ ?_ | refine fnQ_pure0 ?_ ?_); (next => repeat' first | exact rvs_n | refine rvs_t ?_ | (simp [go_sem]; done)); simp only [go_sem]; (first | exact VLe.refl _ | refine VLe_int ?_ | refine VLe_bool ?_ | refine VLe_str ?_ | skip))
            | (with_reducible refine And.intro ?_ ?_)
            | with_reducible intro _
          all_goals first
            | omega
            | (rename_i hx; revert hx; simp; done)
            | (simp; done)
            | skip
          refine loop_of (T := fun mm : Nat => spar 149 [(0, strs ts), (1, strs L), (2, intsV V), (9, .osl (h.length + 6) v 1 0 i), (10, .int .i64 i), (11, .str s), (12, .osl (h.length + 8) w 1 0 S.length), (13, .int .i64 k), (14, .int .i64 mm)])
            (H := fun _ => h ++ [.emp 1, .emp 0, .emp 0, .emp 0, .emp 0, .emp 0, .mem v 9 (strC ((ts.take i).map fx)), .emp 0, .mem w 5 (bytesA S), P9, .emp 0, .emp 0, O12, .emp 0, O14, .emp 0])
            (inv := fun mm => k + 1 ≤ mm ∧ mm ≤ k + 1 + nm.length) (m := fun mm => s.length - mm) (k + 1) ⟨Nat.le_refl _, by omega⟩ (Wk.temps ?_) ?_
          · (simp only [strs, intsV, spar, List.foldl, List.replicate, go_sem, VLes_nil, VLes_cons, VLe_undef_iff, VLe_self]; try (repeat' first | (with_reducible refine And.intro ?_ ?_) | (refine VLe_int ?_; omega) | (refine VLe_bool ?_; rfl) | exact VLe.refl _))
          rintro mm ⟨b1, b2⟩ K3 hK3
          by_cases hmm : mm < s.length
          · have y0 : ((mm : Int) < s.length) = True := eq_true (by omega)
            obtain ⟨d, hd⟩ : ∃ d, d = s.getD mm 0 := ⟨_, rfl⟩
            have e2 : (s[mm]?).getD 0 = d := by rw [hd, List.getD_eq_getElem?_getD]
            have hbd := d.toNat_lt
            have hst := tw_step (s := r1) (p := ld) (i := mm - (k + 1)) (by omega) (by rw [← hnm]; omega)
            have hgd : r1.getD (mm - (k + 1)) 0 = d := by
              rw [hr1, hd, List.getD_eq_getElem?_getD, List.getD_eq_getElem?_getD, List.getElem?_drop, show k + 1 + (mm - (k + 1)) = mm by omega]
            rw [hgd, ← hnm] at hst
            have c55 := fun h => t117b d h
            obtain ⟨kd, hkd⟩ : ∃ kd, kd = kind d := ⟨_, rfl⟩
            rw [← hkd] at c55
            by_cases g6 : kd = 1
            · have x1 : (kd = 1) = True := eq_true g6
              have hld : ld d = true := by unfold ld; rw [← hkd, g6]; rfl
              have := hst.1 hld
              simp (disch := omega) only [spar, List.foldl, List.replicate, strs, intsV, e2, y0, x1, go_sem, wrap64_id, Int.tdiv_eq_ediv_of_nonneg, Int.tmod_eq_emod_of_nonneg]
              repeat' first
                | (refine callG_false ((.int .i64 0)) ?_; simp (disch := omega) only [strs, intsV, e2, y0, x1, go_sem, wrap64_id, Int.tdiv_eq_ediv_of_nonneg, Int.tmod_eq_emod_of_nonneg])
                | ((first | refine callA_pure (c55 _) ?_ ?_); (next => repeat' first | exact flags_n | refine flags_c (by first | rfl | assumption) ?_); simp (disch := omega) only [strs, intsV, e2, y0, x1, go_sem, wrap64_id, Int.tdiv_eq_ediv_of_nonneg, Int.tmod_eq_emod_of_nonneg])
                | ((first | refine callU_of (fun _ => c55 _) ?_ ?_); (next => repeat' first | exact flags_n | refine flags_c (by first | rfl | assumption) ?_); simp (disch := omega) only [strs, intsV, e2, y0, x1, go_sem, wrap64_id, Int.tdiv_eq_ediv_of_nonneg, Int.tmod_eq_emod_of_nonneg])
                | ((first | refine callG_pure (fun e => ⟨?_, c55 _⟩) ?_); (next => repeat' first | exact flags_n | refine flags_c (by first | rfl | assumption) ?_); simp (disch := omega) only [strs, intsV, e2, y0, x1, go_sem, wrap64_id, Int.tdiv_eq_ediv_of_nonneg, Int.tmod_eq_emod_of_nonneg])
                | ((first | refine fnQ_pure1 ?_ ?_ | refine fnQ_pure0 ?_ ?_); (next => repeat' first | exact rvs_n | refine rvs_t ?_ | (simp [go_sem]; done)); simp only [go_sem]; (first | exact VLe.refl _ | refine VLe_int ?_ | refine VLe_bool ?_ | refine VLe_str ?_ | skip))
                | (with_reducible refine And.intro ?_ ?_)
                | with_reducible intro _
              all_goals first
                | omega
                | (rename_i hx; revert hx; simp; done)
                | (simp; done)
                | skip
              refine hK3 _ _ (mm + 1) ⟨by omega, by omega⟩ (by omega) (Wk.temps ?_)
              (simp only [strs, intsV, spar, List.foldl, List.replicate, go_sem, VLes_nil, VLes_cons, VLe_undef_iff, VLe_self]; try (repeat' first | (with_reducible refine And.intro ?_ ?_) | (refine VLe_int ?_; omega) | (refine VLe_bool ?_; rfl) | exact VLe.refl _))
            · have x1 : (kd = 1) = False := eq_false g6
              by_cases g7 : kd = 3
              · have x2 : (kd = 3) = True := eq_true g7
                have hld : ld d = true := by unfold ld; rw [← hkd, g7]; rfl
                have := hst.1 hld
                simp (disch := omega) only [spar, List.foldl, List.replicate, strs, intsV, e2, y0, x1, x2, go_sem, wrap64_id, Int.tdiv_eq_ediv_of_nonneg, Int.tmod_eq_emod_of_nonneg]
                repeat' first
                  | ((first | refine callA_pure (c55 _) ?_ ?_); (next => repeat' first | exact flags_n | refine flags_c (by first | rfl | assumption) ?_); simp (disch := omega) only [strs, intsV, e2, y0, x1, x2, go_sem, wrap64_id, Int.tdiv_eq_ediv_of_nonneg, Int.tmod_eq_emod_of_nonneg])
                  | ((first | refine callU_of (fun _ => c55 _) ?_ ?_); (next => repeat' first | exact flags_n | refine flags_c (by first | rfl | assumption) ?_); simp (disch := omega) only [strs, intsV, e2, y0, x1, x2, go_sem, wrap64_id, Int.tdiv_eq_ediv_of_nonneg, Int.tmod_eq_emod_of_nonneg])
                  | ((first | refine callG_pure (fun e => ⟨?_, c55 _⟩) ?_); (next => repeat' first | exact flags_n | refine flags_c (by first | rfl | assumption) ?_); simp (disch := omega) only [strs, intsV, e2, y0, x1, x2, go_sem, wrap64_id, Int.tdiv_eq_ediv_of_nonneg, Int.tmod_eq_emod_of_nonneg])
                  | ((first | refine fnQ_pure1 ?_ ?_ | refine fnQ_pure0 ?_ ?_); (next => repeat' first | exact rvs_n | refine rvs_t ?_ | (simp [go_sem]; done)); simp only [go_sem]; (first | exact VLe.refl _ | refine VLe_int ?_ | refine VLe_bool ?_ | refine VLe_str ?_ | skip))
                  | (with_reducible refine And.intro ?_ ?_)
                  | with_reducible intro _
                all_goals first
                  | omega
                  | (rename_i hx; revert hx; simp; done)
                  | (simp; done)
                  | skip
                refine hK3 _ _ (mm + 1) ⟨by omega, by omega⟩ (by omega) (Wk.temps ?_)
                (simp only [strs, intsV, spar, List.foldl, List.replicate, go_sem, VLes_nil, VLes_cons, VLe_undef_iff, VLe_self]; try (repeat' first | (with_reducible refine And.intro ?_ ?_) | (refine VLe_int ?_; omega) | (refine VLe_bool ?_; rfl) | exact VLe.refl _))
              · have x2 : (kd = 3) = False := eq_false g7
                have hld : ld d = false := by unfold ld; rw [← hkd, decide_eq_false g6, decide_eq_false g7]; rfl
                have hmx : mm = k + 1 + nm.length := by
                  have : ¬ (mm - (k + 1) + 1 ≤ nm.length) := fun hc => by rw [hst.2 hc] at hld; cases hld
                  omega
                rcases hpn with ⟨p1, p2⟩ | ⟨j, p1, p2, p3⟩
                · rw [p2] at a2
                  rw [p1] at c54
                  have a2 : refT m Lib.itoa (s.length + 1) s = none := by rw [a2]; rfl
                  rw [a2] at hrv
                  simp only at hrv
                  have hV : R = (26, []) := by rw [herr (by rw [hrv]; decide), hrv]
                  rw [hV]
                  have eN := eN mm hmx
                  have y1 : ((k : Int) + 1 ≤ mm) = True := eq_true (by omega)
                  have y2 : ((mm : Int) ≤ s.length) = True := eq_true (by omega)
                  have y3 : (0 ≤ (k : Int) + 1) = True := eq_true (by omega)
                  simp (disch := omega) only [spar, List.foldl, List.replicate, strs, intsV, madeA, e2, y0, x1, x2, y1, y2, y3, rtk, eN, go_sem, wrap64_id, Int.tdiv_eq_ediv_of_nonneg, Int.tmod_eq_emod_of_nonneg]
                  repeat' first
                    | ((first | refine callA_pure (c55 _) ?_ ?_ | refine callA_pure (c54 _) ?_ ?_); (next => repeat' first | exact flags_n | refine flags_c (by first | rfl | assumption) ?_); simp (disch := omega) only [strs, intsV, madeA, e2, y0, x1, x2, y1, y2, y3, rtk, eN, go_sem, wrap64_id, Int.tdiv_eq_ediv_of_nonneg, Int.tmod_eq_emod_of_nonneg])
                    | ((first | refine callU_of (fun _ => c55 _) ?_ ?_ | refine callU_of (fun _ => c54 _) ?_ ?_); (next => repeat' first | exact flags_n | refine flags_c (by first | rfl | assumption) ?_); simp (disch := omega) only [strs, intsV, madeA, e2, y0, x1, x2, y1, y2, y3, rtk, eN, go_sem, wrap64_id, Int.tdiv_eq_ediv_of_nonneg, Int.tmod_eq_emod_of_nonneg])
                    | ((first | refine callG_pure (fun e => ⟨?_, c55 _⟩) ?_ | refine callG_pure (fun e => ⟨?_, c54 _⟩) ?_); (next => repeat' first | exact flags_n | refine flags_c (by first | rfl | assumption) ?_); simp (disch := omega) only [strs, intsV, madeA, e2, y0, x1, x2, y1, y2, y3, rtk, eN, go_sem, wrap64_id, Int.tdiv_eq_ediv_of_nonneg, Int.tmod_eq_emod_of_nonneg])
                    | ((first | refine fnQ_pure1 ?_ ?_ | refine fnQ_pure0 ?_ ?_); (next => repeat' first | exact rvs_n | refine rvs_t ?_ | (simp [go_sem]; done)); simp only [go_sem]; (first | exact VLe.refl _ | refine VLe_int ?_ | refine VLe_bool ?_ | refine VLe_str ?_ | skip))
                    | (with_reducible refine And.intro ?_ ?_)
                    | with_reducible intro _
                  all_goals first
                    | omega
                    | (rename_i hx; revert hx; simp; done)
                    | (simp; done)
                    | skip
                  all_goals exact VLe_tup ⟨strs0, VLe.refl _, trivial⟩
                · rw [p3] at a2
                  rw [p1] at c54
                  simp only at a2
                  obtain ⟨u, hu⟩ : ∃ u, u = V.getD j 0 := ⟨_, rfl⟩
                  have eu := hu.symm
                  rw [eu] at a2
                  have hub := i3 j (by omega)
                  rw [eu] at hub
                  have c51 := fun h => t51i u h (by omega) (by omega)
                  have hul := (itoa_ok u hub.1 hub.2).1
                  obtain ⟨I, hI⟩ : ∃ I, I = Lib.itoa u := ⟨_, rfl⟩
                  rw [← hI] at c51 hul a2
                  have eN := eN mm hmx
                  have y1 : ((k : Int) + 1 ≤ mm) = True := eq_true (by omega)
                  have y2 : ((mm : Int) ≤ s.length) = True := eq_true (by omega)
                  have y3 : (0 ≤ (k : Int) + 1) = True := eq_true (by omega)
                  have y4 : ((j : Int) < 0) = False := eq_false (by omega)
                  have y5 : ((j : Int) < V.length) = True := eq_true (by omega)
                  simp (disch := omega) only [spar, List.foldl, List.replicate, strs, intsV, e2, y0, x1, x2, y1, y2, y3, y4, y5, rtk, eN, eu, j5', eB, eTB, go_sem, wrap64_id, Int.tdiv_eq_ediv_of_nonneg, Int.tmod_eq_emod_of_nonneg]
                  repeat' first
                    | ((first | refine callA_pure (c55 _) ?_ ?_ | refine callA_pure (c54 _) ?_ ?_ | refine callA_pure (c51 _) ?_ ?_); (next => repeat' first | exact flags_n | refine flags_c (by first | rfl | assumption) ?_); simp (disch := omega) only [strs, intsV, e2, y0, x1, x2, y1, y2, y3, y4, y5, rtk, eN, eu, j5', eB, eTB, go_sem, wrap64_id, Int.tdiv_eq_ediv_of_nonneg, Int.tmod_eq_emod_of_nonneg])
                    | ((first | refine callU_of (fun _ => c55 _) ?_ ?_ | refine callU_of (fun _ => c54 _) ?_ ?_ | refine callU_of (fun _ => c51 _) ?_ ?_); (next => repeat' first | exact flags_n | refine flags_c (by first | rfl | assumption) ?_); simp (disch := omega) only [strs, intsV, e2, y0, x1, x2, y1, y2, y3, y4, y5, rtk, eN, eu, j5', eB, eTB, go_sem, wrap64_id, Int.tdiv_eq_ediv_of_nonneg, Int.tmod_eq_emod_of_nonneg])
                    | ((first | refine callG_pure (fun e => ⟨?_, c55 _⟩) ?_ | refine callG_pure (fun e => ⟨?_, c54 _⟩) ?_ | refine callG_pure (fun e => ⟨?_, c51 _⟩) ?_); (next => repeat' first | exact flags_n | refine flags_c (by first | rfl | assumption) ?_); simp (disch := omega) only [strs, intsV, e2, y0, x1, x2, y1, y2, y3, y4, y5, rtk, eN, eu, j5', eB, eTB, go_sem, wrap64_id, Int.tdiv_eq_ediv_of_nonneg, Int.tmod_eq_emod_of_nonneg])
                    | ((first | refine fnQ_pure1 ?_ ?_ | refine fnQ_pure0 ?_ ?_); (next => repeat' first | exact rvs_n | refine rvs_t ?_ | (simp [go_sem]; done)); simp only [go_sem]; (first | exact VLe.refl _ | refine VLe_int ?_ | refine VLe_bool ?_ | refine VLe_str ?_ | skip))
                    | (with_reducible refine And.intro ?_ ?_)
                    | with_reducible intro _
                  all_goals first
                    | omega
                    | (rename_i hx; revert hx; simp; done)
                    | (simp; done)
                    | skip
                  refine hK2 _ _ (mm, S ++ I, w + 1, P9) ⟨by simp only; omega, ?_, by simp only [List.length_append]; omega, a4⟩ (by simp only; omega) ?_
                  · simp only
                    rw [a2, refT_fuel m Lib.itoa (n := s.length - (k + 1) + 1) (n' := s.length - mm + 1) (by simp; omega) (by simp; omega), hr1, List.drop_drop, show k + 1 + nm.length = mm by omega, Option.map_map]
                    congr 1
                    funext x
                    simp
                  · simp only
                    rw [bytesA_app, List.length_append]
                    refine Wk.temps ?_
                    (simp only [strs, intsV, spar, List.foldl, List.replicate, go_sem, VLes_nil, VLes_cons, VLe_undef_iff, VLe_self]; try (repeat' first | (with_reducible refine And.intro ?_ ?_) | (refine VLe_int ?_; omega) | (refine VLe_bool ?_; rfl) | exact VLe.refl _))
          · have y0 : ((mm : Int) < s.length) = False := eq_false (by omega)
            have hmx : mm = k + 1 + nm.length := by omega
            rcases hpn with ⟨p1, p2⟩ | ⟨j, p1, p2, p3⟩
            · rw [p2] at a2
              rw [p1] at c54
              have a2 : refT m Lib.itoa (s.length + 1) s = none := by rw [a2]; rfl
              rw [a2] at hrv
              simp only at hrv
              have hV : R = (26, []) := by rw [herr (by rw [hrv]; decide), hrv]
              rw [hV]
              have eN := eN mm hmx
              have y1 : ((k : Int) + 1 ≤ mm) = True := eq_true (by omega)
              have y2 : ((mm : Int) ≤ s.length) = True := eq_true (by omega)
              have y3 : (0 ≤ (k : Int) + 1) = True := eq_true (by omega)
              simp (disch := omega) only [spar, List.foldl, List.replicate, strs, intsV, madeA, y0, y1, y2, y3, rtk, eN, go_sem, wrap64_id, Int.tdiv_eq_ediv_of_nonneg, Int.tmod_eq_emod_of_nonneg]
              repeat' first
                | (refine callG_false ((.int .i64 0)) ?_; simp (disch := omega) only [strs, intsV, madeA, y0, y1, y2, y3, rtk, eN, go_sem, wrap64_id, Int.tdiv_eq_ediv_of_nonneg, Int.tmod_eq_emod_of_nonneg])
                | ((first | refine callA_pure (c54 _) ?_ ?_); (next => repeat' first | exact flags_n | refine flags_c (by first | rfl | assumption) ?_); simp (disch := omega) only [strs, intsV, madeA, y0, y1, y2, y3, rtk, eN, go_sem, wrap64_id, Int.tdiv_eq_ediv_of_nonneg, Int.tmod_eq_emod_of_nonneg])
                | ((first | refine callU_of (fun _ => c54 _) ?_ ?_); (next => repeat' first | exact flags_n | refine flags_c (by first | rfl | assumption) ?_); simp (disch := omega) only [strs, intsV, madeA, y0, y1, y2, y3, rtk, eN, go_sem, wrap64_id, Int.tdiv_eq_ediv_of_nonneg, Int.tmod_eq_emod_of_nonneg])
                | ((first | refine callG_pure (fun e => ⟨?_, c54 _⟩) ?_); (next => repeat' first | exact flags_n | refine flags_c (by first | rfl | assumption) ?_); simp (disch := omega) only [strs, intsV, madeA, y0, y1, y2, y3, rtk, eN, go_sem, wrap64_id, Int.tdiv_eq_ediv_of_nonneg, Int.tmod_eq_emod_of_nonneg])
                | ((first | refine fnQ_pure1 ?_ ?_ | refine fnQ_pure0 ?_ ?_); (next => repeat' first | exact rvs_n | refine rvs_t ?_ | (simp [go_sem]; done)); simp only [go_sem]; (first | exact VLe.refl _ | refine VLe_int ?_ | refine VLe_bool ?_ | refine VLe_str ?_ | skip))
                | (with_reducible refine And.intro ?_ ?_)
                | with_reducible intro _
              all_goals first
                | omega
                | (rename_i hx; revert hx; simp; done)
                | (simp; done)
                | skip
              all_goals exact VLe_tup ⟨strs0, VLe.refl _, trivial⟩
            · rw [p3] at a2
              rw [p1] at c54
              simp only at a2
              obtain ⟨u, hu⟩ : ∃ u, u = V.getD j 0 := ⟨_, rfl⟩
              have eu := hu.symm
              rw [eu] at a2
              have hub := i3 j (by omega)
              rw [eu] at hub
              have c51 := fun h => t51i u h (by omega) (by omega)
              have hul := (itoa_ok u hub.1 hub.2).1
              obtain ⟨I, hI⟩ : ∃ I, I = Lib.itoa u := ⟨_, rfl⟩
              rw [← hI] at c51 hul a2
              have eN := eN mm hmx
              have y1 : ((k : Int) + 1 ≤ mm) = True := eq_true (by omega)
              have y2 : ((mm : Int) ≤ s.length) = True := eq_true (by omega)
              have y3 : (0 ≤ (k : Int) + 1) = True := eq_true (by omega)
              have y4 : ((j : Int) < 0) = False := eq_false (by omega)
              have y5 : ((j : Int) < V.length) = True := eq_true (by omega)
              simp (disch := omega) only [spar, List.foldl, List.replicate, strs, intsV, y0, y1, y2, y3, y4, y5, rtk, eN, eu, j5', eB, eTB, go_sem, wrap64_id, Int.tdiv_eq_ediv_of_nonneg, Int.tmod_eq_emod_of_nonneg]
              repeat' first
                | (refine callG_false ((.int .i64 0)) ?_; simp (disch := omega) only [strs, intsV, y0, y1, y2, y3, y4, y5, rtk, eN, eu, j5', eB, eTB, go_sem, wrap64_id, Int.tdiv_eq_ediv_of_nonneg, Int.tmod_eq_emod_of_nonneg])
                | ((first | refine callA_pure (c54 _) ?_ ?_ | refine callA_pure (c51 _) ?_ ?_); (next => repeat' first | exact flags_n | refine flags_c (by first | rfl | assumption) ?_); simp (disch := omega) only [strs, intsV, y0, y1, y2, y3, y4, y5, rtk, eN, eu, j5', eB, eTB, go_sem, wrap64_id, Int.tdiv_eq_ediv_of_nonneg, Int.tmod_eq_emod_of_nonneg])
                | ((first | refine callU_of (fun _ => c54 _) ?_ ?_ | refine callU_of (fun _ => c51 _) ?_ ?_); (next => repeat' first | exact flags_n | refine flags_c (by first | rfl | assumption) ?_); simp (disch := omega) only [strs, intsV, y0, y1, y2, y3, y4, y5, rtk, eN, eu, j5', eB, eTB, go_sem, wrap64_id, Int.tdiv_eq_ediv_of_nonneg, Int.tmod_eq_emod_of_nonneg])
                | ((first | refine callG_pure (fun e => ⟨?_, c54 _⟩) ?_ | refine callG_pure (fun e => ⟨?_, c51 _⟩) ?_); (next => repeat' first | exact flags_n | refine flags_c (by first | rfl | assumption) ?_); simp (disch := omega) only [strs, intsV, y0, y1, y2, y3, y4, y5, rtk, eN, eu, j5', eB, eTB, go_sem, wrap64_id, Int.tdiv_eq_ediv_of_nonneg, Int.tmod_eq_emod_of_nonneg])
                | ((first | refine fnQ_pure1 ?_ ?_ | refine fnQ_pure0 ?_ ?_); (next => repeat' first | exact rvs_n | refine rvs_t ?_ | (simp [go_sem]; done)); simp only [go_sem]; (first | exact VLe.refl _ | refine VLe_int ?_ | refine VLe_bool ?_ | refine VLe_str ?_ | skip))
                | (with_reducible refine And.intro ?_ ?_)
                | with_reducible intro _
              all_goals first
                | omega
                | (rename_i hx; revert hx; simp; done)
                | (simp; done)
                | skip
              refine hK2 _ _ (mm, S ++ I, w + 1, P9) ⟨by simp only; omega, ?_, by simp only [List.length_append]; omega, a4⟩ (by simp only; omega) ?_
              · simp only
                rw [a2, refT_fuel m Lib.itoa (n := s.length - (k + 1) + 1) (n' := s.length - mm + 1) (by simp; omega) (by simp; omega), hr1, List.drop_drop, show k + 1 + nm.length = mm by omega, Option.map_map]
                congr 1
                funext x
                simp
              · simp only
                rw [bytesA_app, List.length_append]
                refine Wk.temps ?_
                (simp only [strs, intsV, spar, List.foldl, List.replicate, go_sem, VLes_nil, VLes_cons, VLe_undef_iff, VLe_self]; try (repeat' first | (with_reducible refine And.intro ?_ ?_) | (refine VLe_int ?_; omega) | (refine VLe_bool ?_; rfl) | exact VLe.refl _))
        · have z1 : ((c.toNat : Int) = 64) = False := eq_false (fun hh => h64 (by
            apply UInt8.toNat_inj.1
            have : c.toNat = 64 := by omega
            rw [this]; rfl))
          rw [if_pos h64] at a2
          have hsn : bytesA (S ++ [c]) = bytesA S ++ [.int .u8 (c.toNat : Int)] := bytesA_snoc S c
          simp (disch := omega) only [spar, List.foldl, List.replicate, strs, intsV, e1, z0, z1, a4', eB, eTB, go_sem, wrap64_id, Int.tdiv_eq_ediv_of_nonneg, Int.tmod_eq_emod_of_nonneg]
          repeat' first
            | ((first | refine fnQ_pure1 ?_ ?_ | refine fnQ_pure0 ?_ ?_); (next => repeat' first | exact rvs_n | refine rvs_t ?_ | (simp [go_sem]; done)); simp only [go_sem]; (first | exact VLe.refl _ | refine VLe_int ?_ | refine VLe_bool ?_ | refine VLe_str ?_ | skip))
            | (with_reducible refine And.intro ?_ ?_)
            | with_reducible intro _
          all_goals first
            | omega
            | (rename_i hx; revert hx; simp; done)
            | (simp; done)
            | skip
          refine hK2 _ _ (k + 1, S ++ [c], w + 1, .mem (verOf (some P9) + 1) 5 (AV.int IntKind.u8 ↑c.toNat :: List.drop 1 (madeA [AV.int IntKind.u8 0] 1))) ⟨hk, ?_, by simp only [List.length_append, List.length_cons, List.length_nil]; omega, rfl⟩ (by simp only; omega) ?_
          · simp only
            rw [a2, Option.map_map]
            congr 1
            funext x
            simp
          · simp only
            rw [hsn, List.length_append, List.length_singleton]
            refine Wk.temps ?_
            (simp only [strs, intsV, spar, List.foldl, List.replicate, go_sem, VLes_nil, VLes_cons, VLe_undef_iff, VLe_self]; try (repeat' first | (with_reducible refine And.intro ?_ ?_) | (refine VLe_int ?_; omega) | (refine VLe_bool ?_; rfl) | exact VLe.refl _))
      · have e : k = s.length := by omega
        have z0 : ((k : Int) < s.length) = False := eq_false (by omega)
        rw [List.drop_of_length_le (by omega), show s.length - k + 1 = 0 + 1 by omega, refT] at a2
        have a2 : refT m Lib.itoa (s.length + 1) s = some S := by rw [a2]; simp
        rw [a2] at hrv
        simp only at hrv
        by_cases g8 : 65536 < S.length
        · have x1 : (65536 < (S.length : Int)) = True := eq_true (by omega)
          rw [if_pos g8] at hrv
          have hV : R = (4, []) := by rw [herr (by rw [hrv]; decide), hrv]
          rw [hV]
          simp (disch := omega) only [spar, List.foldl, List.replicate, strs, intsV, madeA, z0, x1, go_sem, wrap64_id, Int.tdiv_eq_ediv_of_nonneg, Int.tmod_eq_emod_of_nonneg]
          repeat' first
            | ((first | refine fnQ_pure1 ?_ ?_ | refine fnQ_pure0 ?_ ?_); (next => repeat' first | exact rvs_n | refine rvs_t ?_ | (simp [go_sem]; done)); simp only [go_sem]; (first | exact VLe.refl _ | refine VLe_int ?_ | refine VLe_bool ?_ | refine VLe_str ?_ | skip))
            | (with_reducible refine And.intro ?_ ?_)
            | with_reducible intro _
          all_goals first
            | omega
            | (rename_i hx; revert hx; simp; done)
            | (simp; done)
            | skip
          all_goals exact VLe_tup ⟨strs0, VLe.refl _, trivial⟩
        · have x1 : (65536 < (S.length : Int)) = False := eq_false (by omega)
          rw [if_neg g8] at hrv
          have hfs : fx s = S := by rw [hfx]; simp only; rw [hrv]
          have etk : ts.take (i + 1) = ts.take i ++ [s] := by rw [List.take_add_one, hs, List.getD_eq_getElem?_getD, List.getElem?_eq_getElem hi]; rfl
          have esn : strC ((ts.take (i + 1)).map fx) = strC ((ts.take i).map fx) ++ [.str S] := by rw [etk, List.map_append, List.map_cons, List.map_nil, hfs]; simp [strC]
          have eTS : List.take i (strC ((ts.take i).map fx)) = strC ((ts.take i).map fx) := List.take_of_length_le (by omega)
          simp (disch := omega) only [spar, List.foldl, List.replicate, strs, intsV, z0, x1, j6', eB, eTB, hcl, eTS, go_sem, wrap64_id, Int.tdiv_eq_ediv_of_nonneg, Int.tmod_eq_emod_of_nonneg]
          repeat' first
            | ((first | refine fnQ_pure1 ?_ ?_ | refine fnQ_pure0 ?_ ?_); (next => repeat' first | exact rvs_n | refine rvs_t ?_ | (simp [go_sem]; done)); simp only [go_sem]; (first | exact VLe.refl _ | refine VLe_int ?_ | refine VLe_bool ?_ | refine VLe_str ?_ | skip))
            | (with_reducible refine And.intro ?_ ?_)
            | with_reducible intro _
          all_goals first
            | omega
            | (rename_i hx; revert hx; simp; done)
            | (simp; done)
            | skip
          · rename_i cc hcc
            exact bytesA_isByte hcc
          refine hK _ _ (i + 1, v + 1, .mem w 5 (bytesA S), P9, O12, .mem (verOf (some O14) + 1) 9 (AV.str (List.map AF.byteOf (bytesA S)) :: List.drop 1 (madeA [AV.str []] 1))) ⟨hi, fun j hj => ?_, rfl, a4, j5, rfl⟩ (by simp only; omega) ?_
          · rcases Nat.lt_succ_iff_lt_or_eq.1 hj with hj | hj
            · exact j2 j hj
            · subst hj; rw [es, hrv]
          · simp only
            rw [esn, bytesA_back]
            refine Wk.temps ?_
            (simp only [strs, intsV, spar, List.foldl, List.replicate, go_sem, VLes_nil, VLes_cons, VLe_undef_iff, VLe_self]; try (repeat' first | (with_reducible refine And.intro ?_ ?_) | (refine VLe_int ?_; omega) | (refine VLe_bool ?_; rfl) | exact VLe.refl _))
    · have e : i = ts.length := by omega
      subst e
      have q1 : ((ts.length : Int) < ts.length) = False := eq_false (by omega)
      rw [List.take_length] at hcl ⊢
      have hV : R = (0, ts.map fx) := by rw [hR, resAll_ok j2, hfx]
      rw [hV]
      simp (disch := omega) only [spar, List.foldl, List.replicate, strs, intsV, q1, go_sem, wrap64_id, Int.tdiv_eq_ediv_of_nonneg, Int.tmod_eq_emod_of_nonneg]
      repeat' first
        | ((first | refine fnQ_pure1 ?_ ?_ | refine fnQ_pure0 ?_ ?_); (next => repeat' first | exact rvs_n | refine rvs_t ?_ | (simp [go_sem]; done)); simp only [go_sem]; (first | exact VLe.refl _ | refine VLe_int ?_ | refine VLe_bool ?_ | refine VLe_str ?_ | skip))
        | (with_reducible refine And.intro ?_ ?_)
        | with_reducible intro _
      all_goals first
        | omega
        | (rename_i hx; revert hx; simp; done)
        | (simp; done)
        | skip
      rw [if_pos (by omega)]
      refine VLe_tup ⟨VLe.sl_eq (by simp) (fun i hi => ?_), VLe.refl _, trivial⟩
      have hi' : i < (ts.map fx).length := by simpa using hi
      have hs : strC (ts.map fx) = (ts.map fx).map fun s => AV.str s := rfl
      rw [hs, ← List.map_drop, List.drop_eq_getElem_cons hi', List.map_cons, List.take_succ_cons, List.take_zero, List.map_cons, List.map_nil, List.getD_eq_getElem?_getD, List.getElem?_eq_getElem hi']
      rfl
  · have k1 : ((L.length : Int) = V.length) = False := eq_false (by omega)
    have hV : R = (9, []) := by rw [hRR]; unfold resO; rw [if_pos g1]
    rw [hV]
    refine acalls_of fn30l (by simp) ?_
    simp only [List.length_cons, List.length_nil, Nat.reduceAdd, Nat.reduceSub, List.replicate, List.cons_append, List.nil_append, List.append_nil]
    simp (disch := omega) only [c30l, k1, strs, intsV, madeA, go_sem, wrap64_id, Int.tdiv_eq_ediv_of_nonneg, Int.tmod_eq_emod_of_nonneg]
    repeat' first
      | ((first | refine fnQ_pure1 ?_ ?_ | refine fnQ_pure0 ?_ ?_); (next => repeat' first | exact rvs_n | refine rvs_t ?_ | (simp [go_sem]; done)); simp only [go_sem]; (first | exact VLe.refl _ | refine VLe_int ?_ | refine VLe_bool ?_ | refine VLe_str ?_ | skip))
      | (with_reducible refine And.intro ?_ ?_)
      | with_reducible intro _
    all_goals first
      | omega
      | (rename_i hx; revert hx; simp; done)
      | (simp; done)
      | skip
    all_goals exact VLe_tup ⟨strs0, VLe.refl _, trivial⟩
end LN
end

section
open Go Go.Proofs AF HY P48
namespace LN
set_option maxRecDepth 100000
theorem t26 (w : List UInt8) (h : List AObj) : ACalls Tryd.prog 26 [.str w] h (.bool (decide (80 < w.length))) h := by
  by_cases g : 80 < w.length
  · have k1 : (80 < (w.length : Int)) = True := eq_true (by omega)
    rw [decide_eq_true g]
    refine acalls_of fn26l (by simp) ?_
    simp only [List.length_cons, List.length_nil, Nat.reduceAdd, Nat.reduceSub, List.replicate, List.cons_append, List.nil_append, List.append_nil]
    simp (disch := omega) only [c26l, k1, go_sem, wrap64_id, Int.tdiv_eq_ediv_of_nonneg, Int.tmod_eq_emod_of_nonneg]
    repeat' first
      | ((first | refine fnQ_pure1 ?_ ?_ | refine fnQ_pure0 ?_ ?_); (next => repeat' first | exact rvs_n | refine rvs_t ?_ | (simp [go_sem]; done)); simp only [go_sem]; (first | exact VLe.refl _ | refine VLe_int ?_ | refine VLe_bool ?_ | refine VLe_str ?_ | skip))
      | (with_reducible refine And.intro ?_ ?_)
      | with_reducible intro _
    all_goals first
      | omega
      | (rename_i hx; revert hx; simp; done)
      | (simp; done)
      | skip
  · have k1 : (80 < (w.length : Int)) = False := eq_false (by omega)
    rw [decide_eq_false g]
    refine acalls_of fn26l (by simp) ?_
    simp only [List.length_cons, List.length_nil, Nat.reduceAdd, Nat.reduceSub, List.replicate, List.cons_append, List.nil_append, List.append_nil]
    simp (disch := omega) only [c26l, k1, go_sem, wrap64_id, Int.tdiv_eq_ediv_of_nonneg, Int.tmod_eq_emod_of_nonneg]
    repeat' first
      | ((first | refine fnQ_pure1 ?_ ?_ | refine fnQ_pure0 ?_ ?_); (next => repeat' first | exact rvs_n | refine rvs_t ?_ | (simp [go_sem]; done)); simp only [go_sem]; (first | exact VLe.refl _ | refine VLe_int ?_ | refine VLe_bool ?_ | refine VLe_str ?_ | skip))
      | (with_reducible refine And.intro ?_ ?_)
      | with_reducible intro _
    all_goals first
      | omega
      | (rename_i hx; revert hx; simp; done)
      | (simp; done)
      | skip
theorem eqS_self (n : Nat) (f : Nat → List UInt8) : eqS n n f f = true := by simp [eqS]
theorem resAll_len {m : List (List UInt8 × Int)} {it : Int → List UInt8} : ∀ ts, (resAll m it ts).2.length ≤ ts.length := by
  intro ts
  induction ts with
  | nil => exact Nat.le_refl _
  | cons t r ih =>
    unfold resAll
    split
    · simp
    · split
      · simp
      · simp; exact ih
theorem resO_len (it : Int → List UInt8) (ts L : List (List UInt8)) (V : List Int) : (resO it ts L V).2.length ≤ ts.length := by
  unfold resO
  split
  · simp
  · split
    · simp
    · split
      · simp
      · exact resAll_len ts
set_option maxHeartbeats 8000000 in
theorem t7 (n every : Int) (s : List UInt8) (ts L : List (List UInt8)) (V : List Int) (h : List AObj) (hp : Pins PowG h) (he : Pins ErrG h) (n0 : -9223372036854775808 ≤ n ∧ n ≤ 9223372036854775807) (e0 : -9223372036854775808 ≤ every ∧ every ≤ 9223372036854775807) :
    ACalls Tryd.prog 7 [.int .i64 n, .int .i64 every, .str s, strs ts, strs L, intsV V] h (.bool true) h := by
  have c10 := fun h => t10 h
  by_cases g0 : 100 < n ∧ n ≤ 4096
  · have k1 : (100 < n) = True := eq_true g0.1
    have k2 : (n ≤ 4096) = True := eq_true g0.2
    refine acalls_of fn7l (by simp) ?_
    simp only [List.length_cons, List.length_nil, Nat.reduceAdd, Nat.reduceSub, List.replicate, List.cons_append, List.nil_append, List.append_nil]
    simp (disch := omega) only [c7l, strs, intsV, k1, k2, go_sem, wrap64_id, Int.tdiv_eq_ediv_of_nonneg, Int.tmod_eq_emod_of_nonneg]
    repeat' first
      | (refine callG_false ((.bool false)) ?_; simp (disch := omega) only [strs, intsV, k1, k2, go_sem, wrap64_id, Int.tdiv_eq_ediv_of_nonneg, Int.tmod_eq_emod_of_nonneg])
      | ((first | refine callA_pure (c10 _) ?_ ?_); (next => repeat' first | exact flags_n | refine flags_c (by first | rfl | assumption) ?_); simp (disch := omega) only [strs, intsV, k1, k2, go_sem, wrap64_id, Int.tdiv_eq_ediv_of_nonneg, Int.tmod_eq_emod_of_nonneg])
      | ((first | refine callU_of (fun _ => c10 _) ?_ ?_); (next => repeat' first | exact flags_n | refine flags_c (by first | rfl | assumption) ?_); simp (disch := omega) only [strs, intsV, k1, k2, go_sem, wrap64_id, Int.tdiv_eq_ediv_of_nonneg, Int.tmod_eq_emod_of_nonneg])
      | ((first | refine callG_pure (fun e => ⟨?_, c10 _⟩) ?_); (next => repeat' first | exact flags_n | refine flags_c (by first | rfl | assumption) ?_); simp (disch := omega) only [strs, intsV, k1, k2, go_sem, wrap64_id, Int.tdiv_eq_ediv_of_nonneg, Int.tmod_eq_emod_of_nonneg])
      | ((first | refine fnQ_pure1 ?_ ?_ | refine fnQ_pure0 ?_ ?_); (next => repeat' first | exact rvs_n | refine rvs_t ?_ | (simp [go_sem]; done)); simp only [go_sem]; (first | exact VLe.refl _ | refine VLe_int ?_ | refine VLe_bool ?_ | refine VLe_str ?_ | skip))
      | (with_reducible refine And.intro ?_ ?_)
      | with_reducible intro _
    all_goals first
      | omega
      | (rename_i hx; revert hx; simp; done)
      | (simp; done)
      | skip
  have fin : ∀ (P1 P2 : Prop), (100 < n) = P1 → (n ≤ 4096) = P2 → (P1 = True ∧ P2 = False ∨ P1 = False) → ACalls Tryd.prog 7 [.int .i64 n, .int .i64 every, .str s, strs ts, strs L, intsV V] h (.bool true) h := by
    intro P1 P2 k1 k2 hP
    by_cases g1 : 8 < ts.length
    · have q1 : (8 < (ts.length : Int)) = True := eq_true (by omega)
      rcases hP with ⟨rfl, rfl⟩ | rfl
      · refine acalls_of fn7l (by simp) ?_
        simp only [List.length_cons, List.length_nil, Nat.reduceAdd, Nat.reduceSub, List.replicate, List.cons_append, List.nil_append, List.append_nil]
        simp (disch := omega) only [c7l, strs, intsV, k1, k2, q1, go_sem, wrap64_id, Int.tdiv_eq_ediv_of_nonneg, Int.tmod_eq_emod_of_nonneg]
        repeat' first
          | (refine callG_false ((.bool false)) ?_; simp (disch := omega) only [strs, intsV, k1, k2, q1, go_sem, wrap64_id, Int.tdiv_eq_ediv_of_nonneg, Int.tmod_eq_emod_of_nonneg])
          | ((first | refine callA_pure (c10 _) ?_ ?_); (next => repeat' first | exact flags_n | refine flags_c (by first | rfl | assumption) ?_); simp (disch := omega) only [strs, intsV, k1, k2, q1, go_sem, wrap64_id, Int.tdiv_eq_ediv_of_nonneg, Int.tmod_eq_emod_of_nonneg])
          | ((first | refine callU_of (fun _ => c10 _) ?_ ?_); (next => repeat' first | exact flags_n | refine flags_c (by first | rfl | assumption) ?_); simp (disch := omega) only [strs, intsV, k1, k2, q1, go_sem, wrap64_id, Int.tdiv_eq_ediv_of_nonneg, Int.tmod_eq_emod_of_nonneg])
          | ((first | refine callG_pure (fun e => ⟨?_, c10 _⟩) ?_); (next => repeat' first | exact flags_n | refine flags_c (by first | rfl | assumption) ?_); simp (disch := omega) only [strs, intsV, k1, k2, q1, go_sem, wrap64_id, Int.tdiv_eq_ediv_of_nonneg, Int.tmod_eq_emod_of_nonneg])
          | ((first | refine fnQ_pure1 ?_ ?_ | refine fnQ_pure0 ?_ ?_); (next => repeat' first | exact rvs_n | refine rvs_t ?_ | (simp [go_sem]; done)); simp only [go_sem]; (first | exact VLe.refl _ | refine VLe_int ?_ | refine VLe_bool ?_ | refine VLe_str ?_ | skip))
          | (with_reducible refine And.intro ?_ ?_)
          | with_reducible intro _
        all_goals first
          | omega
          | (rename_i hx; revert hx; simp; done)
          | (simp; done)
          | skip
      · refine acalls_of fn7l (by simp) ?_
        simp only [List.length_cons, List.length_nil, Nat.reduceAdd, Nat.reduceSub, List.replicate, List.cons_append, List.nil_append, List.append_nil]
        simp (disch := omega) only [c7l, strs, intsV, k1, q1, go_sem, wrap64_id, Int.tdiv_eq_ediv_of_nonneg, Int.tmod_eq_emod_of_nonneg]
        repeat' first
          | (refine callG_false ((.bool false)) ?_; simp (disch := omega) only [strs, intsV, k1, q1, go_sem, wrap64_id, Int.tdiv_eq_ediv_of_nonneg, Int.tmod_eq_emod_of_nonneg])
          | ((first | refine callA_pure (c10 _) ?_ ?_); (next => repeat' first | exact flags_n | refine flags_c (by first | rfl | assumption) ?_); simp (disch := omega) only [strs, intsV, k1, q1, go_sem, wrap64_id, Int.tdiv_eq_ediv_of_nonneg, Int.tmod_eq_emod_of_nonneg])
          | ((first | refine callU_of (fun _ => c10 _) ?_ ?_); (next => repeat' first | exact flags_n | refine flags_c (by first | rfl | assumption) ?_); simp (disch := omega) only [strs, intsV, k1, q1, go_sem, wrap64_id, Int.tdiv_eq_ediv_of_nonneg, Int.tmod_eq_emod_of_nonneg])
          | ((first | refine callG_pure (fun e => ⟨?_, c10 _⟩) ?_); (next => repeat' first | exact flags_n | refine flags_c (by first | rfl | assumption) ?_); simp (disch := omega) only [strs, intsV, k1, q1, go_sem, wrap64_id, Int.tdiv_eq_ediv_of_nonneg, Int.tmod_eq_emod_of_nonneg])
          | ((first | refine fnQ_pure1 ?_ ?_ | refine fnQ_pure0 ?_ ?_); (next => repeat' first | exact rvs_n | refine rvs_t ?_ | (simp [go_sem]; done)); simp only [go_sem]; (first | exact VLe.refl _ | refine VLe_int ?_ | refine VLe_bool ?_ | refine VLe_str ?_ | skip))
          | (with_reducible refine And.intro ?_ ?_)
          | with_reducible intro _
        all_goals first
          | omega
          | (rename_i hx; revert hx; simp; done)
          | (simp; done)
          | skip
    have q1 : (8 < (ts.length : Int)) = False := eq_false (by omega)
    by_cases g2 : 8 < L.length
    · have q2 : (8 < (L.length : Int)) = True := eq_true (by omega)
      rcases hP with ⟨rfl, rfl⟩ | rfl
      · refine acalls_of fn7l (by simp) ?_
        simp only [List.length_cons, List.length_nil, Nat.reduceAdd, Nat.reduceSub, List.replicate, List.cons_append, List.nil_append, List.append_nil]
        simp (disch := omega) only [c7l, strs, intsV, k1, k2, q1, q2, go_sem, wrap64_id, Int.tdiv_eq_ediv_of_nonneg, Int.tmod_eq_emod_of_nonneg]
        repeat' first
          | (refine callG_false ((.bool false)) ?_; simp (disch := omega) only [strs, intsV, k1, k2, q1, q2, go_sem, wrap64_id, Int.tdiv_eq_ediv_of_nonneg, Int.tmod_eq_emod_of_nonneg])
          | ((first | refine callA_pure (c10 _) ?_ ?_); (next => repeat' first | exact flags_n | refine flags_c (by first | rfl | assumption) ?_); simp (disch := omega) only [strs, intsV, k1, k2, q1, q2, go_sem, wrap64_id, Int.tdiv_eq_ediv_of_nonneg, Int.tmod_eq_emod_of_nonneg])
          | ((first | refine callU_of (fun _ => c10 _) ?_ ?_); (next => repeat' first | exact flags_n | refine flags_c (by first | rfl | assumption) ?_); simp (disch := omega) only [strs, intsV, k1, k2, q1, q2, go_sem, wrap64_id, Int.tdiv_eq_ediv_of_nonneg, Int.tmod_eq_emod_of_nonneg])
          | ((first | refine callG_pure (fun e => ⟨?_, c10 _⟩) ?_); (next => repeat' first | exact flags_n | refine flags_c (by first | rfl | assumption) ?_); simp (disch := omega) only [strs, intsV, k1, k2, q1, q2, go_sem, wrap64_id, Int.tdiv_eq_ediv_of_nonneg, Int.tmod_eq_emod_of_nonneg])
          | ((first | refine fnQ_pure1 ?_ ?_ | refine fnQ_pure0 ?_ ?_); (next => repeat' first | exact rvs_n | refine rvs_t ?_ | (simp [go_sem]; done)); simp only [go_sem]; (first | exact VLe.refl _ | refine VLe_int ?_ | refine VLe_bool ?_ | refine VLe_str ?_ | skip))
          | (with_reducible refine And.intro ?_ ?_)
          | with_reducible intro _
        all_goals first
          | omega
          | (rename_i hx; revert hx; simp; done)
          | (simp; done)
          | skip
      · refine acalls_of fn7l (by simp) ?_
        simp only [List.length_cons, List.length_nil, Nat.reduceAdd, Nat.reduceSub, List.replicate, List.cons_append, List.nil_append, List.append_nil]
        simp (disch := omega) only [c7l, strs, intsV, k1, q1, q2, go_sem, wrap64_id, Int.tdiv_eq_ediv_of_nonneg, Int.tmod_eq_emod_of_nonneg]
        repeat' first
          | (refine callG_false ((.bool false)) ?_; simp (disch := omega) only [strs, intsV, k1, q1, q2, go_sem, wrap64_id, Int.tdiv_eq_ediv_of_nonneg, Int.tmod_eq_emod_of_nonneg])
          | ((first | refine callA_pure (c10 _) ?_ ?_); (next => repeat' first | exact flags_n | refine flags_c (by first | rfl | assumption) ?_); simp (disch := omega) only [strs, intsV, k1, q1, q2, go_sem, wrap64_id, Int.tdiv_eq_ediv_of_nonneg, Int.tmod_eq_emod_of_nonneg])
          | ((first | refine callU_of (fun _ => c10 _) ?_ ?_); (next => repeat' first | exact flags_n | refine flags_c (by first | rfl | assumption) ?_); simp (disch := omega) only [strs, intsV, k1, q1, q2, go_sem, wrap64_id, Int.tdiv_eq_ediv_of_nonneg, Int.tmod_eq_emod_of_nonneg])
          | ((first | refine callG_pure (fun e => ⟨?_, c10 _⟩) ?_); (next => repeat' first | exact flags_n | refine flags_c (by first | rfl | assumption) ?_); simp (disch := omega) only [strs, intsV, k1, q1, q2, go_sem, wrap64_id, Int.tdiv_eq_ediv_of_nonneg, Int.tmod_eq_emod_of_nonneg])
          | ((first | refine fnQ_pure1 ?_ ?_ | refine fnQ_pure0 ?_ ?_); (next => repeat' first | exact rvs_n | refine rvs_t ?_ | (simp [go_sem]; done)); simp only [go_sem]; (first | exact VLe.refl _ | refine VLe_int ?_ | refine VLe_bool ?_ | refine VLe_str ?_ | skip))
          | (with_reducible refine And.intro ?_ ?_)
          | with_reducible intro _
        all_goals first
          | omega
          | (rename_i hx; revert hx; simp; done)
          | (simp; done)
          | skip
    have q2 : (8 < (L.length : Int)) = False := eq_false (by omega)
    by_cases g3 : 8 < V.length
    · have q3 : (8 < (V.length : Int)) = True := eq_true (by omega)
      rcases hP with ⟨rfl, rfl⟩ | rfl
      · refine acalls_of fn7l (by simp) ?_
        simp only [List.length_cons, List.length_nil, Nat.reduceAdd, Nat.reduceSub, List.replicate, List.cons_append, List.nil_append, List.append_nil]
        simp (disch := omega) only [c7l, strs, intsV, k1, k2, q1, q2, q3, go_sem, wrap64_id, Int.tdiv_eq_ediv_of_nonneg, Int.tmod_eq_emod_of_nonneg]
        repeat' first
          | (refine callG_false ((.bool false)) ?_; simp (disch := omega) only [strs, intsV, k1, k2, q1, q2, q3, go_sem, wrap64_id, Int.tdiv_eq_ediv_of_nonneg, Int.tmod_eq_emod_of_nonneg])
          | ((first | refine callA_pure (c10 _) ?_ ?_); (next => repeat' first | exact flags_n | refine flags_c (by first | rfl | assumption) ?_); simp (disch := omega) only [strs, intsV, k1, k2, q1, q2, q3, go_sem, wrap64_id, Int.tdiv_eq_ediv_of_nonneg, Int.tmod_eq_emod_of_nonneg])
          | ((first | refine callU_of (fun _ => c10 _) ?_ ?_); (next => repeat' first | exact flags_n | refine flags_c (by first | rfl | assumption) ?_); simp (disch := omega) only [strs, intsV, k1, k2, q1, q2, q3, go_sem, wrap64_id, Int.tdiv_eq_ediv_of_nonneg, Int.tmod_eq_emod_of_nonneg])
          | ((first | refine callG_pure (fun e => ⟨?_, c10 _⟩) ?_); (next => repeat' first | exact flags_n | refine flags_c (by first | rfl | assumption) ?_); simp (disch := omega) only [strs, intsV, k1, k2, q1, q2, q3, go_sem, wrap64_id, Int.tdiv_eq_ediv_of_nonneg, Int.tmod_eq_emod_of_nonneg])
          | ((first | refine fnQ_pure1 ?_ ?_ | refine fnQ_pure0 ?_ ?_); (next => repeat' first | exact rvs_n | refine rvs_t ?_ | (simp [go_sem]; done)); simp only [go_sem]; (first | exact VLe.refl _ | refine VLe_int ?_ | refine VLe_bool ?_ | refine VLe_str ?_ | skip))
          | (with_reducible refine And.intro ?_ ?_)
          | with_reducible intro _
        all_goals first
          | omega
          | (rename_i hx; revert hx; simp; done)
          | (simp; done)
          | skip
      · refine acalls_of fn7l (by simp) ?_
        simp only [List.length_cons, List.length_nil, Nat.reduceAdd, Nat.reduceSub, List.replicate, List.cons_append, List.nil_append, List.append_nil]
        simp (disch := omega) only [c7l, strs, intsV, k1, q1, q2, q3, go_sem, wrap64_id, Int.tdiv_eq_ediv_of_nonneg, Int.tmod_eq_emod_of_nonneg]
        repeat' first
          | (refine callG_false ((.bool false)) ?_; simp (disch := omega) only [strs, intsV, k1, q1, q2, q3, go_sem, wrap64_id, Int.tdiv_eq_ediv_of_nonneg, Int.tmod_eq_emod_of_nonneg])
          | ((first | refine callA_pure (c10 _) ?_ ?_); (next => repeat' first | exact flags_n | refine flags_c (by first | rfl | assumption) ?_); simp (disch := omega) only [strs, intsV, k1, q1, q2, q3, go_sem, wrap64_id, Int.tdiv_eq_ediv_of_nonneg, Int.tmod_eq_emod_of_nonneg])
          | ((first | refine callU_of (fun _ => c10 _) ?_ ?_); (next => repeat' first | exact flags_n | refine flags_c (by first | rfl | assumption) ?_); simp (disch := omega) only [strs, intsV, k1, q1, q2, q3, go_sem, wrap64_id, Int.tdiv_eq_ediv_of_nonneg, Int.tmod_eq_emod_of_nonneg])
          | ((first | refine callG_pure (fun e => ⟨?_, c10 _⟩) ?_); (next => repeat' first | exact flags_n | refine flags_c (by first | rfl | assumption) ?_); simp (disch := omega) only [strs, intsV, k1, q1, q2, q3, go_sem, wrap64_id, Int.tdiv_eq_ediv_of_nonneg, Int.tmod_eq_emod_of_nonneg])
          | ((first | refine fnQ_pure1 ?_ ?_ | refine fnQ_pure0 ?_ ?_); (next => repeat' first | exact rvs_n | refine rvs_t ?_ | (simp [go_sem]; done)); simp only [go_sem]; (first | exact VLe.refl _ | refine VLe_int ?_ | refine VLe_bool ?_ | refine VLe_str ?_ | skip))
          | (with_reducible refine And.intro ?_ ?_)
          | with_reducible intro _
        all_goals first
          | omega
          | (rename_i hx; revert hx; simp; done)
          | (simp; done)
          | skip
    have q3 : (8 < (V.length : Int)) = False := eq_false (by omega)
    by_cases g4 : 80 < s.length
    · have q4 : (80 < (s.length : Int)) = True := eq_true (by omega)
      rcases hP with ⟨rfl, rfl⟩ | rfl
      · refine acalls_of fn7l (by simp) ?_
        simp only [List.length_cons, List.length_nil, Nat.reduceAdd, Nat.reduceSub, List.replicate, List.cons_append, List.nil_append, List.append_nil]
        simp (disch := omega) only [c7l, strs, intsV, k1, k2, q1, q2, q3, q4, go_sem, wrap64_id, Int.tdiv_eq_ediv_of_nonneg, Int.tmod_eq_emod_of_nonneg]
        repeat' first
          | (refine callG_false ((.bool false)) ?_; simp (disch := omega) only [strs, intsV, k1, k2, q1, q2, q3, q4, go_sem, wrap64_id, Int.tdiv_eq_ediv_of_nonneg, Int.tmod_eq_emod_of_nonneg])
          | ((first | refine callA_pure (c10 _) ?_ ?_); (next => repeat' first | exact flags_n | refine flags_c (by first | rfl | assumption) ?_); simp (disch := omega) only [strs, intsV, k1, k2, q1, q2, q3, q4, go_sem, wrap64_id, Int.tdiv_eq_ediv_of_nonneg, Int.tmod_eq_emod_of_nonneg])
          | ((first | refine callU_of (fun _ => c10 _) ?_ ?_); (next => repeat' first | exact flags_n | refine flags_c (by first | rfl | assumption) ?_); simp (disch := omega) only [strs, intsV, k1, k2, q1, q2, q3, q4, go_sem, wrap64_id, Int.tdiv_eq_ediv_of_nonneg, Int.tmod_eq_emod_of_nonneg])
          | ((first | refine callG_pure (fun e => ⟨?_, c10 _⟩) ?_); (next => repeat' first | exact flags_n | refine flags_c (by first | rfl | assumption) ?_); simp (disch := omega) only [strs, intsV, k1, k2, q1, q2, q3, q4, go_sem, wrap64_id, Int.tdiv_eq_ediv_of_nonneg, Int.tmod_eq_emod_of_nonneg])
          | ((first | refine fnQ_pure1 ?_ ?_ | refine fnQ_pure0 ?_ ?_); (next => repeat' first | exact rvs_n | refine rvs_t ?_ | (simp [go_sem]; done)); simp only [go_sem]; (first | exact VLe.refl _ | refine VLe_int ?_ | refine VLe_bool ?_ | refine VLe_str ?_ | skip))
          | (with_reducible refine And.intro ?_ ?_)
          | with_reducible intro _
        all_goals first
          | omega
          | (rename_i hx; revert hx; simp; done)
          | (simp; done)
          | skip
      · refine acalls_of fn7l (by simp) ?_
        simp only [List.length_cons, List.length_nil, Nat.reduceAdd, Nat.reduceSub, List.replicate, List.cons_append, List.nil_append, List.append_nil]
        simp (disch := omega) only [c7l, strs, intsV, k1, q1, q2, q3, q4, go_sem, wrap64_id, Int.tdiv_eq_ediv_of_nonneg, Int.tmod_eq_emod_of_nonneg]
        repeat' first
          | (refine callG_false ((.bool false)) ?_; simp (disch := omega) only [strs, intsV, k1, q1, q2, q3, q4, go_sem, wrap64_id, Int.tdiv_eq_ediv_of_nonneg, Int.tmod_eq_emod_of_nonneg])
          | ((first | refine callA_pure (c10 _) ?_ ?_); (next => repeat' first | exact flags_n | refine flags_c (by first | rfl | assumption) ?_); simp (disch := omega) only [strs, intsV, k1, q1, q2, q3, q4, go_sem, wrap64_id, Int.tdiv_eq_ediv_of_nonneg, Int.tmod_eq_emod_of_nonneg])
          | ((first | refine callU_of (fun _ => c10 _) ?_ ?_); (next => repeat' first | exact flags_n | refine flags_c (by first | rfl | assumption) ?_); simp (disch := omega) only [strs, intsV, k1, q1, q2, q3, q4, go_sem, wrap64_id, Int.tdiv_eq_ediv_of_nonneg, Int.tmod_eq_emod_of_nonneg])
          | ((first | refine callG_pure (fun e => ⟨?_, c10 _⟩) ?_); (next => repeat' first | exact flags_n | refine flags_c (by first | rfl | assumption) ?_); simp (disch := omega) only [strs, intsV, k1, q1, q2, q3, q4, go_sem, wrap64_id, Int.tdiv_eq_ediv_of_nonneg, Int.tmod_eq_emod_of_nonneg])
          | ((first | refine fnQ_pure1 ?_ ?_ | refine fnQ_pure0 ?_ ?_); (next => repeat' first | exact rvs_n | refine rvs_t ?_ | (simp [go_sem]; done)); simp only [go_sem]; (first | exact VLe.refl _ | refine VLe_int ?_ | refine VLe_bool ?_ | refine VLe_str ?_ | skip))
          | (with_reducible refine And.intro ?_ ?_)
          | with_reducible intro _
        all_goals first
          | omega
          | (rename_i hx; revert hx; simp; done)
          | (simp; done)
          | skip
    have q4 : (80 < (s.length : Int)) = False := eq_false (by omega)
    have ca := fun h => t20 ts (fun w => decide (80 < w.length)) 26 h (by omega) t26
    have cb := fun h => t20 L (fun w => decide (80 < w.length)) 26 h (by omega) t26
    by_cases g5 : ts.any (fun w => decide (80 < w.length)) = true
    · rw [g5] at ca
      unfold strs at ca cb
      rcases hP with ⟨rfl, rfl⟩ | rfl
      · refine acalls_of fn7l (by simp) ?_
        simp only [List.length_cons, List.length_nil, Nat.reduceAdd, Nat.reduceSub, List.replicate, List.cons_append, List.nil_append, List.append_nil]
        simp (disch := omega) only [c7l, strs, intsV, k1, k2, q1, q2, q3, q4, go_sem, wrap64_id, Int.tdiv_eq_ediv_of_nonneg, Int.tmod_eq_emod_of_nonneg]
        repeat' first
          | (refine callG_false ((.bool false)) ?_; simp (disch := omega) only [strs, intsV, k1, k2, q1, q2, q3, q4, go_sem, wrap64_id, Int.tdiv_eq_ediv_of_nonneg, Int.tmod_eq_emod_of_nonneg])
          | ((first | refine callA_pure (ca _) ?_ ?_ | refine callA_pure (c10 _) ?_ ?_); (next => repeat' first | exact flags_n | refine flags_c (by first | rfl | assumption) ?_); simp (disch := omega) only [strs, intsV, k1, k2, q1, q2, q3, q4, go_sem, wrap64_id, Int.tdiv_eq_ediv_of_nonneg, Int.tmod_eq_emod_of_nonneg])
          | ((first | refine callU_of (fun _ => ca _) ?_ ?_ | refine callU_of (fun _ => c10 _) ?_ ?_); (next => repeat' first | exact flags_n | refine flags_c (by first | rfl | assumption) ?_); simp (disch := omega) only [strs, intsV, k1, k2, q1, q2, q3, q4, go_sem, wrap64_id, Int.tdiv_eq_ediv_of_nonneg, Int.tmod_eq_emod_of_nonneg])
          | ((first | refine callG_pure (fun e => ⟨?_, ca _⟩) ?_ | refine callG_pure (fun e => ⟨?_, c10 _⟩) ?_); (next => repeat' first | exact flags_n | refine flags_c (by first | rfl | assumption) ?_); simp (disch := omega) only [strs, intsV, k1, k2, q1, q2, q3, q4, go_sem, wrap64_id, Int.tdiv_eq_ediv_of_nonneg, Int.tmod_eq_emod_of_nonneg])
          | ((first | refine fnQ_pure1 ?_ ?_ | refine fnQ_pure0 ?_ ?_); (next => repeat' first | exact rvs_n | refine rvs_t ?_ | (simp [go_sem]; done)); simp only [go_sem]; (first | exact VLe.refl _ | refine VLe_int ?_ | refine VLe_bool ?_ | refine VLe_str ?_ | skip))
          | (with_reducible refine And.intro ?_ ?_)
          | with_reducible intro _
        all_goals first
          | omega
          | (rename_i hx; revert hx; simp; done)
          | (simp; done)
          | skip
      · refine acalls_of fn7l (by simp) ?_
        simp only [List.length_cons, List.length_nil, Nat.reduceAdd, Nat.reduceSub, List.replicate, List.cons_append, List.nil_append, List.append_nil]
        simp (disch := omega) only [c7l, strs, intsV, k1, q1, q2, q3, q4, go_sem, wrap64_id, Int.tdiv_eq_ediv_of_nonneg, Int.tmod_eq_emod_of_nonneg]
        repeat' first
          | (refine callG_false ((.bool false)) ?_; simp (disch := omega) only [strs, intsV, k1, q1, q2, q3, q4, go_sem, wrap64_id, Int.tdiv_eq_ediv_of_nonneg, Int.tmod_eq_emod_of_nonneg])
          | ((first | refine callA_pure (ca _) ?_ ?_ | refine callA_pure (c10 _) ?_ ?_); (next => repeat' first | exact flags_n | refine flags_c (by first | rfl | assumption) ?_); simp (disch := omega) only [strs, intsV, k1, q1, q2, q3, q4, go_sem, wrap64_id, Int.tdiv_eq_ediv_of_nonneg, Int.tmod_eq_emod_of_nonneg])
          | ((first | refine callU_of (fun _ => ca _) ?_ ?_ | refine callU_of (fun _ => c10 _) ?_ ?_); (next => repeat' first | exact flags_n | refine flags_c (by first | rfl | assumption) ?_); simp (disch := omega) only [strs, intsV, k1, q1, q2, q3, q4, go_sem, wrap64_id, Int.tdiv_eq_ediv_of_nonneg, Int.tmod_eq_emod_of_nonneg])
          | ((first | refine callG_pure (fun e => ⟨?_, ca _⟩) ?_ | refine callG_pure (fun e => ⟨?_, c10 _⟩) ?_); (next => repeat' first | exact flags_n | refine flags_c (by first | rfl | assumption) ?_); simp (disch := omega) only [strs, intsV, k1, q1, q2, q3, q4, go_sem, wrap64_id, Int.tdiv_eq_ediv_of_nonneg, Int.tmod_eq_emod_of_nonneg])
          | ((first | refine fnQ_pure1 ?_ ?_ | refine fnQ_pure0 ?_ ?_); (next => repeat' first | exact rvs_n | refine rvs_t ?_ | (simp [go_sem]; done)); simp only [go_sem]; (first | exact VLe.refl _ | refine VLe_int ?_ | refine VLe_bool ?_ | refine VLe_str ?_ | skip))
          | (with_reducible refine And.intro ?_ ?_)
          | with_reducible intro _
        all_goals first
          | omega
          | (rename_i hx; revert hx; simp; done)
          | (simp; done)
          | skip
    have g5' : ts.any (fun w => decide (80 < w.length)) = false := by simpa using g5
    rw [g5'] at ca
    by_cases g6 : L.any (fun w => decide (80 < w.length)) = true
    · rw [g6] at cb
      unfold strs at ca cb
      rcases hP with ⟨rfl, rfl⟩ | rfl
      · refine acalls_of fn7l (by simp) ?_
        simp only [List.length_cons, List.length_nil, Nat.reduceAdd, Nat.reduceSub, List.replicate, List.cons_append, List.nil_append, List.append_nil]
        simp (disch := omega) only [c7l, strs, intsV, k1, k2, q1, q2, q3, q4, go_sem, wrap64_id, Int.tdiv_eq_ediv_of_nonneg, Int.tmod_eq_emod_of_nonneg]
        repeat' first
          | ((first | refine callA_pure (ca _) ?_ ?_ | refine callA_pure (cb _) ?_ ?_ | refine callA_pure (c10 _) ?_ ?_); (next => repeat' first | exact flags_n | refine flags_c (by first | rfl | assumption) ?_); simp (disch := omega) only [strs, intsV, k1, k2, q1, q2, q3, q4, go_sem, wrap64_id, Int.tdiv_eq_ediv_of_nonneg, Int.tmod_eq_emod_of_nonneg])
          | ((first | refine callU_of (fun _ => ca _) ?_ ?_ | refine callU_of (fun _ => cb _) ?_ ?_ | refine callU_of (fun _ => c10 _) ?_ ?_); (next => repeat' first | exact flags_n | refine flags_c (by first | rfl | assumption) ?_); simp (disch := omega) only [strs, intsV, k1, k2, q1, q2, q3, q4, go_sem, wrap64_id, Int.tdiv_eq_ediv_of_nonneg, Int.tmod_eq_emod_of_nonneg])
          | ((first | refine callG_pure (fun e => ⟨?_, ca _⟩) ?_ | refine callG_pure (fun e => ⟨?_, cb _⟩) ?_ | refine callG_pure (fun e => ⟨?_, c10 _⟩) ?_); (next => repeat' first | exact flags_n | refine flags_c (by first | rfl | assumption) ?_); simp (disch := omega) only [strs, intsV, k1, k2, q1, q2, q3, q4, go_sem, wrap64_id, Int.tdiv_eq_ediv_of_nonneg, Int.tmod_eq_emod_of_nonneg])
          | ((first | refine fnQ_pure1 ?_ ?_ | refine fnQ_pure0 ?_ ?_); (next => repeat' first | exact rvs_n | refine rvs_t ?_ | (simp [go_sem]; done)); simp only [go_sem]; (first | exact VLe.refl _ | refine VLe_int ?_ | refine VLe_bool ?_ | refine VLe_str ?_ | skip))
          | (with_reducible refine And.intro ?_ ?_)
          | with_reducible intro _
        all_goals first
          | omega
          | (rename_i hx; revert hx; simp; done)
          | (simp; done)
          | skip
      · refine acalls_of fn7l (by simp) ?_
        simp only [List.length_cons, List.length_nil, Nat.reduceAdd, Nat.reduceSub, List.replicate, List.cons_append, List.nil_append, List.append_nil]
        simp (disch := omega) only [c7l, strs, intsV, k1, q1, q2, q3, q4, go_sem, wrap64_id, Int.tdiv_eq_ediv_of_nonneg, Int.tmod_eq_emod_of_nonneg]
        repeat' first
          | ((first | refine callA_pure (ca _) ?_ ?_ | refine callA_pure (cb _) ?_ ?_ | refine callA_pure (c10 _) ?_ ?_); (next => repeat' first | exact flags_n | refine flags_c (by first | rfl | assumption) ?_); simp (disch := omega) only [strs, intsV, k1, q1, q2, q3, q4, go_sem, wrap64_id, Int.tdiv_eq_ediv_of_nonneg, Int.tmod_eq_emod_of_nonneg])
          | ((first | refine callU_of (fun _ => ca _) ?_ ?_ | refine callU_of (fun _ => cb _) ?_ ?_ | refine callU_of (fun _ => c10 _) ?_ ?_); (next => repeat' first | exact flags_n | refine flags_c (by first | rfl | assumption) ?_); simp (disch := omega) only [strs, intsV, k1, q1, q2, q3, q4, go_sem, wrap64_id, Int.tdiv_eq_ediv_of_nonneg, Int.tmod_eq_emod_of_nonneg])
          | ((first | refine callG_pure (fun e => ⟨?_, ca _⟩) ?_ | refine callG_pure (fun e => ⟨?_, cb _⟩) ?_ | refine callG_pure (fun e => ⟨?_, c10 _⟩) ?_); (next => repeat' first | exact flags_n | refine flags_c (by first | rfl | assumption) ?_); simp (disch := omega) only [strs, intsV, k1, q1, q2, q3, q4, go_sem, wrap64_id, Int.tdiv_eq_ediv_of_nonneg, Int.tmod_eq_emod_of_nonneg])
          | ((first | refine fnQ_pure1 ?_ ?_ | refine fnQ_pure0 ?_ ?_); (next => repeat' first | exact rvs_n | refine rvs_t ?_ | (simp [go_sem]; done)); simp only [go_sem]; (first | exact VLe.refl _ | refine VLe_int ?_ | refine VLe_bool ?_ | refine VLe_str ?_ | skip))
          | (with_reducible refine And.intro ?_ ?_)
          | with_reducible intro _
        all_goals first
          | omega
          | (rename_i hx; revert hx; simp; done)
          | (simp; done)
          | skip
    have g6' : L.any (fun w => decide (80 < w.length)) = false := by simpa using g6
    rw [g6'] at cb
    have h4 : ∀ i, i < ts.length → (ts.getD i []).length ≤ 80 := fun i hi => by
      apply Classical.byContradiction
      intro hc
      apply g5
      rw [List.any_eq_true]
      refine ⟨ts.getD i [], ?_, decide_eq_true (by omega)⟩
      rw [List.getD_eq_getElem?_getD, List.getElem?_eq_getElem hi]
      exact List.getElem_mem hi
    have h5 : ∀ i, i < L.length → (L.getD i []).length ≤ 80 := fun i hi => by
      apply Classical.byContradiction
      intro hc
      apply g6
      rw [List.any_eq_true]
      refine ⟨L.getD i [], ?_, decide_eq_true (by omega)⟩
      rw [List.getD_eq_getElem?_getD, List.getElem?_eq_getElem hi]
      exact List.getElem_mem hi
    have c21 := t21 Lib.itoa ts L V h (by omega) (by omega) (by omega) (fun i hi => by have := h4 i hi; omega) (fun i hi => by have := h5 i hi; omega)
      (fun n _ n1 n2 => ⟨(itoa_ok n n1 n2).1, fun l2 => t48 n _ (hp.app l2) (by omega) (by omega)⟩)
    have c30 := fun h => t30 ts L V h (by omega) (by omega) (by omega) (fun i hi => by have := h4 i hi; omega) (fun i hi => by have := h5 i hi; omega)
    have hrl := resO_len Lib.itoa ts L V
    obtain ⟨Q, hQ⟩ : ∃ Q, Q = (resO Lib.itoa ts L V).2 := ⟨_, rfl⟩
    obtain ⟨qe, hqe⟩ : ∃ qe, qe = (resO Lib.itoa ts L V).1 := ⟨_, rfl⟩
    rw [← hQ, ← hqe] at c21 c30
    rw [← hQ] at hrl
    have c31 : ∀ h, ACalls Tryd.prog 31 [strs Q, strs Q] h (.bool true) h := fun h => by
      have := t143 Q.length Q.length (fun i => Q.getD i []) (fun i => Q.getD i []) h (by omega)
      rwa [eqS_self] at this
    have c24 := t24 n every h hp n0.1 n0.2 e0.1 e0.2
    have c28 := fun h => t28 n every h n0.1 n0.2 e0.1 e0.2
    obtain ⟨w, hw⟩ : ∃ w, w = (if rightO n every = true then rangeS n every else []) := ⟨_, rfl⟩
    obtain ⟨we, hwe⟩ : ∃ we : Int, we = (if rightO n every = true then 0 else 2) := ⟨_, rfl⟩
    rw [← hw, ← hwe] at c24 c28
    have c25 := t25 s h hp he (by omega)
    have c29 := fun h => t29 s h (by omega)
    rw [refP_eq] at c29
    obtain ⟨x, hx⟩ : ∃ x, x = (parR s).1 := ⟨_, rfl⟩
    obtain ⟨y, hy⟩ : ∃ y, y = (parR s).2.1 := ⟨_, rfl⟩
    obtain ⟨z, hz⟩ : ∃ z, z = (parR s).2.2 := ⟨_, rfl⟩
    rw [← hx, ← hy, ← hz] at c25 c29
    have hm : ∃ (A : List Int) (a : Int), A.length ≤ 100000 ∧ (∀ h, ACalls Tryd.prog 9 [.int .i64 n, .int .i64 every] h (.tup [intsV A, .int .i64 a]) h) ∧ ∀ h, ACalls Tryd.prog 27 [.int .i64 n, .int .i64 every] h (.tup [intsV A, .int .i64 a]) h := by
      by_cases hb : n < 0 ∨ 4096 < n ∨ every < 1 ∨ 4096 < every
      · exact ⟨[], 2, by simp, fun h => weak (L := []) (t9e n every h hb), fun h => t27e n every h hb⟩
      · obtain ⟨N, rfl⟩ : ∃ N : Nat, n = N := ⟨n.toNat, by omega⟩
        obtain ⟨E, rfl⟩ : ∃ E : Nat, every = E := ⟨every.toNat, by omega⟩
        refine ⟨margL E (N / E), 0, ?_, fun h => weak (t9 N E h (by omega) (by omega) (by omega)), fun h => t27 N E h (by omega) (by omega) (by omega)⟩
        rw [marg_len]
        have := Nat.div_le_self N E
        omega
    obtain ⟨A, a, hA, c9, c27⟩ := hm
    have c18 := fun h => u17v A A h (by omega)
    rw [decide_eq_true rfl] at c18
    unfold strs at ca cb c21 c30 c31
    unfold intsV at c9 c27 c18 c21 c30
    rcases hP with ⟨rfl, rfl⟩ | rfl
    · refine acalls_of fn7l (by simp) ?_
      simp only [List.length_cons, List.length_nil, Nat.reduceAdd, Nat.reduceSub, List.replicate, List.cons_append, List.nil_append, List.append_nil]
      simp (disch := omega) only [c7l, strs, intsV, k1, k2, q1, q2, q3, q4, go_sem, wrap64_id, Int.tdiv_eq_ediv_of_nonneg, Int.tmod_eq_emod_of_nonneg]
      repeat' first
        | ((first | refine callA_pure (ca _) ?_ ?_ | refine callA_pure (cb _) ?_ ?_ | refine callA_pure (c9 _) ?_ ?_ | refine callA_pure (c27 _) ?_ ?_ | refine callA_pure (c24) ?_ ?_ | refine callA_pure (c28 _) ?_ ?_ | refine callA_pure (c25) ?_ ?_ | refine callA_pure (c29 _) ?_ ?_ | refine callA_pure (c21) ?_ ?_ | refine callA_pure (c30 _) ?_ ?_ | refine callA_pure (c18 _) ?_ ?_ | refine callA_pure (c31 _) ?_ ?_ | refine callA_pure (c10 _) ?_ ?_); (next => repeat' first | exact flags_n | refine flags_c (by first | rfl | assumption) ?_); simp (disch := omega) only [strs, intsV, k1, k2, q1, q2, q3, q4, go_sem, wrap64_id, Int.tdiv_eq_ediv_of_nonneg, Int.tmod_eq_emod_of_nonneg])
        | ((first | refine callU_of (fun _ => ca _) ?_ ?_ | refine callU_of (fun _ => cb _) ?_ ?_ | refine callU_of (fun _ => c9 _) ?_ ?_ | refine callU_of (fun _ => c27 _) ?_ ?_ | refine callU_of (fun _ => c28 _) ?_ ?_ | refine callU_of (fun _ => c29 _) ?_ ?_ | refine callU_of (fun _ => c30 _) ?_ ?_ | refine callU_of (fun _ => c18 _) ?_ ?_ | refine callU_of (fun _ => c31 _) ?_ ?_ | refine callU_of (fun _ => c10 _) ?_ ?_); (next => repeat' first | exact flags_n | refine flags_c (by first | rfl | assumption) ?_); simp (disch := omega) only [strs, intsV, k1, k2, q1, q2, q3, q4, go_sem, wrap64_id, Int.tdiv_eq_ediv_of_nonneg, Int.tmod_eq_emod_of_nonneg])
        | ((first | refine callG_pure (fun e => ⟨?_, ca _⟩) ?_ | refine callG_pure (fun e => ⟨?_, cb _⟩) ?_ | refine callG_pure (fun e => ⟨?_, c9 _⟩) ?_ | refine callG_pure (fun e => ⟨?_, c27 _⟩) ?_ | refine callG_pure (fun e => ⟨?_, c24⟩) ?_ | refine callG_pure (fun e => ⟨?_, c28 _⟩) ?_ | refine callG_pure (fun e => ⟨?_, c25⟩) ?_ | refine callG_pure (fun e => ⟨?_, c29 _⟩) ?_ | refine callG_pure (fun e => ⟨?_, c21⟩) ?_ | refine callG_pure (fun e => ⟨?_, c30 _⟩) ?_ | refine callG_pure (fun e => ⟨?_, c18 _⟩) ?_ | refine callG_pure (fun e => ⟨?_, c31 _⟩) ?_ | refine callG_pure (fun e => ⟨?_, c10 _⟩) ?_); (next => repeat' first | exact flags_n | refine flags_c (by first | rfl | assumption) ?_); simp (disch := omega) only [strs, intsV, k1, k2, q1, q2, q3, q4, go_sem, wrap64_id, Int.tdiv_eq_ediv_of_nonneg, Int.tmod_eq_emod_of_nonneg])
        | ((first | refine fnQ_pure1 ?_ ?_ | refine fnQ_pure0 ?_ ?_); (next => repeat' first | exact rvs_n | refine rvs_t ?_ | (simp [go_sem]; done)); simp only [go_sem]; (first | exact VLe.refl _ | refine VLe_int ?_ | refine VLe_bool ?_ | refine VLe_str ?_ | skip))
        | (with_reducible refine And.intro ?_ ?_)
        | with_reducible intro _
      all_goals first
        | omega
        | (rename_i hx; revert hx; simp; done)
        | (simp; done)
        | skip
    · refine acalls_of fn7l (by simp) ?_
      simp only [List.length_cons, List.length_nil, Nat.reduceAdd, Nat.reduceSub, List.replicate, List.cons_append, List.nil_append, List.append_nil]
      simp (disch := omega) only [c7l, strs, intsV, k1, q1, q2, q3, q4, go_sem, wrap64_id, Int.tdiv_eq_ediv_of_nonneg, Int.tmod_eq_emod_of_nonneg]
      repeat' first
        | (refine callG_false ((.bool false)) ?_; simp (disch := omega) only [strs, intsV, k1, q1, q2, q3, q4, go_sem, wrap64_id, Int.tdiv_eq_ediv_of_nonneg, Int.tmod_eq_emod_of_nonneg])
        | ((first | refine callA_pure (ca _) ?_ ?_ | refine callA_pure (cb _) ?_ ?_ | refine callA_pure (c9 _) ?_ ?_ | refine callA_pure (c27 _) ?_ ?_ | refine callA_pure (c24) ?_ ?_ | refine callA_pure (c28 _) ?_ ?_ | refine callA_pure (c25) ?_ ?_ | refine callA_pure (c29 _) ?_ ?_ | refine callA_pure (c21) ?_ ?_ | refine callA_pure (c30 _) ?_ ?_ | refine callA_pure (c18 _) ?_ ?_ | refine callA_pure (c31 _) ?_ ?_ | refine callA_pure (c10 _) ?_ ?_); (next => repeat' first | exact flags_n | refine flags_c (by first | rfl | assumption) ?_); simp (disch := omega) only [strs, intsV, k1, q1, q2, q3, q4, go_sem, wrap64_id, Int.tdiv_eq_ediv_of_nonneg, Int.tmod_eq_emod_of_nonneg])
        | ((first | refine callU_of (fun _ => ca _) ?_ ?_ | refine callU_of (fun _ => cb _) ?_ ?_ | refine callU_of (fun _ => c9 _) ?_ ?_ | refine callU_of (fun _ => c27 _) ?_ ?_ | refine callU_of (fun _ => c28 _) ?_ ?_ | refine callU_of (fun _ => c29 _) ?_ ?_ | refine callU_of (fun _ => c30 _) ?_ ?_ | refine callU_of (fun _ => c18 _) ?_ ?_ | refine callU_of (fun _ => c31 _) ?_ ?_ | refine callU_of (fun _ => c10 _) ?_ ?_); (next => repeat' first | exact flags_n | refine flags_c (by first | rfl | assumption) ?_); simp (disch := omega) only [strs, intsV, k1, q1, q2, q3, q4, go_sem, wrap64_id, Int.tdiv_eq_ediv_of_nonneg, Int.tmod_eq_emod_of_nonneg])
        | ((first | refine callG_pure (fun e => ⟨?_, ca _⟩) ?_ | refine callG_pure (fun e => ⟨?_, cb _⟩) ?_ | refine callG_pure (fun e => ⟨?_, c9 _⟩) ?_ | refine callG_pure (fun e => ⟨?_, c27 _⟩) ?_ | refine callG_pure (fun e => ⟨?_, c24⟩) ?_ | refine callG_pure (fun e => ⟨?_, c28 _⟩) ?_ | refine callG_pure (fun e => ⟨?_, c25⟩) ?_ | refine callG_pure (fun e => ⟨?_, c29 _⟩) ?_ | refine callG_pure (fun e => ⟨?_, c21⟩) ?_ | refine callG_pure (fun e => ⟨?_, c30 _⟩) ?_ | refine callG_pure (fun e => ⟨?_, c18 _⟩) ?_ | refine callG_pure (fun e => ⟨?_, c31 _⟩) ?_ | refine callG_pure (fun e => ⟨?_, c10 _⟩) ?_); (next => repeat' first | exact flags_n | refine flags_c (by first | rfl | assumption) ?_); simp (disch := omega) only [strs, intsV, k1, q1, q2, q3, q4, go_sem, wrap64_id, Int.tdiv_eq_ediv_of_nonneg, Int.tmod_eq_emod_of_nonneg])
        | ((first | refine fnQ_pure1 ?_ ?_ | refine fnQ_pure0 ?_ ?_); (next => repeat' first | exact rvs_n | refine rvs_t ?_ | (simp [go_sem]; done)); simp only [go_sem]; (first | exact VLe.refl _ | refine VLe_int ?_ | refine VLe_bool ?_ | refine VLe_str ?_ | skip))
        | (with_reducible refine And.intro ?_ ?_)
        | with_reducible intro _
      all_goals first
        | omega
        | (rename_i hx; revert hx; simp; done)
        | (simp; done)
        | skip
  by_cases hx : 100 < n
  · exact fin True False (eq_true hx) (eq_false (by omega)) (.inl ⟨rfl, rfl⟩)
  · exact fin False _ (eq_false hx) rfl (.inr rfl)
end LN
end

section
open Go Go.Proofs AF HY P48 Go.ChangeShapes Go.RowKit
namespace LN
set_option maxRecDepth 100000
theorem gPow : Tryd.prog.globalNamed "internal/strconv.uint64pow10" = some 3 := by kernel_rfl
theorem gSyn : Tryd.prog.globalNamed "strconv.ErrSyntax" = some 1 := by kernel_rfl
theorem gRan : Tryd.prog.globalNamed "strconv.ErrRange" = some 2 := by kernel_rfl
theorem pow_same {w w' : World} (h : PowG w) (e : w'.heap[3]? = w.heap[3]?) : PowG w' := by
  unfold PowG Lib.TabIs at *
  rw [var_same gPow e]
  exact h
theorem star : "*" ++ "errors.errorString" = "*errors.errorString" := by decide
theorem row155 (u : TypeId) (h : Tryd.prog.typeName? 3 u = some "*errors.errorString") : u = 155 :=
  typeName_ptr_named (nm := "errors.errorString") (by rw [star]; kernel_rfl) (by kernel_rfl) (by decide) u (by rw [star]; exact h)
def err_bs : List Nat := [3, 1, 2]
def err_G (w : World) : Prop := PowG w ∧ ErrG w
theorem err_of {W : World} (h : laidMet Tryd.prog YtjijgafefdolkaaDoor.Rows.linenumberRangesRow.laid W) : PowG W ∧ ErrG W := by
  have h2 := laidMet.tail (laidMet.tail h)
  have h3 := laidMet.tail h2
  have h4 := laidMet.tail h3
  obtain ⟨a, s, e1, _⟩ := laid_sentinel (g := 2) (ti := 76) (tp := 155) (te := 157) (ts := 9) h3 gRan (by kernel_rfl) Tryd.underlying76 row155 Tryd.underlying155 Tryd.underlying157 rfl rfl Tryd.underlying9 (by kernel_rfl) (by kernel_rfl)
  obtain ⟨b, t, e2, _⟩ := laid_sentinel (g := 1) (ti := 76) (tp := 155) (te := 157) (ts := 9) h4 gSyn (by kernel_rfl) Tryd.underlying76 row155 Tryd.underlying155 Tryd.underlying157 rfl rfl Tryd.underlying9 (by kernel_rfl) (by kernel_rfl)
  exact ⟨Lib.tabIs_of_head (t := 152) (e := 115) (n := 20) gPow (by kernel_rfl) Tryd.underlying152 Tryd.underlying115 (by kernel_rfl) (by kernel_rfl) h2, ⟨_, _, e2⟩, _, _, e1⟩
theorem err_cells {W : World} (h : laidMet Tryd.prog YtjijgafefdolkaaDoor.Rows.linenumberRangesRow.laid W) : ∀ b, b ∈ err_bs → ∃ arr T fz, W.heap[b]? = some (.cells arr T fz) := by
  intro b hb
  obtain ⟨h1, ⟨_, _, h2⟩, _, _, h3⟩ := err_of h
  have e : b = 3 ∨ b = 1 ∨ b = 2 := by simpa [err_bs] using hb
  rcases e with rfl | rfl | rfl
  · exact var_cells gPow h1
  · exact var_cells gSyn h2
  · exact var_cells gRan h3
theorem err_stay {W : World} (h : laidMet Tryd.prog YtjijgafefdolkaaDoor.Rows.linenumberRangesRow.laid W) : ∀ w' : World, (∀ b, b ∈ err_bs → w'.heap[b]? = W.heap[b]?) → err_G w' := by
  intro w' hs
  obtain ⟨h1, ⟨t1, p1, h2⟩, t2, p2, h3⟩ := err_of h
  refine ⟨pow_same h1 (hs 3 (by simp [err_bs])), ⟨t1, p1, ?_⟩, t2, p2, ?_⟩
  · rw [var_same gSyn (hs 1 (by simp [err_bs]))]; exact h2
  · rw [var_same gRan (hs 2 (by simp [err_bs]))]; exact h3
theorem err_pins : Pins PowG [.pin err_bs err_G] := ⟨0, _, _, rfl, fun _ h => h.1⟩
theorem err_pins2 : Pins ErrG [.pin err_bs err_G] := ⟨0, _, _, rfl, fun _ h => h.2⟩
end LN
end

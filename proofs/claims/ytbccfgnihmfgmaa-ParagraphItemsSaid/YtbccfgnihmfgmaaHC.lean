import Derived.Test.YtbccfgnihmfgmaaHB
set_option linter.all false
set_option linter.unusedSimpArgs false
set_option linter.unusedVariables false
set_option linter.unusedSectionVars false
section
/-! the text D29 -/
open Go Go.Proofs AF HY P48
namespace HY
set_option maxRecDepth 100000
theorem t36m (l : List It) (k v : Nat) (h : List AObj) (hk : getO k h = some (.mem v 28 (cellsIt l))) (hl : l.length ≤ 9223372036854775807) : ACalls Try.prog 36 [.osl k v 6 0 l.length] h (.int .i64 (check l)) h := by
  refine ACalls.borrow ?_ rfl
  refine ACalls.le (t36 l [] hl) ?_ (VLe.refl _)
  simp only [List.map_cons, List.map_nil, rei_osl, if_true, hk]
  rw [slOf_mem, if_pos ⟨rfl, by rw [cellsIt_len]; omega⟩]
  simp only [Nat.zero_add]
  exact VLes2 (sl_items rfl) VLes.nil
theorem mem_parts {s : Sty} {l : List (List UInt8)} : ∀ {n k : Nat}, k < n → (⟨1, s.le * ((clus (l.getD k [])).length : Int), 0, 0, 0, l.getD k []⟩ : It) ∈ partsI s l n := by
  intro n
  induction n with
  | zero => intro k hk; omega
  | succ n ih =>
    intro k hk
    rw [partsI_succ]
    by_cases e : k = n
    · subst e
      exact List.mem_append_right _ (List.mem_append_right _ (by simp))
    · exact List.mem_append_left _ (ih (by omega))
theorem mem_words {s : Sty} {ps : List Pat} {ws : List Wd} {y : It} : ∀ {n i : Nat}, i < n → y ∈ wordI s ps i (ws.getD i default) → y ∈ wordsI s ps ws n := by
  intro n
  induction n with
  | zero => intro k hk; omega
  | succ n ih =>
    intro i hi hy
    rw [wordsI_succ]
    by_cases e : i = n
    · subst e; exact List.mem_append_right _ hy
    · exact List.mem_append_left _ (ih (by omega) hy)
theorem big_check {l : List It} {y : It} (hy : y ∈ l) (hw : 1073741824 < y.width) : check l ≠ 0 := by
  intro hc
  have h1 := check_ok hc y hy
  have h2 := checkItem_iff.1 h1
  obtain ⟨a1, a2, a3, a4, a5, a6, a7, a8, a9, b1, b2, b3⟩ := h2
  omega
theorem any_wd {ws : List Wd} {i : Nat} (h : i < ws.length) (hb : badWd (ws.getD i default) = true) : ws.any badWd = true := by
  rw [List.any_eq_true]
  refine ⟨ws[i], List.getElem_mem h, ?_⟩
  rw [List.getD_eq_getElem?_getD, List.getElem?_eq_getElem h] at hb
  exact hb
set_option maxHeartbeats 16000000 in
theorem t33 (s : Sty) (x : List AV) (ps : List Pat) (ws : List Wd) (h : List AObj) (hok : okPats ps) (hws : ws.length ≤ 10000) : ACalls Try.prog 33 [.agg (styC s x), patsV ps, wordsV ws] h (tupE (itemsR s ps ws) (itemsE s ps ws)) h := by
  have c69 := fun h => t69 ps h hok
  unfold itemsR
  by_cases g0 : rangeOk s = true
  case neg =>
    have g0' : rangeOk s = false := by simpa using g0
    have e0 : itemsE s ps ws = 2 := by unfold itemsE; rw [if_pos g0']
    rw [e0, if_neg (by decide)]
    refine acalls_of fn33 (by simp) ?_
    simp only [List.length_cons, List.length_nil, Nat.reduceAdd, Nat.reduceSub, List.replicate, List.cons_append, List.nil_append, List.append_nil]
    simp (disch := omega) only [c33, styC, go_sem, wrap64_id, Int.tdiv_eq_ediv_of_nonneg, Int.tmod_eq_emod_of_nonneg]
    repeat' first
      | ((first | refine callA_pure (t68 _ _) ?_ ?_); (next => repeat' first | exact flags_n | refine flags_c (by first | rfl | assumption) ?_); simp (disch := omega) only [styC, go_sem, wrap64_id, Int.tdiv_eq_ediv_of_nonneg, Int.tmod_eq_emod_of_nonneg])
      | ((first | refine callG_pure (fun e => ⟨?_, t68 _ _⟩) ?_); (next => repeat' first | exact flags_n | refine flags_c (by first | rfl | assumption) ?_); simp (disch := omega) only [styC, go_sem, wrap64_id, Int.tdiv_eq_ediv_of_nonneg, Int.tmod_eq_emod_of_nonneg])
      | ((first | refine fnQ_pure1 ?_ ?_ | refine fnQ_pure0 ?_ ?_); (next => repeat' first | exact rvs_n | refine rvs_t ?_ | (simp [go_sem]; done)); simp only [go_sem]; (first | exact VLe.refl _ | refine VLe_int ?_ | refine VLe_bool ?_ | refine VLe_str ?_ | skip))
      | (with_reducible refine And.intro ?_ ?_)
      | with_reducible intro _
    all_goals first
      | omega
      | (rename_i hx; revert hx; simp; done)
      | (simp; done)
      | skip
    · exact tupE_nil
    · rename_i hx
      exfalso
      apply g0
      unfold rangeOk
      obtain ⟨⟨⟨⟨⟨a1, a2⟩, a3⟩, a4⟩, a5⟩, a6⟩ := hx
      rw [a1, a2 a1, a3, a4]
      simp
      omega
  have g0' := g0
  unfold rangeOk at g0'
  simp only [Bool.and_eq_true, decide_eq_true_eq] at g0'
  obtain ⟨a1, a2, a3, a4, a5, a6⟩ := g0'
  obtain ⟨b1, b2⟩ := isLen_iff a1
  have k5 : (s.hy < 0) = False := eq_false (by omega)
  have k6 : (10000 < s.hy) = False := eq_false (by omega)
  by_cases g1 : checkPats ps = 0
  case neg =>
    have e0 : itemsE s ps ws = 1 := by unfold itemsE; rw [if_neg (by rw [g0]; simp), if_pos (.inl g1)]
    rw [e0, if_neg (by decide)]
    refine acalls_of fn33 (by simp) ?_
    simp only [List.length_cons, List.length_nil, Nat.reduceAdd, Nat.reduceSub, List.replicate, List.cons_append, List.nil_append, List.append_nil]
    simp (disch := omega) only [c33, styC, a1, a2, a3, a4, k5, k6, go_sem, wrap64_id, Int.tdiv_eq_ediv_of_nonneg, Int.tmod_eq_emod_of_nonneg]
    repeat' first
      | ((first | refine callA_pure (t68 _ _) ?_ ?_ | refine callA_pure (c69 _) ?_ ?_); (next => repeat' first | exact flags_n | refine flags_c (by first | rfl | assumption) ?_); simp (disch := omega) only [styC, a1, a2, a3, a4, k5, k6, g1, go_sem, wrap64_id, Int.tdiv_eq_ediv_of_nonneg, Int.tmod_eq_emod_of_nonneg])
      | ((first | refine callG_pure (fun e => ⟨?_, t68 _ _⟩) ?_ | refine callG_pure (fun e => ⟨?_, c69 _⟩) ?_); (next => repeat' first | exact flags_n | refine flags_c (by first | rfl | assumption) ?_); simp (disch := omega) only [styC, a1, a2, a3, a4, k5, k6, g1, go_sem, wrap64_id, Int.tdiv_eq_ediv_of_nonneg, Int.tmod_eq_emod_of_nonneg])
      | ((first | refine fnQ_pure1 ?_ ?_ | refine fnQ_pure0 ?_ ?_); (next => repeat' first | exact rvs_n | refine rvs_t ?_ | (simp [go_sem]; done)); simp only [go_sem]; (first | exact VLe.refl _ | refine VLe_int ?_ | refine VLe_bool ?_ | refine VLe_str ?_ | skip))
      | (with_reducible refine And.intro ?_ ?_)
      | with_reducible intro _
    all_goals first
      | omega
      | (rename_i hx; revert hx; simp; done)
      | (simp; done)
      | skip
    exact tupE_nil
  rw [g1] at c69
  refine acalls_of fn33 (by simp) ?_
  simp only [List.length_cons, List.length_nil, Nat.reduceAdd, Nat.reduceSub, List.replicate, List.cons_append, List.nil_append, List.append_nil]
  simp (disch := omega) only [c33, styC, a1, a2, a3, a4, k5, k6, go_sem, wrap64_id, Int.tdiv_eq_ediv_of_nonneg, Int.tmod_eq_emod_of_nonneg]
  repeat' first
    | ((first | refine callA_pure (t68 _ _) ?_ ?_ | refine callA_pure (c69 _) ?_ ?_); (next => repeat' first | exact flags_n | refine flags_c (by first | rfl | assumption) ?_); simp (disch := omega) only [styC, a1, a2, a3, a4, k5, k6, go_sem, wrap64_id, Int.tdiv_eq_ediv_of_nonneg, Int.tmod_eq_emod_of_nonneg])
    | ((first | refine callG_pure (fun e => ⟨?_, t68 _ _⟩) ?_ | refine callG_pure (fun e => ⟨?_, c69 _⟩) ?_); (next => repeat' first | exact flags_n | refine flags_c (by first | rfl | assumption) ?_); simp (disch := omega) only [styC, a1, a2, a3, a4, k5, k6, go_sem, wrap64_id, Int.tdiv_eq_ediv_of_nonneg, Int.tmod_eq_emod_of_nonneg])
    | ((first | refine fnQ_pure1 ?_ ?_ | refine fnQ_pure0 ?_ ?_); (next => repeat' first | exact rvs_n | refine rvs_t ?_ | (simp [go_sem]; done)); simp only [go_sem]; (first | exact VLe.refl _ | refine VLe_int ?_ | refine VLe_bool ?_ | refine VLe_str ?_ | skip))
    | (with_reducible refine And.intro ?_ ?_)
    | with_reducible intro _
  all_goals first
    | omega
    | (rename_i hx; revert hx; simp; done)
    | (simp; done)
    | skip
  refine loop_of (T := fun i : Nat => spar 167 [(1, patsV ps), (2, wordsV ws), (3, .op h.length 1 0), (8, .int .i64 i)]) (H := fun i => h ++ [.mem 1 58 (styC s x), .emp 1, .emp 0, .emp 0, .emp 0, .emp 0, .emp 0, .emp 0, .emp 0, .emp 0, .emp 0])
    (inv := fun i => i ≤ ws.length ∧ ∀ j, j < i → badWd (ws.getD j default) = false) (m := fun i => ws.length - i) 0 ⟨by omega, by omega⟩ (Wk.temps ?_) ?_
  · (simp only [spar, List.foldl, List.replicate, go_sem, VLes_nil, VLes_cons, VLe_undef_iff, VLe_self]; try (repeat' first | (with_reducible refine And.intro ?_ ?_) | (refine VLe_int ?_; omega) | (refine VLe_bool ?_; rfl) | exact VLe.refl _))
  rintro i ⟨i1, i2⟩ K hK
  by_cases hi : i < ws.length
  · obtain ⟨w, hwe⟩ : ∃ w, w = ws.getD i default := ⟨_, rfl⟩
    have ewd := hwe.symm
    cases hb : badWd w with
    | true =>
      have hany := any_wd hi (by rw [ewd]; exact hb)
      have e0 : itemsE s ps ws = 1 := by unfold itemsE; rw [if_neg (by rw [g0]; simp), if_pos (.inr hany)]
      rw [e0, if_neg (by decide)]
      unfold badWd at hb
      simp only [Bool.or_eq_true, decide_eq_true_eq] at hb
      by_cases g : w.text = []
      · have k : (w.text = []) = True := eq_true g
        simp (disch := omega) only [spar, List.foldl, List.replicate, wordsV, wordC, ewd, k, go_sem, wrap64_id, Int.tdiv_eq_ediv_of_nonneg, Int.tmod_eq_emod_of_nonneg]
        repeat' first
          | ((first | refine fnQ_pure1 ?_ ?_ | refine fnQ_pure0 ?_ ?_); (next => repeat' first | exact rvs_n | refine rvs_t ?_ | (simp [go_sem]; done)); simp only [go_sem]; (first | exact VLe.refl _ | refine VLe_int ?_ | refine VLe_bool ?_ | refine VLe_str ?_ | skip))
          | (with_reducible refine And.intro ?_ ?_)
          | with_reducible intro _
        all_goals first
          | omega
          | (rename_i hx; revert hx; simp; done)
          | (simp; done)
          | skip
        exact tupE_nil
      · have k : (w.text = []) = False := eq_false g
        have k2 : (64 < (w.text.length : Int)) = True := eq_true (by rcases hb with hb | hb; exact absurd hb g; omega)
        simp (disch := omega) only [spar, List.foldl, List.replicate, wordsV, wordC, ewd, k, k2, go_sem, wrap64_id, Int.tdiv_eq_ediv_of_nonneg, Int.tmod_eq_emod_of_nonneg]
        repeat' first
          | ((first | refine fnQ_pure1 ?_ ?_ | refine fnQ_pure0 ?_ ?_); (next => repeat' first | exact rvs_n | refine rvs_t ?_ | (simp [go_sem]; done)); simp only [go_sem]; (first | exact VLe.refl _ | refine VLe_int ?_ | refine VLe_bool ?_ | refine VLe_str ?_ | skip))
          | (with_reducible refine And.intro ?_ ?_)
          | with_reducible intro _
        all_goals first
          | omega
          | (rename_i hx; revert hx; simp; done)
          | (simp; done)
          | skip
        exact tupE_nil
    | false =>
      have hb' := hb
      unfold badWd at hb
      simp only [Bool.or_eq_false_iff, decide_eq_false_iff_not] at hb
      have k : (w.text = []) = False := eq_false hb.1
      have k2 : (64 < (w.text.length : Int)) = False := eq_false (by omega)
      simp (disch := omega) only [spar, List.foldl, List.replicate, wordsV, wordC, ewd, k, k2, go_sem, wrap64_id, Int.tdiv_eq_ediv_of_nonneg, Int.tmod_eq_emod_of_nonneg]
      repeat' first
        | ((first | refine fnQ_pure1 ?_ ?_ | refine fnQ_pure0 ?_ ?_); (next => repeat' first | exact rvs_n | refine rvs_t ?_ | (simp [go_sem]; done)); simp only [go_sem]; (first | exact VLe.refl _ | refine VLe_int ?_ | refine VLe_bool ?_ | refine VLe_str ?_ | skip))
        | (with_reducible refine And.intro ?_ ?_)
        | with_reducible intro _
      all_goals first
        | omega
        | (rename_i hx; revert hx; simp; done)
        | (simp; done)
        | skip
      refine hK _ _ (i + 1) ⟨by omega, fun j hj => ?_⟩ (by omega) (Wk.temps ?_)
      · by_cases e : j = i
        · subst e; rw [ewd]; exact hb'
        · exact i2 j (by omega)
      · (simp only [wordsV, wordC, spar, List.foldl, List.replicate, go_sem, VLes_nil, VLes_cons, VLe_undef_iff, VLe_self]; try (repeat' first | (with_reducible refine And.intro ?_ ?_) | (refine VLe_int ?_; omega) | (refine VLe_bool ?_; rfl) | exact VLe.refl _))
  have g2 : ws.any badWd = false := by
    rw [List.any_eq_false]
    intro y hy
    obtain ⟨j, hj, rfl⟩ := List.mem_iff_getElem.1 hy
    have := i2 j (by omega)
    rw [List.getD_eq_getElem?_getD, List.getElem?_eq_getElem hj] at this
    simpa using this
  have hil : i = ws.length := by omega
  subst hil
  clear i1 i2 hi hK
  by_cases g3 : 4096 < ws.length
  case pos =>
    have e0 : itemsE s ps ws = 4 := by unfold itemsE; rw [if_neg (by rw [g0]; simp), if_neg (by rw [g1, g2]; simp), if_pos g3]
    rw [e0, if_neg (by decide)]
    have k3 : (4096 < (ws.length : Int)) = True := eq_true (by omega)
    simp (disch := omega) only [spar, List.foldl, List.replicate, wordsV, k3, go_sem, wrap64_id, Int.tdiv_eq_ediv_of_nonneg, Int.tmod_eq_emod_of_nonneg]
    repeat' first
      | ((first | refine fnQ_pure1 ?_ ?_ | refine fnQ_pure0 ?_ ?_); (next => repeat' first | exact rvs_n | refine rvs_t ?_ | (simp [go_sem]; done)); simp only [go_sem]; (first | exact VLe.refl _ | refine VLe_int ?_ | refine VLe_bool ?_ | refine VLe_str ?_ | skip))
      | (with_reducible refine And.intro ?_ ?_)
      | with_reducible intro _
    all_goals first
      | omega
      | (rename_i hx; revert hx; simp; done)
      | (simp; done)
      | skip
    exact tupE_nil
  have k3 : (4096 < (ws.length : Int)) = False := eq_false (by omega)
  have e0 : itemsE s ps ws = if check (wordsI s ps ws ws.length) ≠ 0 then 4 else 0 := by unfold itemsE; rw [if_neg (by rw [g0]; simp), if_neg (by rw [g1, g2]; simp), if_neg g3]
  rw [e0]
  have hgw := fun i hi => good_wd (ws := ws) g2 (i := i) hi
  have hwl := fun n hn => wordsI_len s ps ws hgw n hn
  simp (disch := omega) only [spar, List.foldl, List.replicate, wordsV, k3, madeA, go_sem, wrap64_id, Int.tdiv_eq_ediv_of_nonneg, Int.tmod_eq_emod_of_nonneg]
  repeat' first
    | ((first | refine fnQ_pure1 ?_ ?_ | refine fnQ_pure0 ?_ ?_); (next => repeat' first | exact rvs_n | refine rvs_t ?_ | (simp [go_sem]; done)); simp only [go_sem]; (first | exact VLe.refl _ | refine VLe_int ?_ | refine VLe_bool ?_ | refine VLe_str ?_ | skip))
    | (with_reducible refine And.intro ?_ ?_)
    | with_reducible intro _
  all_goals first
    | omega
    | (rename_i hx; revert hx; simp; done)
    | (simp; done)
    | skip
  refine loop_of (T := fun i : Nat × Nat × AObj × AObj × AObj × AObj => spar 167 [(1, patsV ps), (2, wordsV ws), (3, .op h.length 1 0), (9, .osl (h.length + 2) i.2.1 6 0 (wordsI s ps ws i.1).length), (10, .int .i64 i.1)])
    (H := fun i => h ++ [.mem 1 58 (styC s x), .emp 1, .mem i.2.1 28 (cellsIt (wordsI s ps ws i.1)), i.2.2.1, .emp 0, i.2.2.2.1, .emp 0, i.2.2.2.2.1, .emp 0, i.2.2.2.2.2, .emp 0])
    (inv := fun i => i.1 ≤ ws.length ∧ site [i.2.2.1] 0 = true ∧ site [i.2.2.2.1] 0 = true ∧ site [i.2.2.2.2.1] 0 = true ∧ site [i.2.2.2.2.2] 0 = true) (m := fun i => ws.length - i.1) (0, 1, .emp 0, .emp 0, .emp 0, .emp 0) ⟨by simp, rfl, rfl, rfl, rfl⟩ (Wk.temps ?_) ?_
  · (simp only [wordsV, spar, List.foldl, List.replicate, go_sem, VLes_nil, VLes_cons, VLe_undef_iff, VLe_self]; try (repeat' first | (with_reducible refine And.intro ?_ ?_) | (refine VLe_int ?_; omega) | (refine VLe_bool ?_; rfl) | exact VLe.refl _))
  rintro ⟨i, v, O4, O6, O8, O10⟩ ⟨i1, i4, i6, i8, i10⟩ K hK
  simp only at i1 i4 i6 i8 i10 hK
  have i4' : ∀ m, site (O4 :: m) 0 = true := fun _ => i4
  have i6' : ∀ m, site (O6 :: m) 0 = true := fun _ => i6
  have i8' : ∀ m, site (O8 :: m) 0 = true := fun _ => i8
  have i10' : ∀ m, site (O10 :: m) 0 = true := fun _ => i10
  by_cases hi : i < ws.length
  case neg =>
    have e : i = ws.length := by omega
    subst e
    have hll := hwl ws.length (Nat.le_refl _)
    have c36 := fun (H : List AObj) (hh : getO (h.length + 2) H = some (.mem v 28 (cellsIt (wordsI s ps ws ws.length)))) => t36m (wordsI s ps ws ws.length) (h.length + 2) v H hh (by omega)
    have fcl := cellsIt_len (wordsI s ps ws ws.length)
    by_cases g4 : check (wordsI s ps ws ws.length) = 0
    · rw [if_neg (show ¬ check (wordsI s ps ws ws.length) ≠ 0 by simpa using g4), if_pos rfl]
      simp (disch := omega) only [spar, List.foldl, List.replicate, wordsV, go_sem, wrap64_id, Int.tdiv_eq_ediv_of_nonneg, Int.tmod_eq_emod_of_nonneg]
      repeat' first
        | ((first | refine callA_pure (c36 _ (by simp only [go_sem])) ?_ ?_); (next => repeat' first | exact flags_n | refine flags_c (by first | rfl | assumption) ?_); simp (disch := omega) only [g4, fcl, go_sem, wrap64_id, Int.tdiv_eq_ediv_of_nonneg, Int.tmod_eq_emod_of_nonneg])
        | ((first | refine callG_pure (fun e => ⟨?_, c36 _ (by simp only [go_sem])⟩) ?_); (next => repeat' first | exact flags_n | refine flags_c (by first | rfl | assumption) ?_); simp (disch := omega) only [g4, fcl, go_sem, wrap64_id, Int.tdiv_eq_ediv_of_nonneg, Int.tmod_eq_emod_of_nonneg])
        | ((first | refine fnQ_pure1 ?_ ?_ | refine fnQ_pure0 ?_ ?_); (next => repeat' first | exact rvs_n | refine rvs_t ?_ | (simp [go_sem]; done)); simp only [go_sem]; (first | exact VLe.refl _ | refine VLe_int ?_ | refine VLe_bool ?_ | refine VLe_str ?_ | skip))
        | (with_reducible refine And.intro ?_ ?_)
        | with_reducible intro _
      all_goals first
        | omega
        | (rename_i hx; revert hx; simp; done)
        | (simp; done)
        | skip
      exact tupE_of (by rw [if_pos (by rw [fcl]; exact Nat.le_refl _)]; exact sl_items rfl)
    · rw [if_pos g4, if_neg (by decide)]
      simp (disch := omega) only [spar, List.foldl, List.replicate, wordsV, go_sem, wrap64_id, Int.tdiv_eq_ediv_of_nonneg, Int.tmod_eq_emod_of_nonneg]
      repeat' first
        | ((first | refine callA_pure (c36 _ (by simp only [go_sem])) ?_ ?_); (next => repeat' first | exact flags_n | refine flags_c (by first | rfl | assumption) ?_); simp (disch := omega) only [g4, go_sem, wrap64_id, Int.tdiv_eq_ediv_of_nonneg, Int.tmod_eq_emod_of_nonneg])
        | ((first | refine callG_pure (fun e => ⟨?_, c36 _ (by simp only [go_sem])⟩) ?_); (next => repeat' first | exact flags_n | refine flags_c (by first | rfl | assumption) ?_); simp (disch := omega) only [g4, go_sem, wrap64_id, Int.tdiv_eq_ediv_of_nonneg, Int.tmod_eq_emod_of_nonneg])
        | ((first | refine fnQ_pure1 ?_ ?_ | refine fnQ_pure0 ?_ ?_); (next => repeat' first | exact rvs_n | refine rvs_t ?_ | (simp [go_sem]; done)); simp only [go_sem]; (first | exact VLe.refl _ | refine VLe_int ?_ | refine VLe_bool ?_ | refine VLe_str ?_ | skip))
        | (with_reducible refine And.intro ?_ ?_)
        | with_reducible intro _
      all_goals first
        | omega
        | (rename_i hx; revert hx; simp; done)
        | (simp; done)
        | skip
      exact tupE_nil
  have hw64 := hgw i hi
  have hnx := hwl (i + 1) (by omega)
  have hcur := hwl i (by omega)
  have hsu := wordsI_succ s ps ws i
  have hmw := fun y => @mem_words s ps ws y ws.length i hi
  obtain ⟨w, hwe⟩ : ∃ w, w = ws.getD i default := ⟨_, rfl⟩
  have ewd := hwe.symm
  rw [ewd] at hw64 hsu hmw
  obtain ⟨L, hL⟩ : ∃ L, L = wordsI s ps ws i := ⟨_, rfl⟩
  have eL := hL.symm
  rw [eL] at hcur hsu ⊢
  have c70 := fun h => t70 ps w.text h hok (by omega) g1
  have hpl := partsP_len ps w.text
  have hprt := part_le ps w.text
  obtain ⟨l, hle⟩ : ∃ l, l = partsP ps w.text := ⟨_, rfl⟩
  have hwi : wordI s ps i w = sepI s i w ++ partsI s l l.length := by rw [hle]; rfl
  rw [← hle] at c70 hpl hprt
  have ec := cellsIt_len L
  have et := cellsIt_take L
  have hit : ∀ y : It, cellsIt L ++ [AV.int .i64 y.kind, .int .i64 y.width, .int .i64 y.stretch, .int .i64 y.shrink, .int .i64 y.penalty, .str y.text] = cellsIt (L ++ [y]) := fun y => cellsIt_snoc1 L y
  by_cases g5 : i = 0
  · have k1 : (0 < (i : Int)) = False := eq_false (by omega)
    have hsp : sepI s i w = [] := by unfold sepI; rw [if_pos g5]
    obtain ⟨L1, hL1⟩ : ∃ L1, L1 = L ++ sepI s i w := ⟨_, rfl⟩
    have hl1 : L1.length ≤ 200 * i + 1 := by rw [hL1, List.length_append]; have := sepI_len s i w; omega
    simp (disch := omega) only [spar, List.foldl, List.replicate, wordsV, wordC, ewd, styC, strs, k1, i4', i6', madeA1, ec, et, go_sem, wrap64_id, Int.tdiv_eq_ediv_of_nonneg, Int.tmod_eq_emod_of_nonneg]
    repeat' first
      | ((first | refine callA_pure (c70 _) ?_ ?_); (next => repeat' first | exact flags_n | refine flags_c (by first | rfl | assumption) ?_); simp (disch := omega) only [wordsV, wordC, ewd, styC, strs, k1, i4', i6', madeA1, ec, et, go_sem, wrap64_id, Int.tdiv_eq_ediv_of_nonneg, Int.tmod_eq_emod_of_nonneg])
      | ((first | refine callG_pure (fun e => ⟨?_, c70 _⟩) ?_); (next => repeat' first | exact flags_n | refine flags_c (by first | rfl | assumption) ?_); simp (disch := omega) only [wordsV, wordC, ewd, styC, strs, k1, i4', i6', madeA1, ec, et, go_sem, wrap64_id, Int.tdiv_eq_ediv_of_nonneg, Int.tmod_eq_emod_of_nonneg])
      | ((first | refine fnQ_pure1 ?_ ?_ | refine fnQ_pure0 ?_ ?_); (next => repeat' first | exact rvs_n | refine rvs_t ?_ | (simp [go_sem]; done)); simp only [go_sem]; (first | exact VLe.refl _ | refine VLe_int ?_ | refine VLe_bool ?_ | refine VLe_str ?_ | skip))
      | (with_reducible refine And.intro ?_ ?_)
      | with_reducible intro _
    all_goals first
      | omega
      | (rename_i hx; revert hx; simp; done)
      | (simp; done)
      | skip
    rw [show L = L1 by rw [hL1, hsp, List.append_nil]]
    rw [show cellsIt L1 = cellsIt (L1 ++ partsI s l 0) by rw [partsI_zero, List.append_nil], show L1.length = (L1 ++ partsI s l 0).length by rw [partsI_zero, List.append_nil]]
    refine loop_of (T := fun k : Nat × Nat × AObj × AObj => spar 167 [(1, patsV ps), (2, wordsV ws), (3, .op h.length 1 0), (9, .osl (h.length + 2) k.2.1 6 0 (L1 ++ partsI s l k.1).length), (10, .int .i64 i), (11, strs l), (12, .int .i64 k.1)])
      (H := fun k => h ++ [.mem 1 58 (styC s x), .emp 1, .mem k.2.1 28 (cellsIt (L1 ++ partsI s l k.1)), O4, .emp 0, O6, .emp 0, k.2.2.1, .emp 0, k.2.2.2, .emp 0])
      (inv := fun k => k.1 ≤ l.length ∧ site [k.2.2.1] 0 = true ∧ site [k.2.2.2] 0 = true) (m := fun k => l.length - k.1) (0, v, O8, O10) ⟨by simp, i8, i10⟩ (Wk.temps ?_) ?_
    · (simp only [wordsV, strs, spar, List.foldl, List.replicate, go_sem, VLes_nil, VLes_cons, VLe_undef_iff, VLe_self]; try (repeat' first | (with_reducible refine And.intro ?_ ?_) | (refine VLe_int ?_; omega) | (refine VLe_bool ?_; rfl) | exact VLe.refl _))
    rintro ⟨k, v2, P8, P10⟩ ⟨j1, j8, j10⟩ K2 hK2
    simp only at j1 j8 j10 hK2
    have j8' : ∀ m, site (P8 :: m) 0 = true := fun _ => j8
    have j10' : ∀ m, site (P10 :: m) 0 = true := fun _ => j10
    have hpk := partsI_len s l k
    obtain ⟨M, hM⟩ : ∃ M, M = L1 ++ partsI s l k := ⟨_, rfl⟩
    have hml : M.length ≤ 200 * i + 1 + 2 * k := by rw [hM, List.length_append]; omega
    rw [← hM]
    have fc := cellsIt_len M
    have ft := cellsIt_take M
    have fit : ∀ y : It, cellsIt M ++ [AV.int .i64 y.kind, .int .i64 y.width, .int .i64 y.stretch, .int .i64 y.shrink, .int .i64 y.penalty, .str y.text] = cellsIt (M ++ [y]) := fun y => cellsIt_snoc1 M y
    by_cases hk : k < l.length
    · have hsk := partsI_succ s l k
      have hpk2 := hprt k
      have hmp := @mem_parts s l l.length k hk
      obtain ⟨u, hu⟩ : ∃ u, u = l.getD k [] := ⟨_, rfl⟩
      have eu := hu.symm
      rw [eu] at hsk hpk2 hmp
      have hbig := hmw _ (by rw [hwi]; exact List.mem_append_right _ hmp)
      have hcu := clus_len u
      have c71 := fun h => t71 u h (by omega)
      obtain ⟨m1, m2⟩ := mul_small (n := (clus u).length) b1 b2 (by omega)
      have qd0 : 0 ≤ 1073741824 / ((clus u).length : Int) := Int.ediv_nonneg (by omega) (by omega)
      have qd1 : 1073741824 / ((clus u).length : Int) ≤ 1073741824 := Int.ediv_le_self _ (by omega)
      have qw : IntKind.i64.wrap (1073741824 / ((clus u).length : Int)) = 1073741824 / ((clus u).length : Int) := wrap64_id (by omega) (by omega)
      have hmc : ((clus u).length : Int) * s.le = s.le * ((clus u).length : Int) := Int.mul_comm _ _
      by_cases hbg : s.le * ((clus u).length : Int) ≤ 1073741824
      case neg =>
        have hch : check (wordsI s ps ws ws.length) ≠ 0 := big_check hbig (by simp only; omega)
        rw [if_pos hch, if_neg (by decide)]
        have hn0 : 0 < (clus u).length := by
          rcases Nat.eq_zero_or_pos (clus u).length with e | e
          · rw [e] at hbg; simp at hbg
          · exact e
        have q1 : (0 < ((clus u).length : Int)) = True := eq_true (by omega)
        have q2 : (1073741824 / ((clus u).length : Int) < s.le) = True := eq_true (by
          by_cases hx : 1073741824 / ((clus u).length : Int) < s.le
          · exact hx
          · exact absurd ((Int.le_ediv_iff_mul_le (by omega)).1 (Int.not_lt.1 hx)) hbg)
        by_cases hk0 : k = 0
        · have k7 : (0 < (k : Int)) = False := eq_false (by omega)
          simp (disch := omega) only [spar, List.foldl, List.replicate, strs, styC, eu, k7, q1, q2, qw, j8', j10', madeA1, fc, ft, go_sem, wrap64_id, Int.tdiv_eq_ediv_of_nonneg, Int.tmod_eq_emod_of_nonneg]
          repeat' first
            | ((first | refine callA_pure (c71 _) ?_ ?_); (next => repeat' first | exact flags_n | refine flags_c (by first | rfl | assumption) ?_); simp (disch := omega) only [strs, styC, eu, k7, q1, q2, qw, j8', j10', madeA1, fc, ft, go_sem, wrap64_id, Int.tdiv_eq_ediv_of_nonneg, Int.tmod_eq_emod_of_nonneg])
            | ((first | refine callG_pure (fun e => ⟨?_, c71 _⟩) ?_); (next => repeat' first | exact flags_n | refine flags_c (by first | rfl | assumption) ?_); simp (disch := omega) only [strs, styC, eu, k7, q1, q2, qw, j8', j10', madeA1, fc, ft, go_sem, wrap64_id, Int.tdiv_eq_ediv_of_nonneg, Int.tmod_eq_emod_of_nonneg])
            | ((first | refine fnQ_pure1 ?_ ?_ | refine fnQ_pure0 ?_ ?_); (next => repeat' first | exact rvs_n | refine rvs_t ?_ | (simp [go_sem]; done)); simp only [go_sem]; (first | exact VLe.refl _ | refine VLe_int ?_ | refine VLe_bool ?_ | refine VLe_str ?_ | skip))
            | (with_reducible refine And.intro ?_ ?_)
            | with_reducible intro _
          all_goals first
            | omega
            | (rename_i hx; revert hx; simp; done)
            | (simp; done)
            | skip
          exact tupE_nil
        · have k7 : (0 < (k : Int)) = True := eq_true (by omega)
          simp (disch := omega) only [spar, List.foldl, List.replicate, strs, styC, eu, k7, q1, q2, qw, j8', j10', madeA1, fc, ft, go_sem, wrap64_id, Int.tdiv_eq_ediv_of_nonneg, Int.tmod_eq_emod_of_nonneg]
          repeat' first
            | ((first | refine callA_pure (c71 _) ?_ ?_); (next => repeat' first | exact flags_n | refine flags_c (by first | rfl | assumption) ?_); simp (disch := omega) only [strs, styC, eu, k7, q1, q2, qw, j8', j10', madeA1, fc, ft, go_sem, wrap64_id, Int.tdiv_eq_ediv_of_nonneg, Int.tmod_eq_emod_of_nonneg])
            | ((first | refine callG_pure (fun e => ⟨?_, c71 _⟩) ?_); (next => repeat' first | exact flags_n | refine flags_c (by first | rfl | assumption) ?_); simp (disch := omega) only [strs, styC, eu, k7, q1, q2, qw, j8', j10', madeA1, fc, ft, go_sem, wrap64_id, Int.tdiv_eq_ediv_of_nonneg, Int.tmod_eq_emod_of_nonneg])
            | ((first | refine fnQ_pure1 ?_ ?_ | refine fnQ_pure0 ?_ ?_); (next => repeat' first | exact rvs_n | refine rvs_t ?_ | (simp [go_sem]; done)); simp only [go_sem]; (first | exact VLe.refl _ | refine VLe_int ?_ | refine VLe_bool ?_ | refine VLe_str ?_ | skip))
            | (with_reducible refine And.intro ?_ ?_)
            | with_reducible intro _
          all_goals first
            | omega
            | (rename_i hx; revert hx; simp; done)
            | (simp; done)
            | skip
          exact tupE_nil
      have q2 : 0 < (clus u).length → (1073741824 / ((clus u).length : Int) < s.le) = False := fun hn0 => eq_false (by
        have := (Int.le_ediv_iff_mul_le (show (0 : Int) < ((clus u).length : Int) by omega)).2 hbg
        omega)
      by_cases hk0 : k = 0
      · have k7 : (0 < (k : Int)) = False := eq_false (by omega)
        have hpi : partI s k u = [⟨1, s.le * ((clus u).length : Int), 0, 0, 0, u⟩] := by unfold partI; rw [if_pos hk0]; rfl
        have hnxt : L1 ++ partsI s l (k + 1) = M ++ [⟨1, s.le * ((clus u).length : Int), 0, 0, 0, u⟩] := by rw [hsk, hpi, hM, List.append_assoc]
        have hln : M.length + 1 = (L1 ++ partsI s l (k + 1)).length := by rw [hnxt]; simp
        have hfin := fit ⟨1, s.le * ((clus u).length : Int), 0, 0, 0, u⟩
        simp only at hfin
        by_cases hn0 : 0 < (clus u).length
        · have q1 : (0 < ((clus u).length : Int)) = True := eq_true (by omega)
          have q3 := q2 hn0
          simp (disch := omega) only [spar, List.foldl, List.replicate, strs, styC, eu, k7, q1, q3, qw, j8', j10', madeA1, fc, ft, hmc, go_sem, wrap64_id, Int.tdiv_eq_ediv_of_nonneg, Int.tmod_eq_emod_of_nonneg]
          repeat' first
            | ((first | refine callA_pure (c71 _) ?_ ?_); (next => repeat' first | exact flags_n | refine flags_c (by first | rfl | assumption) ?_); simp (disch := omega) only [strs, styC, eu, k7, q1, q3, qw, j8', j10', madeA1, fc, ft, hmc, go_sem, wrap64_id, Int.tdiv_eq_ediv_of_nonneg, Int.tmod_eq_emod_of_nonneg])
            | ((first | refine callG_pure (fun e => ⟨?_, c71 _⟩) ?_); (next => repeat' first | exact flags_n | refine flags_c (by first | rfl | assumption) ?_); simp (disch := omega) only [strs, styC, eu, k7, q1, q3, qw, j8', j10', madeA1, fc, ft, hmc, go_sem, wrap64_id, Int.tdiv_eq_ediv_of_nonneg, Int.tmod_eq_emod_of_nonneg])
            | ((first | refine fnQ_pure1 ?_ ?_ | refine fnQ_pure0 ?_ ?_); (next => repeat' first | exact rvs_n | refine rvs_t ?_ | (simp [go_sem]; done)); simp only [go_sem]; (first | exact VLe.refl _ | refine VLe_int ?_ | refine VLe_bool ?_ | refine VLe_str ?_ | skip))
            | (with_reducible refine And.intro ?_ ?_)
            | with_reducible intro _
          all_goals first
            | omega
            | (rename_i hx; revert hx; simp; done)
            | (simp; done)
            | skip
          rw [hfin, hln, ← hnxt]
          refine hK2 _ _ (k + 1, v2 + 1, P8, .mem (verOf (some P10) + 1) 28 [.int .i64 1, .int .i64 (s.le * ((clus u).length : Int)), .int .i64 0, .int .i64 0, .int .i64 0, .str u]) ⟨by simp only; omega, j8, rfl⟩ (by simp only; omega) (Wk.temps ?_)
          (simp only [wordsV, strs, spar, List.foldl, List.replicate, go_sem, VLes_nil, VLes_cons, VLe_undef_iff, VLe_self]; try (repeat' first | (with_reducible refine And.intro ?_ ?_) | (refine VLe_int ?_; omega) | (refine VLe_bool ?_; rfl) | exact VLe.refl _))
        · have q1 : (0 < ((clus u).length : Int)) = False := eq_false (by omega)
          simp (disch := omega) only [spar, List.foldl, List.replicate, strs, styC, eu, k7, q1, j8', j10', madeA1, fc, ft, hmc, go_sem, wrap64_id, Int.tdiv_eq_ediv_of_nonneg, Int.tmod_eq_emod_of_nonneg]
          repeat' first
            | ((first | refine callA_pure (c71 _) ?_ ?_); (next => repeat' first | exact flags_n | refine flags_c (by first | rfl | assumption) ?_); simp (disch := omega) only [strs, styC, eu, k7, q1, j8', j10', madeA1, fc, ft, hmc, go_sem, wrap64_id, Int.tdiv_eq_ediv_of_nonneg, Int.tmod_eq_emod_of_nonneg])
            | ((first | refine callG_pure (fun e => ⟨?_, c71 _⟩) ?_); (next => repeat' first | exact flags_n | refine flags_c (by first | rfl | assumption) ?_); simp (disch := omega) only [strs, styC, eu, k7, q1, j8', j10', madeA1, fc, ft, hmc, go_sem, wrap64_id, Int.tdiv_eq_ediv_of_nonneg, Int.tmod_eq_emod_of_nonneg])
            | ((first | refine fnQ_pure1 ?_ ?_ | refine fnQ_pure0 ?_ ?_); (next => repeat' first | exact rvs_n | refine rvs_t ?_ | (simp [go_sem]; done)); simp only [go_sem]; (first | exact VLe.refl _ | refine VLe_int ?_ | refine VLe_bool ?_ | refine VLe_str ?_ | skip))
            | (with_reducible refine And.intro ?_ ?_)
            | with_reducible intro _
          all_goals first
            | omega
            | (rename_i hx; revert hx; simp; done)
            | (simp; done)
            | skip
          rw [hfin, hln, ← hnxt]
          refine hK2 _ _ (k + 1, v2 + 1, P8, .mem (verOf (some P10) + 1) 28 [.int .i64 1, .int .i64 (s.le * ((clus u).length : Int)), .int .i64 0, .int .i64 0, .int .i64 0, .str u]) ⟨by simp only; omega, j8, rfl⟩ (by simp only; omega) (Wk.temps ?_)
          (simp only [wordsV, strs, spar, List.foldl, List.replicate, go_sem, VLes_nil, VLes_cons, VLe_undef_iff, VLe_self]; try (repeat' first | (with_reducible refine And.intro ?_ ?_) | (refine VLe_int ?_; omega) | (refine VLe_bool ?_; rfl) | exact VLe.refl _))
      · have k7 : (0 < (k : Int)) = True := eq_true (by omega)
        have hpi : partI s k u = [⟨3, s.le, 0, 0, s.hy, [61]⟩, ⟨1, s.le * ((clus u).length : Int), 0, 0, 0, u⟩] := by unfold partI; rw [if_neg hk0]; rfl
        have hnxt : L1 ++ partsI s l (k + 1) = (M ++ [⟨3, s.le, 0, 0, s.hy, [61]⟩]) ++ [⟨1, s.le * ((clus u).length : Int), 0, 0, 0, u⟩] := by rw [hsk, hpi, hM]; simp
        have hln : M.length + 1 + 1 = (L1 ++ partsI s l (k + 1)).length := by rw [hnxt]; simp
        have hfin0 := fit ⟨3, s.le, 0, 0, s.hy, [61]⟩
        obtain ⟨M2, hM2⟩ : ∃ M2, M2 = M ++ [(⟨3, s.le, 0, 0, s.hy, [61]⟩ : It)] := ⟨_, rfl⟩
        have hl2 : M2.length = M.length + 1 := by rw [hM2]; simp
        rw [← hM2] at hfin0 hnxt
        have fc2 : (cellsIt M2).length = (M.length + 1) * 6 := by rw [cellsIt_len, hl2]
        have ft2 : List.take ((M.length + 1) * 6) (cellsIt M2) = cellsIt M2 := by rw [← hl2]; exact cellsIt_take M2
        have hfin : cellsIt M2 ++ [AV.int .i64 1, .int .i64 (s.le * ((clus u).length : Int)), .int .i64 0, .int .i64 0, .int .i64 0, .str u] = cellsIt (M2 ++ [⟨1, s.le * ((clus u).length : Int), 0, 0, 0, u⟩]) := cellsIt_snoc1 M2 ⟨1, s.le * ((clus u).length : Int), 0, 0, 0, u⟩
        simp only at hfin0
        by_cases hn0 : 0 < (clus u).length
        · have q1 : (0 < ((clus u).length : Int)) = True := eq_true (by omega)
          have q3 := q2 hn0
          simp (disch := omega) only [spar, List.foldl, List.replicate, strs, styC, eu, k7, q1, q3, qw, j8', j10', madeA1, fc, ft, hfin0, fc2, ft2, hmc, go_sem, wrap64_id, Int.tdiv_eq_ediv_of_nonneg, Int.tmod_eq_emod_of_nonneg]
          repeat' first
            | ((first | refine callA_pure (c71 _) ?_ ?_); (next => repeat' first | exact flags_n | refine flags_c (by first | rfl | assumption) ?_); simp (disch := omega) only [strs, styC, eu, k7, q1, q3, qw, j8', j10', madeA1, fc, ft, hfin0, fc2, ft2, hmc, go_sem, wrap64_id, Int.tdiv_eq_ediv_of_nonneg, Int.tmod_eq_emod_of_nonneg])
            | ((first | refine callG_pure (fun e => ⟨?_, c71 _⟩) ?_); (next => repeat' first | exact flags_n | refine flags_c (by first | rfl | assumption) ?_); simp (disch := omega) only [strs, styC, eu, k7, q1, q3, qw, j8', j10', madeA1, fc, ft, hfin0, fc2, ft2, hmc, go_sem, wrap64_id, Int.tdiv_eq_ediv_of_nonneg, Int.tmod_eq_emod_of_nonneg])
            | ((first | refine fnQ_pure1 ?_ ?_ | refine fnQ_pure0 ?_ ?_); (next => repeat' first | exact rvs_n | refine rvs_t ?_ | (simp [go_sem]; done)); simp only [go_sem]; (first | exact VLe.refl _ | refine VLe_int ?_ | refine VLe_bool ?_ | refine VLe_str ?_ | skip))
            | (with_reducible refine And.intro ?_ ?_)
            | with_reducible intro _
          all_goals first
            | omega
            | (rename_i hx; revert hx; simp; done)
            | (simp; done)
            | skip
          rw [hfin, hln, ← hnxt]
          refine hK2 _ _ (k + 1, v2 + 1 + 1, .mem (verOf (some P8) + 1) 28 [.int .i64 3, .int .i64 s.le, .int .i64 0, .int .i64 0, .int .i64 s.hy, .str [61]], .mem (verOf (some P10) + 1) 28 [.int .i64 1, .int .i64 (s.le * ((clus u).length : Int)), .int .i64 0, .int .i64 0, .int .i64 0, .str u]) ⟨by simp only; omega, rfl, rfl⟩ (by simp only; omega) (Wk.temps ?_)
          (simp only [wordsV, strs, spar, List.foldl, List.replicate, go_sem, VLes_nil, VLes_cons, VLe_undef_iff, VLe_self]; try (repeat' first | (with_reducible refine And.intro ?_ ?_) | (refine VLe_int ?_; omega) | (refine VLe_bool ?_; rfl) | exact VLe.refl _))
        · have q1 : (0 < ((clus u).length : Int)) = False := eq_false (by omega)
          simp (disch := omega) only [spar, List.foldl, List.replicate, strs, styC, eu, k7, q1, j8', j10', madeA1, fc, ft, hfin0, fc2, ft2, hmc, go_sem, wrap64_id, Int.tdiv_eq_ediv_of_nonneg, Int.tmod_eq_emod_of_nonneg]
          repeat' first
            | ((first | refine callA_pure (c71 _) ?_ ?_); (next => repeat' first | exact flags_n | refine flags_c (by first | rfl | assumption) ?_); simp (disch := omega) only [strs, styC, eu, k7, q1, j8', j10', madeA1, fc, ft, hfin0, fc2, ft2, hmc, go_sem, wrap64_id, Int.tdiv_eq_ediv_of_nonneg, Int.tmod_eq_emod_of_nonneg])
            | ((first | refine callG_pure (fun e => ⟨?_, c71 _⟩) ?_); (next => repeat' first | exact flags_n | refine flags_c (by first | rfl | assumption) ?_); simp (disch := omega) only [strs, styC, eu, k7, q1, j8', j10', madeA1, fc, ft, hfin0, fc2, ft2, hmc, go_sem, wrap64_id, Int.tdiv_eq_ediv_of_nonneg, Int.tmod_eq_emod_of_nonneg])
            | ((first | refine fnQ_pure1 ?_ ?_ | refine fnQ_pure0 ?_ ?_); (next => repeat' first | exact rvs_n | refine rvs_t ?_ | (simp [go_sem]; done)); simp only [go_sem]; (first | exact VLe.refl _ | refine VLe_int ?_ | refine VLe_bool ?_ | refine VLe_str ?_ | skip))
            | (with_reducible refine And.intro ?_ ?_)
            | with_reducible intro _
          all_goals first
            | omega
            | (rename_i hx; revert hx; simp; done)
            | (simp; done)
            | skip
          rw [hfin, hln, ← hnxt]
          refine hK2 _ _ (k + 1, v2 + 1 + 1, .mem (verOf (some P8) + 1) 28 [.int .i64 3, .int .i64 s.le, .int .i64 0, .int .i64 0, .int .i64 s.hy, .str [61]], .mem (verOf (some P10) + 1) 28 [.int .i64 1, .int .i64 (s.le * ((clus u).length : Int)), .int .i64 0, .int .i64 0, .int .i64 0, .str u]) ⟨by simp only; omega, rfl, rfl⟩ (by simp only; omega) (Wk.temps ?_)
          (simp only [wordsV, strs, spar, List.foldl, List.replicate, go_sem, VLes_nil, VLes_cons, VLe_undef_iff, VLe_self]; try (repeat' first | (with_reducible refine And.intro ?_ ?_) | (refine VLe_int ?_; omega) | (refine VLe_bool ?_; rfl) | exact VLe.refl _))
    · have e : k = l.length := by omega
      have hfn : M = wordsI s ps ws (i + 1) := by rw [hM, e, hsu, hwi, hL1, List.append_assoc]
      rw [hfn]
      simp (disch := omega) only [spar, List.foldl, List.replicate, strs, go_sem, wrap64_id, Int.tdiv_eq_ediv_of_nonneg, Int.tmod_eq_emod_of_nonneg]
      repeat' first
        | ((first | refine fnQ_pure1 ?_ ?_ | refine fnQ_pure0 ?_ ?_); (next => repeat' first | exact rvs_n | refine rvs_t ?_ | (simp [go_sem]; done)); simp only [go_sem]; (first | exact VLe.refl _ | refine VLe_int ?_ | refine VLe_bool ?_ | refine VLe_str ?_ | skip))
        | (with_reducible refine And.intro ?_ ?_)
        | with_reducible intro _
      all_goals first
        | omega
        | (rename_i hx; revert hx; simp; done)
        | (simp; done)
        | skip
      refine hK _ _ (i + 1, v2, O4, O6, P8, P10) ⟨by simp only; omega, i4, i6, j8, j10⟩ (by simp only; omega) (Wk.temps ?_)
      (simp only [wordsV, strs, spar, List.foldl, List.replicate, go_sem, VLes_nil, VLes_cons, VLe_undef_iff, VLe_self]; try (repeat' first | (with_reducible refine And.intro ?_ ?_) | (refine VLe_int ?_; omega) | (refine VLe_bool ?_; rfl) | exact VLe.refl _))
  have k1 : (0 < (i : Int)) = True := eq_true (by omega)
  cases g6 : w.verse with
  | true =>
    have hsp : sepI s i w = [⟨3, 0, 0, 0, -10000, []⟩] := by unfold sepI; rw [if_neg g5, if_pos g6]
    have hfin := hit ⟨3, 0, 0, 0, -10000, []⟩
    simp only at hfin
    obtain ⟨L1, hL1⟩ : ∃ L1, L1 = L ++ sepI s i w := ⟨_, rfl⟩
    have hl1 : L1.length ≤ 200 * i + 1 := by rw [hL1, List.length_append]; have := sepI_len s i w; omega
    simp (disch := omega) only [spar, List.foldl, List.replicate, wordsV, wordC, ewd, styC, strs, k1, g6, hfin, i4', i6', madeA1, ec, et, go_sem, wrap64_id, Int.tdiv_eq_ediv_of_nonneg, Int.tmod_eq_emod_of_nonneg]
    repeat' first
      | ((first | refine callA_pure (c70 _) ?_ ?_); (next => repeat' first | exact flags_n | refine flags_c (by first | rfl | assumption) ?_); simp (disch := omega) only [wordsV, wordC, ewd, styC, strs, k1, g6, hfin, i4', i6', madeA1, ec, et, go_sem, wrap64_id, Int.tdiv_eq_ediv_of_nonneg, Int.tmod_eq_emod_of_nonneg])
      | ((first | refine callG_pure (fun e => ⟨?_, c70 _⟩) ?_); (next => repeat' first | exact flags_n | refine flags_c (by first | rfl | assumption) ?_); simp (disch := omega) only [wordsV, wordC, ewd, styC, strs, k1, g6, hfin, i4', i6', madeA1, ec, et, go_sem, wrap64_id, Int.tdiv_eq_ediv_of_nonneg, Int.tmod_eq_emod_of_nonneg])
      | ((first | refine fnQ_pure1 ?_ ?_ | refine fnQ_pure0 ?_ ?_); (next => repeat' first | exact rvs_n | refine rvs_t ?_ | (simp [go_sem]; done)); simp only [go_sem]; (first | exact VLe.refl _ | refine VLe_int ?_ | refine VLe_bool ?_ | refine VLe_str ?_ | skip))
      | (with_reducible refine And.intro ?_ ?_)
      | with_reducible intro _
    all_goals first
      | omega
      | (rename_i hx; revert hx; simp; done)
      | (simp; done)
      | skip
    rw [show L ++ [(⟨3, 0, 0, 0, -10000, []⟩ : It)] = L1 by rw [hL1, hsp], show L.length + 1 = L1.length by rw [hL1, hsp]; simp]
    rw [show cellsIt L1 = cellsIt (L1 ++ partsI s l 0) by rw [partsI_zero, List.append_nil], show L1.length = (L1 ++ partsI s l 0).length by rw [partsI_zero, List.append_nil]]
    refine loop_of (T := fun k : Nat × Nat × AObj × AObj => spar 167 [(1, patsV ps), (2, wordsV ws), (3, .op h.length 1 0), (9, .osl (h.length + 2) k.2.1 6 0 (L1 ++ partsI s l k.1).length), (10, .int .i64 i), (11, strs l), (12, .int .i64 k.1)])
      (H := fun k => h ++ [.mem 1 58 (styC s x), .emp 1, .mem k.2.1 28 (cellsIt (L1 ++ partsI s l k.1)), .mem (verOf (some O4) + 1) 28 [.int .i64 3, .int .i64 0, .int .i64 0, .int .i64 0, .int .i64 (-10000), .str []], .emp 0, O6, .emp 0, k.2.2.1, .emp 0, k.2.2.2, .emp 0])
      (inv := fun k => k.1 ≤ l.length ∧ site [k.2.2.1] 0 = true ∧ site [k.2.2.2] 0 = true) (m := fun k => l.length - k.1) (0, v + 1, O8, O10) ⟨by simp, i8, i10⟩ (Wk.temps ?_) ?_
    · (simp only [wordsV, strs, spar, List.foldl, List.replicate, go_sem, VLes_nil, VLes_cons, VLe_undef_iff, VLe_self]; try (repeat' first | (with_reducible refine And.intro ?_ ?_) | (refine VLe_int ?_; omega) | (refine VLe_bool ?_; rfl) | exact VLe.refl _))
    rintro ⟨k, v2, P8, P10⟩ ⟨j1, j8, j10⟩ K2 hK2
    simp only at j1 j8 j10 hK2
    have j8' : ∀ m, site (P8 :: m) 0 = true := fun _ => j8
    have j10' : ∀ m, site (P10 :: m) 0 = true := fun _ => j10
    have hpk := partsI_len s l k
    obtain ⟨M, hM⟩ : ∃ M, M = L1 ++ partsI s l k := ⟨_, rfl⟩
    have hml : M.length ≤ 200 * i + 1 + 2 * k := by rw [hM, List.length_append]; omega
    rw [← hM]
    have fc := cellsIt_len M
    have ft := cellsIt_take M
    have fit : ∀ y : It, cellsIt M ++ [AV.int .i64 y.kind, .int .i64 y.width, .int .i64 y.stretch, .int .i64 y.shrink, .int .i64 y.penalty, .str y.text] = cellsIt (M ++ [y]) := fun y => cellsIt_snoc1 M y
    by_cases hk : k < l.length
    · have hsk := partsI_succ s l k
      have hpk2 := hprt k
      have hmp := @mem_parts s l l.length k hk
      obtain ⟨u, hu⟩ : ∃ u, u = l.getD k [] := ⟨_, rfl⟩
      have eu := hu.symm
      rw [eu] at hsk hpk2 hmp
      have hbig := hmw _ (by rw [hwi]; exact List.mem_append_right _ hmp)
      have hcu := clus_len u
      have c71 := fun h => t71 u h (by omega)
      obtain ⟨m1, m2⟩ := mul_small (n := (clus u).length) b1 b2 (by omega)
      have qd0 : 0 ≤ 1073741824 / ((clus u).length : Int) := Int.ediv_nonneg (by omega) (by omega)
      have qd1 : 1073741824 / ((clus u).length : Int) ≤ 1073741824 := Int.ediv_le_self _ (by omega)
      have qw : IntKind.i64.wrap (1073741824 / ((clus u).length : Int)) = 1073741824 / ((clus u).length : Int) := wrap64_id (by omega) (by omega)
      have hmc : ((clus u).length : Int) * s.le = s.le * ((clus u).length : Int) := Int.mul_comm _ _
      by_cases hbg : s.le * ((clus u).length : Int) ≤ 1073741824
      case neg =>
        have hch : check (wordsI s ps ws ws.length) ≠ 0 := big_check hbig (by simp only; omega)
        rw [if_pos hch, if_neg (by decide)]
        have hn0 : 0 < (clus u).length := by
          rcases Nat.eq_zero_or_pos (clus u).length with e | e
          · rw [e] at hbg; simp at hbg
          · exact e
        have q1 : (0 < ((clus u).length : Int)) = True := eq_true (by omega)
        have q2 : (1073741824 / ((clus u).length : Int) < s.le) = True := eq_true (by
          by_cases hx : 1073741824 / ((clus u).length : Int) < s.le
          · exact hx
          · exact absurd ((Int.le_ediv_iff_mul_le (by omega)).1 (Int.not_lt.1 hx)) hbg)
        by_cases hk0 : k = 0
        · have k7 : (0 < (k : Int)) = False := eq_false (by omega)
          simp (disch := omega) only [spar, List.foldl, List.replicate, strs, styC, eu, k7, q1, q2, qw, j8', j10', madeA1, fc, ft, go_sem, wrap64_id, Int.tdiv_eq_ediv_of_nonneg, Int.tmod_eq_emod_of_nonneg]
          repeat' first
            | ((first | refine callA_pure (c71 _) ?_ ?_); (next => repeat' first | exact flags_n | refine flags_c (by first | rfl | assumption) ?_); simp (disch := omega) only [strs, styC, eu, k7, q1, q2, qw, j8', j10', madeA1, fc, ft, go_sem, wrap64_id, Int.tdiv_eq_ediv_of_nonneg, Int.tmod_eq_emod_of_nonneg])
            | ((first | refine callG_pure (fun e => ⟨?_, c71 _⟩) ?_); (next => repeat' first | exact flags_n | refine flags_c (by first | rfl | assumption) ?_); simp (disch := omega) only [strs, styC, eu, k7, q1, q2, qw, j8', j10', madeA1, fc, ft, go_sem, wrap64_id, Int.tdiv_eq_ediv_of_nonneg, Int.tmod_eq_emod_of_nonneg])
            | ((first | refine fnQ_pure1 ?_ ?_ | refine fnQ_pure0 ?_ ?_); (next => repeat' first | exact rvs_n | refine rvs_t ?_ | (simp [go_sem]; done)); simp only [go_sem]; (first | exact VLe.refl _ | refine VLe_int ?_ | refine VLe_bool ?_ | refine VLe_str ?_ | skip))
            | (with_reducible refine And.intro ?_ ?_)
            | with_reducible intro _
          all_goals first
            | omega
            | (rename_i hx; revert hx; simp; done)
            | (simp; done)
            | skip
          exact tupE_nil
        · have k7 : (0 < (k : Int)) = True := eq_true (by omega)
          simp (disch := omega) only [spar, List.foldl, List.replicate, strs, styC, eu, k7, q1, q2, qw, j8', j10', madeA1, fc, ft, go_sem, wrap64_id, Int.tdiv_eq_ediv_of_nonneg, Int.tmod_eq_emod_of_nonneg]
          repeat' first
            | ((first | refine callA_pure (c71 _) ?_ ?_); (next => repeat' first | exact flags_n | refine flags_c (by first | rfl | assumption) ?_); simp (disch := omega) only [strs, styC, eu, k7, q1, q2, qw, j8', j10', madeA1, fc, ft, go_sem, wrap64_id, Int.tdiv_eq_ediv_of_nonneg, Int.tmod_eq_emod_of_nonneg])
            | ((first | refine callG_pure (fun e => ⟨?_, c71 _⟩) ?_); (next => repeat' first | exact flags_n | refine flags_c (by first | rfl | assumption) ?_); simp (disch := omega) only [strs, styC, eu, k7, q1, q2, qw, j8', j10', madeA1, fc, ft, go_sem, wrap64_id, Int.tdiv_eq_ediv_of_nonneg, Int.tmod_eq_emod_of_nonneg])
            | ((first | refine fnQ_pure1 ?_ ?_ | refine fnQ_pure0 ?_ ?_); (next => repeat' first | exact rvs_n | refine rvs_t ?_ | (simp [go_sem]; done)); simp only [go_sem]; (first | exact VLe.refl _ | refine VLe_int ?_ | refine VLe_bool ?_ | refine VLe_str ?_ | skip))
            | (with_reducible refine And.intro ?_ ?_)
            | with_reducible intro _
          all_goals first
            | omega
            | (rename_i hx; revert hx; simp; done)
            | (simp; done)
            | skip
          exact tupE_nil
      have q2 : 0 < (clus u).length → (1073741824 / ((clus u).length : Int) < s.le) = False := fun hn0 => eq_false (by
        have := (Int.le_ediv_iff_mul_le (show (0 : Int) < ((clus u).length : Int) by omega)).2 hbg
        omega)
      by_cases hk0 : k = 0
      · have k7 : (0 < (k : Int)) = False := eq_false (by omega)
        have hpi : partI s k u = [⟨1, s.le * ((clus u).length : Int), 0, 0, 0, u⟩] := by unfold partI; rw [if_pos hk0]; rfl
        have hnxt : L1 ++ partsI s l (k + 1) = M ++ [⟨1, s.le * ((clus u).length : Int), 0, 0, 0, u⟩] := by rw [hsk, hpi, hM, List.append_assoc]
        have hln : M.length + 1 = (L1 ++ partsI s l (k + 1)).length := by rw [hnxt]; simp
        have hfin := fit ⟨1, s.le * ((clus u).length : Int), 0, 0, 0, u⟩
        simp only at hfin
        by_cases hn0 : 0 < (clus u).length
        · have q1 : (0 < ((clus u).length : Int)) = True := eq_true (by omega)
          have q3 := q2 hn0
          simp (disch := omega) only [spar, List.foldl, List.replicate, strs, styC, eu, k7, q1, q3, qw, j8', j10', madeA1, fc, ft, hmc, go_sem, wrap64_id, Int.tdiv_eq_ediv_of_nonneg, Int.tmod_eq_emod_of_nonneg]
          repeat' first
            | ((first | refine callA_pure (c71 _) ?_ ?_); (next => repeat' first | exact flags_n | refine flags_c (by first | rfl | assumption) ?_); simp (disch := omega) only [strs, styC, eu, k7, q1, q3, qw, j8', j10', madeA1, fc, ft, hmc, go_sem, wrap64_id, Int.tdiv_eq_ediv_of_nonneg, Int.tmod_eq_emod_of_nonneg])
            | ((first | refine callG_pure (fun e => ⟨?_, c71 _⟩) ?_); (next => repeat' first | exact flags_n | refine flags_c (by first | rfl | assumption) ?_); simp (disch := omega) only [strs, styC, eu, k7, q1, q3, qw, j8', j10', madeA1, fc, ft, hmc, go_sem, wrap64_id, Int.tdiv_eq_ediv_of_nonneg, Int.tmod_eq_emod_of_nonneg])
            | ((first | refine fnQ_pure1 ?_ ?_ | refine fnQ_pure0 ?_ ?_); (next => repeat' first | exact rvs_n | refine rvs_t ?_ | (simp [go_sem]; done)); simp only [go_sem]; (first | exact VLe.refl _ | refine VLe_int ?_ | refine VLe_bool ?_ | refine VLe_str ?_ | skip))
            | (with_reducible refine And.intro ?_ ?_)
            | with_reducible intro _
          all_goals first
            | omega
            | (rename_i hx; revert hx; simp; done)
            | (simp; done)
            | skip
          rw [hfin, hln, ← hnxt]
          refine hK2 _ _ (k + 1, v2 + 1, P8, .mem (verOf (some P10) + 1) 28 [.int .i64 1, .int .i64 (s.le * ((clus u).length : Int)), .int .i64 0, .int .i64 0, .int .i64 0, .str u]) ⟨by simp only; omega, j8, rfl⟩ (by simp only; omega) (Wk.temps ?_)
          (simp only [wordsV, strs, spar, List.foldl, List.replicate, go_sem, VLes_nil, VLes_cons, VLe_undef_iff, VLe_self]; try (repeat' first | (with_reducible refine And.intro ?_ ?_) | (refine VLe_int ?_; omega) | (refine VLe_bool ?_; rfl) | exact VLe.refl _))
        · have q1 : (0 < ((clus u).length : Int)) = False := eq_false (by omega)
          simp (disch := omega) only [spar, List.foldl, List.replicate, strs, styC, eu, k7, q1, j8', j10', madeA1, fc, ft, hmc, go_sem, wrap64_id, Int.tdiv_eq_ediv_of_nonneg, Int.tmod_eq_emod_of_nonneg]
          repeat' first
            | ((first | refine callA_pure (c71 _) ?_ ?_); (next => repeat' first | exact flags_n | refine flags_c (by first | rfl | assumption) ?_); simp (disch := omega) only [strs, styC, eu, k7, q1, j8', j10', madeA1, fc, ft, hmc, go_sem, wrap64_id, Int.tdiv_eq_ediv_of_nonneg, Int.tmod_eq_emod_of_nonneg])
            | ((first | refine callG_pure (fun e => ⟨?_, c71 _⟩) ?_); (next => repeat' first | exact flags_n | refine flags_c (by first | rfl | assumption) ?_); simp (disch := omega) only [strs, styC, eu, k7, q1, j8', j10', madeA1, fc, ft, hmc, go_sem, wrap64_id, Int.tdiv_eq_ediv_of_nonneg, Int.tmod_eq_emod_of_nonneg])
            | ((first | refine fnQ_pure1 ?_ ?_ | refine fnQ_pure0 ?_ ?_); (next => repeat' first | exact rvs_n | refine rvs_t ?_ | (simp [go_sem]; done)); simp only [go_sem]; (first | exact VLe.refl _ | refine VLe_int ?_ | refine VLe_bool ?_ | refine VLe_str ?_ | skip))
            | (with_reducible refine And.intro ?_ ?_)
            | with_reducible intro _
          all_goals first
            | omega
            | (rename_i hx; revert hx; simp; done)
            | (simp; done)
            | skip
          rw [hfin, hln, ← hnxt]
          refine hK2 _ _ (k + 1, v2 + 1, P8, .mem (verOf (some P10) + 1) 28 [.int .i64 1, .int .i64 (s.le * ((clus u).length : Int)), .int .i64 0, .int .i64 0, .int .i64 0, .str u]) ⟨by simp only; omega, j8, rfl⟩ (by simp only; omega) (Wk.temps ?_)
          (simp only [wordsV, strs, spar, List.foldl, List.replicate, go_sem, VLes_nil, VLes_cons, VLe_undef_iff, VLe_self]; try (repeat' first | (with_reducible refine And.intro ?_ ?_) | (refine VLe_int ?_; omega) | (refine VLe_bool ?_; rfl) | exact VLe.refl _))
      · have k7 : (0 < (k : Int)) = True := eq_true (by omega)
        have hpi : partI s k u = [⟨3, s.le, 0, 0, s.hy, [61]⟩, ⟨1, s.le * ((clus u).length : Int), 0, 0, 0, u⟩] := by unfold partI; rw [if_neg hk0]; rfl
        have hnxt : L1 ++ partsI s l (k + 1) = (M ++ [⟨3, s.le, 0, 0, s.hy, [61]⟩]) ++ [⟨1, s.le * ((clus u).length : Int), 0, 0, 0, u⟩] := by rw [hsk, hpi, hM]; simp
        have hln : M.length + 1 + 1 = (L1 ++ partsI s l (k + 1)).length := by rw [hnxt]; simp
        have hfin0 := fit ⟨3, s.le, 0, 0, s.hy, [61]⟩
        obtain ⟨M2, hM2⟩ : ∃ M2, M2 = M ++ [(⟨3, s.le, 0, 0, s.hy, [61]⟩ : It)] := ⟨_, rfl⟩
        have hl2 : M2.length = M.length + 1 := by rw [hM2]; simp
        rw [← hM2] at hfin0 hnxt
        have fc2 : (cellsIt M2).length = (M.length + 1) * 6 := by rw [cellsIt_len, hl2]
        have ft2 : List.take ((M.length + 1) * 6) (cellsIt M2) = cellsIt M2 := by rw [← hl2]; exact cellsIt_take M2
        have hfin : cellsIt M2 ++ [AV.int .i64 1, .int .i64 (s.le * ((clus u).length : Int)), .int .i64 0, .int .i64 0, .int .i64 0, .str u] = cellsIt (M2 ++ [⟨1, s.le * ((clus u).length : Int), 0, 0, 0, u⟩]) := cellsIt_snoc1 M2 ⟨1, s.le * ((clus u).length : Int), 0, 0, 0, u⟩
        simp only at hfin0
        by_cases hn0 : 0 < (clus u).length
        · have q1 : (0 < ((clus u).length : Int)) = True := eq_true (by omega)
          have q3 := q2 hn0
          simp (disch := omega) only [spar, List.foldl, List.replicate, strs, styC, eu, k7, q1, q3, qw, j8', j10', madeA1, fc, ft, hfin0, fc2, ft2, hmc, go_sem, wrap64_id, Int.tdiv_eq_ediv_of_nonneg, Int.tmod_eq_emod_of_nonneg]
          repeat' first
            | ((first | refine callA_pure (c71 _) ?_ ?_); (next => repeat' first | exact flags_n | refine flags_c (by first | rfl | assumption) ?_); simp (disch := omega) only [strs, styC, eu, k7, q1, q3, qw, j8', j10', madeA1, fc, ft, hfin0, fc2, ft2, hmc, go_sem, wrap64_id, Int.tdiv_eq_ediv_of_nonneg, Int.tmod_eq_emod_of_nonneg])
            | ((first | refine callG_pure (fun e => ⟨?_, c71 _⟩) ?_); (next => repeat' first | exact flags_n | refine flags_c (by first | rfl | assumption) ?_); simp (disch := omega) only [strs, styC, eu, k7, q1, q3, qw, j8', j10', madeA1, fc, ft, hfin0, fc2, ft2, hmc, go_sem, wrap64_id, Int.tdiv_eq_ediv_of_nonneg, Int.tmod_eq_emod_of_nonneg])
            | ((first | refine fnQ_pure1 ?_ ?_ | refine fnQ_pure0 ?_ ?_); (next => repeat' first | exact rvs_n | refine rvs_t ?_ | (simp [go_sem]; done)); simp only [go_sem]; (first | exact VLe.refl _ | refine VLe_int ?_ | refine VLe_bool ?_ | refine VLe_str ?_ | skip))
            | (with_reducible refine And.intro ?_ ?_)
            | with_reducible intro _
          all_goals first
            | omega
            | (rename_i hx; revert hx; simp; done)
            | (simp; done)
            | skip
          rw [hfin, hln, ← hnxt]
          refine hK2 _ _ (k + 1, v2 + 1 + 1, .mem (verOf (some P8) + 1) 28 [.int .i64 3, .int .i64 s.le, .int .i64 0, .int .i64 0, .int .i64 s.hy, .str [61]], .mem (verOf (some P10) + 1) 28 [.int .i64 1, .int .i64 (s.le * ((clus u).length : Int)), .int .i64 0, .int .i64 0, .int .i64 0, .str u]) ⟨by simp only; omega, rfl, rfl⟩ (by simp only; omega) (Wk.temps ?_)
          (simp only [wordsV, strs, spar, List.foldl, List.replicate, go_sem, VLes_nil, VLes_cons, VLe_undef_iff, VLe_self]; try (repeat' first | (with_reducible refine And.intro ?_ ?_) | (refine VLe_int ?_; omega) | (refine VLe_bool ?_; rfl) | exact VLe.refl _))
        · have q1 : (0 < ((clus u).length : Int)) = False := eq_false (by omega)
          simp (disch := omega) only [spar, List.foldl, List.replicate, strs, styC, eu, k7, q1, j8', j10', madeA1, fc, ft, hfin0, fc2, ft2, hmc, go_sem, wrap64_id, Int.tdiv_eq_ediv_of_nonneg, Int.tmod_eq_emod_of_nonneg]
          repeat' first
            | ((first | refine callA_pure (c71 _) ?_ ?_); (next => repeat' first | exact flags_n | refine flags_c (by first | rfl | assumption) ?_); simp (disch := omega) only [strs, styC, eu, k7, q1, j8', j10', madeA1, fc, ft, hfin0, fc2, ft2, hmc, go_sem, wrap64_id, Int.tdiv_eq_ediv_of_nonneg, Int.tmod_eq_emod_of_nonneg])
            | ((first | refine callG_pure (fun e => ⟨?_, c71 _⟩) ?_); (next => repeat' first | exact flags_n | refine flags_c (by first | rfl | assumption) ?_); simp (disch := omega) only [strs, styC, eu, k7, q1, j8', j10', madeA1, fc, ft, hfin0, fc2, ft2, hmc, go_sem, wrap64_id, Int.tdiv_eq_ediv_of_nonneg, Int.tmod_eq_emod_of_nonneg])
            | ((first | refine fnQ_pure1 ?_ ?_ | refine fnQ_pure0 ?_ ?_); (next => repeat' first | exact rvs_n | refine rvs_t ?_ | (simp [go_sem]; done)); simp only [go_sem]; (first | exact VLe.refl _ | refine VLe_int ?_ | refine VLe_bool ?_ | refine VLe_str ?_ | skip))
            | (with_reducible refine And.intro ?_ ?_)
            | with_reducible intro _
          all_goals first
            | omega
            | (rename_i hx; revert hx; simp; done)
            | (simp; done)
            | skip
          rw [hfin, hln, ← hnxt]
          refine hK2 _ _ (k + 1, v2 + 1 + 1, .mem (verOf (some P8) + 1) 28 [.int .i64 3, .int .i64 s.le, .int .i64 0, .int .i64 0, .int .i64 s.hy, .str [61]], .mem (verOf (some P10) + 1) 28 [.int .i64 1, .int .i64 (s.le * ((clus u).length : Int)), .int .i64 0, .int .i64 0, .int .i64 0, .str u]) ⟨by simp only; omega, rfl, rfl⟩ (by simp only; omega) (Wk.temps ?_)
          (simp only [wordsV, strs, spar, List.foldl, List.replicate, go_sem, VLes_nil, VLes_cons, VLe_undef_iff, VLe_self]; try (repeat' first | (with_reducible refine And.intro ?_ ?_) | (refine VLe_int ?_; omega) | (refine VLe_bool ?_; rfl) | exact VLe.refl _))
    · have e : k = l.length := by omega
      have hfn : M = wordsI s ps ws (i + 1) := by rw [hM, e, hsu, hwi, hL1, List.append_assoc]
      rw [hfn]
      simp (disch := omega) only [spar, List.foldl, List.replicate, strs, go_sem, wrap64_id, Int.tdiv_eq_ediv_of_nonneg, Int.tmod_eq_emod_of_nonneg]
      repeat' first
        | ((first | refine fnQ_pure1 ?_ ?_ | refine fnQ_pure0 ?_ ?_); (next => repeat' first | exact rvs_n | refine rvs_t ?_ | (simp [go_sem]; done)); simp only [go_sem]; (first | exact VLe.refl _ | refine VLe_int ?_ | refine VLe_bool ?_ | refine VLe_str ?_ | skip))
        | (with_reducible refine And.intro ?_ ?_)
        | with_reducible intro _
      all_goals first
        | omega
        | (rename_i hx; revert hx; simp; done)
        | (simp; done)
        | skip
      refine hK _ _ (i + 1, v2, .mem (verOf (some O4) + 1) 28 [.int .i64 3, .int .i64 0, .int .i64 0, .int .i64 0, .int .i64 (-10000), .str []], O6, P8, P10) ⟨by simp only; omega, rfl, i6, j8, j10⟩ (by simp only; omega) (Wk.temps ?_)
      (simp only [wordsV, strs, spar, List.foldl, List.replicate, go_sem, VLes_nil, VLes_cons, VLe_undef_iff, VLe_self]; try (repeat' first | (with_reducible refine And.intro ?_ ?_) | (refine VLe_int ?_; omega) | (refine VLe_bool ?_; rfl) | exact VLe.refl _))
  | false =>
  cases g7 : w.joined with
  | true =>
    have hsp : sepI s i w = [] := by unfold sepI; rw [if_neg g5, if_neg (by rw [g6]; simp), if_pos g7]
    obtain ⟨L1, hL1⟩ : ∃ L1, L1 = L ++ sepI s i w := ⟨_, rfl⟩
    have hl1 : L1.length ≤ 200 * i + 1 := by rw [hL1, List.length_append]; have := sepI_len s i w; omega
    simp (disch := omega) only [spar, List.foldl, List.replicate, wordsV, wordC, ewd, styC, strs, k1, g6, g7, i4', i6', madeA1, ec, et, go_sem, wrap64_id, Int.tdiv_eq_ediv_of_nonneg, Int.tmod_eq_emod_of_nonneg]
    repeat' first
      | ((first | refine callA_pure (c70 _) ?_ ?_); (next => repeat' first | exact flags_n | refine flags_c (by first | rfl | assumption) ?_); simp (disch := omega) only [wordsV, wordC, ewd, styC, strs, k1, g6, g7, i4', i6', madeA1, ec, et, go_sem, wrap64_id, Int.tdiv_eq_ediv_of_nonneg, Int.tmod_eq_emod_of_nonneg])
      | ((first | refine callG_pure (fun e => ⟨?_, c70 _⟩) ?_); (next => repeat' first | exact flags_n | refine flags_c (by first | rfl | assumption) ?_); simp (disch := omega) only [wordsV, wordC, ewd, styC, strs, k1, g6, g7, i4', i6', madeA1, ec, et, go_sem, wrap64_id, Int.tdiv_eq_ediv_of_nonneg, Int.tmod_eq_emod_of_nonneg])
      | ((first | refine fnQ_pure1 ?_ ?_ | refine fnQ_pure0 ?_ ?_); (next => repeat' first | exact rvs_n | refine rvs_t ?_ | (simp [go_sem]; done)); simp only [go_sem]; (first | exact VLe.refl _ | refine VLe_int ?_ | refine VLe_bool ?_ | refine VLe_str ?_ | skip))
      | (with_reducible refine And.intro ?_ ?_)
      | with_reducible intro _
    all_goals first
      | omega
      | (rename_i hx; revert hx; simp; done)
      | (simp; done)
      | skip
    rw [show L = L1 by rw [hL1, hsp, List.append_nil]]
    rw [show cellsIt L1 = cellsIt (L1 ++ partsI s l 0) by rw [partsI_zero, List.append_nil], show L1.length = (L1 ++ partsI s l 0).length by rw [partsI_zero, List.append_nil]]
    refine loop_of (T := fun k : Nat × Nat × AObj × AObj => spar 167 [(1, patsV ps), (2, wordsV ws), (3, .op h.length 1 0), (9, .osl (h.length + 2) k.2.1 6 0 (L1 ++ partsI s l k.1).length), (10, .int .i64 i), (11, strs l), (12, .int .i64 k.1)])
      (H := fun k => h ++ [.mem 1 58 (styC s x), .emp 1, .mem k.2.1 28 (cellsIt (L1 ++ partsI s l k.1)), O4, .emp 0, O6, .emp 0, k.2.2.1, .emp 0, k.2.2.2, .emp 0])
      (inv := fun k => k.1 ≤ l.length ∧ site [k.2.2.1] 0 = true ∧ site [k.2.2.2] 0 = true) (m := fun k => l.length - k.1) (0, v, O8, O10) ⟨by simp, i8, i10⟩ (Wk.temps ?_) ?_
    · (simp only [wordsV, strs, spar, List.foldl, List.replicate, go_sem, VLes_nil, VLes_cons, VLe_undef_iff, VLe_self]; try (repeat' first | (with_reducible refine And.intro ?_ ?_) | (refine VLe_int ?_; omega) | (refine VLe_bool ?_; rfl) | exact VLe.refl _))
    rintro ⟨k, v2, P8, P10⟩ ⟨j1, j8, j10⟩ K2 hK2
    simp only at j1 j8 j10 hK2
    have j8' : ∀ m, site (P8 :: m) 0 = true := fun _ => j8
    have j10' : ∀ m, site (P10 :: m) 0 = true := fun _ => j10
    have hpk := partsI_len s l k
    obtain ⟨M, hM⟩ : ∃ M, M = L1 ++ partsI s l k := ⟨_, rfl⟩
    have hml : M.length ≤ 200 * i + 1 + 2 * k := by rw [hM, List.length_append]; omega
    rw [← hM]
    have fc := cellsIt_len M
    have ft := cellsIt_take M
    have fit : ∀ y : It, cellsIt M ++ [AV.int .i64 y.kind, .int .i64 y.width, .int .i64 y.stretch, .int .i64 y.shrink, .int .i64 y.penalty, .str y.text] = cellsIt (M ++ [y]) := fun y => cellsIt_snoc1 M y
    by_cases hk : k < l.length
    · have hsk := partsI_succ s l k
      have hpk2 := hprt k
      have hmp := @mem_parts s l l.length k hk
      obtain ⟨u, hu⟩ : ∃ u, u = l.getD k [] := ⟨_, rfl⟩
      have eu := hu.symm
      rw [eu] at hsk hpk2 hmp
      have hbig := hmw _ (by rw [hwi]; exact List.mem_append_right _ hmp)
      have hcu := clus_len u
      have c71 := fun h => t71 u h (by omega)
      obtain ⟨m1, m2⟩ := mul_small (n := (clus u).length) b1 b2 (by omega)
      have qd0 : 0 ≤ 1073741824 / ((clus u).length : Int) := Int.ediv_nonneg (by omega) (by omega)
      have qd1 : 1073741824 / ((clus u).length : Int) ≤ 1073741824 := Int.ediv_le_self _ (by omega)
      have qw : IntKind.i64.wrap (1073741824 / ((clus u).length : Int)) = 1073741824 / ((clus u).length : Int) := wrap64_id (by omega) (by omega)
      have hmc : ((clus u).length : Int) * s.le = s.le * ((clus u).length : Int) := Int.mul_comm _ _
      by_cases hbg : s.le * ((clus u).length : Int) ≤ 1073741824
      case neg =>
        have hch : check (wordsI s ps ws ws.length) ≠ 0 := big_check hbig (by simp only; omega)
        rw [if_pos hch, if_neg (by decide)]
        have hn0 : 0 < (clus u).length := by
          rcases Nat.eq_zero_or_pos (clus u).length with e | e
          · rw [e] at hbg; simp at hbg
          · exact e
        have q1 : (0 < ((clus u).length : Int)) = True := eq_true (by omega)
        have q2 : (1073741824 / ((clus u).length : Int) < s.le) = True := eq_true (by
          by_cases hx : 1073741824 / ((clus u).length : Int) < s.le
          · exact hx
          · exact absurd ((Int.le_ediv_iff_mul_le (by omega)).1 (Int.not_lt.1 hx)) hbg)
        by_cases hk0 : k = 0
        · have k7 : (0 < (k : Int)) = False := eq_false (by omega)
          simp (disch := omega) only [spar, List.foldl, List.replicate, strs, styC, eu, k7, q1, q2, qw, j8', j10', madeA1, fc, ft, go_sem, wrap64_id, Int.tdiv_eq_ediv_of_nonneg, Int.tmod_eq_emod_of_nonneg]
          repeat' first
            | ((first | refine callA_pure (c71 _) ?_ ?_); (next => repeat' first | exact flags_n | refine flags_c (by first | rfl | assumption) ?_); simp (disch := omega) only [strs, styC, eu, k7, q1, q2, qw, j8', j10', madeA1, fc, ft, go_sem, wrap64_id, Int.tdiv_eq_ediv_of_nonneg, Int.tmod_eq_emod_of_nonneg])
            | ((first | refine callG_pure (fun e => ⟨?_, c71 _⟩) ?_); (next => repeat' first | exact flags_n | refine flags_c (by first | rfl | assumption) ?_); simp (disch := omega) only [strs, styC, eu, k7, q1, q2, qw, j8', j10', madeA1, fc, ft, go_sem, wrap64_id, Int.tdiv_eq_ediv_of_nonneg, Int.tmod_eq_emod_of_nonneg])
            | ((first | refine fnQ_pure1 ?_ ?_ | refine fnQ_pure0 ?_ ?_); (next => repeat' first | exact rvs_n | refine rvs_t ?_ | (simp [go_sem]; done)); simp only [go_sem]; (first | exact VLe.refl _ | refine VLe_int ?_ | refine VLe_bool ?_ | refine VLe_str ?_ | skip))
            | (with_reducible refine And.intro ?_ ?_)
            | with_reducible intro _
          all_goals first
            | omega
            | (rename_i hx; revert hx; simp; done)
            | (simp; done)
            | skip
          exact tupE_nil
        · have k7 : (0 < (k : Int)) = True := eq_true (by omega)
          simp (disch := omega) only [spar, List.foldl, List.replicate, strs, styC, eu, k7, q1, q2, qw, j8', j10', madeA1, fc, ft, go_sem, wrap64_id, Int.tdiv_eq_ediv_of_nonneg, Int.tmod_eq_emod_of_nonneg]
          repeat' first
            | ((first | refine callA_pure (c71 _) ?_ ?_); (next => repeat' first | exact flags_n | refine flags_c (by first | rfl | assumption) ?_); simp (disch := omega) only [strs, styC, eu, k7, q1, q2, qw, j8', j10', madeA1, fc, ft, go_sem, wrap64_id, Int.tdiv_eq_ediv_of_nonneg, Int.tmod_eq_emod_of_nonneg])
            | ((first | refine callG_pure (fun e => ⟨?_, c71 _⟩) ?_); (next => repeat' first | exact flags_n | refine flags_c (by first | rfl | assumption) ?_); simp (disch := omega) only [strs, styC, eu, k7, q1, q2, qw, j8', j10', madeA1, fc, ft, go_sem, wrap64_id, Int.tdiv_eq_ediv_of_nonneg, Int.tmod_eq_emod_of_nonneg])
            | ((first | refine fnQ_pure1 ?_ ?_ | refine fnQ_pure0 ?_ ?_); (next => repeat' first | exact rvs_n | refine rvs_t ?_ | (simp [go_sem]; done)); simp only [go_sem]; (first | exact VLe.refl _ | refine VLe_int ?_ | refine VLe_bool ?_ | refine VLe_str ?_ | skip))
            | (with_reducible refine And.intro ?_ ?_)
            | with_reducible intro _
          all_goals first
            | omega
            | (rename_i hx; revert hx; simp; done)
            | (simp; done)
            | skip
          exact tupE_nil
      have q2 : 0 < (clus u).length → (1073741824 / ((clus u).length : Int) < s.le) = False := fun hn0 => eq_false (by
        have := (Int.le_ediv_iff_mul_le (show (0 : Int) < ((clus u).length : Int) by omega)).2 hbg
        omega)
      by_cases hk0 : k = 0
      · have k7 : (0 < (k : Int)) = False := eq_false (by omega)
        have hpi : partI s k u = [⟨1, s.le * ((clus u).length : Int), 0, 0, 0, u⟩] := by unfold partI; rw [if_pos hk0]; rfl
        have hnxt : L1 ++ partsI s l (k + 1) = M ++ [⟨1, s.le * ((clus u).length : Int), 0, 0, 0, u⟩] := by rw [hsk, hpi, hM, List.append_assoc]
        have hln : M.length + 1 = (L1 ++ partsI s l (k + 1)).length := by rw [hnxt]; simp
        have hfin := fit ⟨1, s.le * ((clus u).length : Int), 0, 0, 0, u⟩
        simp only at hfin
        by_cases hn0 : 0 < (clus u).length
        · have q1 : (0 < ((clus u).length : Int)) = True := eq_true (by omega)
          have q3 := q2 hn0
          simp (disch := omega) only [spar, List.foldl, List.replicate, strs, styC, eu, k7, q1, q3, qw, j8', j10', madeA1, fc, ft, hmc, go_sem, wrap64_id, Int.tdiv_eq_ediv_of_nonneg, Int.tmod_eq_emod_of_nonneg]
          repeat' first
            | ((first | refine callA_pure (c71 _) ?_ ?_); (next => repeat' first | exact flags_n | refine flags_c (by first | rfl | assumption) ?_); simp (disch := omega) only [strs, styC, eu, k7, q1, q3, qw, j8', j10', madeA1, fc, ft, hmc, go_sem, wrap64_id, Int.tdiv_eq_ediv_of_nonneg, Int.tmod_eq_emod_of_nonneg])
            | ((first | refine callG_pure (fun e => ⟨?_, c71 _⟩) ?_); (next => repeat' first | exact flags_n | refine flags_c (by first | rfl | assumption) ?_); simp (disch := omega) only [strs, styC, eu, k7, q1, q3, qw, j8', j10', madeA1, fc, ft, hmc, go_sem, wrap64_id, Int.tdiv_eq_ediv_of_nonneg, Int.tmod_eq_emod_of_nonneg])
            | ((first | refine fnQ_pure1 ?_ ?_ | refine fnQ_pure0 ?_ ?_); (next => repeat' first | exact rvs_n | refine rvs_t ?_ | (simp [go_sem]; done)); simp only [go_sem]; (first | exact VLe.refl _ | refine VLe_int ?_ | refine VLe_bool ?_ | refine VLe_str ?_ | skip))
            | (with_reducible refine And.intro ?_ ?_)
            | with_reducible intro _
          all_goals first
            | omega
            | (rename_i hx; revert hx; simp; done)
            | (simp; done)
            | skip
          rw [hfin, hln, ← hnxt]
          refine hK2 _ _ (k + 1, v2 + 1, P8, .mem (verOf (some P10) + 1) 28 [.int .i64 1, .int .i64 (s.le * ((clus u).length : Int)), .int .i64 0, .int .i64 0, .int .i64 0, .str u]) ⟨by simp only; omega, j8, rfl⟩ (by simp only; omega) (Wk.temps ?_)
          (simp only [wordsV, strs, spar, List.foldl, List.replicate, go_sem, VLes_nil, VLes_cons, VLe_undef_iff, VLe_self]; try (repeat' first | (with_reducible refine And.intro ?_ ?_) | (refine VLe_int ?_; omega) | (refine VLe_bool ?_; rfl) | exact VLe.refl _))
        · have q1 : (0 < ((clus u).length : Int)) = False := eq_false (by omega)
          simp (disch := omega) only [spar, List.foldl, List.replicate, strs, styC, eu, k7, q1, j8', j10', madeA1, fc, ft, hmc, go_sem, wrap64_id, Int.tdiv_eq_ediv_of_nonneg, Int.tmod_eq_emod_of_nonneg]
          repeat' first
            | ((first | refine callA_pure (c71 _) ?_ ?_); (next => repeat' first | exact flags_n | refine flags_c (by first | rfl | assumption) ?_); simp (disch := omega) only [strs, styC, eu, k7, q1, j8', j10', madeA1, fc, ft, hmc, go_sem, wrap64_id, Int.tdiv_eq_ediv_of_nonneg, Int.tmod_eq_emod_of_nonneg])
            | ((first | refine callG_pure (fun e => ⟨?_, c71 _⟩) ?_); (next => repeat' first | exact flags_n | refine flags_c (by first | rfl | assumption) ?_); simp (disch := omega) only [strs, styC, eu, k7, q1, j8', j10', madeA1, fc, ft, hmc, go_sem, wrap64_id, Int.tdiv_eq_ediv_of_nonneg, Int.tmod_eq_emod_of_nonneg])
            | ((first | refine fnQ_pure1 ?_ ?_ | refine fnQ_pure0 ?_ ?_); (next => repeat' first | exact rvs_n | refine rvs_t ?_ | (simp [go_sem]; done)); simp only [go_sem]; (first | exact VLe.refl _ | refine VLe_int ?_ | refine VLe_bool ?_ | refine VLe_str ?_ | skip))
            | (with_reducible refine And.intro ?_ ?_)
            | with_reducible intro _
          all_goals first
            | omega
            | (rename_i hx; revert hx; simp; done)
            | (simp; done)
            | skip
          rw [hfin, hln, ← hnxt]
          refine hK2 _ _ (k + 1, v2 + 1, P8, .mem (verOf (some P10) + 1) 28 [.int .i64 1, .int .i64 (s.le * ((clus u).length : Int)), .int .i64 0, .int .i64 0, .int .i64 0, .str u]) ⟨by simp only; omega, j8, rfl⟩ (by simp only; omega) (Wk.temps ?_)
          (simp only [wordsV, strs, spar, List.foldl, List.replicate, go_sem, VLes_nil, VLes_cons, VLe_undef_iff, VLe_self]; try (repeat' first | (with_reducible refine And.intro ?_ ?_) | (refine VLe_int ?_; omega) | (refine VLe_bool ?_; rfl) | exact VLe.refl _))
      · have k7 : (0 < (k : Int)) = True := eq_true (by omega)
        have hpi : partI s k u = [⟨3, s.le, 0, 0, s.hy, [61]⟩, ⟨1, s.le * ((clus u).length : Int), 0, 0, 0, u⟩] := by unfold partI; rw [if_neg hk0]; rfl
        have hnxt : L1 ++ partsI s l (k + 1) = (M ++ [⟨3, s.le, 0, 0, s.hy, [61]⟩]) ++ [⟨1, s.le * ((clus u).length : Int), 0, 0, 0, u⟩] := by rw [hsk, hpi, hM]; simp
        have hln : M.length + 1 + 1 = (L1 ++ partsI s l (k + 1)).length := by rw [hnxt]; simp
        have hfin0 := fit ⟨3, s.le, 0, 0, s.hy, [61]⟩
        obtain ⟨M2, hM2⟩ : ∃ M2, M2 = M ++ [(⟨3, s.le, 0, 0, s.hy, [61]⟩ : It)] := ⟨_, rfl⟩
        have hl2 : M2.length = M.length + 1 := by rw [hM2]; simp
        rw [← hM2] at hfin0 hnxt
        have fc2 : (cellsIt M2).length = (M.length + 1) * 6 := by rw [cellsIt_len, hl2]
        have ft2 : List.take ((M.length + 1) * 6) (cellsIt M2) = cellsIt M2 := by rw [← hl2]; exact cellsIt_take M2
        have hfin : cellsIt M2 ++ [AV.int .i64 1, .int .i64 (s.le * ((clus u).length : Int)), .int .i64 0, .int .i64 0, .int .i64 0, .str u] = cellsIt (M2 ++ [⟨1, s.le * ((clus u).length : Int), 0, 0, 0, u⟩]) := cellsIt_snoc1 M2 ⟨1, s.le * ((clus u).length : Int), 0, 0, 0, u⟩
        simp only at hfin0
        by_cases hn0 : 0 < (clus u).length
        · have q1 : (0 < ((clus u).length : Int)) = True := eq_true (by omega)
          have q3 := q2 hn0
          simp (disch := omega) only [spar, List.foldl, List.replicate, strs, styC, eu, k7, q1, q3, qw, j8', j10', madeA1, fc, ft, hfin0, fc2, ft2, hmc, go_sem, wrap64_id, Int.tdiv_eq_ediv_of_nonneg, Int.tmod_eq_emod_of_nonneg]
          repeat' first
            | ((first | refine callA_pure (c71 _) ?_ ?_); (next => repeat' first | exact flags_n | refine flags_c (by first | rfl | assumption) ?_); simp (disch := omega) only [strs, styC, eu, k7, q1, q3, qw, j8', j10', madeA1, fc, ft, hfin0, fc2, ft2, hmc, go_sem, wrap64_id, Int.tdiv_eq_ediv_of_nonneg, Int.tmod_eq_emod_of_nonneg])
            | ((first | refine callG_pure (fun e => ⟨?_, c71 _⟩) ?_); (next => repeat' first | exact flags_n | refine flags_c (by first | rfl | assumption) ?_); simp (disch := omega) only [strs, styC, eu, k7, q1, q3, qw, j8', j10', madeA1, fc, ft, hfin0, fc2, ft2, hmc, go_sem, wrap64_id, Int.tdiv_eq_ediv_of_nonneg, Int.tmod_eq_emod_of_nonneg])
            | ((first | refine fnQ_pure1 ?_ ?_ | refine fnQ_pure0 ?_ ?_); (next => repeat' first | exact rvs_n | refine rvs_t ?_ | (simp [go_sem]; done)); simp only [go_sem]; (first | exact VLe.refl _ | refine VLe_int ?_ | refine VLe_bool ?_ | refine VLe_str ?_ | skip))
            | (with_reducible refine And.intro ?_ ?_)
            | with_reducible intro _
          all_goals first
            | omega
            | (rename_i hx; revert hx; simp; done)
            | (simp; done)
            | skip
          rw [hfin, hln, ← hnxt]
          refine hK2 _ _ (k + 1, v2 + 1 + 1, .mem (verOf (some P8) + 1) 28 [.int .i64 3, .int .i64 s.le, .int .i64 0, .int .i64 0, .int .i64 s.hy, .str [61]], .mem (verOf (some P10) + 1) 28 [.int .i64 1, .int .i64 (s.le * ((clus u).length : Int)), .int .i64 0, .int .i64 0, .int .i64 0, .str u]) ⟨by simp only; omega, rfl, rfl⟩ (by simp only; omega) (Wk.temps ?_)
          (simp only [wordsV, strs, spar, List.foldl, List.replicate, go_sem, VLes_nil, VLes_cons, VLe_undef_iff, VLe_self]; try (repeat' first | (with_reducible refine And.intro ?_ ?_) | (refine VLe_int ?_; omega) | (refine VLe_bool ?_; rfl) | exact VLe.refl _))
        · have q1 : (0 < ((clus u).length : Int)) = False := eq_false (by omega)
          simp (disch := omega) only [spar, List.foldl, List.replicate, strs, styC, eu, k7, q1, j8', j10', madeA1, fc, ft, hfin0, fc2, ft2, hmc, go_sem, wrap64_id, Int.tdiv_eq_ediv_of_nonneg, Int.tmod_eq_emod_of_nonneg]
          repeat' first
            | ((first | refine callA_pure (c71 _) ?_ ?_); (next => repeat' first | exact flags_n | refine flags_c (by first | rfl | assumption) ?_); simp (disch := omega) only [strs, styC, eu, k7, q1, j8', j10', madeA1, fc, ft, hfin0, fc2, ft2, hmc, go_sem, wrap64_id, Int.tdiv_eq_ediv_of_nonneg, Int.tmod_eq_emod_of_nonneg])
            | ((first | refine callG_pure (fun e => ⟨?_, c71 _⟩) ?_); (next => repeat' first | exact flags_n | refine flags_c (by first | rfl | assumption) ?_); simp (disch := omega) only [strs, styC, eu, k7, q1, j8', j10', madeA1, fc, ft, hfin0, fc2, ft2, hmc, go_sem, wrap64_id, Int.tdiv_eq_ediv_of_nonneg, Int.tmod_eq_emod_of_nonneg])
            | ((first | refine fnQ_pure1 ?_ ?_ | refine fnQ_pure0 ?_ ?_); (next => repeat' first | exact rvs_n | refine rvs_t ?_ | (simp [go_sem]; done)); simp only [go_sem]; (first | exact VLe.refl _ | refine VLe_int ?_ | refine VLe_bool ?_ | refine VLe_str ?_ | skip))
            | (with_reducible refine And.intro ?_ ?_)
            | with_reducible intro _
          all_goals first
            | omega
            | (rename_i hx; revert hx; simp; done)
            | (simp; done)
            | skip
          rw [hfin, hln, ← hnxt]
          refine hK2 _ _ (k + 1, v2 + 1 + 1, .mem (verOf (some P8) + 1) 28 [.int .i64 3, .int .i64 s.le, .int .i64 0, .int .i64 0, .int .i64 s.hy, .str [61]], .mem (verOf (some P10) + 1) 28 [.int .i64 1, .int .i64 (s.le * ((clus u).length : Int)), .int .i64 0, .int .i64 0, .int .i64 0, .str u]) ⟨by simp only; omega, rfl, rfl⟩ (by simp only; omega) (Wk.temps ?_)
          (simp only [wordsV, strs, spar, List.foldl, List.replicate, go_sem, VLes_nil, VLes_cons, VLe_undef_iff, VLe_self]; try (repeat' first | (with_reducible refine And.intro ?_ ?_) | (refine VLe_int ?_; omega) | (refine VLe_bool ?_; rfl) | exact VLe.refl _))
    · have e : k = l.length := by omega
      have hfn : M = wordsI s ps ws (i + 1) := by rw [hM, e, hsu, hwi, hL1, List.append_assoc]
      rw [hfn]
      simp (disch := omega) only [spar, List.foldl, List.replicate, strs, go_sem, wrap64_id, Int.tdiv_eq_ediv_of_nonneg, Int.tmod_eq_emod_of_nonneg]
      repeat' first
        | ((first | refine fnQ_pure1 ?_ ?_ | refine fnQ_pure0 ?_ ?_); (next => repeat' first | exact rvs_n | refine rvs_t ?_ | (simp [go_sem]; done)); simp only [go_sem]; (first | exact VLe.refl _ | refine VLe_int ?_ | refine VLe_bool ?_ | refine VLe_str ?_ | skip))
        | (with_reducible refine And.intro ?_ ?_)
        | with_reducible intro _
      all_goals first
        | omega
        | (rename_i hx; revert hx; simp; done)
        | (simp; done)
        | skip
      refine hK _ _ (i + 1, v2, O4, O6, P8, P10) ⟨by simp only; omega, i4, i6, j8, j10⟩ (by simp only; omega) (Wk.temps ?_)
      (simp only [wordsV, strs, spar, List.foldl, List.replicate, go_sem, VLes_nil, VLes_cons, VLe_undef_iff, VLe_self]; try (repeat' first | (with_reducible refine And.intro ?_ ?_) | (refine VLe_int ?_; omega) | (refine VLe_bool ?_; rfl) | exact VLe.refl _))
  | false =>
    have hsp : sepI s i w = [⟨2, s.sp, s.st, s.sh, 0, []⟩] := by unfold sepI; rw [if_neg g5, if_neg (by rw [g6]; simp), if_neg (by rw [g7]; simp)]
    have hfin := hit ⟨2, s.sp, s.st, s.sh, 0, []⟩
    simp only at hfin
    obtain ⟨L1, hL1⟩ : ∃ L1, L1 = L ++ sepI s i w := ⟨_, rfl⟩
    have hl1 : L1.length ≤ 200 * i + 1 := by rw [hL1, List.length_append]; have := sepI_len s i w; omega
    simp (disch := omega) only [spar, List.foldl, List.replicate, wordsV, wordC, ewd, styC, strs, k1, g6, g7, hfin, i4', i6', madeA1, ec, et, go_sem, wrap64_id, Int.tdiv_eq_ediv_of_nonneg, Int.tmod_eq_emod_of_nonneg]
    repeat' first
      | ((first | refine callA_pure (c70 _) ?_ ?_); (next => repeat' first | exact flags_n | refine flags_c (by first | rfl | assumption) ?_); simp (disch := omega) only [wordsV, wordC, ewd, styC, strs, k1, g6, g7, hfin, i4', i6', madeA1, ec, et, go_sem, wrap64_id, Int.tdiv_eq_ediv_of_nonneg, Int.tmod_eq_emod_of_nonneg])
      | ((first | refine callG_pure (fun e => ⟨?_, c70 _⟩) ?_); (next => repeat' first | exact flags_n | refine flags_c (by first | rfl | assumption) ?_); simp (disch := omega) only [wordsV, wordC, ewd, styC, strs, k1, g6, g7, hfin, i4', i6', madeA1, ec, et, go_sem, wrap64_id, Int.tdiv_eq_ediv_of_nonneg, Int.tmod_eq_emod_of_nonneg])
      | ((first | refine fnQ_pure1 ?_ ?_ | refine fnQ_pure0 ?_ ?_); (next => repeat' first | exact rvs_n | refine rvs_t ?_ | (simp [go_sem]; done)); simp only [go_sem]; (first | exact VLe.refl _ | refine VLe_int ?_ | refine VLe_bool ?_ | refine VLe_str ?_ | skip))
      | (with_reducible refine And.intro ?_ ?_)
      | with_reducible intro _
    all_goals first
      | omega
      | (rename_i hx; revert hx; simp; done)
      | (simp; done)
      | skip
    rw [show L ++ [(⟨2, s.sp, s.st, s.sh, 0, []⟩ : It)] = L1 by rw [hL1, hsp], show L.length + 1 = L1.length by rw [hL1, hsp]; simp]
    rw [show cellsIt L1 = cellsIt (L1 ++ partsI s l 0) by rw [partsI_zero, List.append_nil], show L1.length = (L1 ++ partsI s l 0).length by rw [partsI_zero, List.append_nil]]
    refine loop_of (T := fun k : Nat × Nat × AObj × AObj => spar 167 [(1, patsV ps), (2, wordsV ws), (3, .op h.length 1 0), (9, .osl (h.length + 2) k.2.1 6 0 (L1 ++ partsI s l k.1).length), (10, .int .i64 i), (11, strs l), (12, .int .i64 k.1)])
      (H := fun k => h ++ [.mem 1 58 (styC s x), .emp 1, .mem k.2.1 28 (cellsIt (L1 ++ partsI s l k.1)), O4, .emp 0, .mem (verOf (some O6) + 1) 28 [.int .i64 2, .int .i64 s.sp, .int .i64 s.st, .int .i64 s.sh, .int .i64 0, .str []], .emp 0, k.2.2.1, .emp 0, k.2.2.2, .emp 0])
      (inv := fun k => k.1 ≤ l.length ∧ site [k.2.2.1] 0 = true ∧ site [k.2.2.2] 0 = true) (m := fun k => l.length - k.1) (0, v + 1, O8, O10) ⟨by simp, i8, i10⟩ (Wk.temps ?_) ?_
    · (simp only [wordsV, strs, spar, List.foldl, List.replicate, go_sem, VLes_nil, VLes_cons, VLe_undef_iff, VLe_self]; try (repeat' first | (with_reducible refine And.intro ?_ ?_) | (refine VLe_int ?_; omega) | (refine VLe_bool ?_; rfl) | exact VLe.refl _))
    rintro ⟨k, v2, P8, P10⟩ ⟨j1, j8, j10⟩ K2 hK2
    simp only at j1 j8 j10 hK2
    have j8' : ∀ m, site (P8 :: m) 0 = true := fun _ => j8
    have j10' : ∀ m, site (P10 :: m) 0 = true := fun _ => j10
    have hpk := partsI_len s l k
    obtain ⟨M, hM⟩ : ∃ M, M = L1 ++ partsI s l k := ⟨_, rfl⟩
    have hml : M.length ≤ 200 * i + 1 + 2 * k := by rw [hM, List.length_append]; omega
    rw [← hM]
    have fc := cellsIt_len M
    have ft := cellsIt_take M
    have fit : ∀ y : It, cellsIt M ++ [AV.int .i64 y.kind, .int .i64 y.width, .int .i64 y.stretch, .int .i64 y.shrink, .int .i64 y.penalty, .str y.text] = cellsIt (M ++ [y]) := fun y => cellsIt_snoc1 M y
    by_cases hk : k < l.length
    · have hsk := partsI_succ s l k
      have hpk2 := hprt k
      have hmp := @mem_parts s l l.length k hk
      obtain ⟨u, hu⟩ : ∃ u, u = l.getD k [] := ⟨_, rfl⟩
      have eu := hu.symm
      rw [eu] at hsk hpk2 hmp
      have hbig := hmw _ (by rw [hwi]; exact List.mem_append_right _ hmp)
      have hcu := clus_len u
      have c71 := fun h => t71 u h (by omega)
      obtain ⟨m1, m2⟩ := mul_small (n := (clus u).length) b1 b2 (by omega)
      have qd0 : 0 ≤ 1073741824 / ((clus u).length : Int) := Int.ediv_nonneg (by omega) (by omega)
      have qd1 : 1073741824 / ((clus u).length : Int) ≤ 1073741824 := Int.ediv_le_self _ (by omega)
      have qw : IntKind.i64.wrap (1073741824 / ((clus u).length : Int)) = 1073741824 / ((clus u).length : Int) := wrap64_id (by omega) (by omega)
      have hmc : ((clus u).length : Int) * s.le = s.le * ((clus u).length : Int) := Int.mul_comm _ _
      by_cases hbg : s.le * ((clus u).length : Int) ≤ 1073741824
      case neg =>
        have hch : check (wordsI s ps ws ws.length) ≠ 0 := big_check hbig (by simp only; omega)
        rw [if_pos hch, if_neg (by decide)]
        have hn0 : 0 < (clus u).length := by
          rcases Nat.eq_zero_or_pos (clus u).length with e | e
          · rw [e] at hbg; simp at hbg
          · exact e
        have q1 : (0 < ((clus u).length : Int)) = True := eq_true (by omega)
        have q2 : (1073741824 / ((clus u).length : Int) < s.le) = True := eq_true (by
          by_cases hx : 1073741824 / ((clus u).length : Int) < s.le
          · exact hx
          · exact absurd ((Int.le_ediv_iff_mul_le (by omega)).1 (Int.not_lt.1 hx)) hbg)
        by_cases hk0 : k = 0
        · have k7 : (0 < (k : Int)) = False := eq_false (by omega)
          simp (disch := omega) only [spar, List.foldl, List.replicate, strs, styC, eu, k7, q1, q2, qw, j8', j10', madeA1, fc, ft, go_sem, wrap64_id, Int.tdiv_eq_ediv_of_nonneg, Int.tmod_eq_emod_of_nonneg]
          repeat' first
            | ((first | refine callA_pure (c71 _) ?_ ?_); (next => repeat' first | exact flags_n | refine flags_c (by first | rfl | assumption) ?_); simp (disch := omega) only [strs, styC, eu, k7, q1, q2, qw, j8', j10', madeA1, fc, ft, go_sem, wrap64_id, Int.tdiv_eq_ediv_of_nonneg, Int.tmod_eq_emod_of_nonneg])
            | ((first | refine callG_pure (fun e => ⟨?_, c71 _⟩) ?_); (next => repeat' first | exact flags_n | refine flags_c (by first | rfl | assumption) ?_); simp (disch := omega) only [strs, styC, eu, k7, q1, q2, qw, j8', j10', madeA1, fc, ft, go_sem, wrap64_id, Int.tdiv_eq_ediv_of_nonneg, Int.tmod_eq_emod_of_nonneg])
            | ((first | refine fnQ_pure1 ?_ ?_ | refine fnQ_pure0 ?_ ?_); (next => repeat' first | exact rvs_n | refine rvs_t ?_ | (simp [go_sem]; done)); simp only [go_sem]; (first | exact VLe.refl _ | refine VLe_int ?_ | refine VLe_bool ?_ | refine VLe_str ?_ | skip))
            | (with_reducible refine And.intro ?_ ?_)
            | with_reducible intro _
          all_goals first
            | omega
            | (rename_i hx; revert hx; simp; done)
            | (simp; done)
            | skip
          exact tupE_nil
        · have k7 : (0 < (k : Int)) = True := eq_true (by omega)
          simp (disch := omega) only [spar, List.foldl, List.replicate, strs, styC, eu, k7, q1, q2, qw, j8', j10', madeA1, fc, ft, go_sem, wrap64_id, Int.tdiv_eq_ediv_of_nonneg, Int.tmod_eq_emod_of_nonneg]
          repeat' first
            | ((first | refine callA_pure (c71 _) ?_ ?_); (next => repeat' first | exact flags_n | refine flags_c (by first | rfl | assumption) ?_); simp (disch := omega) only [strs, styC, eu, k7, q1, q2, qw, j8', j10', madeA1, fc, ft, go_sem, wrap64_id, Int.tdiv_eq_ediv_of_nonneg, Int.tmod_eq_emod_of_nonneg])
            | ((first | refine callG_pure (fun e => ⟨?_, c71 _⟩) ?_); (next => repeat' first | exact flags_n | refine flags_c (by first | rfl | assumption) ?_); simp (disch := omega) only [strs, styC, eu, k7, q1, q2, qw, j8', j10', madeA1, fc, ft, go_sem, wrap64_id, Int.tdiv_eq_ediv_of_nonneg, Int.tmod_eq_emod_of_nonneg])
            | ((first | refine fnQ_pure1 ?_ ?_ | refine fnQ_pure0 ?_ ?_); (next => repeat' first | exact rvs_n | refine rvs_t ?_ | (simp [go_sem]; done)); simp only [go_sem]; (first | exact VLe.refl _ | refine VLe_int ?_ | refine VLe_bool ?_ | refine VLe_str ?_ | skip))
            | (with_reducible refine And.intro ?_ ?_)
            | with_reducible intro _
          all_goals first
            | omega
            | (rename_i hx; revert hx; simp; done)
            | (simp; done)
            | skip
          exact tupE_nil
      have q2 : 0 < (clus u).length → (1073741824 / ((clus u).length : Int) < s.le) = False := fun hn0 => eq_false (by
        have := (Int.le_ediv_iff_mul_le (show (0 : Int) < ((clus u).length : Int) by omega)).2 hbg
        omega)
      by_cases hk0 : k = 0
      · have k7 : (0 < (k : Int)) = False := eq_false (by omega)
        have hpi : partI s k u = [⟨1, s.le * ((clus u).length : Int), 0, 0, 0, u⟩] := by unfold partI; rw [if_pos hk0]; rfl
        have hnxt : L1 ++ partsI s l (k + 1) = M ++ [⟨1, s.le * ((clus u).length : Int), 0, 0, 0, u⟩] := by rw [hsk, hpi, hM, List.append_assoc]
        have hln : M.length + 1 = (L1 ++ partsI s l (k + 1)).length := by rw [hnxt]; simp
        have hfin := fit ⟨1, s.le * ((clus u).length : Int), 0, 0, 0, u⟩
        simp only at hfin
        by_cases hn0 : 0 < (clus u).length
        · have q1 : (0 < ((clus u).length : Int)) = True := eq_true (by omega)
          have q3 := q2 hn0
          simp (disch := omega) only [spar, List.foldl, List.replicate, strs, styC, eu, k7, q1, q3, qw, j8', j10', madeA1, fc, ft, hmc, go_sem, wrap64_id, Int.tdiv_eq_ediv_of_nonneg, Int.tmod_eq_emod_of_nonneg]
          repeat' first
            | ((first | refine callA_pure (c71 _) ?_ ?_); (next => repeat' first | exact flags_n | refine flags_c (by first | rfl | assumption) ?_); simp (disch := omega) only [strs, styC, eu, k7, q1, q3, qw, j8', j10', madeA1, fc, ft, hmc, go_sem, wrap64_id, Int.tdiv_eq_ediv_of_nonneg, Int.tmod_eq_emod_of_nonneg])
            | ((first | refine callG_pure (fun e => ⟨?_, c71 _⟩) ?_); (next => repeat' first | exact flags_n | refine flags_c (by first | rfl | assumption) ?_); simp (disch := omega) only [strs, styC, eu, k7, q1, q3, qw, j8', j10', madeA1, fc, ft, hmc, go_sem, wrap64_id, Int.tdiv_eq_ediv_of_nonneg, Int.tmod_eq_emod_of_nonneg])
            | ((first | refine fnQ_pure1 ?_ ?_ | refine fnQ_pure0 ?_ ?_); (next => repeat' first | exact rvs_n | refine rvs_t ?_ | (simp [go_sem]; done)); simp only [go_sem]; (first | exact VLe.refl _ | refine VLe_int ?_ | refine VLe_bool ?_ | refine VLe_str ?_ | skip))
            | (with_reducible refine And.intro ?_ ?_)
            | with_reducible intro _
          all_goals first
            | omega
            | (rename_i hx; revert hx; simp; done)
            | (simp; done)
            | skip
          rw [hfin, hln, ← hnxt]
          refine hK2 _ _ (k + 1, v2 + 1, P8, .mem (verOf (some P10) + 1) 28 [.int .i64 1, .int .i64 (s.le * ((clus u).length : Int)), .int .i64 0, .int .i64 0, .int .i64 0, .str u]) ⟨by simp only; omega, j8, rfl⟩ (by simp only; omega) (Wk.temps ?_)
          (simp only [wordsV, strs, spar, List.foldl, List.replicate, go_sem, VLes_nil, VLes_cons, VLe_undef_iff, VLe_self]; try (repeat' first | (with_reducible refine And.intro ?_ ?_) | (refine VLe_int ?_; omega) | (refine VLe_bool ?_; rfl) | exact VLe.refl _))
        · have q1 : (0 < ((clus u).length : Int)) = False := eq_false (by omega)
          simp (disch := omega) only [spar, List.foldl, List.replicate, strs, styC, eu, k7, q1, j8', j10', madeA1, fc, ft, hmc, go_sem, wrap64_id, Int.tdiv_eq_ediv_of_nonneg, Int.tmod_eq_emod_of_nonneg]
          repeat' first
            | ((first | refine callA_pure (c71 _) ?_ ?_); (next => repeat' first | exact flags_n | refine flags_c (by first | rfl | assumption) ?_); simp (disch := omega) only [strs, styC, eu, k7, q1, j8', j10', madeA1, fc, ft, hmc, go_sem, wrap64_id, Int.tdiv_eq_ediv_of_nonneg, Int.tmod_eq_emod_of_nonneg])
            | ((first | refine callG_pure (fun e => ⟨?_, c71 _⟩) ?_); (next => repeat' first | exact flags_n | refine flags_c (by first | rfl | assumption) ?_); simp (disch := omega) only [strs, styC, eu, k7, q1, j8', j10', madeA1, fc, ft, hmc, go_sem, wrap64_id, Int.tdiv_eq_ediv_of_nonneg, Int.tmod_eq_emod_of_nonneg])
            | ((first | refine fnQ_pure1 ?_ ?_ | refine fnQ_pure0 ?_ ?_); (next => repeat' first | exact rvs_n | refine rvs_t ?_ | (simp [go_sem]; done)); simp only [go_sem]; (first | exact VLe.refl _ | refine VLe_int ?_ | refine VLe_bool ?_ | refine VLe_str ?_ | skip))
            | (with_reducible refine And.intro ?_ ?_)
            | with_reducible intro _
          all_goals first
            | omega
            | (rename_i hx; revert hx; simp; done)
            | (simp; done)
            | skip
          rw [hfin, hln, ← hnxt]
          refine hK2 _ _ (k + 1, v2 + 1, P8, .mem (verOf (some P10) + 1) 28 [.int .i64 1, .int .i64 (s.le * ((clus u).length : Int)), .int .i64 0, .int .i64 0, .int .i64 0, .str u]) ⟨by simp only; omega, j8, rfl⟩ (by simp only; omega) (Wk.temps ?_)
          (simp only [wordsV, strs, spar, List.foldl, List.replicate, go_sem, VLes_nil, VLes_cons, VLe_undef_iff, VLe_self]; try (repeat' first | (with_reducible refine And.intro ?_ ?_) | (refine VLe_int ?_; omega) | (refine VLe_bool ?_; rfl) | exact VLe.refl _))
      · have k7 : (0 < (k : Int)) = True := eq_true (by omega)
        have hpi : partI s k u = [⟨3, s.le, 0, 0, s.hy, [61]⟩, ⟨1, s.le * ((clus u).length : Int), 0, 0, 0, u⟩] := by unfold partI; rw [if_neg hk0]; rfl
        have hnxt : L1 ++ partsI s l (k + 1) = (M ++ [⟨3, s.le, 0, 0, s.hy, [61]⟩]) ++ [⟨1, s.le * ((clus u).length : Int), 0, 0, 0, u⟩] := by rw [hsk, hpi, hM]; simp
        have hln : M.length + 1 + 1 = (L1 ++ partsI s l (k + 1)).length := by rw [hnxt]; simp
        have hfin0 := fit ⟨3, s.le, 0, 0, s.hy, [61]⟩
        obtain ⟨M2, hM2⟩ : ∃ M2, M2 = M ++ [(⟨3, s.le, 0, 0, s.hy, [61]⟩ : It)] := ⟨_, rfl⟩
        have hl2 : M2.length = M.length + 1 := by rw [hM2]; simp
        rw [← hM2] at hfin0 hnxt
        have fc2 : (cellsIt M2).length = (M.length + 1) * 6 := by rw [cellsIt_len, hl2]
        have ft2 : List.take ((M.length + 1) * 6) (cellsIt M2) = cellsIt M2 := by rw [← hl2]; exact cellsIt_take M2
        have hfin : cellsIt M2 ++ [AV.int .i64 1, .int .i64 (s.le * ((clus u).length : Int)), .int .i64 0, .int .i64 0, .int .i64 0, .str u] = cellsIt (M2 ++ [⟨1, s.le * ((clus u).length : Int), 0, 0, 0, u⟩]) := cellsIt_snoc1 M2 ⟨1, s.le * ((clus u).length : Int), 0, 0, 0, u⟩
        simp only at hfin0
        by_cases hn0 : 0 < (clus u).length
        · have q1 : (0 < ((clus u).length : Int)) = True := eq_true (by omega)
          have q3 := q2 hn0
          simp (disch := omega) only [spar, List.foldl, List.replicate, strs, styC, eu, k7, q1, q3, qw, j8', j10', madeA1, fc, ft, hfin0, fc2, ft2, hmc, go_sem, wrap64_id, Int.tdiv_eq_ediv_of_nonneg, Int.tmod_eq_emod_of_nonneg]
          repeat' first
            | ((first | refine callA_pure (c71 _) ?_ ?_); (next => repeat' first | exact flags_n | refine flags_c (by first | rfl | assumption) ?_); simp (disch := omega) only [strs, styC, eu, k7, q1, q3, qw, j8', j10', madeA1, fc, ft, hfin0, fc2, ft2, hmc, go_sem, wrap64_id, Int.tdiv_eq_ediv_of_nonneg, Int.tmod_eq_emod_of_nonneg])
            | ((first | refine callG_pure (fun e => ⟨?_, c71 _⟩) ?_); (next => repeat' first | exact flags_n | refine flags_c (by first | rfl | assumption) ?_); simp (disch := omega) only [strs, styC, eu, k7, q1, q3, qw, j8', j10', madeA1, fc, ft, hfin0, fc2, ft2, hmc, go_sem, wrap64_id, Int.tdiv_eq_ediv_of_nonneg, Int.tmod_eq_emod_of_nonneg])
            | ((first | refine fnQ_pure1 ?_ ?_ | refine fnQ_pure0 ?_ ?_); (next => repeat' first | exact rvs_n | refine rvs_t ?_ | (simp [go_sem]; done)); simp only [go_sem]; (first | exact VLe.refl _ | refine VLe_int ?_ | refine VLe_bool ?_ | refine VLe_str ?_ | skip))
            | (with_reducible refine And.intro ?_ ?_)
            | with_reducible intro _
          all_goals first
            | omega
            | (rename_i hx; revert hx; simp; done)
            | (simp; done)
            | skip
          rw [hfin, hln, ← hnxt]
          refine hK2 _ _ (k + 1, v2 + 1 + 1, .mem (verOf (some P8) + 1) 28 [.int .i64 3, .int .i64 s.le, .int .i64 0, .int .i64 0, .int .i64 s.hy, .str [61]], .mem (verOf (some P10) + 1) 28 [.int .i64 1, .int .i64 (s.le * ((clus u).length : Int)), .int .i64 0, .int .i64 0, .int .i64 0, .str u]) ⟨by simp only; omega, rfl, rfl⟩ (by simp only; omega) (Wk.temps ?_)
          (simp only [wordsV, strs, spar, List.foldl, List.replicate, go_sem, VLes_nil, VLes_cons, VLe_undef_iff, VLe_self]; try (repeat' first | (with_reducible refine And.intro ?_ ?_) | (refine VLe_int ?_; omega) | (refine VLe_bool ?_; rfl) | exact VLe.refl _))
        · have q1 : (0 < ((clus u).length : Int)) = False := eq_false (by omega)
          simp (disch := omega) only [spar, List.foldl, List.replicate, strs, styC, eu, k7, q1, j8', j10', madeA1, fc, ft, hfin0, fc2, ft2, hmc, go_sem, wrap64_id, Int.tdiv_eq_ediv_of_nonneg, Int.tmod_eq_emod_of_nonneg]
          repeat' first
            | ((first | refine callA_pure (c71 _) ?_ ?_); (next => repeat' first | exact flags_n | refine flags_c (by first | rfl | assumption) ?_); simp (disch := omega) only [strs, styC, eu, k7, q1, j8', j10', madeA1, fc, ft, hfin0, fc2, ft2, hmc, go_sem, wrap64_id, Int.tdiv_eq_ediv_of_nonneg, Int.tmod_eq_emod_of_nonneg])
            | ((first | refine callG_pure (fun e => ⟨?_, c71 _⟩) ?_); (next => repeat' first | exact flags_n | refine flags_c (by first | rfl | assumption) ?_); simp (disch := omega) only [strs, styC, eu, k7, q1, j8', j10', madeA1, fc, ft, hfin0, fc2, ft2, hmc, go_sem, wrap64_id, Int.tdiv_eq_ediv_of_nonneg, Int.tmod_eq_emod_of_nonneg])
            | ((first | refine fnQ_pure1 ?_ ?_ | refine fnQ_pure0 ?_ ?_); (next => repeat' first | exact rvs_n | refine rvs_t ?_ | (simp [go_sem]; done)); simp only [go_sem]; (first | exact VLe.refl _ | refine VLe_int ?_ | refine VLe_bool ?_ | refine VLe_str ?_ | skip))
            | (with_reducible refine And.intro ?_ ?_)
            | with_reducible intro _
          all_goals first
            | omega
            | (rename_i hx; revert hx; simp; done)
            | (simp; done)
            | skip
          rw [hfin, hln, ← hnxt]
          refine hK2 _ _ (k + 1, v2 + 1 + 1, .mem (verOf (some P8) + 1) 28 [.int .i64 3, .int .i64 s.le, .int .i64 0, .int .i64 0, .int .i64 s.hy, .str [61]], .mem (verOf (some P10) + 1) 28 [.int .i64 1, .int .i64 (s.le * ((clus u).length : Int)), .int .i64 0, .int .i64 0, .int .i64 0, .str u]) ⟨by simp only; omega, rfl, rfl⟩ (by simp only; omega) (Wk.temps ?_)
          (simp only [wordsV, strs, spar, List.foldl, List.replicate, go_sem, VLes_nil, VLes_cons, VLe_undef_iff, VLe_self]; try (repeat' first | (with_reducible refine And.intro ?_ ?_) | (refine VLe_int ?_; omega) | (refine VLe_bool ?_; rfl) | exact VLe.refl _))
    · have e : k = l.length := by omega
      have hfn : M = wordsI s ps ws (i + 1) := by rw [hM, e, hsu, hwi, hL1, List.append_assoc]
      rw [hfn]
      simp (disch := omega) only [spar, List.foldl, List.replicate, strs, go_sem, wrap64_id, Int.tdiv_eq_ediv_of_nonneg, Int.tmod_eq_emod_of_nonneg]
      repeat' first
        | ((first | refine fnQ_pure1 ?_ ?_ | refine fnQ_pure0 ?_ ?_); (next => repeat' first | exact rvs_n | refine rvs_t ?_ | (simp [go_sem]; done)); simp only [go_sem]; (first | exact VLe.refl _ | refine VLe_int ?_ | refine VLe_bool ?_ | refine VLe_str ?_ | skip))
        | (with_reducible refine And.intro ?_ ?_)
        | with_reducible intro _
      all_goals first
        | omega
        | (rename_i hx; revert hx; simp; done)
        | (simp; done)
        | skip
      refine hK _ _ (i + 1, v2, O4, .mem (verOf (some O6) + 1) 28 [.int .i64 2, .int .i64 s.sp, .int .i64 s.st, .int .i64 s.sh, .int .i64 0, .str []], P8, P10) ⟨by simp only; omega, i4, rfl, j8, j10⟩ (by simp only; omega) (Wk.temps ?_)
      (simp only [wordsV, strs, spar, List.foldl, List.replicate, go_sem, VLes_nil, VLes_cons, VLe_undef_iff, VLe_self]; try (repeat' first | (with_reducible refine And.intro ?_ ?_) | (refine VLe_int ?_; omega) | (refine VLe_bool ?_; rfl) | exact VLe.refl _))
end HY
end

import Derived.Test.YtbccfgnihmfgmaaHA
set_option linter.all false
set_option linter.unusedSimpArgs false
set_option linter.unusedVariables false
set_option linter.unusedSectionVars false
section
/-! the text D28 -/
open Go Go.Proofs AF HY P48
namespace HY
set_option maxRecDepth 100000
def cellsT (l : List It) : List AV := l.flatMap itemC
theorem cellsT_eq : cellsT = cellsIt := rfl
theorem cellsIt_app (a b : List It) : cellsIt (a ++ b) = cellsIt a ++ cellsIt b := by simp [cellsIt]
theorem drop_cells {l : List It} {i : Nat} (hi : i < l.length) : List.take 6 (List.drop (i * 6) (cellsIt l)) = itemC (it l i) := by
  have h1 : l = l.take i ++ it l i :: l.drop (i + 1) := by rw [← drop_it hi, List.take_append_drop]
  conv => lhs; rw [h1]
  rw [cellsIt_app, List.drop_append_of_le_length (by rw [cellsIt_len, List.length_take]; omega), List.drop_of_length_le (by rw [cellsIt_len, List.length_take]; omega)]
  show List.take 6 (itemC (it l i) ++ cellsIt (l.drop (i + 1))) = _
  rw [List.take_append_of_le_length (by rw [len_itemC]; omega)]
  rfl
theorem sl_items {l : List It} {n m : Nat} {fz : Nat → Bool} {h : List AObj} (e : l.length = m) : VLe (.sl m fun i => ((List.drop (i * 6) (cellsIt l)).take 6).map (rei fz h (n + 1))) (items l) := by
  subst e
  refine VLe_sl rfl (fun i hi => ?_)
  rw [drop_cells hi]
  rfl
theorem slOf_items {v n : Nat} {L : List It} {fz : Nat → Bool} {h : List AObj} : VLe (slOf (some (ownO v 28 (cellsIt L))) v 6 0 L.length (rei fz h (n + 1))) (items L) := by
  unfold ownO
  split
  · rename_i e
    have : L = [] := by cases L with
      | nil => rfl
      | cons a l => simp [cellsIt, itemC] at e
    subst this
    rw [slOf_emp, if_pos rfl]
    exact VLe_nl
  · rw [slOf_mem, if_pos ⟨rfl, by rw [cellsIt_len]; omega⟩]
    simp only [Nat.zero_add]
    exact sl_items rfl
theorem t35o (l : List It) (k v : Nat) (h : List AObj) (hk : getO k h = some (ownO v 28 (cellsIt l))) (hl : l.length ≤ 9223372036854775807) : ACalls Try.prog 35 [.osl k v 6 0 l.length] h (.int .i64 (check l)) h := by
  refine ACalls.borrow ?_ rfl
  refine ACalls.le (t35 l [] hl) ?_ (VLe.refl _)
  simp only [List.map_cons, List.map_nil, rei_osl, if_true, hk]
  exact VLes2 slOf_items VLes.nil
theorem t36o (l : List It) (k v : Nat) (h : List AObj) (hk : getO k h = some (ownO v 28 (cellsIt l))) (hl : l.length ≤ 9223372036854775807) : ACalls Try.prog 36 [.osl k v 6 0 l.length] h (.int .i64 (check l)) h := by
  refine ACalls.borrow ?_ rfl
  refine ACalls.le (t36 l [] hl) ?_ (VLe.refl _)
  simp only [List.map_cons, List.map_nil, rei_osl, if_true, hk]
  exact VLes2 slOf_items VLes.nil
theorem flag_wordsV (L : List Wd) : (wordsV L).flag = true := rfl
theorem strip_wordsV (L : List Wd) : (wordsV L).strip = wordsV L := rfl
attribute [go_sem] flag_wordsV strip_wordsV
theorem piece_le (w : List UInt8) (L : List Int) (j : Nat) : (piece w L j).length ≤ w.length := by
  unfold piece; rw [List.length_take, List.length_drop]; omega
theorem part_le (ps : List Pat) (w : List UInt8) (k : Nat) : ((partsP ps w).getD k []).length ≤ w.length := by
  unfold partsP
  split
  · rw [List.getD_eq_getElem?_getD]
    cases hq : (pieces w (cutsOf ps w) (cutsOf ps w).length)[k]? with
    | none => simp
    | some u =>
      have := List.mem_of_getElem? hq
      unfold pieces at this
      rw [List.mem_map] at this
      obtain ⟨j, _, rfl⟩ := this
      exact piece_le _ _ _
  · cases k <;> simp
theorem mul_small {a : Int} {n : Nat} (h0 : 0 ≤ a) (h1 : a ≤ 1073741824) (hn : n ≤ 64) : 0 ≤ a * (n : Int) ∧ a * (n : Int) ≤ 68719476736 := by
  have h2 := Int.mul_le_mul h1 (show (n : Int) ≤ 64 by omega) (by omega) (by omega)
  have h3 := Int.mul_nonneg h0 (show (0 : Int) ≤ n by omega)
  omega
theorem isLen_iff {n : Int} (h : isLen n = true) : 0 ≤ n ∧ n ≤ 1073741824 := by unfold isLen at h; simpa using h
theorem good_wd {ws : List Wd} (h : ws.any badWd = false) {i : Nat} (hi : i < ws.length) : (ws.getD i default).text.length ≤ 64 := by
  rw [List.any_eq_false] at h
  have := h _ (List.getElem_mem hi)
  unfold badWd at this
  simp at this
  rw [List.getD_eq_getElem?_getD, List.getElem?_eq_getElem hi]
  simp
  omega
theorem cellsIt_take (L : List It) : List.take (L.length * 6) (cellsIt L) = cellsIt L := List.take_of_length_le (by rw [cellsIt_len]; omega)
theorem cellsIt_snoc1 (L : List It) (y : It) : cellsIt L ++ itemC y = cellsIt (L ++ [y]) := by rw [cellsIt_app]; simp [cellsIt]
def tupE (l : List It) (e : Int) : AV := .tup [items l, .int .i64 e]
theorem tupE_nil {e : Int} : VLe (.tup [.nl, .int .i64 e]) (tupE [] e) := VLe_tup (l := [.nl, .int .i64 e]) ⟨VLe_nl, VLe.refl _, trivial⟩
theorem tupE_of {a : AV} {l : List It} {e : Int} (ha : VLe a (items l)) : VLe (.tup [a, .int .i64 e]) (tupE l e) := VLe_tup (l := [a, .int .i64 e]) ⟨ha, VLe.refl _, trivial⟩
set_option maxHeartbeats 16000000 in
theorem t32 (s : Sty) (x : List AV) (ps : List Pat) (ws : List Wd) (h : List AObj) (hok : okPats ps) (hws : ws.length ≤ 10000) : ACalls Try.prog 32 [.agg (styC s x), patsV ps, wordsV ws] h (tupE (itemsR s ps ws) (itemsE s ps ws)) h := by
  have c64 := fun h => t64 ps h hok
  have c59 := fun h => t59 ws badWd 65 h (by omega) t65
  unfold itemsR
  by_cases g0 : rangeOk s = true
  case neg =>
    have g0' : rangeOk s = false := by simpa using g0
    have e0 : itemsE s ps ws = 2 := by unfold itemsE; rw [if_pos g0']
    rw [e0, if_neg (by decide)]
    refine acalls_of fn32 (by simp) ?_
    simp only [List.length_cons, List.length_nil, Nat.reduceAdd, Nat.reduceSub, List.replicate, List.cons_append, List.nil_append, List.append_nil]
    simp (disch := omega) only [c32, styC, go_sem, wrap64_id, Int.tdiv_eq_ediv_of_nonneg, Int.tmod_eq_emod_of_nonneg]
    repeat' first
      | ((first | refine callA_pure (t63 _ _) ?_ ?_); (next => repeat' first | exact flags_n | refine flags_c (by first | rfl | assumption) ?_); simp (disch := omega) only [styC, go_sem, wrap64_id, Int.tdiv_eq_ediv_of_nonneg, Int.tmod_eq_emod_of_nonneg])
      | ((first | refine callG_pure (fun e => ⟨?_, t63 _ _⟩) ?_); (next => repeat' first | exact flags_n | refine flags_c (by first | rfl | assumption) ?_); simp (disch := omega) only [styC, go_sem, wrap64_id, Int.tdiv_eq_ediv_of_nonneg, Int.tmod_eq_emod_of_nonneg])
      | ((first | refine fnQ_pure1 ?_ ?_ | refine fnQ_pure0 ?_ ?_); (next => repeat' first | exact rvs_n | refine rvs_t ?_ | (simp [go_sem]; done)); simp only [go_sem]; (first | exact VLe.refl _ | refine VLe_int ?_ | refine VLe_bool ?_ | refine VLe_str ?_ | skip))
      | (with_reducible refine And.intro ?_ ?_)
      | with_reducible intro _
    all_goals first
      | omega
      | (rename_i hx; revert hx; simp; done)
      | (simp; done)
      | skip
    · exact tupE_nil
    · rename_i hx
      exfalso
      apply g0
      unfold rangeOk
      obtain ⟨⟨⟨⟨⟨a1, a2⟩, a3⟩, a4⟩, a5⟩, a6⟩ := hx
      rw [a1, a2 a1, a3, a4]
      simp
      omega
  have g0' := g0
  unfold rangeOk at g0'
  simp only [Bool.and_eq_true, decide_eq_true_eq] at g0'
  obtain ⟨a1, a2, a3, a4, a5, a6⟩ := g0'
  obtain ⟨b1, b2⟩ := isLen_iff a1
  have k5 : (s.hy < 0) = False := eq_false (by omega)
  have k6 : (10000 < s.hy) = False := eq_false (by omega)
  by_cases g1 : checkPats ps = 0
  case neg =>
    have e0 : itemsE s ps ws = 1 := by unfold itemsE; rw [if_neg (by rw [g0]; simp), if_pos (.inl g1)]
    rw [e0, if_neg (by decide)]
    refine acalls_of fn32 (by simp) ?_
    simp only [List.length_cons, List.length_nil, Nat.reduceAdd, Nat.reduceSub, List.replicate, List.cons_append, List.nil_append, List.append_nil]
    simp (disch := omega) only [c32, styC, a1, a2, a3, a4, k5, k6, go_sem, wrap64_id, Int.tdiv_eq_ediv_of_nonneg, Int.tmod_eq_emod_of_nonneg]
    repeat' first
      | (refine callG_false ((.bool false)) ?_; simp (disch := omega) only [styC, a1, a2, a3, a4, k5, k6, g1, go_sem, wrap64_id, Int.tdiv_eq_ediv_of_nonneg, Int.tmod_eq_emod_of_nonneg])
      | ((first | refine callA_pure (t63 _ _) ?_ ?_ | refine callA_pure (c64 _) ?_ ?_); (next => repeat' first | exact flags_n | refine flags_c (by first | rfl | assumption) ?_); simp (disch := omega) only [styC, a1, a2, a3, a4, k5, k6, g1, go_sem, wrap64_id, Int.tdiv_eq_ediv_of_nonneg, Int.tmod_eq_emod_of_nonneg])
      | ((first | refine callG_pure (fun e => ⟨?_, t63 _ _⟩) ?_ | refine callG_pure (fun e => ⟨?_, c64 _⟩) ?_); (next => repeat' first | exact flags_n | refine flags_c (by first | rfl | assumption) ?_); simp (disch := omega) only [styC, a1, a2, a3, a4, k5, k6, g1, go_sem, wrap64_id, Int.tdiv_eq_ediv_of_nonneg, Int.tmod_eq_emod_of_nonneg])
      | ((first | refine fnQ_pure1 ?_ ?_ | refine fnQ_pure0 ?_ ?_); (next => repeat' first | exact rvs_n | refine rvs_t ?_ | (simp [go_sem]; done)); simp only [go_sem]; (first | exact VLe.refl _ | refine VLe_int ?_ | refine VLe_bool ?_ | refine VLe_str ?_ | skip))
      | (with_reducible refine And.intro ?_ ?_)
      | with_reducible intro _
    all_goals first
      | omega
      | (rename_i hx; revert hx; simp; done)
      | (simp; done)
      | skip
    exact tupE_nil
  rw [g1] at c64
  cases g2 : ws.any badWd with
  | true =>
    have e0 : itemsE s ps ws = 1 := by unfold itemsE; rw [if_neg (by rw [g0]; simp), if_pos (.inr g2)]
    rw [g2] at c59
    rw [e0, if_neg (by decide)]
    refine acalls_of fn32 (by simp) ?_
    simp only [List.length_cons, List.length_nil, Nat.reduceAdd, Nat.reduceSub, List.replicate, List.cons_append, List.nil_append, List.append_nil]
    simp (disch := omega) only [c32, styC, a1, a2, a3, a4, k5, k6, go_sem, wrap64_id, Int.tdiv_eq_ediv_of_nonneg, Int.tmod_eq_emod_of_nonneg]
    repeat' first
      | ((first | refine callA_pure (t63 _ _) ?_ ?_ | refine callA_pure (c64 _) ?_ ?_ | refine callA_pure (c59 _) ?_ ?_); (next => repeat' first | exact flags_n | refine flags_c (by first | rfl | assumption) ?_); simp (disch := omega) only [styC, a1, a2, a3, a4, k5, k6, go_sem, wrap64_id, Int.tdiv_eq_ediv_of_nonneg, Int.tmod_eq_emod_of_nonneg])
      | ((first | refine callG_pure (fun e => ⟨?_, t63 _ _⟩) ?_ | refine callG_pure (fun e => ⟨?_, c64 _⟩) ?_ | refine callG_pure (fun e => ⟨?_, c59 _⟩) ?_); (next => repeat' first | exact flags_n | refine flags_c (by first | rfl | assumption) ?_); simp (disch := omega) only [styC, a1, a2, a3, a4, k5, k6, go_sem, wrap64_id, Int.tdiv_eq_ediv_of_nonneg, Int.tmod_eq_emod_of_nonneg])
      | ((first | refine fnQ_pure1 ?_ ?_ | refine fnQ_pure0 ?_ ?_); (next => repeat' first | exact rvs_n | refine rvs_t ?_ | (simp [go_sem]; done)); simp only [go_sem]; (first | exact VLe.refl _ | refine VLe_int ?_ | refine VLe_bool ?_ | refine VLe_str ?_ | skip))
      | (with_reducible refine And.intro ?_ ?_)
      | with_reducible intro _
    all_goals first
      | omega
      | (rename_i hx; revert hx; simp; done)
      | (simp; done)
      | skip
    exact tupE_nil
  | false =>
  rw [g2] at c59
  by_cases g3 : 4096 < ws.length
  case pos =>
    have e0 : itemsE s ps ws = 4 := by unfold itemsE; rw [if_neg (by rw [g0]; simp), if_neg (by rw [g1, g2]; simp), if_pos g3]
    rw [e0, if_neg (by decide)]
    have k3 : (4096 < (ws.length : Int)) = True := eq_true (by omega)
    refine acalls_of fn32 (by simp) ?_
    simp only [List.length_cons, List.length_nil, Nat.reduceAdd, Nat.reduceSub, List.replicate, List.cons_append, List.nil_append, List.append_nil]
    simp (disch := omega) only [c32, styC, a1, a2, a3, a4, k5, k6, go_sem, wrap64_id, Int.tdiv_eq_ediv_of_nonneg, Int.tmod_eq_emod_of_nonneg]
    repeat' first
      | ((first | refine callA_pure (t63 _ _) ?_ ?_ | refine callA_pure (c64 _) ?_ ?_ | refine callA_pure (c59 _) ?_ ?_); (next => repeat' first | exact flags_n | refine flags_c (by first | rfl | assumption) ?_); simp (disch := omega) only [styC, wordsV, a1, a2, a3, a4, k5, k6, k3, go_sem, wrap64_id, Int.tdiv_eq_ediv_of_nonneg, Int.tmod_eq_emod_of_nonneg])
      | ((first | refine callG_pure (fun e => ⟨?_, t63 _ _⟩) ?_ | refine callG_pure (fun e => ⟨?_, c64 _⟩) ?_ | refine callG_pure (fun e => ⟨?_, c59 _⟩) ?_); (next => repeat' first | exact flags_n | refine flags_c (by first | rfl | assumption) ?_); simp (disch := omega) only [styC, wordsV, a1, a2, a3, a4, k5, k6, k3, go_sem, wrap64_id, Int.tdiv_eq_ediv_of_nonneg, Int.tmod_eq_emod_of_nonneg])
      | ((first | refine fnQ_pure1 ?_ ?_ | refine fnQ_pure0 ?_ ?_); (next => repeat' first | exact rvs_n | refine rvs_t ?_ | (simp [go_sem]; done)); simp only [go_sem]; (first | exact VLe.refl _ | refine VLe_int ?_ | refine VLe_bool ?_ | refine VLe_str ?_ | skip))
      | (with_reducible refine And.intro ?_ ?_)
      | with_reducible intro _
    all_goals first
      | omega
      | (rename_i hx; revert hx; simp; done)
      | (simp; done)
      | skip
    exact tupE_nil
  have k3 : (4096 < (ws.length : Int)) = False := eq_false (by omega)
  have e0 : itemsE s ps ws = if check (wordsI s ps ws ws.length) ≠ 0 then 4 else 0 := by unfold itemsE; rw [if_neg (by rw [g0]; simp), if_neg (by rw [g1, g2]; simp), if_neg g3]
  rw [e0]
  have hgw := fun i hi => good_wd (ws := ws) g2 (i := i) hi
  have hwl := fun n hn => wordsI_len s ps ws hgw n hn
  refine acalls_of fn32 (by simp) ?_
  simp only [List.length_cons, List.length_nil, Nat.reduceAdd, Nat.reduceSub, List.replicate, List.cons_append, List.nil_append, List.append_nil]
  simp (disch := omega) only [c32, styC, a1, a2, a3, a4, k5, k6, go_sem, wrap64_id, Int.tdiv_eq_ediv_of_nonneg, Int.tmod_eq_emod_of_nonneg]
  repeat' first
    | ((first | refine callA_pure (t63 _ _) ?_ ?_ | refine callA_pure (c64 _) ?_ ?_ | refine callA_pure (c59 _) ?_ ?_); (next => repeat' first | exact flags_n | refine flags_c (by first | rfl | assumption) ?_); simp (disch := omega) only [styC, wordsV, a1, a2, a3, a4, k5, k6, k3, go_sem, wrap64_id, Int.tdiv_eq_ediv_of_nonneg, Int.tmod_eq_emod_of_nonneg])
    | ((first | refine callG_pure (fun e => ⟨?_, t63 _ _⟩) ?_ | refine callG_pure (fun e => ⟨?_, c64 _⟩) ?_ | refine callG_pure (fun e => ⟨?_, c59 _⟩) ?_); (next => repeat' first | exact flags_n | refine flags_c (by first | rfl | assumption) ?_); simp (disch := omega) only [styC, wordsV, a1, a2, a3, a4, k5, k6, k3, go_sem, wrap64_id, Int.tdiv_eq_ediv_of_nonneg, Int.tmod_eq_emod_of_nonneg])
    | ((first | refine fnQ_pure1 ?_ ?_ | refine fnQ_pure0 ?_ ?_); (next => repeat' first | exact rvs_n | refine rvs_t ?_ | (simp [go_sem]; done)); simp only [go_sem]; (first | exact VLe.refl _ | refine VLe_int ?_ | refine VLe_bool ?_ | refine VLe_str ?_ | skip))
    | (with_reducible refine And.intro ?_ ?_)
    | with_reducible intro _
  all_goals first
    | omega
    | (rename_i hx; revert hx; simp; done)
    | (simp; done)
    | skip
  refine loop_of (T := fun i : Nat × Nat × AObj × AObj × AObj × AObj × AObj => spar 132 [(1, patsV ps), (3, .op h.length 1 0), (8, .osl (h.length + 2) i.2.1 6 0 (wordsI s ps ws i.1).length), (57, wordsV ws), (58, .int .i64 ws.length), (59, .int .i64 i.1)])
    (H := fun i => h ++ [.mem 1 58 (styC s x), .emp 1, ownO i.2.1 28 (cellsIt (wordsI s ps ws i.1)), i.2.2.1, i.2.2.2.1, .emp 0, i.2.2.2.2.1, .emp 0, i.2.2.2.2.2.1, .emp 0, i.2.2.2.2.2.2, .emp 0])
    (inv := fun i => i.1 ≤ ws.length ∧ site [i.2.2.1] 0 = true ∧ site [i.2.2.2.1] 0 = true ∧ site [i.2.2.2.2.1] 0 = true ∧ site [i.2.2.2.2.2.1] 0 = true ∧ site [i.2.2.2.2.2.2] 0 = true) (m := fun i => ws.length - i.1) (0, 1, .emp 0, .emp 0, .emp 0, .emp 0, .emp 0) ⟨by simp, rfl, rfl, rfl, rfl, rfl⟩ (Wk.temps ?_) ?_
  · (simp only [wordsV, spar, List.foldl, List.replicate, go_sem, VLes_nil, VLes_cons, VLe_undef_iff, VLe_self]; try (repeat' first | (with_reducible refine And.intro ?_ ?_) | (refine VLe_int ?_; omega) | (refine VLe_bool ?_; rfl) | exact VLe.refl _))
  rintro ⟨i, v, O3, O4, O6, O8, O10⟩ ⟨i1, i3, i4, i6, i8, i10⟩ K hK
  simp only at i1 i3 i4 i6 i8 i10 hK
  have i3' : ∀ m, site (O3 :: m) 0 = true := fun _ => i3
  have i4' : ∀ m, site (O4 :: m) 0 = true := fun _ => i4
  have i6' : ∀ m, site (O6 :: m) 0 = true := fun _ => i6
  have i8' : ∀ m, site (O8 :: m) 0 = true := fun _ => i8
  have i10' : ∀ m, site (O10 :: m) 0 = true := fun _ => i10
  by_cases hi : i < ws.length
  case neg =>
    have e : i = ws.length := by omega
    subst e
    have hll := hwl ws.length (Nat.le_refl _)
    have c35 := fun (H : List AObj) (hh : getO (h.length + 2) H = some (ownO v 28 (cellsIt (wordsI s ps ws ws.length)))) => t35o (wordsI s ps ws ws.length) (h.length + 2) v H hh (by omega)
    by_cases g4 : check (wordsI s ps ws ws.length) = 0
    · rw [if_neg (show ¬ check (wordsI s ps ws ws.length) ≠ 0 by simpa using g4), if_pos rfl]
      simp (disch := omega) only [spar, List.foldl, List.replicate, wordsV, go_sem, wrap64_id, Int.tdiv_eq_ediv_of_nonneg, Int.tmod_eq_emod_of_nonneg]
      repeat' first
        | ((first | refine callA_pure (c35 _ (by simp only [go_sem])) ?_ ?_); (next => repeat' first | exact flags_n | refine flags_c (by first | rfl | assumption) ?_); simp (disch := omega) only [g4, go_sem, wrap64_id, Int.tdiv_eq_ediv_of_nonneg, Int.tmod_eq_emod_of_nonneg])
        | ((first | refine callG_pure (fun e => ⟨?_, c35 _ (by simp only [go_sem])⟩) ?_); (next => repeat' first | exact flags_n | refine flags_c (by first | rfl | assumption) ?_); simp (disch := omega) only [g4, go_sem, wrap64_id, Int.tdiv_eq_ediv_of_nonneg, Int.tmod_eq_emod_of_nonneg])
        | ((first | refine fnQ_pure1 ?_ ?_ | refine fnQ_pure0 ?_ ?_); (next => repeat' first | exact rvs_n | refine rvs_t ?_ | (simp [go_sem]; done)); simp only [go_sem]; (first | exact VLe.refl _ | refine VLe_int ?_ | refine VLe_bool ?_ | refine VLe_str ?_ | skip))
        | (with_reducible refine And.intro ?_ ?_)
        | with_reducible intro _
      all_goals first
        | omega
        | (rename_i hx; revert hx; simp; done)
        | (simp; done)
        | skip
      exact tupE_of slOf_items
    · rw [if_pos g4, if_neg (by decide)]
      simp (disch := omega) only [spar, List.foldl, List.replicate, wordsV, go_sem, wrap64_id, Int.tdiv_eq_ediv_of_nonneg, Int.tmod_eq_emod_of_nonneg]
      repeat' first
        | ((first | refine callA_pure (c35 _ (by simp only [go_sem])) ?_ ?_); (next => repeat' first | exact flags_n | refine flags_c (by first | rfl | assumption) ?_); simp (disch := omega) only [g4, go_sem, wrap64_id, Int.tdiv_eq_ediv_of_nonneg, Int.tmod_eq_emod_of_nonneg])
        | ((first | refine callG_pure (fun e => ⟨?_, c35 _ (by simp only [go_sem])⟩) ?_); (next => repeat' first | exact flags_n | refine flags_c (by first | rfl | assumption) ?_); simp (disch := omega) only [g4, go_sem, wrap64_id, Int.tdiv_eq_ediv_of_nonneg, Int.tmod_eq_emod_of_nonneg])
        | ((first | refine fnQ_pure1 ?_ ?_ | refine fnQ_pure0 ?_ ?_); (next => repeat' first | exact rvs_n | refine rvs_t ?_ | (simp [go_sem]; done)); simp only [go_sem]; (first | exact VLe.refl _ | refine VLe_int ?_ | refine VLe_bool ?_ | refine VLe_str ?_ | skip))
        | (with_reducible refine And.intro ?_ ?_)
        | with_reducible intro _
      all_goals first
        | omega
        | (rename_i hx; revert hx; simp; done)
        | (simp; done)
        | skip
      exact tupE_nil
  have hw64 := hgw i hi
  have hnx := hwl (i + 1) (by omega)
  have hcur := hwl i (by omega)
  have hsu := wordsI_succ s ps ws i
  obtain ⟨w, hwe⟩ : ∃ w, w = ws.getD i default := ⟨_, rfl⟩
  have ewd := hwe.symm
  rw [ewd] at hw64 hsu
  obtain ⟨L, hL⟩ : ∃ L, L = wordsI s ps ws i := ⟨_, rfl⟩
  have eL := hL.symm
  rw [eL] at hcur hsu ⊢
  have c66 := fun h => t66 ps w.text h hok (by omega) g1
  have hpl := partsP_len ps w.text
  have hprt := part_le ps w.text
  obtain ⟨l, hle⟩ : ∃ l, l = partsP ps w.text := ⟨_, rfl⟩
  have hwi : wordI s ps i w = sepI s i w ++ partsI s l l.length := by rw [hle]; rfl
  rw [← hle] at c66 hpl hprt
  have ec := cellsIt_len L
  have et := cellsIt_take L
  have hit : ∀ y : It, cellsIt L ++ [AV.int .i64 y.kind, .int .i64 y.width, .int .i64 y.stretch, .int .i64 y.shrink, .int .i64 y.penalty, .str y.text] = cellsIt (L ++ [y]) := fun y => cellsIt_snoc1 L y
  by_cases g5 : i = 0
  · have k1 : ((i : Int) = 0) = True := eq_true (by omega)
    have hsp : sepI s i w = [] := by unfold sepI; rw [if_pos g5]
    obtain ⟨L1, hL1⟩ : ∃ L1, L1 = L ++ sepI s i w := ⟨_, rfl⟩
    have hl1 : L1.length ≤ 200 * i + 1 := by rw [hL1, List.length_append]; have := sepI_len s i w; omega
    simp (disch := omega) only [spar, List.foldl, List.replicate, wordsV, wordC, ewd, styC, strs, k1, i3', i4', i6', madeA1, ec, et, go_sem, wrap64_id, Int.tdiv_eq_ediv_of_nonneg, Int.tmod_eq_emod_of_nonneg]
    repeat' first
      | ((first | refine callA_pure (c66 _) ?_ ?_); (next => repeat' first | exact flags_n | refine flags_c (by first | rfl | assumption) ?_); simp (disch := omega) only [wordC, styC, strs, k1, i3', i4', i6', madeA1, ec, et, go_sem, wrap64_id, Int.tdiv_eq_ediv_of_nonneg, Int.tmod_eq_emod_of_nonneg])
      | ((first | refine callG_pure (fun e => ⟨?_, c66 _⟩) ?_); (next => repeat' first | exact flags_n | refine flags_c (by first | rfl | assumption) ?_); simp (disch := omega) only [wordC, styC, strs, k1, i3', i4', i6', madeA1, ec, et, go_sem, wrap64_id, Int.tdiv_eq_ediv_of_nonneg, Int.tmod_eq_emod_of_nonneg])
      | ((first | refine fnQ_pure1 ?_ ?_ | refine fnQ_pure0 ?_ ?_); (next => repeat' first | exact rvs_n | refine rvs_t ?_ | (simp [go_sem]; done)); simp only [go_sem]; (first | exact VLe.refl _ | refine VLe_int ?_ | refine VLe_bool ?_ | refine VLe_str ?_ | skip))
      | (with_reducible refine And.intro ?_ ?_)
      | with_reducible intro _
    all_goals first
      | omega
      | (rename_i hx; revert hx; simp; done)
      | (simp; done)
      | skip
    rw [show L = L1 by rw [hL1, hsp, List.append_nil]]
    rw [show cellsIt L1 = cellsIt (L1 ++ partsI s l 0) by rw [partsI_zero, List.append_nil], show L1.length = (L1 ++ partsI s l 0).length by rw [partsI_zero, List.append_nil]]
    refine loop_of (T := fun k : Nat × Nat × AObj × AObj => spar 132 [(1, patsV ps), (3, .op h.length 1 0), (8, .osl (h.length + 2) k.2.1 6 0 (L1 ++ partsI s l k.1).length), (57, wordsV ws), (58, .int .i64 ws.length), (59, .int .i64 i), (98, strs l), (99, .int .i64 l.length), (100, .int .i64 k.1)])
      (H := fun k => h ++ [.mem 1 58 (styC s x), .emp 1, ownO k.2.1 28 (cellsIt (L1 ++ partsI s l k.1)), .mem (verOf (some O3) + 1) 91 (wordC w), O4, .emp 0, O6, .emp 0, k.2.2.1, .emp 0, k.2.2.2, .emp 0])
      (inv := fun k => k.1 ≤ l.length ∧ site [k.2.2.1] 0 = true ∧ site [k.2.2.2] 0 = true) (m := fun k => l.length - k.1) (0, v, O8, O10) ⟨by simp, i8, i10⟩ (Wk.temps ?_) ?_
    · (simp only [wordsV, strs, spar, List.foldl, List.replicate, go_sem, VLes_nil, VLes_cons, VLe_undef_iff, VLe_self]; try (repeat' first | (with_reducible refine And.intro ?_ ?_) | (refine VLe_int ?_; omega) | (refine VLe_bool ?_; rfl) | exact VLe.refl _))
    rintro ⟨k, v2, P8, P10⟩ ⟨j1, j8, j10⟩ K2 hK2
    simp only at j1 j8 j10 hK2
    have j8' : ∀ m, site (P8 :: m) 0 = true := fun _ => j8
    have j10' : ∀ m, site (P10 :: m) 0 = true := fun _ => j10
    have hpk := partsI_len s l k
    obtain ⟨M, hM⟩ : ∃ M, M = L1 ++ partsI s l k := ⟨_, rfl⟩
    have hml : M.length ≤ 200 * i + 1 + 2 * k := by rw [hM, List.length_append]; omega
    rw [← hM]
    have fc := cellsIt_len M
    have ft := cellsIt_take M
    have fit : ∀ y : It, cellsIt M ++ [AV.int .i64 y.kind, .int .i64 y.width, .int .i64 y.stretch, .int .i64 y.shrink, .int .i64 y.penalty, .str y.text] = cellsIt (M ++ [y]) := fun y => cellsIt_snoc1 M y
    by_cases hk : k < l.length
    · have hsk := partsI_succ s l k
      have hpk2 := hprt k
      obtain ⟨u, hu⟩ : ∃ u, u = l.getD k [] := ⟨_, rfl⟩
      have eu := hu.symm
      rw [eu] at hsk hpk2
      have hcu := clus_len u
      have c67 := fun h => t67 u h (by omega)
      obtain ⟨m1, m2⟩ := mul_small (n := (clus u).length) b1 b2 (by omega)
      by_cases hk0 : k = 0
      · have k7 : (0 < (k : Int)) = False := eq_false (by omega)
        have hpi : partI s k u = [⟨1, s.le * ((clus u).length : Int), 0, 0, 0, u⟩] := by unfold partI; rw [if_pos hk0]; rfl
        have hnxt : L1 ++ partsI s l (k + 1) = M ++ [⟨1, s.le * ((clus u).length : Int), 0, 0, 0, u⟩] := by rw [hsk, hpi, hM, List.append_assoc]
        have hln : M.length + 1 = (L1 ++ partsI s l (k + 1)).length := by rw [hnxt]; simp
        have hfin := fit ⟨1, s.le * ((clus u).length : Int), 0, 0, 0, u⟩
        simp only at hfin
        simp (disch := omega) only [spar, List.foldl, List.replicate, strs, styC, eu, k7, j8', j10', madeA1, fc, ft, go_sem, wrap64_id, Int.tdiv_eq_ediv_of_nonneg, Int.tmod_eq_emod_of_nonneg]
        repeat' first
          | ((first | refine callA_pure (c67 _) ?_ ?_); (next => repeat' first | exact flags_n | refine flags_c (by first | rfl | assumption) ?_); simp (disch := omega) only [strs, styC, eu, k7, j8', j10', madeA1, fc, ft, go_sem, wrap64_id, Int.tdiv_eq_ediv_of_nonneg, Int.tmod_eq_emod_of_nonneg])
          | ((first | refine callG_pure (fun e => ⟨?_, c67 _⟩) ?_); (next => repeat' first | exact flags_n | refine flags_c (by first | rfl | assumption) ?_); simp (disch := omega) only [strs, styC, eu, k7, j8', j10', madeA1, fc, ft, go_sem, wrap64_id, Int.tdiv_eq_ediv_of_nonneg, Int.tmod_eq_emod_of_nonneg])
          | ((first | refine fnQ_pure1 ?_ ?_ | refine fnQ_pure0 ?_ ?_); (next => repeat' first | exact rvs_n | refine rvs_t ?_ | (simp [go_sem]; done)); simp only [go_sem]; (first | exact VLe.refl _ | refine VLe_int ?_ | refine VLe_bool ?_ | refine VLe_str ?_ | skip))
          | (with_reducible refine And.intro ?_ ?_)
          | with_reducible intro _
        all_goals first
          | omega
          | (rename_i hx; revert hx; simp; done)
          | (simp; done)
          | skip
        rw [hfin, hln, ← hnxt]
        refine hK2 _ _ (k + 1, v2 + 1, P8, .mem (verOf (some P10) + 1) 28 [.int .i64 1, .int .i64 (s.le * ((clus u).length : Int)), .int .i64 0, .int .i64 0, .int .i64 0, .str u]) ⟨by simp only; omega, j8, rfl⟩ (by simp only; omega) (Wk.temps ?_)
        (simp only [wordsV, strs, spar, List.foldl, List.replicate, go_sem, VLes_nil, VLes_cons, VLe_undef_iff, VLe_self]; try (repeat' first | (with_reducible refine And.intro ?_ ?_) | (refine VLe_int ?_; omega) | (refine VLe_bool ?_; rfl) | exact VLe.refl _))
      · have k7 : (0 < (k : Int)) = True := eq_true (by omega)
        have hpi : partI s k u = [⟨3, s.le, 0, 0, s.hy, [61]⟩, ⟨1, s.le * ((clus u).length : Int), 0, 0, 0, u⟩] := by unfold partI; rw [if_neg hk0]; rfl
        have hnxt : L1 ++ partsI s l (k + 1) = (M ++ [⟨3, s.le, 0, 0, s.hy, [61]⟩]) ++ [⟨1, s.le * ((clus u).length : Int), 0, 0, 0, u⟩] := by rw [hsk, hpi, hM]; simp
        have hln : M.length + 1 + 1 = (L1 ++ partsI s l (k + 1)).length := by rw [hnxt]; simp
        have hfin0 := fit ⟨3, s.le, 0, 0, s.hy, [61]⟩
        obtain ⟨M2, hM2⟩ : ∃ M2, M2 = M ++ [(⟨3, s.le, 0, 0, s.hy, [61]⟩ : It)] := ⟨_, rfl⟩
        have hl2 : M2.length = M.length + 1 := by rw [hM2]; simp
        rw [← hM2] at hfin0 hnxt
        have fc2 : (cellsIt M2).length = (M.length + 1) * 6 := by rw [cellsIt_len, hl2]
        have ft2 : List.take ((M.length + 1) * 6) (cellsIt M2) = cellsIt M2 := by rw [← hl2]; exact cellsIt_take M2
        have hfin : cellsIt M2 ++ [AV.int .i64 1, .int .i64 (s.le * ((clus u).length : Int)), .int .i64 0, .int .i64 0, .int .i64 0, .str u] = cellsIt (M2 ++ [⟨1, s.le * ((clus u).length : Int), 0, 0, 0, u⟩]) := cellsIt_snoc1 M2 ⟨1, s.le * ((clus u).length : Int), 0, 0, 0, u⟩
        simp only at hfin0
        simp (disch := omega) only [spar, List.foldl, List.replicate, strs, styC, eu, k7, j8', j10', madeA1, fc, ft, hfin0, fc2, ft2, go_sem, wrap64_id, Int.tdiv_eq_ediv_of_nonneg, Int.tmod_eq_emod_of_nonneg]
        repeat' first
          | ((first | refine callA_pure (c67 _) ?_ ?_); (next => repeat' first | exact flags_n | refine flags_c (by first | rfl | assumption) ?_); simp (disch := omega) only [strs, styC, eu, k7, j8', j10', madeA1, fc, ft, hfin0, fc2, ft2, go_sem, wrap64_id, Int.tdiv_eq_ediv_of_nonneg, Int.tmod_eq_emod_of_nonneg])
          | ((first | refine callG_pure (fun e => ⟨?_, c67 _⟩) ?_); (next => repeat' first | exact flags_n | refine flags_c (by first | rfl | assumption) ?_); simp (disch := omega) only [strs, styC, eu, k7, j8', j10', madeA1, fc, ft, hfin0, fc2, ft2, go_sem, wrap64_id, Int.tdiv_eq_ediv_of_nonneg, Int.tmod_eq_emod_of_nonneg])
          | ((first | refine fnQ_pure1 ?_ ?_ | refine fnQ_pure0 ?_ ?_); (next => repeat' first | exact rvs_n | refine rvs_t ?_ | (simp [go_sem]; done)); simp only [go_sem]; (first | exact VLe.refl _ | refine VLe_int ?_ | refine VLe_bool ?_ | refine VLe_str ?_ | skip))
          | (with_reducible refine And.intro ?_ ?_)
          | with_reducible intro _
        all_goals first
          | omega
          | (rename_i hx; revert hx; simp; done)
          | (simp; done)
          | skip
        rw [hfin, hln, ← hnxt]
        refine hK2 _ _ (k + 1, v2 + 1 + 1, .mem (verOf (some P8) + 1) 28 [.int .i64 3, .int .i64 s.le, .int .i64 0, .int .i64 0, .int .i64 s.hy, .str [61]], .mem (verOf (some P10) + 1) 28 [.int .i64 1, .int .i64 (s.le * ((clus u).length : Int)), .int .i64 0, .int .i64 0, .int .i64 0, .str u]) ⟨by simp only; omega, rfl, rfl⟩ (by simp only; omega) (Wk.temps ?_)
        (simp only [wordsV, strs, spar, List.foldl, List.replicate, go_sem, VLes_nil, VLes_cons, VLe_undef_iff, VLe_self]; try (repeat' first | (with_reducible refine And.intro ?_ ?_) | (refine VLe_int ?_; omega) | (refine VLe_bool ?_; rfl) | exact VLe.refl _))
    · have e : k = l.length := by omega
      have hfn : M = wordsI s ps ws (i + 1) := by rw [hM, e, hsu, hwi, hL1, List.append_assoc]
      rw [hfn]
      simp (disch := omega) only [spar, List.foldl, List.replicate, strs, go_sem, wrap64_id, Int.tdiv_eq_ediv_of_nonneg, Int.tmod_eq_emod_of_nonneg]
      repeat' first
        | ((first | refine fnQ_pure1 ?_ ?_ | refine fnQ_pure0 ?_ ?_); (next => repeat' first | exact rvs_n | refine rvs_t ?_ | (simp [go_sem]; done)); simp only [go_sem]; (first | exact VLe.refl _ | refine VLe_int ?_ | refine VLe_bool ?_ | refine VLe_str ?_ | skip))
        | (with_reducible refine And.intro ?_ ?_)
        | with_reducible intro _
      all_goals first
        | omega
        | (rename_i hx; revert hx; simp; done)
        | (simp; done)
        | skip
      refine hK _ _ (i + 1, v2, .mem (verOf (some O3) + 1) 91 (wordC w), O4, O6, P8, P10) ⟨by simp only; omega, rfl, i4, i6, j8, j10⟩ (by simp only; omega) (Wk.temps ?_)
      (simp only [wordsV, strs, spar, List.foldl, List.replicate, go_sem, VLes_nil, VLes_cons, VLe_undef_iff, VLe_self]; try (repeat' first | (with_reducible refine And.intro ?_ ?_) | (refine VLe_int ?_; omega) | (refine VLe_bool ?_; rfl) | exact VLe.refl _))
  have k1 : ((i : Int) = 0) = False := eq_false (by omega)
  cases g6 : w.verse with
  | true =>
    have hsp : sepI s i w = [⟨3, 0, 0, 0, -10000, []⟩] := by unfold sepI; rw [if_neg g5, if_pos g6]
    have hfin := hit ⟨3, 0, 0, 0, -10000, []⟩
    simp only at hfin
    obtain ⟨L1, hL1⟩ : ∃ L1, L1 = L ++ sepI s i w := ⟨_, rfl⟩
    have hl1 : L1.length ≤ 200 * i + 1 := by rw [hL1, List.length_append]; have := sepI_len s i w; omega
    simp (disch := omega) only [spar, List.foldl, List.replicate, wordsV, wordC, ewd, styC, strs, k1, g6, hfin, i3', i4', i6', madeA1, ec, et, go_sem, wrap64_id, Int.tdiv_eq_ediv_of_nonneg, Int.tmod_eq_emod_of_nonneg]
    repeat' first
      | ((first | refine callA_pure (c66 _) ?_ ?_); (next => repeat' first | exact flags_n | refine flags_c (by first | rfl | assumption) ?_); simp (disch := omega) only [wordC, styC, strs, k1, g6, hfin, i3', i4', i6', madeA1, ec, et, go_sem, wrap64_id, Int.tdiv_eq_ediv_of_nonneg, Int.tmod_eq_emod_of_nonneg])
      | ((first | refine callG_pure (fun e => ⟨?_, c66 _⟩) ?_); (next => repeat' first | exact flags_n | refine flags_c (by first | rfl | assumption) ?_); simp (disch := omega) only [wordC, styC, strs, k1, g6, hfin, i3', i4', i6', madeA1, ec, et, go_sem, wrap64_id, Int.tdiv_eq_ediv_of_nonneg, Int.tmod_eq_emod_of_nonneg])
      | ((first | refine fnQ_pure1 ?_ ?_ | refine fnQ_pure0 ?_ ?_); (next => repeat' first | exact rvs_n | refine rvs_t ?_ | (simp [go_sem]; done)); simp only [go_sem]; (first | exact VLe.refl _ | refine VLe_int ?_ | refine VLe_bool ?_ | refine VLe_str ?_ | skip))
      | (with_reducible refine And.intro ?_ ?_)
      | with_reducible intro _
    all_goals first
      | omega
      | (rename_i hx; revert hx; simp; done)
      | (simp; done)
      | skip
    rw [show L ++ [(⟨3, 0, 0, 0, -10000, []⟩ : It)] = L1 by rw [hL1, hsp], show L.length + 1 = L1.length by rw [hL1, hsp]; simp]
    rw [show cellsIt L1 = cellsIt (L1 ++ partsI s l 0) by rw [partsI_zero, List.append_nil], show L1.length = (L1 ++ partsI s l 0).length by rw [partsI_zero, List.append_nil]]
    refine loop_of (T := fun k : Nat × Nat × AObj × AObj => spar 132 [(1, patsV ps), (3, .op h.length 1 0), (8, .osl (h.length + 2) k.2.1 6 0 (L1 ++ partsI s l k.1).length), (57, wordsV ws), (58, .int .i64 ws.length), (59, .int .i64 i), (98, strs l), (99, .int .i64 l.length), (100, .int .i64 k.1)])
      (H := fun k => h ++ [.mem 1 58 (styC s x), .emp 1, ownO k.2.1 28 (cellsIt (L1 ++ partsI s l k.1)), .mem (verOf (some O3) + 1) 91 [.str w.text, .int .i64 w.col, .int .i64 w.unit, .int .i64 w.dec, .bool w.joined, .bool true, .str w.name], .mem (verOf (some O4) + 1) 28 [.int .i64 3, .int .i64 0, .int .i64 0, .int .i64 0, .int .i64 (-10000), .str []], .emp 0, O6, .emp 0, k.2.2.1, .emp 0, k.2.2.2, .emp 0])
      (inv := fun k => k.1 ≤ l.length ∧ site [k.2.2.1] 0 = true ∧ site [k.2.2.2] 0 = true) (m := fun k => l.length - k.1) (0, v + 1, O8, O10) ⟨by simp, i8, i10⟩ (Wk.temps ?_) ?_
    · (simp only [wordsV, strs, spar, List.foldl, List.replicate, go_sem, VLes_nil, VLes_cons, VLe_undef_iff, VLe_self]; try (repeat' first | (with_reducible refine And.intro ?_ ?_) | (refine VLe_int ?_; omega) | (refine VLe_bool ?_; rfl) | exact VLe.refl _))
    rintro ⟨k, v2, P8, P10⟩ ⟨j1, j8, j10⟩ K2 hK2
    simp only at j1 j8 j10 hK2
    have j8' : ∀ m, site (P8 :: m) 0 = true := fun _ => j8
    have j10' : ∀ m, site (P10 :: m) 0 = true := fun _ => j10
    have hpk := partsI_len s l k
    obtain ⟨M, hM⟩ : ∃ M, M = L1 ++ partsI s l k := ⟨_, rfl⟩
    have hml : M.length ≤ 200 * i + 1 + 2 * k := by rw [hM, List.length_append]; omega
    rw [← hM]
    have fc := cellsIt_len M
    have ft := cellsIt_take M
    have fit : ∀ y : It, cellsIt M ++ [AV.int .i64 y.kind, .int .i64 y.width, .int .i64 y.stretch, .int .i64 y.shrink, .int .i64 y.penalty, .str y.text] = cellsIt (M ++ [y]) := fun y => cellsIt_snoc1 M y
    by_cases hk : k < l.length
    · have hsk := partsI_succ s l k
      have hpk2 := hprt k
      obtain ⟨u, hu⟩ : ∃ u, u = l.getD k [] := ⟨_, rfl⟩
      have eu := hu.symm
      rw [eu] at hsk hpk2
      have hcu := clus_len u
      have c67 := fun h => t67 u h (by omega)
      obtain ⟨m1, m2⟩ := mul_small (n := (clus u).length) b1 b2 (by omega)
      by_cases hk0 : k = 0
      · have k7 : (0 < (k : Int)) = False := eq_false (by omega)
        have hpi : partI s k u = [⟨1, s.le * ((clus u).length : Int), 0, 0, 0, u⟩] := by unfold partI; rw [if_pos hk0]; rfl
        have hnxt : L1 ++ partsI s l (k + 1) = M ++ [⟨1, s.le * ((clus u).length : Int), 0, 0, 0, u⟩] := by rw [hsk, hpi, hM, List.append_assoc]
        have hln : M.length + 1 = (L1 ++ partsI s l (k + 1)).length := by rw [hnxt]; simp
        have hfin := fit ⟨1, s.le * ((clus u).length : Int), 0, 0, 0, u⟩
        simp only at hfin
        simp (disch := omega) only [spar, List.foldl, List.replicate, strs, styC, eu, k7, j8', j10', madeA1, fc, ft, go_sem, wrap64_id, Int.tdiv_eq_ediv_of_nonneg, Int.tmod_eq_emod_of_nonneg]
        repeat' first
          | ((first | refine callA_pure (c67 _) ?_ ?_); (next => repeat' first | exact flags_n | refine flags_c (by first | rfl | assumption) ?_); simp (disch := omega) only [strs, styC, eu, k7, j8', j10', madeA1, fc, ft, go_sem, wrap64_id, Int.tdiv_eq_ediv_of_nonneg, Int.tmod_eq_emod_of_nonneg])
          | ((first | refine callG_pure (fun e => ⟨?_, c67 _⟩) ?_); (next => repeat' first | exact flags_n | refine flags_c (by first | rfl | assumption) ?_); simp (disch := omega) only [strs, styC, eu, k7, j8', j10', madeA1, fc, ft, go_sem, wrap64_id, Int.tdiv_eq_ediv_of_nonneg, Int.tmod_eq_emod_of_nonneg])
          | ((first | refine fnQ_pure1 ?_ ?_ | refine fnQ_pure0 ?_ ?_); (next => repeat' first | exact rvs_n | refine rvs_t ?_ | (simp [go_sem]; done)); simp only [go_sem]; (first | exact VLe.refl _ | refine VLe_int ?_ | refine VLe_bool ?_ | refine VLe_str ?_ | skip))
          | (with_reducible refine And.intro ?_ ?_)
          | with_reducible intro _
        all_goals first
          | omega
          | (rename_i hx; revert hx; simp; done)
          | (simp; done)
          | skip
        rw [hfin, hln, ← hnxt]
        refine hK2 _ _ (k + 1, v2 + 1, P8, .mem (verOf (some P10) + 1) 28 [.int .i64 1, .int .i64 (s.le * ((clus u).length : Int)), .int .i64 0, .int .i64 0, .int .i64 0, .str u]) ⟨by simp only; omega, j8, rfl⟩ (by simp only; omega) (Wk.temps ?_)
        (simp only [wordsV, strs, spar, List.foldl, List.replicate, go_sem, VLes_nil, VLes_cons, VLe_undef_iff, VLe_self]; try (repeat' first | (with_reducible refine And.intro ?_ ?_) | (refine VLe_int ?_; omega) | (refine VLe_bool ?_; rfl) | exact VLe.refl _))
      · have k7 : (0 < (k : Int)) = True := eq_true (by omega)
        have hpi : partI s k u = [⟨3, s.le, 0, 0, s.hy, [61]⟩, ⟨1, s.le * ((clus u).length : Int), 0, 0, 0, u⟩] := by unfold partI; rw [if_neg hk0]; rfl
        have hnxt : L1 ++ partsI s l (k + 1) = (M ++ [⟨3, s.le, 0, 0, s.hy, [61]⟩]) ++ [⟨1, s.le * ((clus u).length : Int), 0, 0, 0, u⟩] := by rw [hsk, hpi, hM]; simp
        have hln : M.length + 1 + 1 = (L1 ++ partsI s l (k + 1)).length := by rw [hnxt]; simp
        have hfin0 := fit ⟨3, s.le, 0, 0, s.hy, [61]⟩
        obtain ⟨M2, hM2⟩ : ∃ M2, M2 = M ++ [(⟨3, s.le, 0, 0, s.hy, [61]⟩ : It)] := ⟨_, rfl⟩
        have hl2 : M2.length = M.length + 1 := by rw [hM2]; simp
        rw [← hM2] at hfin0 hnxt
        have fc2 : (cellsIt M2).length = (M.length + 1) * 6 := by rw [cellsIt_len, hl2]
        have ft2 : List.take ((M.length + 1) * 6) (cellsIt M2) = cellsIt M2 := by rw [← hl2]; exact cellsIt_take M2
        have hfin : cellsIt M2 ++ [AV.int .i64 1, .int .i64 (s.le * ((clus u).length : Int)), .int .i64 0, .int .i64 0, .int .i64 0, .str u] = cellsIt (M2 ++ [⟨1, s.le * ((clus u).length : Int), 0, 0, 0, u⟩]) := cellsIt_snoc1 M2 ⟨1, s.le * ((clus u).length : Int), 0, 0, 0, u⟩
        simp only at hfin0
        simp (disch := omega) only [spar, List.foldl, List.replicate, strs, styC, eu, k7, j8', j10', madeA1, fc, ft, hfin0, fc2, ft2, go_sem, wrap64_id, Int.tdiv_eq_ediv_of_nonneg, Int.tmod_eq_emod_of_nonneg]
        repeat' first
          | ((first | refine callA_pure (c67 _) ?_ ?_); (next => repeat' first | exact flags_n | refine flags_c (by first | rfl | assumption) ?_); simp (disch := omega) only [strs, styC, eu, k7, j8', j10', madeA1, fc, ft, hfin0, fc2, ft2, go_sem, wrap64_id, Int.tdiv_eq_ediv_of_nonneg, Int.tmod_eq_emod_of_nonneg])
          | ((first | refine callG_pure (fun e => ⟨?_, c67 _⟩) ?_); (next => repeat' first | exact flags_n | refine flags_c (by first | rfl | assumption) ?_); simp (disch := omega) only [strs, styC, eu, k7, j8', j10', madeA1, fc, ft, hfin0, fc2, ft2, go_sem, wrap64_id, Int.tdiv_eq_ediv_of_nonneg, Int.tmod_eq_emod_of_nonneg])
          | ((first | refine fnQ_pure1 ?_ ?_ | refine fnQ_pure0 ?_ ?_); (next => repeat' first | exact rvs_n | refine rvs_t ?_ | (simp [go_sem]; done)); simp only [go_sem]; (first | exact VLe.refl _ | refine VLe_int ?_ | refine VLe_bool ?_ | refine VLe_str ?_ | skip))
          | (with_reducible refine And.intro ?_ ?_)
          | with_reducible intro _
        all_goals first
          | omega
          | (rename_i hx; revert hx; simp; done)
          | (simp; done)
          | skip
        rw [hfin, hln, ← hnxt]
        refine hK2 _ _ (k + 1, v2 + 1 + 1, .mem (verOf (some P8) + 1) 28 [.int .i64 3, .int .i64 s.le, .int .i64 0, .int .i64 0, .int .i64 s.hy, .str [61]], .mem (verOf (some P10) + 1) 28 [.int .i64 1, .int .i64 (s.le * ((clus u).length : Int)), .int .i64 0, .int .i64 0, .int .i64 0, .str u]) ⟨by simp only; omega, rfl, rfl⟩ (by simp only; omega) (Wk.temps ?_)
        (simp only [wordsV, strs, spar, List.foldl, List.replicate, go_sem, VLes_nil, VLes_cons, VLe_undef_iff, VLe_self]; try (repeat' first | (with_reducible refine And.intro ?_ ?_) | (refine VLe_int ?_; omega) | (refine VLe_bool ?_; rfl) | exact VLe.refl _))
    · have e : k = l.length := by omega
      have hfn : M = wordsI s ps ws (i + 1) := by rw [hM, e, hsu, hwi, hL1, List.append_assoc]
      rw [hfn]
      simp (disch := omega) only [spar, List.foldl, List.replicate, strs, go_sem, wrap64_id, Int.tdiv_eq_ediv_of_nonneg, Int.tmod_eq_emod_of_nonneg]
      repeat' first
        | ((first | refine fnQ_pure1 ?_ ?_ | refine fnQ_pure0 ?_ ?_); (next => repeat' first | exact rvs_n | refine rvs_t ?_ | (simp [go_sem]; done)); simp only [go_sem]; (first | exact VLe.refl _ | refine VLe_int ?_ | refine VLe_bool ?_ | refine VLe_str ?_ | skip))
        | (with_reducible refine And.intro ?_ ?_)
        | with_reducible intro _
      all_goals first
        | omega
        | (rename_i hx; revert hx; simp; done)
        | (simp; done)
        | skip
      refine hK _ _ (i + 1, v2, .mem (verOf (some O3) + 1) 91 [.str w.text, .int .i64 w.col, .int .i64 w.unit, .int .i64 w.dec, .bool w.joined, .bool true, .str w.name], .mem (verOf (some O4) + 1) 28 [.int .i64 3, .int .i64 0, .int .i64 0, .int .i64 0, .int .i64 (-10000), .str []], O6, P8, P10) ⟨by simp only; omega, rfl, rfl, i6, j8, j10⟩ (by simp only; omega) (Wk.temps ?_)
      (simp only [wordsV, strs, spar, List.foldl, List.replicate, go_sem, VLes_nil, VLes_cons, VLe_undef_iff, VLe_self]; try (repeat' first | (with_reducible refine And.intro ?_ ?_) | (refine VLe_int ?_; omega) | (refine VLe_bool ?_; rfl) | exact VLe.refl _))
  | false =>
  cases g7 : w.joined with
  | true =>
    have hsp : sepI s i w = [] := by unfold sepI; rw [if_neg g5, if_neg (by rw [g6]; simp), if_pos g7]
    obtain ⟨L1, hL1⟩ : ∃ L1, L1 = L ++ sepI s i w := ⟨_, rfl⟩
    have hl1 : L1.length ≤ 200 * i + 1 := by rw [hL1, List.length_append]; have := sepI_len s i w; omega
    simp (disch := omega) only [spar, List.foldl, List.replicate, wordsV, wordC, ewd, styC, strs, k1, g6, g7, i3', i4', i6', madeA1, ec, et, go_sem, wrap64_id, Int.tdiv_eq_ediv_of_nonneg, Int.tmod_eq_emod_of_nonneg]
    repeat' first
      | ((first | refine callA_pure (c66 _) ?_ ?_); (next => repeat' first | exact flags_n | refine flags_c (by first | rfl | assumption) ?_); simp (disch := omega) only [wordC, styC, strs, k1, g6, g7, i3', i4', i6', madeA1, ec, et, go_sem, wrap64_id, Int.tdiv_eq_ediv_of_nonneg, Int.tmod_eq_emod_of_nonneg])
      | ((first | refine callG_pure (fun e => ⟨?_, c66 _⟩) ?_); (next => repeat' first | exact flags_n | refine flags_c (by first | rfl | assumption) ?_); simp (disch := omega) only [wordC, styC, strs, k1, g6, g7, i3', i4', i6', madeA1, ec, et, go_sem, wrap64_id, Int.tdiv_eq_ediv_of_nonneg, Int.tmod_eq_emod_of_nonneg])
      | ((first | refine fnQ_pure1 ?_ ?_ | refine fnQ_pure0 ?_ ?_); (next => repeat' first | exact rvs_n | refine rvs_t ?_ | (simp [go_sem]; done)); simp only [go_sem]; (first | exact VLe.refl _ | refine VLe_int ?_ | refine VLe_bool ?_ | refine VLe_str ?_ | skip))
      | (with_reducible refine And.intro ?_ ?_)
      | with_reducible intro _
    all_goals first
      | omega
      | (rename_i hx; revert hx; simp; done)
      | (simp; done)
      | skip
    rw [show L = L1 by rw [hL1, hsp, List.append_nil]]
    rw [show cellsIt L1 = cellsIt (L1 ++ partsI s l 0) by rw [partsI_zero, List.append_nil], show L1.length = (L1 ++ partsI s l 0).length by rw [partsI_zero, List.append_nil]]
    refine loop_of (T := fun k : Nat × Nat × AObj × AObj => spar 132 [(1, patsV ps), (3, .op h.length 1 0), (8, .osl (h.length + 2) k.2.1 6 0 (L1 ++ partsI s l k.1).length), (57, wordsV ws), (58, .int .i64 ws.length), (59, .int .i64 i), (98, strs l), (99, .int .i64 l.length), (100, .int .i64 k.1)])
      (H := fun k => h ++ [.mem 1 58 (styC s x), .emp 1, ownO k.2.1 28 (cellsIt (L1 ++ partsI s l k.1)), .mem (verOf (some O3) + 1) 91 [.str w.text, .int .i64 w.col, .int .i64 w.unit, .int .i64 w.dec, .bool true, .bool false, .str w.name], O4, .emp 0, O6, .emp 0, k.2.2.1, .emp 0, k.2.2.2, .emp 0])
      (inv := fun k => k.1 ≤ l.length ∧ site [k.2.2.1] 0 = true ∧ site [k.2.2.2] 0 = true) (m := fun k => l.length - k.1) (0, v, O8, O10) ⟨by simp, i8, i10⟩ (Wk.temps ?_) ?_
    · (simp only [wordsV, strs, spar, List.foldl, List.replicate, go_sem, VLes_nil, VLes_cons, VLe_undef_iff, VLe_self]; try (repeat' first | (with_reducible refine And.intro ?_ ?_) | (refine VLe_int ?_; omega) | (refine VLe_bool ?_; rfl) | exact VLe.refl _))
    rintro ⟨k, v2, P8, P10⟩ ⟨j1, j8, j10⟩ K2 hK2
    simp only at j1 j8 j10 hK2
    have j8' : ∀ m, site (P8 :: m) 0 = true := fun _ => j8
    have j10' : ∀ m, site (P10 :: m) 0 = true := fun _ => j10
    have hpk := partsI_len s l k
    obtain ⟨M, hM⟩ : ∃ M, M = L1 ++ partsI s l k := ⟨_, rfl⟩
    have hml : M.length ≤ 200 * i + 1 + 2 * k := by rw [hM, List.length_append]; omega
    rw [← hM]
    have fc := cellsIt_len M
    have ft := cellsIt_take M
    have fit : ∀ y : It, cellsIt M ++ [AV.int .i64 y.kind, .int .i64 y.width, .int .i64 y.stretch, .int .i64 y.shrink, .int .i64 y.penalty, .str y.text] = cellsIt (M ++ [y]) := fun y => cellsIt_snoc1 M y
    by_cases hk : k < l.length
    · have hsk := partsI_succ s l k
      have hpk2 := hprt k
      obtain ⟨u, hu⟩ : ∃ u, u = l.getD k [] := ⟨_, rfl⟩
      have eu := hu.symm
      rw [eu] at hsk hpk2
      have hcu := clus_len u
      have c67 := fun h => t67 u h (by omega)
      obtain ⟨m1, m2⟩ := mul_small (n := (clus u).length) b1 b2 (by omega)
      by_cases hk0 : k = 0
      · have k7 : (0 < (k : Int)) = False := eq_false (by omega)
        have hpi : partI s k u = [⟨1, s.le * ((clus u).length : Int), 0, 0, 0, u⟩] := by unfold partI; rw [if_pos hk0]; rfl
        have hnxt : L1 ++ partsI s l (k + 1) = M ++ [⟨1, s.le * ((clus u).length : Int), 0, 0, 0, u⟩] := by rw [hsk, hpi, hM, List.append_assoc]
        have hln : M.length + 1 = (L1 ++ partsI s l (k + 1)).length := by rw [hnxt]; simp
        have hfin := fit ⟨1, s.le * ((clus u).length : Int), 0, 0, 0, u⟩
        simp only at hfin
        simp (disch := omega) only [spar, List.foldl, List.replicate, strs, styC, eu, k7, j8', j10', madeA1, fc, ft, go_sem, wrap64_id, Int.tdiv_eq_ediv_of_nonneg, Int.tmod_eq_emod_of_nonneg]
        repeat' first
          | ((first | refine callA_pure (c67 _) ?_ ?_); (next => repeat' first | exact flags_n | refine flags_c (by first | rfl | assumption) ?_); simp (disch := omega) only [strs, styC, eu, k7, j8', j10', madeA1, fc, ft, go_sem, wrap64_id, Int.tdiv_eq_ediv_of_nonneg, Int.tmod_eq_emod_of_nonneg])
          | ((first | refine callG_pure (fun e => ⟨?_, c67 _⟩) ?_); (next => repeat' first | exact flags_n | refine flags_c (by first | rfl | assumption) ?_); simp (disch := omega) only [strs, styC, eu, k7, j8', j10', madeA1, fc, ft, go_sem, wrap64_id, Int.tdiv_eq_ediv_of_nonneg, Int.tmod_eq_emod_of_nonneg])
          | ((first | refine fnQ_pure1 ?_ ?_ | refine fnQ_pure0 ?_ ?_); (next => repeat' first | exact rvs_n | refine rvs_t ?_ | (simp [go_sem]; done)); simp only [go_sem]; (first | exact VLe.refl _ | refine VLe_int ?_ | refine VLe_bool ?_ | refine VLe_str ?_ | skip))
          | (with_reducible refine And.intro ?_ ?_)
          | with_reducible intro _
        all_goals first
          | omega
          | (rename_i hx; revert hx; simp; done)
          | (simp; done)
          | skip
        rw [hfin, hln, ← hnxt]
        refine hK2 _ _ (k + 1, v2 + 1, P8, .mem (verOf (some P10) + 1) 28 [.int .i64 1, .int .i64 (s.le * ((clus u).length : Int)), .int .i64 0, .int .i64 0, .int .i64 0, .str u]) ⟨by simp only; omega, j8, rfl⟩ (by simp only; omega) (Wk.temps ?_)
        (simp only [wordsV, strs, spar, List.foldl, List.replicate, go_sem, VLes_nil, VLes_cons, VLe_undef_iff, VLe_self]; try (repeat' first | (with_reducible refine And.intro ?_ ?_) | (refine VLe_int ?_; omega) | (refine VLe_bool ?_; rfl) | exact VLe.refl _))
      · have k7 : (0 < (k : Int)) = True := eq_true (by omega)
        have hpi : partI s k u = [⟨3, s.le, 0, 0, s.hy, [61]⟩, ⟨1, s.le * ((clus u).length : Int), 0, 0, 0, u⟩] := by unfold partI; rw [if_neg hk0]; rfl
        have hnxt : L1 ++ partsI s l (k + 1) = (M ++ [⟨3, s.le, 0, 0, s.hy, [61]⟩]) ++ [⟨1, s.le * ((clus u).length : Int), 0, 0, 0, u⟩] := by rw [hsk, hpi, hM]; simp
        have hln : M.length + 1 + 1 = (L1 ++ partsI s l (k + 1)).length := by rw [hnxt]; simp
        have hfin0 := fit ⟨3, s.le, 0, 0, s.hy, [61]⟩
        obtain ⟨M2, hM2⟩ : ∃ M2, M2 = M ++ [(⟨3, s.le, 0, 0, s.hy, [61]⟩ : It)] := ⟨_, rfl⟩
        have hl2 : M2.length = M.length + 1 := by rw [hM2]; simp
        rw [← hM2] at hfin0 hnxt
        have fc2 : (cellsIt M2).length = (M.length + 1) * 6 := by rw [cellsIt_len, hl2]
        have ft2 : List.take ((M.length + 1) * 6) (cellsIt M2) = cellsIt M2 := by rw [← hl2]; exact cellsIt_take M2
        have hfin : cellsIt M2 ++ [AV.int .i64 1, .int .i64 (s.le * ((clus u).length : Int)), .int .i64 0, .int .i64 0, .int .i64 0, .str u] = cellsIt (M2 ++ [⟨1, s.le * ((clus u).length : Int), 0, 0, 0, u⟩]) := cellsIt_snoc1 M2 ⟨1, s.le * ((clus u).length : Int), 0, 0, 0, u⟩
        simp only at hfin0
        simp (disch := omega) only [spar, List.foldl, List.replicate, strs, styC, eu, k7, j8', j10', madeA1, fc, ft, hfin0, fc2, ft2, go_sem, wrap64_id, Int.tdiv_eq_ediv_of_nonneg, Int.tmod_eq_emod_of_nonneg]
        repeat' first
          | ((first | refine callA_pure (c67 _) ?_ ?_); (next => repeat' first | exact flags_n | refine flags_c (by first | rfl | assumption) ?_); simp (disch := omega) only [strs, styC, eu, k7, j8', j10', madeA1, fc, ft, hfin0, fc2, ft2, go_sem, wrap64_id, Int.tdiv_eq_ediv_of_nonneg, Int.tmod_eq_emod_of_nonneg])
          | ((first | refine callG_pure (fun e => ⟨?_, c67 _⟩) ?_); (next => repeat' first | exact flags_n | refine flags_c (by first | rfl | assumption) ?_); simp (disch := omega) only [strs, styC, eu, k7, j8', j10', madeA1, fc, ft, hfin0, fc2, ft2, go_sem, wrap64_id, Int.tdiv_eq_ediv_of_nonneg, Int.tmod_eq_emod_of_nonneg])
          | ((first | refine fnQ_pure1 ?_ ?_ | refine fnQ_pure0 ?_ ?_); (next => repeat' first | exact rvs_n | refine rvs_t ?_ | (simp [go_sem]; done)); simp only [go_sem]; (first | exact VLe.refl _ | refine VLe_int ?_ | refine VLe_bool ?_ | refine VLe_str ?_ | skip))
          | (with_reducible refine And.intro ?_ ?_)
          | with_reducible intro _
        all_goals first
          | omega
          | (rename_i hx; revert hx; simp; done)
          | (simp; done)
          | skip
        rw [hfin, hln, ← hnxt]
        refine hK2 _ _ (k + 1, v2 + 1 + 1, .mem (verOf (some P8) + 1) 28 [.int .i64 3, .int .i64 s.le, .int .i64 0, .int .i64 0, .int .i64 s.hy, .str [61]], .mem (verOf (some P10) + 1) 28 [.int .i64 1, .int .i64 (s.le * ((clus u).length : Int)), .int .i64 0, .int .i64 0, .int .i64 0, .str u]) ⟨by simp only; omega, rfl, rfl⟩ (by simp only; omega) (Wk.temps ?_)
        (simp only [wordsV, strs, spar, List.foldl, List.replicate, go_sem, VLes_nil, VLes_cons, VLe_undef_iff, VLe_self]; try (repeat' first | (with_reducible refine And.intro ?_ ?_) | (refine VLe_int ?_; omega) | (refine VLe_bool ?_; rfl) | exact VLe.refl _))
    · have e : k = l.length := by omega
      have hfn : M = wordsI s ps ws (i + 1) := by rw [hM, e, hsu, hwi, hL1, List.append_assoc]
      rw [hfn]
      simp (disch := omega) only [spar, List.foldl, List.replicate, strs, go_sem, wrap64_id, Int.tdiv_eq_ediv_of_nonneg, Int.tmod_eq_emod_of_nonneg]
      repeat' first
        | ((first | refine fnQ_pure1 ?_ ?_ | refine fnQ_pure0 ?_ ?_); (next => repeat' first | exact rvs_n | refine rvs_t ?_ | (simp [go_sem]; done)); simp only [go_sem]; (first | exact VLe.refl _ | refine VLe_int ?_ | refine VLe_bool ?_ | refine VLe_str ?_ | skip))
        | (with_reducible refine And.intro ?_ ?_)
        | with_reducible intro _
      all_goals first
        | omega
        | (rename_i hx; revert hx; simp; done)
        | (simp; done)
        | skip
      refine hK _ _ (i + 1, v2, .mem (verOf (some O3) + 1) 91 [.str w.text, .int .i64 w.col, .int .i64 w.unit, .int .i64 w.dec, .bool true, .bool false, .str w.name], O4, O6, P8, P10) ⟨by simp only; omega, rfl, i4, i6, j8, j10⟩ (by simp only; omega) (Wk.temps ?_)
      (simp only [wordsV, strs, spar, List.foldl, List.replicate, go_sem, VLes_nil, VLes_cons, VLe_undef_iff, VLe_self]; try (repeat' first | (with_reducible refine And.intro ?_ ?_) | (refine VLe_int ?_; omega) | (refine VLe_bool ?_; rfl) | exact VLe.refl _))
  | false =>
    have hsp : sepI s i w = [⟨2, s.sp, s.st, s.sh, 0, []⟩] := by unfold sepI; rw [if_neg g5, if_neg (by rw [g6]; simp), if_neg (by rw [g7]; simp)]
    have hfin := hit ⟨2, s.sp, s.st, s.sh, 0, []⟩
    simp only at hfin
    obtain ⟨L1, hL1⟩ : ∃ L1, L1 = L ++ sepI s i w := ⟨_, rfl⟩
    have hl1 : L1.length ≤ 200 * i + 1 := by rw [hL1, List.length_append]; have := sepI_len s i w; omega
    simp (disch := omega) only [spar, List.foldl, List.replicate, wordsV, wordC, ewd, styC, strs, k1, g6, g7, hfin, i3', i4', i6', madeA1, ec, et, go_sem, wrap64_id, Int.tdiv_eq_ediv_of_nonneg, Int.tmod_eq_emod_of_nonneg]
    repeat' first
      | ((first | refine callA_pure (c66 _) ?_ ?_); (next => repeat' first | exact flags_n | refine flags_c (by first | rfl | assumption) ?_); simp (disch := omega) only [wordC, styC, strs, k1, g6, g7, hfin, i3', i4', i6', madeA1, ec, et, go_sem, wrap64_id, Int.tdiv_eq_ediv_of_nonneg, Int.tmod_eq_emod_of_nonneg])
      | ((first | refine callG_pure (fun e => ⟨?_, c66 _⟩) ?_); (next => repeat' first | exact flags_n | refine flags_c (by first | rfl | assumption) ?_); simp (disch := omega) only [wordC, styC, strs, k1, g6, g7, hfin, i3', i4', i6', madeA1, ec, et, go_sem, wrap64_id, Int.tdiv_eq_ediv_of_nonneg, Int.tmod_eq_emod_of_nonneg])
      | ((first | refine fnQ_pure1 ?_ ?_ | refine fnQ_pure0 ?_ ?_); (next => repeat' first | exact rvs_n | refine rvs_t ?_ | (simp [go_sem]; done)); simp only [go_sem]; (first | exact VLe.refl _ | refine VLe_int ?_ | refine VLe_bool ?_ | refine VLe_str ?_ | skip))
      | (with_reducible refine And.intro ?_ ?_)
      | with_reducible intro _
    all_goals first
      | omega
      | (rename_i hx; revert hx; simp; done)
      | (simp; done)
      | skip
    rw [show L ++ [(⟨2, s.sp, s.st, s.sh, 0, []⟩ : It)] = L1 by rw [hL1, hsp], show L.length + 1 = L1.length by rw [hL1, hsp]; simp]
    rw [show cellsIt L1 = cellsIt (L1 ++ partsI s l 0) by rw [partsI_zero, List.append_nil], show L1.length = (L1 ++ partsI s l 0).length by rw [partsI_zero, List.append_nil]]
    refine loop_of (T := fun k : Nat × Nat × AObj × AObj => spar 132 [(1, patsV ps), (3, .op h.length 1 0), (8, .osl (h.length + 2) k.2.1 6 0 (L1 ++ partsI s l k.1).length), (57, wordsV ws), (58, .int .i64 ws.length), (59, .int .i64 i), (98, strs l), (99, .int .i64 l.length), (100, .int .i64 k.1)])
      (H := fun k => h ++ [.mem 1 58 (styC s x), .emp 1, ownO k.2.1 28 (cellsIt (L1 ++ partsI s l k.1)), .mem (verOf (some O3) + 1) 91 [.str w.text, .int .i64 w.col, .int .i64 w.unit, .int .i64 w.dec, .bool false, .bool false, .str w.name], O4, .emp 0, .mem (verOf (some O6) + 1) 28 [.int .i64 2, .int .i64 s.sp, .int .i64 s.st, .int .i64 s.sh, .int .i64 0, .str []], .emp 0, k.2.2.1, .emp 0, k.2.2.2, .emp 0])
      (inv := fun k => k.1 ≤ l.length ∧ site [k.2.2.1] 0 = true ∧ site [k.2.2.2] 0 = true) (m := fun k => l.length - k.1) (0, v + 1, O8, O10) ⟨by simp, i8, i10⟩ (Wk.temps ?_) ?_
    · (simp only [wordsV, strs, spar, List.foldl, List.replicate, go_sem, VLes_nil, VLes_cons, VLe_undef_iff, VLe_self]; try (repeat' first | (with_reducible refine And.intro ?_ ?_) | (refine VLe_int ?_; omega) | (refine VLe_bool ?_; rfl) | exact VLe.refl _))
    rintro ⟨k, v2, P8, P10⟩ ⟨j1, j8, j10⟩ K2 hK2
    simp only at j1 j8 j10 hK2
    have j8' : ∀ m, site (P8 :: m) 0 = true := fun _ => j8
    have j10' : ∀ m, site (P10 :: m) 0 = true := fun _ => j10
    have hpk := partsI_len s l k
    obtain ⟨M, hM⟩ : ∃ M, M = L1 ++ partsI s l k := ⟨_, rfl⟩
    have hml : M.length ≤ 200 * i + 1 + 2 * k := by rw [hM, List.length_append]; omega
    rw [← hM]
    have fc := cellsIt_len M
    have ft := cellsIt_take M
    have fit : ∀ y : It, cellsIt M ++ [AV.int .i64 y.kind, .int .i64 y.width, .int .i64 y.stretch, .int .i64 y.shrink, .int .i64 y.penalty, .str y.text] = cellsIt (M ++ [y]) := fun y => cellsIt_snoc1 M y
    by_cases hk : k < l.length
    · have hsk := partsI_succ s l k
      have hpk2 := hprt k
      obtain ⟨u, hu⟩ : ∃ u, u = l.getD k [] := ⟨_, rfl⟩
      have eu := hu.symm
      rw [eu] at hsk hpk2
      have hcu := clus_len u
      have c67 := fun h => t67 u h (by omega)
      obtain ⟨m1, m2⟩ := mul_small (n := (clus u).length) b1 b2 (by omega)
      by_cases hk0 : k = 0
      · have k7 : (0 < (k : Int)) = False := eq_false (by omega)
        have hpi : partI s k u = [⟨1, s.le * ((clus u).length : Int), 0, 0, 0, u⟩] := by unfold partI; rw [if_pos hk0]; rfl
        have hnxt : L1 ++ partsI s l (k + 1) = M ++ [⟨1, s.le * ((clus u).length : Int), 0, 0, 0, u⟩] := by rw [hsk, hpi, hM, List.append_assoc]
        have hln : M.length + 1 = (L1 ++ partsI s l (k + 1)).length := by rw [hnxt]; simp
        have hfin := fit ⟨1, s.le * ((clus u).length : Int), 0, 0, 0, u⟩
        simp only at hfin
        simp (disch := omega) only [spar, List.foldl, List.replicate, strs, styC, eu, k7, j8', j10', madeA1, fc, ft, go_sem, wrap64_id, Int.tdiv_eq_ediv_of_nonneg, Int.tmod_eq_emod_of_nonneg]
        repeat' first
          | ((first | refine callA_pure (c67 _) ?_ ?_); (next => repeat' first | exact flags_n | refine flags_c (by first | rfl | assumption) ?_); simp (disch := omega) only [strs, styC, eu, k7, j8', j10', madeA1, fc, ft, go_sem, wrap64_id, Int.tdiv_eq_ediv_of_nonneg, Int.tmod_eq_emod_of_nonneg])
          | ((first | refine callG_pure (fun e => ⟨?_, c67 _⟩) ?_); (next => repeat' first | exact flags_n | refine flags_c (by first | rfl | assumption) ?_); simp (disch := omega) only [strs, styC, eu, k7, j8', j10', madeA1, fc, ft, go_sem, wrap64_id, Int.tdiv_eq_ediv_of_nonneg, Int.tmod_eq_emod_of_nonneg])
          | ((first | refine fnQ_pure1 ?_ ?_ | refine fnQ_pure0 ?_ ?_); (next => repeat' first | exact rvs_n | refine rvs_t ?_ | (simp [go_sem]; done)); simp only [go_sem]; (first | exact VLe.refl _ | refine VLe_int ?_ | refine VLe_bool ?_ | refine VLe_str ?_ | skip))
          | (with_reducible refine And.intro ?_ ?_)
          | with_reducible intro _
        all_goals first
          | omega
          | (rename_i hx; revert hx; simp; done)
          | (simp; done)
          | skip
        rw [hfin, hln, ← hnxt]
        refine hK2 _ _ (k + 1, v2 + 1, P8, .mem (verOf (some P10) + 1) 28 [.int .i64 1, .int .i64 (s.le * ((clus u).length : Int)), .int .i64 0, .int .i64 0, .int .i64 0, .str u]) ⟨by simp only; omega, j8, rfl⟩ (by simp only; omega) (Wk.temps ?_)
        (simp only [wordsV, strs, spar, List.foldl, List.replicate, go_sem, VLes_nil, VLes_cons, VLe_undef_iff, VLe_self]; try (repeat' first | (with_reducible refine And.intro ?_ ?_) | (refine VLe_int ?_; omega) | (refine VLe_bool ?_; rfl) | exact VLe.refl _))
      · have k7 : (0 < (k : Int)) = True := eq_true (by omega)
        have hpi : partI s k u = [⟨3, s.le, 0, 0, s.hy, [61]⟩, ⟨1, s.le * ((clus u).length : Int), 0, 0, 0, u⟩] := by unfold partI; rw [if_neg hk0]; rfl
        have hnxt : L1 ++ partsI s l (k + 1) = (M ++ [⟨3, s.le, 0, 0, s.hy, [61]⟩]) ++ [⟨1, s.le * ((clus u).length : Int), 0, 0, 0, u⟩] := by rw [hsk, hpi, hM]; simp
        have hln : M.length + 1 + 1 = (L1 ++ partsI s l (k + 1)).length := by rw [hnxt]; simp
        have hfin0 := fit ⟨3, s.le, 0, 0, s.hy, [61]⟩
        obtain ⟨M2, hM2⟩ : ∃ M2, M2 = M ++ [(⟨3, s.le, 0, 0, s.hy, [61]⟩ : It)] := ⟨_, rfl⟩
        have hl2 : M2.length = M.length + 1 := by rw [hM2]; simp
        rw [← hM2] at hfin0 hnxt
        have fc2 : (cellsIt M2).length = (M.length + 1) * 6 := by rw [cellsIt_len, hl2]
        have ft2 : List.take ((M.length + 1) * 6) (cellsIt M2) = cellsIt M2 := by rw [← hl2]; exact cellsIt_take M2
        have hfin : cellsIt M2 ++ [AV.int .i64 1, .int .i64 (s.le * ((clus u).length : Int)), .int .i64 0, .int .i64 0, .int .i64 0, .str u] = cellsIt (M2 ++ [⟨1, s.le * ((clus u).length : Int), 0, 0, 0, u⟩]) := cellsIt_snoc1 M2 ⟨1, s.le * ((clus u).length : Int), 0, 0, 0, u⟩
        simp only at hfin0
        simp (disch := omega) only [spar, List.foldl, List.replicate, strs, styC, eu, k7, j8', j10', madeA1, fc, ft, hfin0, fc2, ft2, go_sem, wrap64_id, Int.tdiv_eq_ediv_of_nonneg, Int.tmod_eq_emod_of_nonneg]
        repeat' first
          | ((first | refine callA_pure (c67 _) ?_ ?_); (next => repeat' first | exact flags_n | refine flags_c (by first | rfl | assumption) ?_); simp (disch := omega) only [strs, styC, eu, k7, j8', j10', madeA1, fc, ft, hfin0, fc2, ft2, go_sem, wrap64_id, Int.tdiv_eq_ediv_of_nonneg, Int.tmod_eq_emod_of_nonneg])
          | ((first | refine callG_pure (fun e => ⟨?_, c67 _⟩) ?_); (next => repeat' first | exact flags_n | refine flags_c (by first | rfl | assumption) ?_); simp (disch := omega) only [strs, styC, eu, k7, j8', j10', madeA1, fc, ft, hfin0, fc2, ft2, go_sem, wrap64_id, Int.tdiv_eq_ediv_of_nonneg, Int.tmod_eq_emod_of_nonneg])
          | ((first | refine fnQ_pure1 ?_ ?_ | refine fnQ_pure0 ?_ ?_); (next => repeat' first | exact rvs_n | refine rvs_t ?_ | (simp [go_sem]; done)); simp only [go_sem]; (first | exact VLe.refl _ | refine VLe_int ?_ | refine VLe_bool ?_ | refine VLe_str ?_ | skip))
          | (with_reducible refine And.intro ?_ ?_)
          | with_reducible intro _
        all_goals first
          | omega
          | (rename_i hx; revert hx; simp; done)
          | (simp; done)
          | skip
        rw [hfin, hln, ← hnxt]
        refine hK2 _ _ (k + 1, v2 + 1 + 1, .mem (verOf (some P8) + 1) 28 [.int .i64 3, .int .i64 s.le, .int .i64 0, .int .i64 0, .int .i64 s.hy, .str [61]], .mem (verOf (some P10) + 1) 28 [.int .i64 1, .int .i64 (s.le * ((clus u).length : Int)), .int .i64 0, .int .i64 0, .int .i64 0, .str u]) ⟨by simp only; omega, rfl, rfl⟩ (by simp only; omega) (Wk.temps ?_)
        (simp only [wordsV, strs, spar, List.foldl, List.replicate, go_sem, VLes_nil, VLes_cons, VLe_undef_iff, VLe_self]; try (repeat' first | (with_reducible refine And.intro ?_ ?_) | (refine VLe_int ?_; omega) | (refine VLe_bool ?_; rfl) | exact VLe.refl _))
    · have e : k = l.length := by omega
      have hfn : M = wordsI s ps ws (i + 1) := by rw [hM, e, hsu, hwi, hL1, List.append_assoc]
      rw [hfn]
      simp (disch := omega) only [spar, List.foldl, List.replicate, strs, go_sem, wrap64_id, Int.tdiv_eq_ediv_of_nonneg, Int.tmod_eq_emod_of_nonneg]
      repeat' first
        | ((first | refine fnQ_pure1 ?_ ?_ | refine fnQ_pure0 ?_ ?_); (next => repeat' first | exact rvs_n | refine rvs_t ?_ | (simp [go_sem]; done)); simp only [go_sem]; (first | exact VLe.refl _ | refine VLe_int ?_ | refine VLe_bool ?_ | refine VLe_str ?_ | skip))
        | (with_reducible refine And.intro ?_ ?_)
        | with_reducible intro _
      all_goals first
        | omega
        | (rename_i hx; revert hx; simp; done)
        | (simp; done)
        | skip
      refine hK _ _ (i + 1, v2, .mem (verOf (some O3) + 1) 91 [.str w.text, .int .i64 w.col, .int .i64 w.unit, .int .i64 w.dec, .bool false, .bool false, .str w.name], O4, .mem (verOf (some O6) + 1) 28 [.int .i64 2, .int .i64 s.sp, .int .i64 s.st, .int .i64 s.sh, .int .i64 0, .str []], P8, P10) ⟨by simp only; omega, rfl, i4, rfl, j8, j10⟩ (by simp only; omega) (Wk.temps ?_)
      (simp only [wordsV, strs, spar, List.foldl, List.replicate, go_sem, VLes_nil, VLes_cons, VLe_undef_iff, VLe_self]; try (repeat' first | (with_reducible refine And.intro ?_ ?_) | (refine VLe_int ?_; omega) | (refine VLe_bool ?_; rfl) | exact VLe.refl _))
end HY
end

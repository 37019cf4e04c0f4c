import Derived.Test.YtonpflblcnpegaaDoorE33
set_option linter.all false
set_option linter.unusedSimpArgs false
set_option linter.unusedVariables false
set_option linter.unusedSectionVars false
open Go Go.Proofs AF HY
namespace HY
set_option maxRecDepth 100000
theorem u21x (h : List AObj) : ACalls Tryd.prog 21 [.str txt] h (.tup [patsV exP, .int .i64 0]) h := by
  have := u21 txt h (by decide) (by decide) a_part (by rw [a_parse]; exact a_check)
  rwa [a_parse] at this
theorem u14q (h : List AObj) : ACalls Tryd.prog 14 [patsV exP, .str wC] h (.tup [intsV [2, 3], .int .i64 0]) h := by
  have := u14 exP wC h ok_exP (by decide)
  rwa [a_lc, a_st.2.2] at this
theorem u19q (h : List AObj) : ACalls Tryd.prog 19 [patsV exP, .str wC] h (.tup [.nl, .int .i64 0]) h := by
  have := t89 exP wC h ok_exP (by decide)
  rwa [a_pc, a_st.2.2, intsN_nil] at this
theorem u30q (h : List AObj) : ACalls Tryd.prog 30 [patsV exP, .str wX] h (.tup [strs [[120, 97], [98, 99, 100, 101]], .int .i64 0]) h := by
  have := u30 exP wX h ok_exP (by decide)
  rwa [a_sp, a_st.2.1] at this
def hpX (h : List AObj) (tl : List AObj) : List AObj := h ++ (.mem 1 3 [.int .i64 0, .int .i64 3, .int .i64 0] :: tl)
theorem vleQ {h : List AObj} {r : AV → AV} (hs : ∀ s, r (.str s) = .str s) (hv : ∀ l, r (intsV l) = intsV l) (ho : ILe (r (.osl h.length 1 1 0 3)) (intsV [0, 3, 0])) :
    VLe (.sl 3 fun i => List.map r (List.take 2 (List.drop (i * 2) (patsC exP ++ [.str [100, 101], .osl h.length 1 1 0 3])))) (patsV exQ) := by
  refine VLe.sl (fun i hi => ?_)
  obtain rfl | rfl | rfl : i = 0 ∨ i = 1 ∨ i = 2 := by omega
  · show ILes [r (.str _), r (intsV _)] [.str _, intsV _]
    rw [hs, hv]
    exact ILes.refl _
  · show ILes [r (.str _), r (intsV _)] [.str _, intsV _]
    rw [hs, hv]
    exact ILes.refl _
  · show ILes [r (.str _), r (.osl h.length 1 1 0 3)] [.str _, intsV _]
    rw [hs]
    exact ⟨ILe.refl _, ho, trivial⟩
def hpQ (h : List AObj) : List AObj := h ++ [AObj.mem 1 3 [AV.int IntKind.i64 0, AV.int IntKind.i64 3, AV.int IntKind.i64 0],
        AObj.mem 1 32 [AV.str [100, 101], AV.osl h.length 1 1 0 3], AObj.emp 0, AObj.emp 0, AObj.emp 0, AObj.emp 0,
        AObj.mem 2 32 (patsC exP ++ [AV.str [100, 101], AV.osl h.length 1 1 0 3])]
theorem give {P : Program} {f : FuncId} {args : List AV} {h h' : List AObj} {r : AV} (ks : List Nat) (hs : sitesOk ks h = true) (hc : ACalls P f (args.map (frz (fun k => ks.contains k) h 8)) (killO ks h) r h') : ACalls P f args h r h' := by
  refine ⟨hc.1, fun w σ xs H hv => ?_⟩
  obtain ⟨σ', g1, g2, g3, g4⟩ := kill_spec ks H hs
  refine (hc.2 w σ' xs g1 ⟨by rw [hv.1]; simp, fun i c x hcc hx => ?_⟩).mono ?_
  · rw [List.getElem?_map, Option.map_eq_some_iff] at hcc
    obtain ⟨c0, hcc, rfl⟩ := hcc
    exact frz_vr H (fun b hb => (g4 b hb).elim fun j ⟨o, h1, h2, h3⟩ => ⟨j, o, by simpa using h1, h2, h3⟩) (fun j o hj ho => g3 j o (by simpa using hj) ho) 8 (hv.2 i c0 x hcc hx)
  · rintro e w' ⟨v, σ2, rfl, k1, k2, k3⟩
    exact ⟨v, σ2, rfl, k1, k2, g2.trans k3⟩
theorem mm5 : valP (.mm true) [.int .i64 0, .int .i64 0, .int .i64 0, .int .i64 0, .int .i64 0] = .int .i64 0 := rfl
theorem okmm5 : okP (.mm true) [.int .i64 0, .int .i64 0, .int .i64 0, .int .i64 0, .int .i64 0] = True := by simp [okP, intC]
theorem u17o (L M : List Int) (k v : Nat) (h : List AObj) (hk : getO k h = some (ownO v 3 (intsC M))) (hl : L.length ≤ 1000000) : ACalls Tryd.prog 17 [intsV L, .osl k v 1 0 M.length] h (.bool (decide (L = M))) h := by
  refine ACalls.borrow ?_ rfl
  refine ACalls.le (u17v L M [] (by omega)) ?_ (VLe.refl _)
  simp only [List.map_cons, List.map_nil, rei_osl, if_true, hk]
  exact VLes2 (VLe.refl _) (VLes2 slOf_ints VLes.nil)
theorem u34o (L M : List (List UInt8)) (k v : Nat) (h : List AObj) (hk : getO k h = some (ownO v 9 (strC M))) (hl : L.length ≤ 1000000) : ACalls Tryd.prog 34 [strs L, .osl k v 1 0 M.length] h (.bool (eqS L.length M.length (fun i => L.getD i []) (fun i => M.getD i []))) h := by
  refine ACalls.borrow ?_ rfl
  refine ACalls.le (t143 L.length M.length (fun i => L.getD i []) (fun i => M.getD i []) [] (by omega)) ?_ (VLe.refl _)
  simp only [List.map_cons, List.map_nil, rei_osl, if_true, hk]
  exact VLes2 (VLe.refl _) (VLes2 slOf_strs VLes.nil)
theorem e5 : decide ([0, 1, 0, 0, 3] = ([0, 1, 0, 0, 3] : List Int)) = true := by decide
theorem e2 : decide ([2, 3] = ([2, 3] : List Int)) = true := by decide
theorem eS : eqS ([[120, 97], [98, 99, 100, 101]] : List (List UInt8)).length ([[120, 97], [98, 99, 100, 101]] : List (List UInt8)).length (fun i => ([[120, 97], [98, 99, 100, 101]] : List (List UInt8)).getD i []) (fun i => ([[120, 97], [98, 99, 100, 101]] : List (List UInt8)).getD i []) = true := by decide
theorem u17x (h : List AObj) (k : Nat) (hk : getO k h = some (.mem 1 3 [.int .i64 0, .int .i64 1, .int .i64 0, .int .i64 0, .int .i64 3])) : ACalls Tryd.prog 17 [intsV [0, 1, 0, 0, 3], .osl k 1 1 0 5] h (.bool true) h := by
  have := u17o [0, 1, 0, 0, 3] [0, 1, 0, 0, 3] k 1 h (by rw [hk]; rfl) (by decide)
  rwa [e5] at this
theorem u17y (h : List AObj) (k : Nat) (hk : getO k h = some (.mem 1 3 [.int .i64 2, .int .i64 3])) : ACalls Tryd.prog 17 [intsV [2, 3], .osl k 1 1 0 2] h (.bool true) h := by
  have := u17o [2, 3] [2, 3] k 1 h (by rw [hk]; rfl) (by decide)
  rwa [e2] at this
theorem u34x (h : List AObj) (k : Nat) (hk : getO k h = some (.mem 1 9 [.str [120, 97], .str [98, 99, 100, 101]])) : ACalls Tryd.prog 34 [strs [[120, 97], [98, 99, 100, 101]], .osl k 1 1 0 2] h (.bool true) h := by
  have := u34o [[120, 97], [98, 99, 100, 101]] [[120, 97], [98, 99, 100, 101]] k 1 h (by rw [hk]; rfl) (by decide)
  rwa [eS] at this
def hpK (h : List AObj) : List AObj := h ++ [AObj.emp 2,
        AObj.mem 1 32 [AV.str [100, 101], AV.osl h.length 1 1 0 3], AObj.emp 0, AObj.emp 0, AObj.emp 0, AObj.emp 0,
        AObj.emp 3]
theorem getO0 {h : List AObj} {o : AObj} {l : List AObj} : getO h.length (h ++ o :: l) = some o := by simp [getO]
theorem u14x (h : List AObj) : ACalls Tryd.prog 14 [.osl (h.length + 6) 2 2 0 3, .str wX] (hpQ h) (.tup [intsV [0, 1, 0, 0, 3], .int .i64 0]) (hpK h) := by
  refine give [h.length + 6, h.length] ?_ ?_
  · unfold hpQ sitesOk sitesOk sitesOk
    simp (disch := omega) only [getO0, go_sem, wrap64_id, Int.tdiv_eq_ediv_of_nonneg, Int.tmod_eq_emod_of_nonneg]
  have hk : killO [h.length + 6, h.length] (hpQ h) = hpK h := by
    unfold hpQ hpK killO killO killO
    simp (disch := omega) only [getO0, go_sem, wrap64_id, Int.tdiv_eq_ediv_of_nonneg, Int.tmod_eq_emod_of_nonneg]
  rw [hk]
  have hx := u14 exQ wX (hpK h) ok_exQ (by decide)
  rw [a_lv, a_st.1] at hx
  refine ACalls.le hx ?_ (VLe.refl _)
  unfold hpQ
  simp only [List.map_cons, List.map_nil]
  refine VLes2 ?_ (VLes2 (VLe.refl _) VLes.nil)
  have hc1 : [h.length + 6, h.length].contains (h.length + 6) = true := by simp
  have hc2 : [h.length + 6, h.length].contains h.length = true := by simp
  simp (disch := omega) only [frz_osl, rei_osl, go_sem, wrap64_id, Int.tdiv_eq_ediv_of_nonneg, Int.tmod_eq_emod_of_nonneg]
  rw [if_pos hc1, if_pos hc1, if_pos (show 6 ≤ (patsC exP ++ [AV.str [100, 101], AV.osl h.length 1 1 0 3]).length from Nat.le_refl 6)]
  refine vleQ (fun s => rei_str) (fun l => rei_intsV l) ?_
  simp (disch := omega) only [rei_osl, getO0, go_sem, wrap64_id, Int.tdiv_eq_ediv_of_nonneg, Int.tmod_eq_emod_of_nonneg]
  rw [if_pos hc2]
  exact ile3 (fun x => rei_int)
set_option maxHeartbeats 4000000 in
theorem u13 (h : List AObj) : ACalls Tryd.prog 13 [] h (.bool true) h := by
  refine acalls_of fn13e (by simp) ?_
  simp only [List.length_cons, List.length_nil, Nat.reduceAdd, Nat.reduceSub, List.replicate, List.cons_append, List.nil_append, List.append_nil]
  simp (disch := omega) only [c13e, madeA, go_sem, wrap64_id, Int.tdiv_eq_ediv_of_nonneg, Int.tmod_eq_emod_of_nonneg]
  repeat' first
    | ((first | refine callA_pure (u21x _) ?_ ?_); (next => repeat' first | exact flags_n | refine flags_c (by first | rfl | assumption) ?_); simp (disch := omega) only [madeA, go_sem, wrap64_id, Int.tdiv_eq_ediv_of_nonneg, Int.tmod_eq_emod_of_nonneg])
    | ((first | refine callG_pure (fun e => ⟨?_, u21x _⟩) ?_); (next => repeat' first | exact flags_n | refine flags_c (by first | rfl | assumption) ?_); simp (disch := omega) only [madeA, go_sem, wrap64_id, Int.tdiv_eq_ediv_of_nonneg, Int.tmod_eq_emod_of_nonneg])
    | ((first | refine fnQ_pure1 ?_ ?_ | refine fnQ_pure0 ?_ ?_); (next => repeat' first | exact rvs_n | refine rvs_t ?_ | (simp [go_sem]; done)); simp only [go_sem]; (first | exact VLe.refl _ | refine VLe_int ?_ | refine VLe_bool ?_ | refine VLe_str ?_ | skip))
    | (with_reducible refine And.intro ?_ ?_)
    | with_reducible intro _
  all_goals first
    | omega
    | (rename_i hx; revert hx; simp; done)
    | (simp; done)
    | skip
  have eX : (patsC exP).length = 4 := rfl
  have eT : List.take 4 (patsC exP) = patsC exP := rfl
  refine callA_eff (u39m _ (h.length + 6) (by simp only [go_sem])) trivial ?_
  simp (disch := omega) only [madeA, eX, eT, go_sem, wrap64_id, Int.tdiv_eq_ediv_of_nonneg, Int.tmod_eq_emod_of_nonneg]
  repeat' first
    | ((first | refine fnQ_pure1 ?_ ?_ | refine fnQ_pure0 ?_ ?_); (next => repeat' first | exact rvs_n | refine rvs_t ?_ | (simp [go_sem]; done)); simp only [go_sem]; (first | exact VLe.refl _ | refine VLe_int ?_ | refine VLe_bool ?_ | refine VLe_str ?_ | skip))
    | (with_reducible refine And.intro ?_ ?_)
    | with_reducible intro _
  all_goals first
    | omega
    | (rename_i hx; revert hx; simp; done)
    | (simp; done)
    | skip
  refine callA_eff (u14x h) ⟨rfl, rfl, trivial⟩ ?_
  unfold hpK
  have c27 := fun h => u27 exP exP h ok_exP
  rw [decide_eq_true rfl] at c27
  have k5 : decide ([0, 1, 0, 0, 3] = ([0, 1, 0, 0, 3] : List Int)) = true := by decide
  simp (disch := omega) only [madeA, mm5, okmm5, go_sem, wrap64_id, Int.tdiv_eq_ediv_of_nonneg, Int.tmod_eq_emod_of_nonneg]
  repeat' first
    | ((first | refine callA_pure (u39 _) ?_ ?_ | refine callA_pure (u30q _) ?_ ?_ | refine callA_pure (u14q _) ?_ ?_ | refine callA_pure (u19q _) ?_ ?_ | refine callA_pure (c27 _) ?_ ?_ | refine callA_pure (u17x _ _ (by simp only [go_sem])) ?_ ?_ | refine callA_pure (u34x _ _ (by simp only [go_sem])) ?_ ?_ | refine callA_pure (u17y _ _ (by simp only [go_sem])) ?_ ?_); (next => repeat' first | exact flags_n | refine flags_c (by first | rfl | assumption) ?_); simp (disch := omega) only [madeA, mm5, okmm5, go_sem, wrap64_id, Int.tdiv_eq_ediv_of_nonneg, Int.tmod_eq_emod_of_nonneg])
    | ((first | refine callG_pure (fun e => ⟨?_, u39 _⟩) ?_ | refine callG_pure (fun e => ⟨?_, u30q _⟩) ?_ | refine callG_pure (fun e => ⟨?_, u14q _⟩) ?_ | refine callG_pure (fun e => ⟨?_, u19q _⟩) ?_ | refine callG_pure (fun e => ⟨?_, c27 _⟩) ?_ | refine callG_pure (fun e => ⟨?_, u17x _ _ (by simp only [go_sem])⟩) ?_ | refine callG_pure (fun e => ⟨?_, u34x _ _ (by simp only [go_sem])⟩) ?_ | refine callG_pure (fun e => ⟨?_, u17y _ _ (by simp only [go_sem])⟩) ?_); (next => repeat' first | exact flags_n | refine flags_c (by first | rfl | assumption) ?_); simp (disch := omega) only [madeA, mm5, okmm5, go_sem, wrap64_id, Int.tdiv_eq_ediv_of_nonneg, Int.tmod_eq_emod_of_nonneg])
    | ((first | refine fnQ_pure1 ?_ ?_ | refine fnQ_pure0 ?_ ?_); (next => repeat' first | exact rvs_n | refine rvs_t ?_ | (simp [go_sem]; done)); simp only [go_sem]; (first | exact VLe.refl _ | refine VLe_int ?_ | refine VLe_bool ?_ | refine VLe_str ?_ | skip))
    | (with_reducible refine And.intro ?_ ?_)
    | with_reducible intro _
  all_goals first
    | omega
    | (rename_i hx; revert hx; simp; done)
    | (simp; done)
    | skip
end HY

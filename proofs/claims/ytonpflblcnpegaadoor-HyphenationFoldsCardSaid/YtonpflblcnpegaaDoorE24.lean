import Derived.Test.YtonpflblcnpegaaDoorE23
import Derived.Test.YtonpflblcnpegaaDoorPgCodeE2
set_option linter.all false
set_option linter.unusedSimpArgs false
set_option linter.unusedVariables false
set_option linter.unusedSectionVars false
open Go Go.Proofs AF HY
namespace HY
set_option maxRecDepth 100000
def patsC (ps : List Pat) : List AV := ps.flatMap patC
theorem patsC_app (a b : List Pat) : patsC (a ++ b) = patsC a ++ patsC b := by simp [patsC]
theorem patsC_len (l : List Pat) : (patsC l).length = l.length * 2 := by
  induction l with
  | nil => rfl
  | cons x l ih => unfold patsC at *; rw [List.flatMap_cons, List.length_append, ih, List.length_cons]; show 2 + l.length * 2 = _; omega
theorem patsC_range (L : List Pat) : (List.range L.length).flatMap (fun i => patC (L.getD i default)) = patsC L := by
  have : L = (List.range L.length).map (fun i => L.getD i default) := by
    apply List.ext_getElem
    · simp
    · intro i h1 h2; simp [List.getD_eq_getElem?_getD, List.getElem?_eq_getElem h1]
  unfold patsC
  conv => rhs; rw [this]
  rw [List.flatMap_map]
theorem drop_pats {l : List Pat} {i : Nat} (hi : i < l.length) : List.take 2 (List.drop (i * 2) (patsC l)) = patC (l.getD i default) := by
  have h1 : l = l.take i ++ l.getD i default :: l.drop (i + 1) := by
    have : l.getD i default = l[i] := by rw [List.getD_eq_getElem?_getD, List.getElem?_eq_getElem hi]; rfl
    rw [this, ← List.drop_eq_getElem_cons hi, List.take_append_drop]
  conv => lhs; rw [h1]
  rw [patsC_app, List.drop_append_of_le_length (by rw [patsC_len, List.length_take]; omega), List.drop_of_length_le (by rw [patsC_len, List.length_take]; omega)]
  show List.take 2 (patC (l.getD i default) ++ patsC (l.drop (i + 1))) = _
  rfl
theorem patsV_of {l : List Pat} {n m : Nat} {fz : Nat → Bool} {h : List AObj} (e : l.length = m) : VLe (.sl m fun i => ((List.drop (i * 2) (patsC l)).take 2).map (rei fz h (n + 1))) (patsV l) := by
  subst e
  refine VLe_sl rfl (fun i hi => ?_)
  rw [drop_pats hi]
  rfl
theorem u42 (n : Nat) (h : List AObj) (k : Nat) (hk : site h k = true) (hn : 0 < n) (hn1 : n ≤ 1000000000) :
    ACalls Tryd.prog 42 [.nl, .int .i64 n] h (.osl k (verOf (getO k h) + 1) 2 0 0) (setO k h (.mem (verOf (getO k h) + 1) 32 (madeA [.str [], .nl] n))) := by
  refine acallsM fn42d k (by simp) ?_
  simp only [List.length_cons, List.length_nil, Nat.reduceAdd, Nat.reduceSub, List.replicate, List.cons_append, List.nil_append, List.append_nil]
  simp (disch := omega) only [c42d, go_sem, wrap64_id, Int.tdiv_eq_ediv_of_nonneg, Int.tmod_eq_emod_of_nonneg]
  repeat' first
    | (with_reducible refine And.intro ?_ ?_)
    | (with_reducible intro _)
  all_goals first
    | omega
    | skip
  have e0 : ((n : Int) - (0 - 0)).toNat = n := by omega
  rw [e0]
  exact ⟨h.length + 1, 1, 2, 0, 0, 32, madeA [.str [], .nl] n, [AObj.emp 1, AObj.mem 1 32 (madeA [.str [], .nl] n)], ⟨trivial, trivial⟩, rfl, rfl, by omega, by simp only [go_sem], fun c hc => by have := mem_madeA hc; simp at this; rcases this with rfl | rfl <;> rfl, hk, rfl, rfl⟩
theorem u42z (h : List AObj) : ACalls Tryd.prog 42 [.nl, .int .i64 0] h .nl h := by
  refine acalls_of fn42d (by simp) ?_
  simp only [List.length_cons, List.length_nil, Nat.reduceAdd, Nat.reduceSub, List.replicate, List.cons_append, List.nil_append, List.append_nil]
  simp (disch := omega) only [c42d, go_sem, wrap64_id, Int.tdiv_eq_ediv_of_nonneg, Int.tmod_eq_emod_of_nonneg]
  repeat' first
    | ((first | refine fnQ_pure1 ?_ ?_ | refine fnQ_pure0 ?_ ?_); (next => repeat' first | exact rvs_n | refine rvs_t ?_ | (simp [go_sem]; done)); simp only [go_sem]; (first | exact VLe.refl _ | refine VLe_int ?_ | refine VLe_bool ?_ | refine VLe_str ?_ | skip))
    | (with_reducible refine And.intro ?_ ?_)
    | with_reducible intro _
  all_goals first
    | omega
    | (rename_i hx; revert hx; simp; done)
    | (simp; done)
    | skip
set_option maxHeartbeats 4000000 in
theorem u15 (Ls : List (List Pat)) (E : Nat → AV) (h : List AObj) (k v : Nat) (cs : List AV) (hk : getO k h = some (.mem v 22 cs)) (hcl : cs.length = Ls.length) (hE : ∀ i, i < Ls.length → cs[i]? = some (E i) ∧ Src h (E i) (Ls.getD i []).length (patsC (Ls.getD i [])))
    (h0 : 0 < Ls.flatten.length) (h1 : Ls.flatten.length ≤ 1000000000) (h2 : Ls.length ≤ 1000000000) (hv : (v == v) = true) : ACalls Tryd.prog 15 [.osl k v 1 0 Ls.length] h (patsV Ls.flatten) h := by
  have hkl : k < h.length := getO_lt hk
  have hL : ∀ X, liveS (h ++ X) k v = true := fun X => by rw [liveS_left hkl]; unfold liveS; rw [hk]; simp
  have hC : ∀ X, cellsOf (h ++ X) k v = some cs := fun X => by rw [cellsOf_left hkl]; exact cellsOf_of hk
  have hLs : 0 < Ls.length := by
    cases Ls with
    | nil => simp at h0
    | cons => simp
  refine acalls_of fn15e (by simp) ?_
  simp only [List.length_cons, List.length_nil, Nat.reduceAdd, Nat.reduceSub, List.replicate, List.cons_append, List.nil_append, List.append_nil]
  simp (disch := omega) only [c15e, hL, hC, go_sem, wrap64_id, Int.tdiv_eq_ediv_of_nonneg, Int.tmod_eq_emod_of_nonneg]
  repeat' first
    | ((first | refine fnQ_pure1 ?_ ?_ | refine fnQ_pure0 ?_ ?_); (next => repeat' first | exact rvs_n | refine rvs_t ?_ | (simp [go_sem]; done)); simp only [go_sem]; (first | exact VLe.refl _ | refine VLe_int ?_ | refine VLe_bool ?_ | refine VLe_str ?_ | skip))
    | (with_reducible refine And.intro ?_ ?_)
    | with_reducible intro _
  all_goals first
    | omega
    | (rename_i hx; revert hx; simp; done)
    | (simp; done)
    | skip
  refine loop_of (T := fun i : Nat => spar 36 [(0, .osl k v 1 0 Ls.length), (3, .int .i64 (Ls.take i).flatten.length), (9, .osl k v 1 0 Ls.length), (10, .int .i64 Ls.length), (11, .int .i64 i)]) (H := fun i => h ++ [.emp 1, .emp 0, .emp 0])
    (inv := fun i => i ≤ Ls.length) (m := fun i => Ls.length - i) 0 (by omega) (Wk.temps ?_) ?_
  · (simp only [spar, List.foldl, List.replicate, go_sem, VLes_nil, VLes_cons, VLe_undef_iff, VLe_self]; try (repeat' first | (with_reducible refine And.intro ?_ ?_) | (refine VLe_int ?_; omega) | (refine VLe_bool ?_; rfl) | exact VLe.refl _))
  rintro i i1 K hK
  by_cases hi : i < Ls.length
  · obtain ⟨c1, ⟨s1, s2, s3, s4, s5, s6⟩⟩ := hE i hi
    have hst := flatten_take_succ Ls hi
    have hle := flatten_take_le Ls (i + 1)
    rw [hst, List.length_append] at hle
    simp (disch := omega) only [spar, List.foldl, List.replicate, hL, hC, c1, s1, s2, s3, s4, hcl, go_sem, wrap64_id, Int.tdiv_eq_ediv_of_nonneg, Int.tmod_eq_emod_of_nonneg]
    repeat' first
      | ((first | refine fnQ_pure1 ?_ ?_ | refine fnQ_pure0 ?_ ?_); (next => repeat' first | exact rvs_n | refine rvs_t ?_ | (simp [go_sem]; done)); simp only [go_sem]; (first | exact VLe.refl _ | refine VLe_int ?_ | refine VLe_bool ?_ | refine VLe_str ?_ | skip))
      | (with_reducible refine And.intro ?_ ?_)
      | with_reducible intro _
    all_goals first
      | omega
      | (rename_i hx; revert hx; simp; done)
      | (simp; done)
      | skip
    have hln : (List.take (i + 1) Ls).flatten.length = (List.take i Ls).flatten.length + (Ls.getD i []).length := by rw [hst, List.length_append]
    refine hK _ _ (i + 1) (by omega) (by omega) (Wk.temps ?_)
    (simp only [spar, List.foldl, List.replicate, go_sem, VLes_nil, VLes_cons, VLe_undef_iff, VLe_self]; try (repeat' first | (with_reducible refine And.intro ?_ ?_) | (refine VLe_int ?_; omega) | (refine VLe_bool ?_; rfl) | exact VLe.refl _))
  have e : i = Ls.length := by omega
  subst e
  rw [List.take_length]
  obtain ⟨N, hN⟩ : ∃ N, N = Ls.flatten.length := ⟨_, rfl⟩
  rw [← hN] at h0 h1 ⊢
  simp (disch := omega) only [spar, List.foldl, List.replicate, hL, hC, hcl, go_sem, wrap64_id, Int.tdiv_eq_ediv_of_nonneg, Int.tmod_eq_emod_of_nonneg]
  refine ⟨fun hf => absurd hf (by omega), fun _ => ?_⟩
  refine callA_eff (u42 N _ (h.length + 2) (by simp only [go_sem]) h0 h1) ⟨rfl, rfl, trivial⟩ ?_
  simp (disch := omega) only [hL, hC, go_sem, wrap64_id, Int.tdiv_eq_ediv_of_nonneg, Int.tmod_eq_emod_of_nonneg]
  repeat' first
    | ((first | refine fnQ_pure1 ?_ ?_ | refine fnQ_pure0 ?_ ?_); (next => repeat' first | exact rvs_n | refine rvs_t ?_ | (simp [go_sem]; done)); simp only [go_sem]; (first | exact VLe.refl _ | refine VLe_int ?_ | refine VLe_bool ?_ | refine VLe_str ?_ | skip))
    | (with_reducible refine And.intro ?_ ?_)
    | with_reducible intro _
  all_goals first
    | omega
    | (rename_i hx; revert hx; simp; done)
    | (simp; done)
    | skip
  refine loop_of (T := fun i : Nat × Nat × Nat => spar 36 [(6, .osl (h.length + 2) i.2.1 2 0 i.2.2), (25, .osl k v 1 0 Ls.length), (26, .int .i64 Ls.length), (27, .int .i64 i.1)]) (H := fun i => h ++ [.emp 1, .emp 0, .mem i.2.1 32 (if i.1 = 0 then madeA [.str [], .nl] N else patsC (Ls.take i.1).flatten)])
    (inv := fun i => i.1 ≤ Ls.length ∧ i.2.2 = (Ls.take i.1).flatten.length) (m := fun i => Ls.length - i.1) (0, 1, 0) ⟨by simp, by simp⟩ (Wk.temps ?_) ?_
  · (simp only [spar, List.foldl, List.replicate, go_sem, VLes_nil, VLes_cons, VLe_undef_iff, VLe_self]; try (repeat' first | (with_reducible refine And.intro ?_ ?_) | (refine VLe_int ?_; omega) | (refine VLe_bool ?_; rfl) | exact VLe.refl _))
  rintro ⟨i, w, m⟩ ⟨i1, i2⟩ K hK
  simp only at i1 i2 hK
  by_cases hi : i < Ls.length
  · obtain ⟨c1, ⟨s1, s2, s3, s4, s5, s6⟩⟩ := hE i hi
    have hst := flatten_take_succ Ls hi
    have hle := flatten_take_le Ls (i + 1)
    rw [hst, List.length_append, ← hN] at hle
    have eT : ∀ n, List.take (m * 2) (if i = 0 then madeA [.str [], .nl] n else patsC (Ls.take i).flatten) = patsC (Ls.take i).flatten := by
      intro n
      split
      · rename_i e0; subst e0; subst i2; rfl
      · exact List.take_of_length_le (by rw [patsC_len, i2]; exact Nat.le_refl _)
    obtain ⟨ms, hms⟩ : ∃ ms, ms = (if i = 0 then madeA [.str [], .nl] N else patsC (Ls.take i).flatten) := ⟨_, rfl⟩
    have eT' := eT N
    rw [← hms] at eT' ⊢
    have hml : m * 2 ≤ ms.length := by
      have := congrArg List.length eT'
      rw [List.length_take, patsC_len, ← i2] at this
      omega
    have hsl := patsC_len (Ls.getD i [])
    simp (disch := omega) only [spar, List.foldl, List.replicate, hL, hC, c1, s1, s2, s3, s4, s5, s6, hcl, eT', hsl, go_sem, wrap64_id, Int.tdiv_eq_ediv_of_nonneg, Int.tmod_eq_emod_of_nonneg]
    repeat' first
      | ((first | refine fnQ_pure1 ?_ ?_ | refine fnQ_pure0 ?_ ?_); (next => repeat' first | exact rvs_n | refine rvs_t ?_ | (simp [go_sem]; done)); simp only [go_sem]; (first | exact VLe.refl _ | refine VLe_int ?_ | refine VLe_bool ?_ | refine VLe_str ?_ | skip))
      | (with_reducible refine And.intro ?_ ?_)
      | with_reducible intro _
    all_goals first
      | omega
      | (rename_i hx; revert hx; simp; done)
      | (simp; done)
      | skip
    have hfin : h ++ [AObj.emp 1, AObj.emp 0, AObj.mem (w + 1) 32 (patsC (List.take i Ls).flatten ++ patsC (Ls.getD i []))] = h ++ [AObj.emp 1, AObj.emp 0, AObj.mem (w + 1) 32 (if i + 1 = 0 then madeA [.str [], .nl] N else patsC (Ls.take (i + 1)).flatten)] := by rw [if_neg (by omega), hst, patsC_app]
    rw [hfin]
    refine hK _ _ (i + 1, w + 1, m + (Ls.getD i []).length) ⟨by simp only; omega, by simp only; rw [hst, List.length_append, i2]⟩ (by simp only; omega) (Wk.temps ?_)
    (simp only [spar, List.foldl, List.replicate, go_sem, VLes_nil, VLes_cons, VLe_undef_iff, VLe_self]; try (repeat' first | (with_reducible refine And.intro ?_ ?_) | (refine VLe_int ?_; omega) | (refine VLe_bool ?_; rfl) | exact VLe.refl _))
  · have e : i = Ls.length := by omega
    subst e
    rw [List.take_length, ← hN] at i2
    subst i2
    rw [List.take_length, if_neg (by omega)]
    have eL : (patsC Ls.flatten).length = m * 2 := by rw [patsC_len, hN]
    simp (disch := omega) only [spar, List.foldl, List.replicate, hL, hC, hcl, eL, go_sem, wrap64_id, Int.tdiv_eq_ediv_of_nonneg, Int.tmod_eq_emod_of_nonneg]
    repeat' first
      | ((first | refine fnQ_pure1 ?_ ?_ | refine fnQ_pure0 ?_ ?_); (next => repeat' first | exact rvs_n | refine rvs_t ?_ | (simp [go_sem]; done)); simp only [go_sem]; (first | exact VLe.refl _ | refine VLe_int ?_ | refine VLe_bool ?_ | refine VLe_str ?_ | skip))
      | (with_reducible refine And.intro ?_ ?_)
      | with_reducible intro _
    all_goals first
      | omega
      | (rename_i hx; revert hx; simp; done)
      | (simp; done)
      | skip
    rw [if_pos (by omega)]
    exact patsV_of hN.symm
end HY

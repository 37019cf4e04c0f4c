import Derived.Test.YtonpflblcnpegaaDoorE16
set_option linter.all false
set_option linter.unusedSimpArgs false
set_option linter.unusedVariables false
set_option linter.unusedSectionVars false
open Go Go.Proofs AF HY
namespace HY
set_option maxRecDepth 100000
theorem mem_madeA {z : List AV} {c : AV} : ∀ {n : Nat}, c ∈ madeA z n → c ∈ z := by
  intro n
  induction n with
  | zero => intro h; simp [madeA] at h
  | succ n ih => intro h; simp only [madeA, List.mem_append] at h; exact h.elim id ih
theorem t140 (n : Nat) (h : List AObj) (k : Nat) (hk : site h k = true) (hn : 0 < n) (hn1 : n ≤ 1000000000) :
    ACalls Tryd.prog 97 [.nl, .int .i64 n] h (.osl k (verOf (getO k h) + 1) 1 0 0) (setO k h (.mem (verOf (getO k h) + 1) 9 (madeA [.str []] n))) := by
  refine acallsM fn97d k (by simp) ?_
  simp only [List.length_cons, List.length_nil, Nat.reduceAdd, Nat.reduceSub, List.replicate, List.cons_append, List.nil_append, List.append_nil]
  simp (disch := omega) only [c97d, go_sem, wrap64_id, Int.tdiv_eq_ediv_of_nonneg, Int.tmod_eq_emod_of_nonneg]
  repeat' first
    | (with_reducible refine And.intro ?_ ?_)
    | (with_reducible intro _)
  all_goals first
    | omega
    | skip
  have e0 : ((n : Int) - (0 - 0)).toNat = n := by omega
  rw [e0]
  exact ⟨h.length + 1, 1, 1, 0, 0, 9, madeA [.str []] n, [AObj.emp 1, AObj.mem 1 9 (madeA [.str []] n)], ⟨trivial, trivial⟩, rfl, rfl, by omega, by simp only [go_sem], fun c hc => by have := mem_madeA hc; simp at this; subst this; rfl, hk, rfl, rfl⟩
/-- A slice that a call may read, wherever further objects come in. -/
structure Src (h : List AObj) (e : AV) (n : Nat) (cs : List AV) : Prop where
  flag : e.flag = true
  strip : e.strip = e
  lenOk : ∀ X, okL (h ++ X) .len [e] = True
  len : ∀ X, valL (h ++ X) .len [e] = .int .i64 n
  cells : ∀ X, sliceCells (h ++ X) e = some (n, cs)
  apart : ∀ k v z p m, h.length ≤ k → apartS (.osl k v z p m) e = true
theorem strC_app (a b : List (List UInt8)) : strC (a ++ b) = strC a ++ strC b := by simp [strC]
theorem flatten_take_succ {α : Type} (L : List (List α)) {i : Nat} (h : i < L.length) : (L.take (i + 1)).flatten = (L.take i).flatten ++ L.getD i [] := by
  rw [List.take_add_one, List.flatten_append, List.getElem?_eq_getElem h]
  simp [List.getD_eq_getElem?_getD, h]
theorem flatten_take_le {α : Type} (L : List (List α)) (i : Nat) : (L.take i).flatten.length ≤ L.flatten.length := by
  conv => rhs; rw [← List.take_append_drop i L, List.flatten_append, List.length_append]
  omega
set_option maxHeartbeats 4000000 in
theorem t135 (Ls : List (List (List UInt8))) (E : Nat → AV) (h : List AObj) (k v : Nat) (cs : List AV) (hk : getO k h = some (.mem v 33 cs)) (hcl : cs.length = Ls.length) (hE : ∀ i, i < Ls.length → cs[i]? = some (E i) ∧ Src h (E i) (Ls.getD i []).length (strC (Ls.getD i [])))
    (h0 : 0 < Ls.flatten.length) (h1 : Ls.flatten.length ≤ 1000000000) (h2 : Ls.length ≤ 1000000000) (hv : (v == v) = true) : ACalls Tryd.prog 73 [.osl k v 1 0 Ls.length] h (strs Ls.flatten) h := by
  have hkl : k < h.length := getO_lt hk
  have hL : ∀ X, liveS (h ++ X) k v = true := fun X => by rw [liveS_left hkl]; unfold liveS; rw [hk]; simp
  have hC : ∀ X, cellsOf (h ++ X) k v = some cs := fun X => by rw [cellsOf_left hkl]; exact cellsOf_of hk
  have hLs : 0 < Ls.length := by
    cases Ls with
    | nil => simp at h0
    | cons => simp
  refine acalls_of fn73d (by simp) ?_
  simp only [List.length_cons, List.length_nil, Nat.reduceAdd, Nat.reduceSub, List.replicate, List.cons_append, List.nil_append, List.append_nil]
  simp (disch := omega) only [c73d, hL, hC, go_sem, wrap64_id, Int.tdiv_eq_ediv_of_nonneg, Int.tmod_eq_emod_of_nonneg]
  repeat' first
    | ((first | refine fnQ_pure1 ?_ ?_ | refine fnQ_pure0 ?_ ?_); (next => repeat' first | exact rvs_n | refine rvs_t ?_ | (simp [go_sem]; done)); simp only [go_sem]; (first | exact VLe.refl _ | refine VLe_int ?_ | refine VLe_bool ?_ | refine VLe_str ?_ | skip))
    | (with_reducible refine And.intro ?_ ?_)
    | with_reducible intro _
  all_goals first
    | omega
    | (rename_i hx; revert hx; simp; done)
    | (simp; done)
    | skip
  refine loop_of (T := fun i : Nat => spar 36 [(0, .osl k v 1 0 Ls.length), (3, .int .i64 (Ls.take i).flatten.length), (9, .osl k v 1 0 Ls.length), (10, .int .i64 Ls.length), (11, .int .i64 i)]) (H := fun i => h ++ [.emp 1, .emp 0, .emp 0])
    (inv := fun i => i ≤ Ls.length) (m := fun i => Ls.length - i) 0 (by omega) (Wk.temps ?_) ?_
  · (simp only [spar, List.foldl, List.replicate, go_sem, VLes_nil, VLes_cons, VLe_undef_iff, VLe_self]; try (repeat' first | (with_reducible refine And.intro ?_ ?_) | (refine VLe_int ?_; omega) | (refine VLe_bool ?_; rfl) | exact VLe.refl _))
  rintro i i1 K hK
  by_cases hi : i < Ls.length
  · obtain ⟨c1, ⟨s1, s2, s3, s4, s5, s6⟩⟩ := hE i hi
    have hst := flatten_take_succ Ls hi
    have hle := flatten_take_le Ls (i + 1)
    rw [hst, List.length_append] at hle
    simp (disch := omega) only [spar, List.foldl, List.replicate, hL, hC, c1, s1, s2, s3, s4, hcl, go_sem, wrap64_id, Int.tdiv_eq_ediv_of_nonneg, Int.tmod_eq_emod_of_nonneg]
    repeat' first
      | ((first | refine fnQ_pure1 ?_ ?_ | refine fnQ_pure0 ?_ ?_); (next => repeat' first | exact rvs_n | refine rvs_t ?_ | (simp [go_sem]; done)); simp only [go_sem]; (first | exact VLe.refl _ | refine VLe_int ?_ | refine VLe_bool ?_ | refine VLe_str ?_ | skip))
      | (with_reducible refine And.intro ?_ ?_)
      | with_reducible intro _
    all_goals first
      | omega
      | (rename_i hx; revert hx; simp; done)
      | (simp; done)
      | skip
    have hln : (List.take (i + 1) Ls).flatten.length = (List.take i Ls).flatten.length + (Ls.getD i []).length := by rw [hst, List.length_append]
    refine hK _ _ (i + 1) (by omega) (by omega) (Wk.temps ?_)
    (simp only [spar, List.foldl, List.replicate, go_sem, VLes_nil, VLes_cons, VLe_undef_iff, VLe_self]; try (repeat' first | (with_reducible refine And.intro ?_ ?_) | (refine VLe_int ?_; omega) | (refine VLe_bool ?_; rfl) | exact VLe.refl _))
  have e : i = Ls.length := by omega
  subst e
  rw [List.take_length]
  obtain ⟨N, hN⟩ : ∃ N, N = Ls.flatten.length := ⟨_, rfl⟩
  rw [← hN] at h0 h1 ⊢
  simp (disch := omega) only [spar, List.foldl, List.replicate, hL, hC, hcl, go_sem, wrap64_id, Int.tdiv_eq_ediv_of_nonneg, Int.tmod_eq_emod_of_nonneg]
  refine ⟨fun hf => absurd hf (by omega), fun _ => ?_⟩
  refine callA_eff (t140 N _ (h.length + 2) (by simp only [go_sem]) h0 h1) ⟨rfl, rfl, trivial⟩ ?_
  simp (disch := omega) only [hL, hC, go_sem, wrap64_id, Int.tdiv_eq_ediv_of_nonneg, Int.tmod_eq_emod_of_nonneg]
  repeat' first
    | ((first | refine fnQ_pure1 ?_ ?_ | refine fnQ_pure0 ?_ ?_); (next => repeat' first | exact rvs_n | refine rvs_t ?_ | (simp [go_sem]; done)); simp only [go_sem]; (first | exact VLe.refl _ | refine VLe_int ?_ | refine VLe_bool ?_ | refine VLe_str ?_ | skip))
    | (with_reducible refine And.intro ?_ ?_)
    | with_reducible intro _
  all_goals first
    | omega
    | (rename_i hx; revert hx; simp; done)
    | (simp; done)
    | skip
  refine loop_of (T := fun i : Nat × Nat × Nat => spar 36 [(6, .osl (h.length + 2) i.2.1 1 0 i.2.2), (25, .osl k v 1 0 Ls.length), (26, .int .i64 Ls.length), (27, .int .i64 i.1)]) (H := fun i => h ++ [.emp 1, .emp 0, .mem i.2.1 9 (if i.1 = 0 then madeA [.str []] N else strC (Ls.take i.1).flatten)])
    (inv := fun i => i.1 ≤ Ls.length ∧ i.2.2 = (Ls.take i.1).flatten.length) (m := fun i => Ls.length - i.1) (0, 1, 0) ⟨by simp, by simp⟩ (Wk.temps ?_) ?_
  · (simp only [spar, List.foldl, List.replicate, go_sem, VLes_nil, VLes_cons, VLe_undef_iff, VLe_self]; try (repeat' first | (with_reducible refine And.intro ?_ ?_) | (refine VLe_int ?_; omega) | (refine VLe_bool ?_; rfl) | exact VLe.refl _))
  rintro ⟨i, w, m⟩ ⟨i1, i2⟩ K hK
  simp only at i1 i2 hK
  by_cases hi : i < Ls.length
  · obtain ⟨c1, ⟨s1, s2, s3, s4, s5, s6⟩⟩ := hE i hi
    have hst := flatten_take_succ Ls hi
    have hle := flatten_take_le Ls (i + 1)
    rw [hst, List.length_append, ← hN] at hle
    have eT : ∀ n, List.take m (if i = 0 then madeA [.str []] n else strC (Ls.take i).flatten) = strC (Ls.take i).flatten := by
      intro n
      split
      · rename_i e0; subst e0; subst i2; rfl
      · exact List.take_of_length_le (by rw [strC_len, i2]; exact Nat.le_refl _)
    obtain ⟨ms, hms⟩ : ∃ ms, ms = (if i = 0 then madeA [.str []] N else strC (Ls.take i).flatten) := ⟨_, rfl⟩
    have eT' := eT N
    rw [← hms] at eT' ⊢
    have hml : m ≤ ms.length := by
      have := congrArg List.length eT'
      rw [List.length_take, strC_len, ← i2] at this
      omega
    have hsl := strC_len (Ls.getD i [])
    simp (disch := omega) only [spar, List.foldl, List.replicate, hL, hC, c1, s1, s2, s3, s4, s5, s6, hcl, eT', hsl, go_sem, wrap64_id, Int.tdiv_eq_ediv_of_nonneg, Int.tmod_eq_emod_of_nonneg]
    repeat' first
      | ((first | refine fnQ_pure1 ?_ ?_ | refine fnQ_pure0 ?_ ?_); (next => repeat' first | exact rvs_n | refine rvs_t ?_ | (simp [go_sem]; done)); simp only [go_sem]; (first | exact VLe.refl _ | refine VLe_int ?_ | refine VLe_bool ?_ | refine VLe_str ?_ | skip))
      | (with_reducible refine And.intro ?_ ?_)
      | with_reducible intro _
    all_goals first
      | omega
      | (rename_i hx; revert hx; simp; done)
      | (simp; done)
      | skip
    have hfin : h ++ [AObj.emp 1, AObj.emp 0, AObj.mem (w + 1) 9 (strC (List.take i Ls).flatten ++ strC (Ls.getD i []))] = h ++ [AObj.emp 1, AObj.emp 0, AObj.mem (w + 1) 9 (if i + 1 = 0 then madeA [.str []] N else strC (Ls.take (i + 1)).flatten)] := by rw [if_neg (by omega), hst, strC_app]
    rw [hfin]
    refine hK _ _ (i + 1, w + 1, m + (Ls.getD i []).length) ⟨by simp only; omega, by simp only; rw [hst, List.length_append, i2]⟩ (by simp only; omega) (Wk.temps ?_)
    (simp only [spar, List.foldl, List.replicate, go_sem, VLes_nil, VLes_cons, VLe_undef_iff, VLe_self]; try (repeat' first | (with_reducible refine And.intro ?_ ?_) | (refine VLe_int ?_; omega) | (refine VLe_bool ?_; rfl) | exact VLe.refl _))
  · have e : i = Ls.length := by omega
    subst e
    rw [List.take_length, ← hN] at i2
    subst i2
    rw [List.take_length, if_neg (by omega)]
    have eL : (strC Ls.flatten).length = m := by rw [strC_len, hN]
    simp (disch := omega) only [spar, List.foldl, List.replicate, hL, hC, hcl, eL, go_sem, wrap64_id, Int.tdiv_eq_ediv_of_nonneg, Int.tmod_eq_emod_of_nonneg]
    repeat' first
      | ((first | refine fnQ_pure1 ?_ ?_ | refine fnQ_pure0 ?_ ?_); (next => repeat' first | exact rvs_n | refine rvs_t ?_ | (simp [go_sem]; done)); simp only [go_sem]; (first | exact VLe.refl _ | refine VLe_int ?_ | refine VLe_bool ?_ | refine VLe_str ?_ | skip))
      | (with_reducible refine And.intro ?_ ?_)
      | with_reducible intro _
    all_goals first
      | omega
      | (rename_i hx; revert hx; simp; done)
      | (simp; done)
      | skip
    rw [if_pos (by omega)]
    exact strs_of hN.symm
end HY

import Derived.Test.YtonpflblcnpegaaDoorE2
set_option linter.all false
set_option linter.unusedSimpArgs false
set_option linter.unusedVariables false
set_option linter.unusedSectionVars false
open Go Go.Proofs AF HY
namespace HY
set_option maxRecDepth 100000
def bools (l : List Bool) : AV := .sl l.length fun i => [.bool (l.getD i false)]
theorem sl1_of {cs : List AV} {n m k : Nat} {f : Nat → List AV} {fz : Nat → Bool} {h : List AObj} (e : cs.length = m) (ek : k = m) (hf : ∀ i c, cs[i]? = some c → f i = [c]) (hr : ∀ c ∈ cs, rei fz h (n + 1) c = c) : VLe (.sl m fun i => ((List.drop i cs).take 1).map (rei fz h (n + 1))) (.sl k f) := by
  subst e ek
  refine VLe_sl rfl (fun i hi => ?_)
  rw [List.drop_eq_getElem_cons hi, hf i cs[i] (List.getElem?_eq_getElem hi)]
  show [rei fz h (n + 1) cs[i]] = _
  rw [hr cs[i] (List.getElem_mem hi)]
def strC (l : List (List UInt8)) : List AV := l.map .str
theorem strC_len (l : List (List UInt8)) : (strC l).length = l.length := by simp [strC]
theorem strC_snoc (l : List (List UInt8)) (x : List UInt8) : strC (l ++ [x]) = strC l ++ [.str x] := by simp [strC]
theorem strs_of {l : List (List UInt8)} {n m : Nat} {fz : Nat → Bool} {h : List AObj} (e : l.length = m) : VLe (.sl m fun i => ((List.drop i (strC l)).take 1).map (rei fz h (n + 1))) (strs l) := by
  subst e
  refine sl1_of (strC_len l) rfl (fun i c hc => ?_) (fun c hc => ?_)
  · unfold strC at hc
    rw [List.getElem?_map, Option.map_eq_some_iff] at hc
    obtain ⟨x, hx, rfl⟩ := hc
    simp [List.getD_eq_getElem?_getD, hx]
  · unfold strC at hc
    rw [List.mem_map] at hc
    obtain ⟨x, _, rfl⟩ := hc
    rfl
def rightC (s : List UInt8) (i : Nat) : List AV := (List.range i).map fun j => AV.bool (rightAt s j)
theorem rightC_succ (s : List UInt8) (i : Nat) : rightC s (i + 1) = rightC s i ++ [.bool (rightAt s i)] := by simp [rightC, List.range_succ]
theorem rightC_len (s : List UInt8) (i : Nat) : (rightC s i).length = i := by simp [rightC]
theorem t95 (s : List UInt8) (h : List AObj) (hs : s.length ≤ 1000000000) : ACalls Tryd.prog 82 [.str s] h (bools (rightL s)) h := by
  refine acalls_of fn82d (by simp) ?_
  simp only [List.length_cons, List.length_nil, Nat.reduceAdd, Nat.reduceSub, List.replicate, List.cons_append, List.nil_append, List.append_nil]
  simp (disch := omega) only [c82d, madeA, go_sem, wrap64_id, Int.tdiv_eq_ediv_of_nonneg, Int.tmod_eq_emod_of_nonneg]
  repeat' first
    | ((first | refine fnQ_pure1 ?_ ?_ | refine fnQ_pure0 ?_ ?_); (next => repeat' first | exact rvs_n | refine rvs_t ?_ | (simp [go_sem]; done)); simp only [go_sem]; (first | exact VLe.refl _ | refine VLe_int ?_ | refine VLe_bool ?_ | refine VLe_str ?_ | skip))
    | (with_reducible refine And.intro ?_ ?_)
    | with_reducible intro _
  all_goals first
    | omega
    | (simp; done)
    | skip
  refine loop_of (T := fun i : Nat × Nat × AObj => spar 40 [(0, .str s), (3, .osl (h.length + 1) i.2.1 1 0 i.1), (4, .int .i64 i.1)]) (H := fun i => h ++ [.emp 1, .mem i.2.1 4 (rightC s i.1), i.2.2, .emp 0])
    (inv := fun i => i.1 ≤ s.length ∧ site [i.2.2] 0 = true) (m := fun i => s.length - i.1) (0, 1, .emp 0) ⟨by simp only; omega, rfl⟩ (Wk.temps ?_) ?_
  · (simp only [spar, List.foldl, List.replicate, go_sem, VLes_nil, VLes_cons, VLe_undef_iff, VLe_self]; try (repeat' first | (with_reducible refine And.intro ?_ ?_) | (refine VLe_int ?_; omega) | (refine VLe_bool ?_; rfl) | exact VLe.refl _))
  · rintro ⟨i, v, O⟩ ⟨i1, i2⟩ K hK
    simp only at i1 i2 hK
    have i2' : ∀ m, site (O :: m) 0 = true := fun _ => i2
    have eL := rightC_len s i
    have eT : List.take i (rightC s i) = rightC s i := List.take_of_length_le (by omega)
    by_cases hi : i < s.length
    · cases i with
      | zero =>
        have hz : (((0 : Nat) : Int) < (s.length : Int)) = True := eq_true (by omega)
        have hz0 : ((0 : Nat) : Int) = 0 := rfl
        have hlt : ((0 : Int) < 0) = False := eq_false (by omega)
        have hc0 : rightC s 0 = [] := rfl
        have hz1 : ((0 : Int) < (s.length : Int)) = True := eq_true (by omega)
        have hR : rightAt s 0 = false := rfl
        by_cases hk0 : kind (ch s 0) = 2
        all_goals
          simp (disch := omega) only [spar, List.foldl, List.replicate, ch_eq, i2', madeA, hz0, hlt, hc0, hz1, hk0, go_sem, wrap64_id, Int.tdiv_eq_ediv_of_nonneg, Int.tmod_eq_emod_of_nonneg]
          repeat' first
            | (refine callG_false ((.int .i64 0)) ?_; simp (disch := omega) only [ch_eq, i2', madeA, hz0, hlt, hc0, hk0, go_sem, wrap64_id, Int.tdiv_eq_ediv_of_nonneg, Int.tmod_eq_emod_of_nonneg])
            | ((first | refine callA_pure (t117b _ _) ?_ ?_); (next => repeat' first | exact flags_n | refine flags_c (by first | rfl | assumption) ?_); simp (disch := omega) only [ch_eq, i2', madeA, hz0, hlt, hc0, hk0, go_sem, wrap64_id, Int.tdiv_eq_ediv_of_nonneg, Int.tmod_eq_emod_of_nonneg])
            | ((first | refine callG_pure (fun e => ⟨?_, t117b _ _⟩) ?_); (next => repeat' first | exact flags_n | refine flags_c (by first | rfl | assumption) ?_); simp (disch := omega) only [ch_eq, i2', madeA, hz0, hlt, hc0, hk0, go_sem, wrap64_id, Int.tdiv_eq_ediv_of_nonneg, Int.tmod_eq_emod_of_nonneg])
            | ((first | refine fnQ_pure1 ?_ ?_ | refine fnQ_pure0 ?_ ?_); (next => repeat' first | exact rvs_n | refine rvs_t ?_ | (simp [go_sem]; done)); simp only [go_sem]; (first | exact VLe.refl _ | refine VLe_int ?_ | refine VLe_bool ?_ | refine VLe_str ?_ | skip))
            | (with_reducible refine And.intro ?_ ?_)
            | with_reducible intro _
          all_goals first
            | omega
            | (rename_i hx; revert hx; simp; done)
            | (simp; done)
            | skip
          refine hK _ _ (0 + 1, v + 1, .mem (verOf (some O) + 1) 4 [.bool (rightAt s 0)]) ⟨by simp only; omega, rfl⟩ (by simp only; omega) ?_
          rw [rightC_succ]
          simp only [hR, hc0, List.nil_append]
          refine Wk.temps ?_
          (simp only [spar, List.foldl, List.replicate, go_sem, VLes_nil, VLes_cons, VLe_undef_iff, VLe_self]; try (repeat' first | (with_reducible refine And.intro ?_ ?_) | (refine VLe_int ?_; omega) | (refine VLe_bool ?_; rfl) | exact VLe.refl _))
      | succ i =>
        have hx : (((i + 1 : Nat) : Int) - 1).toNat = i := by omega
        have hg : (rightC s (i + 1))[i]? = some (.bool (rightAt s i)) := by simp [rightC]
        have hp : (0 < ((i + 1 : Nat) : Int)) = True := eq_true (by omega)
        simp (disch := omega) only [spar, List.foldl, List.replicate, ch_eq, i2', eL, eT, madeA, hx, hg, hp, go_sem, wrap64_id, Int.tdiv_eq_ediv_of_nonneg, Int.tmod_eq_emod_of_nonneg]
        repeat' first
          | ((first | refine callA_pure (t117b _ _) ?_ ?_); (next => repeat' first | exact flags_n | refine flags_c (by first | rfl | assumption) ?_); simp (disch := omega) only [ch_eq, i2', eL, eT, madeA, hx, hg, hp, go_sem, wrap64_id, Int.tdiv_eq_ediv_of_nonneg, Int.tmod_eq_emod_of_nonneg])
          | ((first | refine callG_pure (fun e => ⟨?_, t117b _ _⟩) ?_); (next => repeat' first | exact flags_n | refine flags_c (by first | rfl | assumption) ?_); simp (disch := omega) only [ch_eq, i2', eL, eT, madeA, hx, hg, hp, go_sem, wrap64_id, Int.tdiv_eq_ediv_of_nonneg, Int.tmod_eq_emod_of_nonneg])
          | ((first | refine fnQ_pure1 ?_ ?_ | refine fnQ_pure0 ?_ ?_); (next => repeat' first | exact rvs_n | refine rvs_t ?_ | (simp [go_sem]; done)); simp only [go_sem]; (first | exact VLe.refl _ | refine VLe_int ?_ | refine VLe_bool ?_ | refine VLe_str ?_ | skip))
          | (with_reducible refine And.intro ?_ ?_)
          | with_reducible intro _
        all_goals first
          | omega
          | (simp; done)
          | skip
        refine hK _ _ (i + 1 + 1, v + 1, .mem (verOf (some O) + 1) 4 [.bool (rightAt s (i + 1))]) ⟨by simp only; omega, rfl⟩ (by simp only; omega) ?_
        rw [rightC_succ s (i + 1)]
        simp only [rightAt]
        refine Wk.temps ?_
        (simp only [spar, List.foldl, List.replicate, go_sem, VLes_nil, VLes_cons, VLe_undef_iff, VLe_self]; try (repeat' first | (with_reducible refine And.intro ?_ ?_) | (refine VLe_int ?_; omega) | (refine VLe_bool ?_; rfl) | exact VLe.refl _))
    · have e : i = s.length := by omega
      subst e
      simp (disch := omega) only [spar, List.foldl, List.replicate, eL, go_sem, wrap64_id, Int.tdiv_eq_ediv_of_nonneg, Int.tmod_eq_emod_of_nonneg]
      repeat' first
        | ((first | refine fnQ_pure1 ?_ ?_ | refine fnQ_pure0 ?_ ?_); (next => repeat' first | exact rvs_n | refine rvs_t ?_ | (simp [go_sem]; done)); simp only [go_sem]; (first | exact VLe.refl _ | refine VLe_int ?_ | refine VLe_bool ?_ | refine VLe_str ?_ | skip))
        | (with_reducible refine And.intro ?_ ?_)
        | with_reducible intro _
      all_goals first
        | omega
        | skip
      have hrl : (rightL s).length = s.length := by simp [rightL]
      unfold bools
      rw [if_pos (by omega)]
      refine sl1_of (rightC_len s _) hrl (fun i c hc => ?_) (fun c hc => ?_)
      · have hi := (List.getElem?_eq_some_iff.1 hc).1
        rw [rightC_len] at hi
        rw [rightL_get hi]
        simp [rightC, hi] at hc
        rw [hc]
      · simp [rightC] at hc
        obtain ⟨x, _, rfl⟩ := hc
        rfl
end HY

import Derived.Test.YtonpflblcnpegaaDoorE25
import Derived.Test.YtonpflblcnpegaaDoorEB
set_option linter.all false
set_option linter.unusedSimpArgs false
set_option linter.unusedVariables false
set_option linter.unusedSectionVars false
open Go Go.Proofs AF HY
namespace HY
set_option maxRecDepth 100000
theorem u100 (s : List UInt8) (c : UInt8) (h : List AObj) : ACalls Tryd.prog 100 [.str s, .str [c]] h (.int .i64 (s.count c)) h := by
  refine ⟨okF1 Tryd.func100 (by kernel_rfl) (by kernel_rfl), fun w σ xs H hv => ?_⟩
  obtain ⟨x, y, rfl, hx, hy⟩ := hv.two
  rw [vr_str hx, vr_str hy]
  refine (callsIn_wide.2 (cnt_calls ⟨s.toArray⟩ c w)).mono ?_
  rintro e w' ⟨rfl, rfl⟩
  exact ⟨_, σ, rfl, H, .imm .int, Ext.refl _ _⟩
theorem u101 (s : List UInt8) (c : UInt8) (h : List AObj) : ACalls Tryd.prog 101 [.str s, .str [c]] h (.int .i64 (Go.Lib.indexByte s c)) h := by
  refine ⟨okF1 Tryd.func101 (by kernel_rfl) (by kernel_rfl), fun w σ xs H hv => ?_⟩
  obtain ⟨x, y, rfl, hx, hy⟩ := hv.two
  rw [vr_str hx, vr_str hy]
  refine (callsIn_wide.2 (ix_calls ⟨s.toArray⟩ c w)).mono ?_
  rintro e w' ⟨rfl, rfl⟩
  exact ⟨_, σ, rfl, H, .imm .int, Ext.refl _ _⟩
/-! Parts of a string between a byte. -/
def cutAt (c : UInt8) (s : List UInt8) : Nat := (s.takeWhile (· != c)).length
def restS (c : UInt8) (s : List UInt8) : Nat → List UInt8
  | 0 => s
  | i + 1 => (restS c s i).drop (cutAt c (restS c s i) + 1)
def splitP (c : UInt8) (s : List UInt8) (i : Nat) : List UInt8 := if i < s.count c then (restS c s i).take (cutAt c (restS c s i)) else restS c s i
def splitL (c : UInt8) (s : List UInt8) : List (List UInt8) := (List.range (s.count c + 1)).map (splitP c s)
theorem splitL_len (c : UInt8) (s : List UInt8) : (splitL c s).length = s.count c + 1 := by simp [splitL]
theorem cutAt_cons (c b : UInt8) (s : List UInt8) : cutAt c (b :: s) = if b = c then 0 else cutAt c s + 1 := by
  unfold cutAt
  rw [List.takeWhile_cons]
  by_cases e : b = c
  · simp [e]
  · simp [e]
theorem index_cut (c : UInt8) : ∀ (s : List UInt8), 0 < s.count c → Go.Lib.indexByte s c = cutAt c s := by
  intro s
  induction s with
  | nil => intro h; simp at h
  | cons b s ih =>
    intro h
    unfold Go.Lib.indexByte
    rw [cutAt_cons]
    by_cases e : b = c
    · simp [e]
    · rw [List.count_cons, if_neg (by simpa using e)] at h
      have := ih (by omega)
      rw [if_neg (by simpa using e), if_neg e, this, if_neg (by simp <;> omega)]
      rfl
theorem cutAt_lt (c : UInt8) : ∀ (s : List UInt8), 0 < s.count c → cutAt c s < s.length := by
  intro s
  induction s with
  | nil => intro h; simp at h
  | cons b s ih =>
    intro h
    rw [cutAt_cons]
    by_cases e : b = c
    · simp [e]
    · rw [List.count_cons, if_neg (by simpa using e)] at h
      have := ih (by omega)
      rw [if_neg e, List.length_cons]
      omega
theorem count_cut (c : UInt8) : ∀ (s : List UInt8), 0 < s.count c → (s.drop (cutAt c s + 1)).count c = s.count c - 1 := by
  intro s
  induction s with
  | nil => intro h; simp at h
  | cons b s ih =>
    intro h
    rw [cutAt_cons]
    by_cases e : b = c
    · simp [e]
    · rw [List.count_cons, if_neg (by simpa using e)] at h
      have := ih (by omega)
      rw [if_neg e, List.drop_succ_cons, this, List.count_cons, if_neg (by simpa using e)]
      rfl
theorem count_rest (c : UInt8) (s : List UInt8) : ∀ i, i ≤ s.count c → (restS c s i).count c = s.count c - i := by
  intro i
  induction i with
  | zero => intro _; rfl
  | succ i ih =>
    intro h
    have := ih (by omega)
    show ((restS c s i).drop _).count c = _
    rw [count_cut _ _ (by omega), this]
    omega
theorem rest_len (c : UInt8) (s : List UInt8) : ∀ i, (restS c s i).length ≤ s.length := by
  intro i
  induction i with
  | zero => exact Nat.le_refl _
  | succ i ih => show ((restS c s i).drop _).length ≤ _; rw [List.length_drop]; omega
def stepL (c : UInt8) (s : List UInt8) (i : Nat) : List (List UInt8) := (List.range (s.count c + 1)).map fun j => if j < i then splitP c s j else []
theorem stepL_len (c : UInt8) (s : List UInt8) (i : Nat) : (stepL c s i).length = s.count c + 1 := by simp [stepL]
theorem stepL_set (c : UInt8) (s : List UInt8) {i : Nat} (hi : i < s.count c + 1) : (stepL c s i).set i (splitP c s i) = stepL c s (i + 1) := by
  apply List.ext_getElem
  · simp [stepL]
  · intro j h1 h2
    simp only [stepL, List.length_set, List.length_map, List.length_range] at h1
    rw [List.getElem_set]
    simp only [stepL, List.getElem_map, List.getElem_range]
    by_cases e : i = j
    · subst e; simp
    · rw [if_neg e]
      by_cases e2 : j < i
      · rw [if_pos e2, if_pos (by omega)]
      · rw [if_neg e2, if_neg (by omega)]
theorem stepL_all (c : UInt8) (s : List UInt8) : stepL c s (s.count c + 1) = splitL c s := by
  unfold stepL splitL
  apply List.map_congr_left
  intro j hj
  rw [if_pos (by simpa using hj)]
theorem strC_set (L : List (List UInt8)) {i : Nat} (x : List UInt8) (hi : i < L.length) : List.take i (strC L) ++ [.str x] ++ List.drop (i + 1) (strC L) = strC (L.set i x) := by
  unfold strC
  rw [List.map_set, List.set_eq_take_append_cons_drop, if_pos (by simpa using hi), List.append_assoc]
  rfl
theorem madeA_strs (n : Nat) : madeA [.str []] n = strC (List.replicate n []) := by
  induction n with
  | zero => rfl
  | succ n ih => simp only [madeA, ih, List.replicate_succ]; rfl
theorem stepL_zero (c : UInt8) (s : List UInt8) : List.replicate (s.count c + 1) [] = stepL c s 0 := by
  apply List.ext_getElem
  · simp [stepL]
  · intro j h1 h2; simp [stepL]
set_option maxHeartbeats 4000000 in
theorem u78 (s : List UInt8) (c : UInt8) (h : List AObj) (hs : s.length ≤ 1000000000) : ACalls Tryd.prog 78 [.str s, .str [c], .int .i64 0, .int .i64 (-1)] h (strs (splitL c s)) h := by
  have c100 := fun h => u100 s c h
  have hcl : s.count c ≤ s.length := List.count_le_length
  obtain ⟨N, hN⟩ : ∃ N, N = s.count c := ⟨_, rfl⟩
  have k1 : ((N : Int) + 1 ≤ (s.length : Int) + 1) = True := eq_true (by omega)
  have e1 : min ((N : Int) + 1) ((s.length : Int) + 1) = (N : Int) + 1 := by omega
  have e2 : ((N : Int) + 1).toNat = N + 1 := by omega
  have e3 : madeA [AV.str []] (N + 1) = strC (stepL c s 0) := by rw [madeA_strs, ← stepL_zero, hN]
  have e4 : ((N : Int) + 1 - 1) = N := by omega
  simp only [← hN] at c100
  refine acalls_of fn78d (by simp) ?_
  simp only [List.length_cons, List.length_nil, Nat.reduceAdd, Nat.reduceSub, List.replicate, List.cons_append, List.nil_append, List.append_nil]
  simp (disch := omega) only [c78d, k1, e1, e2, e3, e4, go_sem, wrap64_id, Int.tdiv_eq_ediv_of_nonneg, Int.tmod_eq_emod_of_nonneg]
  repeat' first
    | ((first | refine callA_pure (c100 _) ?_ ?_); (next => repeat' first | exact flags_n | refine flags_c (by first | rfl | assumption) ?_); simp (disch := omega) only [k1, e1, e2, e3, e4, go_sem, wrap64_id, Int.tdiv_eq_ediv_of_nonneg, Int.tmod_eq_emod_of_nonneg])
    | ((first | refine callG_pure (fun e => ⟨?_, c100 _⟩) ?_); (next => repeat' first | exact flags_n | refine flags_c (by first | rfl | assumption) ?_); simp (disch := omega) only [k1, e1, e2, e3, e4, go_sem, wrap64_id, Int.tdiv_eq_ediv_of_nonneg, Int.tmod_eq_emod_of_nonneg])
    | ((first | refine fnQ_pure1 ?_ ?_ | refine fnQ_pure0 ?_ ?_); (next => repeat' first | exact rvs_n | refine rvs_t ?_ | (simp [go_sem]; done)); simp only [go_sem]; (first | exact VLe.refl _ | refine VLe_int ?_ | refine VLe_bool ?_ | refine VLe_str ?_ | skip))
    | (with_reducible refine And.intro ?_ ?_)
    | with_reducible intro _
  all_goals first
    | omega
    | (rename_i hx; revert hx; simp; done)
    | (simp; done)
    | skip
  refine loop_of (T := fun i : Nat => spar 66 [(0, .str (restS c s i)), (1, .str [c]), (2, .int .i64 0), (3, .int .i64 N), (9, .osl (h.length + 1) 1 1 0 (N + 1)), (10, .int .i64 i)]) (H := fun i => h ++ [.emp 1, .mem 1 9 (strC (stepL c s i))])
    (inv := fun i => i ≤ N) (m := fun i => N - i) 0 (by omega) (Wk.temps ?_) ?_
  · (simp only [restS, spar, List.foldl, List.replicate, go_sem, VLes_nil, VLes_cons, VLe_undef_iff, VLe_self]; try (repeat' first | (with_reducible refine And.intro ?_ ?_) | (refine VLe_int ?_; omega) | (refine VLe_bool ?_; rfl) | exact VLe.refl _))
  rintro i i1 K hK
  have eL := strC_len (stepL c s i)
  rw [stepL_len, ← hN] at eL
  have hst := strC_set (stepL c s i) (i := i) (splitP c s i) (by rw [stepL_len]; omega)
  rw [stepL_set c s (by omega)] at hst
  by_cases hi : i < N
  · obtain ⟨r, hr⟩ : ∃ r, r = restS c s i := ⟨_, rfl⟩
    have hcr := count_rest c s i (by omega)
    rw [← hr] at hcr
    have hix := index_cut c r (by omega)
    have hlt := cutAt_lt c r (by omega)
    have hrl := rest_len c s i
    rw [← hr] at hrl
    have hP : splitP c s i = r.take (cutAt c r) := by unfold splitP; rw [if_pos (by omega), ← hr]
    have hR : restS c s (i + 1) = r.drop (cutAt c r + 1) := by rw [hr]; rfl
    obtain ⟨m, hm⟩ : ∃ m, m = cutAt c r := ⟨_, rfl⟩
    rw [← hm] at hix hlt hP hR
    have c101 := fun h => u101 r c h
    simp only [hix] at c101
    rw [hP] at hst
    simp (disch := omega) only [spar, List.foldl, List.replicate, hr.symm, eL, hst, go_sem, wrap64_id, Int.tdiv_eq_ediv_of_nonneg, Int.tmod_eq_emod_of_nonneg]
    repeat' first
      | ((first | refine callA_pure (c101 _) ?_ ?_); (next => repeat' first | exact flags_n | refine flags_c (by first | rfl | assumption) ?_); simp (disch := omega) only [eL, hst, go_sem, wrap64_id, Int.tdiv_eq_ediv_of_nonneg, Int.tmod_eq_emod_of_nonneg])
      | ((first | refine callG_pure (fun e => ⟨?_, c101 _⟩) ?_); (next => repeat' first | exact flags_n | refine flags_c (by first | rfl | assumption) ?_); simp (disch := omega) only [eL, hst, go_sem, wrap64_id, Int.tdiv_eq_ediv_of_nonneg, Int.tmod_eq_emod_of_nonneg])
      | ((first | refine fnQ_pure1 ?_ ?_ | refine fnQ_pure0 ?_ ?_); (next => repeat' first | exact rvs_n | refine rvs_t ?_ | (simp [go_sem]; done)); simp only [go_sem]; (first | exact VLe.refl _ | refine VLe_int ?_ | refine VLe_bool ?_ | refine VLe_str ?_ | skip))
      | (with_reducible refine And.intro ?_ ?_)
      | with_reducible intro _
    all_goals first
      | omega
      | (rename_i hx; revert hx; simp; done)
      | (simp; done)
      | skip
    have f1 : (((m : Nat) : Int) + 0).toNat - 0 = m := by omega
    have f2 : (((m : Nat) : Int) + ((1 : Nat) : Int)).toNat = m + 1 := by omega
    have f3 : List.take (r.length - (m + 1)) (List.drop (m + 1) r) = restS c s (i + 1) := by rw [hR]; exact List.take_of_length_le (by rw [List.length_drop]; exact Nat.le_refl _)
    rw [f1, hst, f2, f3]
    refine hK _ _ (i + 1) (by omega) (by omega) (Wk.temps ?_)
    (simp only [spar, List.foldl, List.replicate, go_sem, VLes_nil, VLes_cons, VLe_undef_iff, VLe_self]; try (repeat' first | (with_reducible refine And.intro ?_ ?_) | (refine VLe_int ?_; omega) | (refine VLe_bool ?_; rfl) | exact VLe.refl _))
  · have e : i = N := by omega
    subst e
    simp (disch := omega) only [spar, List.foldl, List.replicate, eL, hst, go_sem, wrap64_id, Int.tdiv_eq_ediv_of_nonneg, Int.tmod_eq_emod_of_nonneg]
    repeat' first
      | ((first | refine fnQ_pure1 ?_ ?_ | refine fnQ_pure0 ?_ ?_); (next => repeat' first | exact rvs_n | refine rvs_t ?_ | (simp [go_sem]; done)); simp only [go_sem]; (first | exact VLe.refl _ | refine VLe_int ?_ | refine VLe_bool ?_ | refine VLe_str ?_ | skip))
      | (with_reducible refine And.intro ?_ ?_)
      | with_reducible intro _
    all_goals first
      | omega
      | (rename_i hx; revert hx; simp; done)
      | (simp; done)
      | skip
    have hP : splitP c s i = restS c s i := by unfold splitP; rw [if_neg (by omega)]
    have f1 : (((i : Nat) : Int) + 1).toNat - 0 = i + 1 := by omega
    have hall := stepL_all c s
    rw [← hN] at hall
    rw [hP, hall] at hst
    rw [hst, f1, if_pos (by rw [strC_len, splitL_len]; omega)]
    exact strs_of (by rw [splitL_len]; omega)
theorem u45 (s : List UInt8) (c : UInt8) (h : List AObj) (hs : s.length ≤ 1000000000) : ACalls Tryd.prog 45 [.str s, .str [c]] h (strs (splitL c s)) h := by
  have c78 := fun h => u78 s c h hs
  refine acalls_of fn45d (by simp) ?_
  simp only [List.length_cons, List.length_nil, Nat.reduceAdd, Nat.reduceSub, List.replicate, List.cons_append, List.nil_append, List.append_nil]
  simp (disch := omega) only [c45d, go_sem, wrap64_id, Int.tdiv_eq_ediv_of_nonneg, Int.tmod_eq_emod_of_nonneg]
  repeat' first
    | ((first | refine callA_pure (c78 _) ?_ ?_); (next => repeat' first | exact flags_n | refine flags_c (by first | rfl | assumption) ?_); simp (disch := omega) only [go_sem, wrap64_id, Int.tdiv_eq_ediv_of_nonneg, Int.tmod_eq_emod_of_nonneg])
    | ((first | refine callG_pure (fun e => ⟨?_, c78 _⟩) ?_); (next => repeat' first | exact flags_n | refine flags_c (by first | rfl | assumption) ?_); simp (disch := omega) only [go_sem, wrap64_id, Int.tdiv_eq_ediv_of_nonneg, Int.tmod_eq_emod_of_nonneg])
    | ((first | refine fnQ_pure1 ?_ ?_ | refine fnQ_pure0 ?_ ?_); (next => repeat' first | exact rvs_n | refine rvs_t ?_ | (simp [go_sem]; done)); simp only [go_sem]; (first | exact VLe.refl _ | refine VLe_int ?_ | refine VLe_bool ?_ | refine VLe_str ?_ | skip))
    | (with_reducible refine And.intro ?_ ?_)
    | with_reducible intro _
  all_goals first
    | omega
    | (rename_i hx; revert hx; simp; done)
    | (simp; done)
    | skip
end HY

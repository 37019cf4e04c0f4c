import Derived.Test.YtjijgafefdolkaaDoorK4
set_option linter.all false
set_option linter.unusedSimpArgs false
set_option linter.unusedVariables false
set_option linter.unusedSectionVars false
section
set_option linter.all false
set_option linter.unusedSimpArgs false
set_option linter.unusedVariables false
set_option linter.unusedSectionVars false
open Go Go.Proofs AF HY
namespace HY
set_option maxRecDepth 100000
def bools (l : List Bool) : AV := .sl l.length fun i => [.bool (l.getD i false)]
theorem sl1_of {cs : List AV} {n m k : Nat} {f : Nat → List AV} {fz : Nat → Bool} {h : List AObj} (e : cs.length = m) (ek : k = m) (hf : ∀ i c, cs[i]? = some c → f i = [c]) (hr : ∀ c ∈ cs, rei fz h (n + 1) c = c) : VLe (.sl m fun i => ((List.drop i cs).take 1).map (rei fz h (n + 1))) (.sl k f) := by
  subst e ek
  refine VLe_sl rfl (fun i hi => ?_)
  rw [List.drop_eq_getElem_cons hi, hf i cs[i] (List.getElem?_eq_getElem hi)]
  show [rei fz h (n + 1) cs[i]] = _
  rw [hr cs[i] (List.getElem_mem hi)]
def strC (l : List (List UInt8)) : List AV := l.map .str
theorem strC_len (l : List (List UInt8)) : (strC l).length = l.length := by simp [strC]
theorem strs_of {l : List (List UInt8)} {n m : Nat} {fz : Nat → Bool} {h : List AObj} (e : l.length = m) : VLe (.sl m fun i => ((List.drop i (strC l)).take 1).map (rei fz h (n + 1))) (strs l) := by
  subst e
  refine sl1_of (strC_len l) rfl (fun i c hc => ?_) (fun c hc => ?_)
  · unfold strC at hc
    rw [List.getElem?_map, Option.map_eq_some_iff] at hc
    obtain ⟨x, hx, rfl⟩ := hc
    simp [List.getD_eq_getElem?_getD, hx]
  · unfold strC at hc
    rw [List.mem_map] at hc
    obtain ⟨x, _, rfl⟩ := hc
    rfl
def rightC (s : List UInt8) (i : Nat) : List AV := (List.range i).map fun j => AV.bool (rightAt s j)
theorem rightC_succ (s : List UInt8) (i : Nat) : rightC s (i + 1) = rightC s i ++ [.bool (rightAt s i)] := by simp [rightC, List.range_succ]
theorem rightC_len (s : List UInt8) (i : Nat) : (rightC s i).length = i := by simp [rightC]
theorem t95 (s : List UInt8) (h : List AObj) (hs : s.length ≤ 1000000000) : ACalls Tryd.prog 123 [.str s] h (bools (rightL s)) h := by
  refine acalls_of fn123l (by simp) ?_
  simp only [List.length_cons, List.length_nil, Nat.reduceAdd, Nat.reduceSub, List.replicate, List.cons_append, List.nil_append, List.append_nil]
  simp (disch := omega) only [c123l, madeA, go_sem, wrap64_id, Int.tdiv_eq_ediv_of_nonneg, Int.tmod_eq_emod_of_nonneg]
  repeat' first
    | ((first | refine fnQ_pure1 ?_ ?_ | refine fnQ_pure0 ?_ ?_); (next => repeat' first | exact rvs_n | refine rvs_t ?_ | (simp [go_sem]; done)); simp only [go_sem]; (first | exact VLe.refl _ | refine VLe_int ?_ | refine VLe_bool ?_ | refine VLe_str ?_ | skip))
    | (with_reducible refine And.intro ?_ ?_)
    | with_reducible intro _
  all_goals first
    | omega
    | (simp; done)
    | skip
  refine loop_of (T := fun i : Nat × Nat × AObj => spar 40 [(0, .str s), (3, .osl (h.length + 1) i.2.1 1 0 i.1), (4, .int .i64 i.1)]) (H := fun i => h ++ [.emp 1, .mem i.2.1 4 (rightC s i.1), i.2.2, .emp 0])
    (inv := fun i => i.1 ≤ s.length ∧ site [i.2.2] 0 = true) (m := fun i => s.length - i.1) (0, 1, .emp 0) ⟨by simp only; omega, rfl⟩ (Wk.temps ?_) ?_
  · (simp only [spar, List.foldl, List.replicate, go_sem, VLes_nil, VLes_cons, VLe_undef_iff, VLe_self]; try (repeat' first | (with_reducible refine And.intro ?_ ?_) | (refine VLe_int ?_; omega) | (refine VLe_bool ?_; rfl) | exact VLe.refl _))
  · rintro ⟨i, v, O⟩ ⟨i1, i2⟩ K hK
    simp only at i1 i2 hK
    have i2' : ∀ m, site (O :: m) 0 = true := fun _ => i2
    have eL := rightC_len s i
    have eT : List.take i (rightC s i) = rightC s i := List.take_of_length_le (by omega)
    by_cases hi : i < s.length
    · cases i with
      | zero =>
        have hz : (((0 : Nat) : Int) < (s.length : Int)) = True := eq_true (by omega)
        have hz0 : ((0 : Nat) : Int) = 0 := rfl
        have hlt : ((0 : Int) < 0) = False := eq_false (by omega)
        have hc0 : rightC s 0 = [] := rfl
        have hz1 : ((0 : Int) < (s.length : Int)) = True := eq_true (by omega)
        have hR : rightAt s 0 = false := rfl
        by_cases hk0 : kind (ch s 0) = 2
        all_goals
          simp (disch := omega) only [spar, List.foldl, List.replicate, ch_eq, i2', madeA, hz0, hlt, hc0, hz1, hk0, go_sem, wrap64_id, Int.tdiv_eq_ediv_of_nonneg, Int.tmod_eq_emod_of_nonneg]
          repeat' first
            | (refine callG_false ((.int .i64 0)) ?_; simp (disch := omega) only [ch_eq, i2', madeA, hz0, hlt, hc0, hk0, go_sem, wrap64_id, Int.tdiv_eq_ediv_of_nonneg, Int.tmod_eq_emod_of_nonneg])
            | ((first | refine callA_pure (t117b _ _) ?_ ?_); (next => repeat' first | exact flags_n | refine flags_c (by first | rfl | assumption) ?_); simp (disch := omega) only [ch_eq, i2', madeA, hz0, hlt, hc0, hk0, go_sem, wrap64_id, Int.tdiv_eq_ediv_of_nonneg, Int.tmod_eq_emod_of_nonneg])
            | ((first | refine callG_pure (fun e => ⟨?_, t117b _ _⟩) ?_); (next => repeat' first | exact flags_n | refine flags_c (by first | rfl | assumption) ?_); simp (disch := omega) only [ch_eq, i2', madeA, hz0, hlt, hc0, hk0, go_sem, wrap64_id, Int.tdiv_eq_ediv_of_nonneg, Int.tmod_eq_emod_of_nonneg])
            | ((first | refine fnQ_pure1 ?_ ?_ | refine fnQ_pure0 ?_ ?_); (next => repeat' first | exact rvs_n | refine rvs_t ?_ | (simp [go_sem]; done)); simp only [go_sem]; (first | exact VLe.refl _ | refine VLe_int ?_ | refine VLe_bool ?_ | refine VLe_str ?_ | skip))
            | (with_reducible refine And.intro ?_ ?_)
            | with_reducible intro _
          all_goals first
            | omega
            | (rename_i hx; revert hx; simp; done)
            | (simp; done)
            | skip
          refine hK _ _ (0 + 1, v + 1, .mem (verOf (some O) + 1) 4 [.bool (rightAt s 0)]) ⟨by simp only; omega, rfl⟩ (by simp only; omega) ?_
          rw [rightC_succ]
          simp only [hR, hc0, List.nil_append]
          refine Wk.temps ?_
          (simp only [spar, List.foldl, List.replicate, go_sem, VLes_nil, VLes_cons, VLe_undef_iff, VLe_self]; try (repeat' first | (with_reducible refine And.intro ?_ ?_) | (refine VLe_int ?_; omega) | (refine VLe_bool ?_; rfl) | exact VLe.refl _))
      | succ i =>
        have hx : (((i + 1 : Nat) : Int) - 1).toNat = i := by omega
        have hg : (rightC s (i + 1))[i]? = some (.bool (rightAt s i)) := by simp [rightC]
        have hp : (0 < ((i + 1 : Nat) : Int)) = True := eq_true (by omega)
        simp (disch := omega) only [spar, List.foldl, List.replicate, ch_eq, i2', eL, eT, madeA, hx, hg, hp, go_sem, wrap64_id, Int.tdiv_eq_ediv_of_nonneg, Int.tmod_eq_emod_of_nonneg]
        repeat' first
          | ((first | refine callA_pure (t117b _ _) ?_ ?_); (next => repeat' first | exact flags_n | refine flags_c (by first | rfl | assumption) ?_); simp (disch := omega) only [ch_eq, i2', eL, eT, madeA, hx, hg, hp, go_sem, wrap64_id, Int.tdiv_eq_ediv_of_nonneg, Int.tmod_eq_emod_of_nonneg])
          | ((first | refine callG_pure (fun e => ⟨?_, t117b _ _⟩) ?_); (next => repeat' first | exact flags_n | refine flags_c (by first | rfl | assumption) ?_); simp (disch := omega) only [ch_eq, i2', eL, eT, madeA, hx, hg, hp, go_sem, wrap64_id, Int.tdiv_eq_ediv_of_nonneg, Int.tmod_eq_emod_of_nonneg])
          | ((first | refine fnQ_pure1 ?_ ?_ | refine fnQ_pure0 ?_ ?_); (next => repeat' first | exact rvs_n | refine rvs_t ?_ | (simp [go_sem]; done)); simp only [go_sem]; (first | exact VLe.refl _ | refine VLe_int ?_ | refine VLe_bool ?_ | refine VLe_str ?_ | skip))
          | (with_reducible refine And.intro ?_ ?_)
          | with_reducible intro _
        all_goals first
          | omega
          | (simp; done)
          | skip
        refine hK _ _ (i + 1 + 1, v + 1, .mem (verOf (some O) + 1) 4 [.bool (rightAt s (i + 1))]) ⟨by simp only; omega, rfl⟩ (by simp only; omega) ?_
        rw [rightC_succ s (i + 1)]
        simp only [rightAt]
        refine Wk.temps ?_
        (simp only [spar, List.foldl, List.replicate, go_sem, VLes_nil, VLes_cons, VLe_undef_iff, VLe_self]; try (repeat' first | (with_reducible refine And.intro ?_ ?_) | (refine VLe_int ?_; omega) | (refine VLe_bool ?_; rfl) | exact VLe.refl _))
    · have e : i = s.length := by omega
      subst e
      simp (disch := omega) only [spar, List.foldl, List.replicate, eL, go_sem, wrap64_id, Int.tdiv_eq_ediv_of_nonneg, Int.tmod_eq_emod_of_nonneg]
      repeat' first
        | ((first | refine fnQ_pure1 ?_ ?_ | refine fnQ_pure0 ?_ ?_); (next => repeat' first | exact rvs_n | refine rvs_t ?_ | (simp [go_sem]; done)); simp only [go_sem]; (first | exact VLe.refl _ | refine VLe_int ?_ | refine VLe_bool ?_ | refine VLe_str ?_ | skip))
        | (with_reducible refine And.intro ?_ ?_)
        | with_reducible intro _
      all_goals first
        | omega
        | skip
      have hrl : (rightL s).length = s.length := by simp [rightL]
      unfold bools
      rw [if_pos (by omega)]
      refine sl1_of (rightC_len s _) hrl (fun i c hc => ?_) (fun c hc => ?_)
      · have hi := (List.getElem?_eq_some_iff.1 hc).1
        rw [rightC_len] at hi
        rw [rightL_get hi]
        simp [rightC, hi] at hc
        rw [hc]
      · simp [rightC] at hc
        obtain ⟨x, _, rfl⟩ := hc
        rfl
end HY
end

section
set_option linter.all false
set_option linter.unusedSimpArgs false
set_option linter.unusedVariables false
set_option linter.unusedSectionVars false
open Go Go.Proofs AF HY
namespace HY
set_option maxRecDepth 100000
theorem drop_take_succ (s : List UInt8) {f i : Nat} (h : f ≤ i) (hi : i < s.length) : (s.drop f).take (i + 1 - f) = (s.drop f).take (i - f) ++ [ch s i] := by
  rw [show i + 1 - f = (i - f) + 1 by omega, List.take_add_one, List.getElem?_drop, show f + (i - f) = i by omega]
  simp [ch, List.getD_eq_getElem?_getD, hi]
theorem one_at (s : List UInt8) {i : Nat} (hi : i < s.length) : (s.drop i).take (i + 1 - i) = [ch s i] := by
  rw [drop_take_succ s (Nat.le_refl _) hi, Nat.sub_self]; rfl
def done (s : List UInt8) (D : List (List UInt8)) (f i : Nat) : Prop := inClus s f i ∧ i ≤ s.length ∧ clus s = D ++ (clusO f ((s.drop f).take (i - f)) (s.drop i)).map (·.2)
theorem done_first {s : List UInt8} (h : 0 < s.length) : done s [] 0 1 := by
  refine ⟨inClus_first s, h, ?_⟩
  cases s with
  | nil => simp at h
  | cons c r => simp [clus, clusters]
end HY
end

section
set_option linter.all false
set_option linter.unusedSimpArgs false
set_option linter.unusedVariables false
set_option linter.unusedSectionVars false
open Go Go.Proofs AF HY
namespace HY
set_option maxRecDepth 100000
theorem clusO_bad {s : List UInt8} : ∀ (k : Nat) {f i : Nat}, s.length - i = k → inClus s f i → i ≤ s.length → badHead ((s.drop f).take (i - f)) = badHead [ch s f] →
    ((clusO f ((s.drop f).take (i - f)) (s.drop i)).map (·.2)).any badHead = (badHead [ch s f] || (List.range' i (s.length - i)).any (badAt s)) := by
  intro k
  induction k with
  | zero =>
    intro f i hk hc hi hb
    have e : i = s.length := by omega
    subst e
    rw [List.drop_length, Nat.sub_self]
    simp [clusO, hb]
  | succ k ih =>
    intro f i hk hc hi hb
    have hi' : i < s.length := by omega
    rw [clus_step hc.1 hi']
    rw [show s.length - i = (s.length - (i + 1)) + 1 by omega, List.range'_succ, List.any_cons]
    have hr := inClus_right hc
    by_cases hg : kind (ch s i) = 2 ∧ kind (ch s f) = 1
    · rw [if_pos hg]
      have hrt : rightAt s i = true := by rw [hr]; simp [hg]
      have hb2 : badHead ((s.drop f).take (i + 1 - f)) = badHead [ch s f] := by
        rw [← hb]
        unfold badHead
        have e : ch ((s.drop f).take (i + 1 - f)) 0 = ch ((s.drop f).take (i - f)) 0 := by
          have := hc.1
          simp [ch, List.getD_eq_getElem?_getD, List.getElem?_take, show 0 < i - f by omega, show 0 < i + 1 - f by omega]
        rw [e]
      rw [ih (by omega) (inClus_go hc hrt) hi' hb2]
      have : badAt s i = false := by unfold badAt; rw [hrt, hg.1]; rfl
      rw [this, Bool.false_or]
    · rw [if_neg hg]
      have hrf : rightAt s i = false := by
        rw [hr]
        cases h2 : decide (kind (ch s i) = 2) <;> cases h3 : decide (kind (ch s f) = 1) <;> simp_all
      simp only [List.map_cons, List.any_cons, hb]
      have h1 : (s.drop i).take (i + 1 - i) = [ch s i] := one_at s hi'
      rw [ih (by omega) (inClus_new hc hrf) hi' (by rw [h1])]
      have : badAt s i = badHead [ch s i] := by unfold badAt badHead; rw [hrf]; simp [ch]
      rw [this]
theorem clus_bad (s : List UInt8) : (clus s).any badHead = (List.range s.length).any (badAt s) := by
  cases hs : s with
  | nil => rfl
  | cons c r =>
    rw [← hs]
    have h0 : 0 < s.length := by rw [hs]; simp
    have hd := done_first h0
    have h1 : (s.drop 0).take (1 - 0) = [ch s 0] := one_at s h0
    have := clusO_bad (s := s) _ rfl hd.1 h0 (by rw [h1])
    rw [← List.nil_append ((clusO 0 ((s.drop 0).take (1 - 0)) (s.drop 1)).map (·.2)), ← hd.2.2] at this
    rw [this, List.range_eq_range', show s.length = (s.length - 1) + 1 by omega, List.range'_succ, List.any_cons]
    have : badAt s 0 = badHead [ch s 0] := by unfold badAt badHead; simp [rightAt, ch]
    rw [this]; simp
theorem checkC_eq (s : List UInt8) : checkC s = if 65536 < s.length then 4 else if (List.range s.length).any (badAt s) = true then 11 else 0 := by unfold checkC; rw [clus_bad]
theorem any_range_true {p : Nat → Bool} {n i : Nat} (hi : i < n) (h : p i = true) : (List.range n).any p = true := List.any_eq_true.2 ⟨i, by simpa using hi, h⟩
theorem any_range_false {p : Nat → Bool} {n : Nat} (h : ∀ i, i < n → p i = false) : (List.range n).any p = false := by
  rw [List.any_eq_false]
  intro i hi
  simp at hi
  rw [h i hi]; simp
theorem t118 (s : List UInt8) (h : List AObj) (hs : s.length ≤ 1000000000) : ACalls Tryd.prog 104 [.str s] h (.int .i64 (checkC s)) h := by
  rw [checkC_eq]
  by_cases hl : 65536 < s.length
  · have hl' : (65536 < (s.length : Int)) = True := eq_true (by omega)
    rw [if_pos hl]
    refine acalls_of fn104l (by simp) ?_
    simp only [List.length_cons, List.length_nil, Nat.reduceAdd, Nat.reduceSub, List.replicate, List.cons_append, List.nil_append, List.append_nil]
    simp (disch := omega) only [c104l, hl', go_sem, wrap64_id, Int.tdiv_eq_ediv_of_nonneg, Int.tmod_eq_emod_of_nonneg]
    repeat' first
      | ((first | refine fnQ_pure1 ?_ ?_ | refine fnQ_pure0 ?_ ?_); (next => repeat' first | exact rvs_n | refine rvs_t ?_ | (simp [go_sem]; done)); simp only [go_sem]; (first | exact VLe.refl _ | refine VLe_int ?_ | refine VLe_bool ?_ | refine VLe_str ?_ | skip))
      | (with_reducible refine And.intro ?_ ?_)
      | with_reducible intro _
    all_goals first
      | omega
      | (rename_i hx; revert hx; simp; done)
      | (simp; done)
      | skip
  · have hl' : (65536 < (s.length : Int)) = False := eq_false (by omega)
    rw [if_neg hl]
    refine acalls_of fn104l (by simp) ?_
    simp only [List.length_cons, List.length_nil, Nat.reduceAdd, Nat.reduceSub, List.replicate, List.cons_append, List.nil_append, List.append_nil]
    simp (disch := omega) only [c104l, hl', go_sem, wrap64_id, Int.tdiv_eq_ediv_of_nonneg, Int.tmod_eq_emod_of_nonneg]
    repeat' first
      | ((first | refine callA_pure (t95 s _ hs) ?_ ?_); (next => repeat' first | exact flags_n | refine flags_c (by first | rfl | assumption) ?_); simp (disch := omega) only [hl', bools, go_sem, wrap64_id, Int.tdiv_eq_ediv_of_nonneg, Int.tmod_eq_emod_of_nonneg])
      | ((first | refine callG_pure (fun e => ⟨?_, t95 s _ hs⟩) ?_); (next => repeat' first | exact flags_n | refine flags_c (by first | rfl | assumption) ?_); simp (disch := omega) only [hl', bools, go_sem, wrap64_id, Int.tdiv_eq_ediv_of_nonneg, Int.tmod_eq_emod_of_nonneg])
      | ((first | refine fnQ_pure1 ?_ ?_ | refine fnQ_pure0 ?_ ?_); (next => repeat' first | exact rvs_n | refine rvs_t ?_ | (simp [go_sem]; done)); simp only [go_sem]; (first | exact VLe.refl _ | refine VLe_int ?_ | refine VLe_bool ?_ | refine VLe_str ?_ | skip))
      | (with_reducible refine And.intro ?_ ?_)
      | with_reducible intro _
    all_goals first
      | omega
      | (rename_i hx; revert hx; simp; done)
      | (simp; done)
      | skip
    refine loop_of (T := fun i : Nat => spar 34 [(0, .str s), (3, bools (rightL s)), (4, .int .i64 i)]) (H := fun _ => h) (inv := fun i => i ≤ s.length ∧ ∀ j, j < i → badAt s j = false) (m := fun i => s.length - i) 0 ⟨by omega, by omega⟩ (Wk.temps ?_) ?_
    · (simp only [bools, spar, List.foldl, List.replicate, go_sem, VLes_nil, VLes_cons, VLe_undef_iff, VLe_self]; try (repeat' first | (with_reducible refine And.intro ?_ ?_) | (refine VLe_int ?_; omega) | (refine VLe_bool ?_; rfl) | exact VLe.refl _))
    · rintro i ⟨i1, i2⟩ K hK
      have hrl : (rightL s).length = s.length := by simp [rightL]
      by_cases hi : i < s.length
      · have hg := rightL_get hi
        by_cases hb : badAt s i = true
        · rw [if_pos (any_range_true hi hb)]
          unfold badAt at hb
          simp (disch := omega) only [spar, List.foldl, List.replicate, bools, hrl, hg, ch_eq, go_sem, wrap64_id, Int.tdiv_eq_ediv_of_nonneg, Int.tmod_eq_emod_of_nonneg]
          repeat' first
            | ((first | refine callA_pure (t117b _ _) ?_ ?_); (next => repeat' first | exact flags_n | refine flags_c (by first | rfl | assumption) ?_); simp (disch := omega) only [bools, hrl, hg, ch_eq, go_sem, wrap64_id, Int.tdiv_eq_ediv_of_nonneg, Int.tmod_eq_emod_of_nonneg])
            | ((first | refine callG_pure (fun e => ⟨?_, t117b _ _⟩) ?_); (next => repeat' first | exact flags_n | refine flags_c (by first | rfl | assumption) ?_); simp (disch := omega) only [bools, hrl, hg, ch_eq, go_sem, wrap64_id, Int.tdiv_eq_ediv_of_nonneg, Int.tmod_eq_emod_of_nonneg])
            | ((first | refine fnQ_pure1 ?_ ?_ | refine fnQ_pure0 ?_ ?_); (next => repeat' first | exact rvs_n | refine rvs_t ?_ | (simp [go_sem]; done)); simp only [go_sem]; (first | exact VLe.refl _ | refine VLe_int ?_ | refine VLe_bool ?_ | refine VLe_str ?_ | skip))
            | (with_reducible refine And.intro ?_ ?_)
            | with_reducible intro _
          all_goals first
            | omega
            | (rename_i hx; revert hx; simp; done)
            | (simp; done)
            | skip
          all_goals
            refine hK _ _ (i + 1) ⟨by omega, ?_⟩ (by omega) (Wk.temps ?_)
            · exfalso; grind
            · (simp only [bools, hrl, spar, List.foldl, List.replicate, go_sem, VLes_nil, VLes_cons, VLe_undef_iff, VLe_self]; try (repeat' first | (with_reducible refine And.intro ?_ ?_) | (refine VLe_int ?_; omega) | (refine VLe_bool ?_; rfl) | exact VLe.refl _))
        · have hb' : badAt s i = false := by simpa using hb
          unfold badAt at hb
          simp (disch := omega) only [spar, List.foldl, List.replicate, bools, hrl, hg, ch_eq, go_sem, wrap64_id, Int.tdiv_eq_ediv_of_nonneg, Int.tmod_eq_emod_of_nonneg]
          repeat' first
            | ((first | refine callA_pure (t117b _ _) ?_ ?_); (next => repeat' first | exact flags_n | refine flags_c (by first | rfl | assumption) ?_); simp (disch := omega) only [bools, hrl, hg, ch_eq, go_sem, wrap64_id, Int.tdiv_eq_ediv_of_nonneg, Int.tmod_eq_emod_of_nonneg])
            | ((first | refine callG_pure (fun e => ⟨?_, t117b _ _⟩) ?_); (next => repeat' first | exact flags_n | refine flags_c (by first | rfl | assumption) ?_); simp (disch := omega) only [bools, hrl, hg, ch_eq, go_sem, wrap64_id, Int.tdiv_eq_ediv_of_nonneg, Int.tmod_eq_emod_of_nonneg])
            | ((first | refine fnQ_pure1 ?_ ?_ | refine fnQ_pure0 ?_ ?_); (next => repeat' first | exact rvs_n | refine rvs_t ?_ | (simp [go_sem]; done)); simp only [go_sem]; (first | exact VLe.refl _ | refine VLe_int ?_ | refine VLe_bool ?_ | refine VLe_str ?_ | skip))
            | (with_reducible refine And.intro ?_ ?_)
            | with_reducible intro _
          all_goals first
            | omega
            | (rename_i hx; revert hx; simp; done)
            | (simp; done)
            | skip
          all_goals first
            | (exfalso; grind)
            | skip
          all_goals
            refine hK _ _ (i + 1) ⟨by omega, fun j hj => ?_⟩ (by omega) (Wk.temps ?_)
            · by_cases e : j = i
              · subst e; exact hb'
              · exact i2 j (by omega)
            · (simp only [bools, hrl, spar, List.foldl, List.replicate, go_sem, VLes_nil, VLes_cons, VLe_undef_iff, VLe_self]; try (repeat' first | (with_reducible refine And.intro ?_ ?_) | (refine VLe_int ?_; omega) | (refine VLe_bool ?_; rfl) | exact VLe.refl _))
      · have e : i = s.length := by omega
        subst e
        rw [any_range_false i2]
        simp (disch := omega) only [spar, List.foldl, List.replicate, go_sem, wrap64_id, Int.tdiv_eq_ediv_of_nonneg, Int.tmod_eq_emod_of_nonneg]
        repeat' first
          | ((first | refine fnQ_pure1 ?_ ?_ | refine fnQ_pure0 ?_ ?_); (next => repeat' first | exact rvs_n | refine rvs_t ?_ | (simp [go_sem]; done)); simp only [go_sem]; (first | exact VLe.refl _ | refine VLe_int ?_ | refine VLe_bool ?_ | refine VLe_str ?_ | skip))
          | (with_reducible refine And.intro ?_ ?_)
          | with_reducible intro _
        all_goals first
          | omega
          | (rename_i hx; revert hx; simp; done)
          | (simp; done)
          | skip
end HY
end

section
set_option linter.all false
set_option linter.unusedSimpArgs false
set_option linter.unusedVariables false
set_option linter.unusedSectionVars false
open Go Go.Proofs AF HY
namespace HY
set_option maxRecDepth 100000
theorem kind_range (b : UInt8) : 0 ≤ kind b ∧ kind b ≤ 6 := by
  unfold kind kindI
  (repeat' split) <;> omega
theorem any_ch (s : List UInt8) (p : UInt8 → Bool) : (List.range s.length).any (fun i => p (ch s i)) = s.any p := by
  rw [Bool.eq_iff_iff, List.any_eq_true, List.any_eq_true]
  constructor
  · rintro ⟨i, hi, h⟩
    simp at hi
    refine ⟨s[i], List.getElem_mem hi, ?_⟩
    simpa [ch, hi] using h
  · rintro ⟨x, hx, h⟩
    obtain ⟨i, hi, rfl⟩ := List.mem_iff_getElem.1 hx
    exact ⟨i, by simpa using hi, by simpa [ch, hi] using h⟩
def spc (c : UInt8) : Bool := decide (kind c = 5) || decide (kind c = 6)
theorem isWord_eq (s : List UInt8) : isWord s = (decide (0 < s.length) && decide (s.length ≤ 64) && decide (checkC s = 0) && (decide (kind (ch s 0) = 1) || decide (kind (ch s 0) = 3)) && !((List.range s.length).any fun i => spc (ch s i))) := by
  rw [any_ch]; rfl
theorem t93 (s : List UInt8) (h : List AObj) (hs : s.length ≤ 1000000000) : ACalls Tryd.prog 76 [.str s] h (.bool (isWord s)) h := by
  obtain ⟨c, hc⟩ : ∃ c, c = checkC s := ⟨_, rfl⟩
  have h118 : ∀ h : List AObj, ACalls Tryd.prog 104 [.str s] h (.int .i64 c) h := fun h => by rw [hc]; exact t118 s h hs
  rw [isWord_eq, ← hc]
  by_cases g0 : 0 < s.length ∧ s.length ≤ 64 ∧ c = 0 ∧ (kind (ch s 0) = 1 ∨ kind (ch s 0) = 3)
  · obtain ⟨g1, g2, g3, g4⟩ := g0
    have e : (decide (0 < s.length) && decide (s.length ≤ 64) && decide (c = 0) && (decide (kind (ch s 0) = 1) || decide (kind (ch s 0) = 3))) = true := by simp [g1, g2, g3, g4]
    rw [e, Bool.true_and]
    have k1 : ((s.length : Int) < 1) = False := eq_false (by omega)
    have k2 : (64 < (s.length : Int)) = False := eq_false (by omega)
    refine acalls_of fn76l (by simp) ?_
    simp only [List.length_cons, List.length_nil, Nat.reduceAdd, Nat.reduceSub, List.replicate, List.cons_append, List.nil_append, List.append_nil]
    simp (disch := omega) only [c76l, k1, k2, go_sem, wrap64_id, Int.tdiv_eq_ediv_of_nonneg, Int.tmod_eq_emod_of_nonneg]
    repeat' first
      | ((first | refine callA_pure (h118 _) ?_ ?_ | refine callA_pure (t117b _ _) ?_ ?_); (next => repeat' first | exact flags_n | refine flags_c (by first | rfl | assumption) ?_); simp (disch := omega) only [k1, k2, g3, ch_eq, go_sem, wrap64_id, Int.tdiv_eq_ediv_of_nonneg, Int.tmod_eq_emod_of_nonneg])
      | ((first | refine callG_pure (fun e => ⟨?_, h118 _⟩) ?_ | refine callG_pure (fun e => ⟨?_, t117b _ _⟩) ?_); (next => repeat' first | exact flags_n | refine flags_c (by first | rfl | assumption) ?_); simp (disch := omega) only [k1, k2, g3, ch_eq, go_sem, wrap64_id, Int.tdiv_eq_ediv_of_nonneg, Int.tmod_eq_emod_of_nonneg])
      | ((first | refine fnQ_pure1 ?_ ?_ | refine fnQ_pure0 ?_ ?_); (next => repeat' first | exact rvs_n | refine rvs_t ?_ | (simp [go_sem]; done)); simp only [go_sem]; (first | exact VLe.refl _ | refine VLe_int ?_ | refine VLe_bool ?_ | refine VLe_str ?_ | skip))
      | (with_reducible refine And.intro ?_ ?_)
      | with_reducible intro _
    all_goals first
      | omega
      | (rename_i hx; revert hx; simp; done)
      | (simp; done)
      | skip
    refine loop_of (T := fun i : Nat => spar 38 [(0, .str s), (4, .int .i64 i)]) (H := fun _ => h) (inv := fun i => i ≤ s.length ∧ ∀ j, j < i → spc (ch s j) = false) (m := fun i => s.length - i) 0 ⟨by omega, by omega⟩ (Wk.temps ?_) ?_
    · (simp only [spar, List.foldl, List.replicate, go_sem, VLes_nil, VLes_cons, VLe_undef_iff, VLe_self]; try (repeat' first | (with_reducible refine And.intro ?_ ?_) | (refine VLe_int ?_; omega) | (refine VLe_bool ?_; rfl) | exact VLe.refl _))
    · rintro i ⟨i1, i2⟩ K hK
      by_cases hi : i < s.length
      · have hr := kind_range (ch s i)
        cases hb : spc (ch s i) with
        | true =>
          rw [any_range_true hi hb]
          unfold spc at hb
          have hk : (4 < kind (ch s i)) = True := eq_true (by grind)
          simp (disch := omega) only [spar, List.foldl, List.replicate, ch_eq, go_sem, wrap64_id, Int.tdiv_eq_ediv_of_nonneg, Int.tmod_eq_emod_of_nonneg]
          repeat' first
            | ((first | refine callA_pure (t117b _ _) ?_ ?_); (next => repeat' first | exact flags_n | refine flags_c (by first | rfl | assumption) ?_); simp (disch := omega) only [ch_eq, hk, go_sem, wrap64_id, Int.tdiv_eq_ediv_of_nonneg, Int.tmod_eq_emod_of_nonneg])
            | ((first | refine callG_pure (fun e => ⟨?_, t117b _ _⟩) ?_); (next => repeat' first | exact flags_n | refine flags_c (by first | rfl | assumption) ?_); simp (disch := omega) only [ch_eq, hk, go_sem, wrap64_id, Int.tdiv_eq_ediv_of_nonneg, Int.tmod_eq_emod_of_nonneg])
            | ((first | refine fnQ_pure1 ?_ ?_ | refine fnQ_pure0 ?_ ?_); (next => repeat' first | exact rvs_n | refine rvs_t ?_ | (simp [go_sem]; done)); simp only [go_sem]; (first | exact VLe.refl _ | refine VLe_int ?_ | refine VLe_bool ?_ | refine VLe_str ?_ | skip))
            | (with_reducible refine And.intro ?_ ?_)
            | with_reducible intro _
          all_goals first
            | omega
            | (rename_i hx; revert hx; simp; done)
            | (simp; done)
            | skip
        | false =>
          have hk : (4 < kind (ch s i)) = False := eq_false (by unfold spc at hb; grind)
          simp (disch := omega) only [spar, List.foldl, List.replicate, ch_eq, go_sem, wrap64_id, Int.tdiv_eq_ediv_of_nonneg, Int.tmod_eq_emod_of_nonneg]
          repeat' first
            | ((first | refine callA_pure (t117b _ _) ?_ ?_); (next => repeat' first | exact flags_n | refine flags_c (by first | rfl | assumption) ?_); simp (disch := omega) only [ch_eq, hk, go_sem, wrap64_id, Int.tdiv_eq_ediv_of_nonneg, Int.tmod_eq_emod_of_nonneg])
            | ((first | refine callG_pure (fun e => ⟨?_, t117b _ _⟩) ?_); (next => repeat' first | exact flags_n | refine flags_c (by first | rfl | assumption) ?_); simp (disch := omega) only [ch_eq, hk, go_sem, wrap64_id, Int.tdiv_eq_ediv_of_nonneg, Int.tmod_eq_emod_of_nonneg])
            | ((first | refine fnQ_pure1 ?_ ?_ | refine fnQ_pure0 ?_ ?_); (next => repeat' first | exact rvs_n | refine rvs_t ?_ | (simp [go_sem]; done)); simp only [go_sem]; (first | exact VLe.refl _ | refine VLe_int ?_ | refine VLe_bool ?_ | refine VLe_str ?_ | skip))
            | (with_reducible refine And.intro ?_ ?_)
            | with_reducible intro _
          all_goals first
            | omega
            | (rename_i hx; revert hx; simp; done)
            | (simp; done)
            | skip
          refine hK _ _ (i + 1) ⟨by omega, fun j hj => ?_⟩ (by omega) (Wk.temps ?_)
          · by_cases e : j = i
            · subst e; exact hb
            · exact i2 j (by omega)
          · (simp only [spar, List.foldl, List.replicate, go_sem, VLes_nil, VLes_cons, VLe_undef_iff, VLe_self]; try (repeat' first | (with_reducible refine And.intro ?_ ?_) | (refine VLe_int ?_; omega) | (refine VLe_bool ?_; rfl) | exact VLe.refl _))
      · have e : i = s.length := by omega
        subst e
        rw [any_range_false i2]
        simp (disch := omega) only [spar, List.foldl, List.replicate, go_sem, wrap64_id, Int.tdiv_eq_ediv_of_nonneg, Int.tmod_eq_emod_of_nonneg]
        repeat' first
          | ((first | refine fnQ_pure1 ?_ ?_ | refine fnQ_pure0 ?_ ?_); (next => repeat' first | exact rvs_n | refine rvs_t ?_ | (simp [go_sem]; done)); simp only [go_sem]; (first | exact VLe.refl _ | refine VLe_int ?_ | refine VLe_bool ?_ | refine VLe_str ?_ | skip))
          | (with_reducible refine And.intro ?_ ?_)
          | with_reducible intro _
        all_goals first
          | omega
          | (rename_i hx; revert hx; simp; done)
          | (simp; done)
          | skip
  · have e : (decide (0 < s.length) && decide (s.length ≤ 64) && decide (c = 0) && (decide (kind (ch s 0) = 1) || decide (kind (ch s 0) = 3))) = false := by
      rw [Bool.eq_false_iff]
      intro h
      simp only [Bool.and_eq_true, Bool.or_eq_true, decide_eq_true_eq] at h
      exact g0 ⟨h.1.1.1, h.1.1.2, h.1.2, h.2⟩
    rw [e, Bool.false_and]
    by_cases g1 : 0 < s.length
    · by_cases g2 : s.length ≤ 64
      · have k1 : ((s.length : Int) < 1) = False := eq_false (by omega)
        have k2 : (64 < (s.length : Int)) = False := eq_false (by omega)
        by_cases g3 : c = 0
        · have g4 : ¬ kind (ch s 0) = 1 ∧ ¬ kind (ch s 0) = 3 := by
            constructor
            · intro h; exact g0 ⟨g1, g2, g3, .inl h⟩
            · intro h; exact g0 ⟨g1, g2, g3, .inr h⟩
          have g5 := g4.1
          have g6 := g4.2
          refine acalls_of fn76l (by simp) ?_
          simp only [List.length_cons, List.length_nil, Nat.reduceAdd, Nat.reduceSub, List.replicate, List.cons_append, List.nil_append, List.append_nil]
          simp (disch := omega) only [c76l, k1, k2, go_sem, wrap64_id, Int.tdiv_eq_ediv_of_nonneg, Int.tmod_eq_emod_of_nonneg]
          repeat' first
            | ((first | refine callA_pure (h118 _) ?_ ?_ | refine callA_pure (t117b _ _) ?_ ?_); (next => repeat' first | exact flags_n | refine flags_c (by first | rfl | assumption) ?_); simp (disch := omega) only [k1, k2, g3, ch_eq, g5, g6, go_sem, wrap64_id, Int.tdiv_eq_ediv_of_nonneg, Int.tmod_eq_emod_of_nonneg])
            | ((first | refine callG_pure (fun e => ⟨?_, h118 _⟩) ?_ | refine callG_pure (fun e => ⟨?_, t117b _ _⟩) ?_); (next => repeat' first | exact flags_n | refine flags_c (by first | rfl | assumption) ?_); simp (disch := omega) only [k1, k2, g3, ch_eq, g5, g6, go_sem, wrap64_id, Int.tdiv_eq_ediv_of_nonneg, Int.tmod_eq_emod_of_nonneg])
            | ((first | refine fnQ_pure1 ?_ ?_ | refine fnQ_pure0 ?_ ?_); (next => repeat' first | exact rvs_n | refine rvs_t ?_ | (simp [go_sem]; done)); simp only [go_sem]; (first | exact VLe.refl _ | refine VLe_int ?_ | refine VLe_bool ?_ | refine VLe_str ?_ | skip))
            | (with_reducible refine And.intro ?_ ?_)
            | with_reducible intro _
          all_goals first
            | omega
            | (rename_i hx; revert hx; simp; done)
            | (simp; done)
            | skip
        · refine acalls_of fn76l (by simp) ?_
          simp only [List.length_cons, List.length_nil, Nat.reduceAdd, Nat.reduceSub, List.replicate, List.cons_append, List.nil_append, List.append_nil]
          simp (disch := omega) only [c76l, k1, k2, go_sem, wrap64_id, Int.tdiv_eq_ediv_of_nonneg, Int.tmod_eq_emod_of_nonneg]
          repeat' first
            | ((first | refine callA_pure (h118 _) ?_ ?_ | refine callA_pure (t117b _ _) ?_ ?_); (next => repeat' first | exact flags_n | refine flags_c (by first | rfl | assumption) ?_); simp (disch := omega) only [k1, k2, g3, ch_eq, go_sem, wrap64_id, Int.tdiv_eq_ediv_of_nonneg, Int.tmod_eq_emod_of_nonneg])
            | ((first | refine callG_pure (fun e => ⟨?_, h118 _⟩) ?_ | refine callG_pure (fun e => ⟨?_, t117b _ _⟩) ?_); (next => repeat' first | exact flags_n | refine flags_c (by first | rfl | assumption) ?_); simp (disch := omega) only [k1, k2, g3, ch_eq, go_sem, wrap64_id, Int.tdiv_eq_ediv_of_nonneg, Int.tmod_eq_emod_of_nonneg])
            | ((first | refine fnQ_pure1 ?_ ?_ | refine fnQ_pure0 ?_ ?_); (next => repeat' first | exact rvs_n | refine rvs_t ?_ | (simp [go_sem]; done)); simp only [go_sem]; (first | exact VLe.refl _ | refine VLe_int ?_ | refine VLe_bool ?_ | refine VLe_str ?_ | skip))
            | (with_reducible refine And.intro ?_ ?_)
            | with_reducible intro _
          all_goals first
            | omega
            | (rename_i hx; revert hx; simp; done)
            | (simp; done)
            | skip
      · have k1 : ((s.length : Int) < 1) = False := eq_false (by omega)
        have k2 : (64 < (s.length : Int)) = True := eq_true (by omega)
        refine acalls_of fn76l (by simp) ?_
        simp only [List.length_cons, List.length_nil, Nat.reduceAdd, Nat.reduceSub, List.replicate, List.cons_append, List.nil_append, List.append_nil]
        simp (disch := omega) only [c76l, k1, k2, go_sem, wrap64_id, Int.tdiv_eq_ediv_of_nonneg, Int.tmod_eq_emod_of_nonneg]
        repeat' first
          | (refine callG_false ((.int .i64 0)) ?_; simp (disch := omega) only [k1, k2, go_sem, wrap64_id, Int.tdiv_eq_ediv_of_nonneg, Int.tmod_eq_emod_of_nonneg])
          | ((first | refine fnQ_pure1 ?_ ?_ | refine fnQ_pure0 ?_ ?_); (next => repeat' first | exact rvs_n | refine rvs_t ?_ | (simp [go_sem]; done)); simp only [go_sem]; (first | exact VLe.refl _ | refine VLe_int ?_ | refine VLe_bool ?_ | refine VLe_str ?_ | skip))
          | (with_reducible refine And.intro ?_ ?_)
          | with_reducible intro _
        all_goals first
          | omega
          | (rename_i hx; revert hx; simp; done)
          | (simp; done)
          | skip
    · have k1 : ((s.length : Int) < 1) = True := eq_true (by omega)
      refine acalls_of fn76l (by simp) ?_
      simp only [List.length_cons, List.length_nil, Nat.reduceAdd, Nat.reduceSub, List.replicate, List.cons_append, List.nil_append, List.append_nil]
      simp (disch := omega) only [c76l, k1, go_sem, wrap64_id, Int.tdiv_eq_ediv_of_nonneg, Int.tmod_eq_emod_of_nonneg]
      repeat' first
        | (refine callG_false ((.int .i64 0)) ?_; simp (disch := omega) only [k1, go_sem, wrap64_id, Int.tdiv_eq_ediv_of_nonneg, Int.tmod_eq_emod_of_nonneg])
        | ((first | refine fnQ_pure1 ?_ ?_ | refine fnQ_pure0 ?_ ?_); (next => repeat' first | exact rvs_n | refine rvs_t ?_ | (simp [go_sem]; done)); simp only [go_sem]; (first | exact VLe.refl _ | refine VLe_int ?_ | refine VLe_bool ?_ | refine VLe_str ?_ | skip))
        | (with_reducible refine And.intro ?_ ?_)
        | with_reducible intro _
      all_goals first
        | omega
        | (rename_i hx; revert hx; simp; done)
        | (simp; done)
        | skip
end HY
end

section
set_option linter.all false
set_option linter.unusedSimpArgs false
set_option linter.unusedVariables false
set_option linter.unusedSectionVars false
open Go Go.Proofs AF HY
namespace HY
set_option maxRecDepth 100000
theorem _root_.AF.LowI.app {h a b : List AObj} (e : b.length = a.length) (hb : ∀ o ∈ b, o ∈ a ∨ (lowO (h.length + a.length) o ∧ lowO (h.length + a.length + 1) o)) : LowI (h ++ a) (h ++ b) := by
  refine ⟨by simp [e], fun o ho => ?_⟩
  rw [List.length_append]
  rcases List.mem_append.1 ho with ho | ho
  · exact .inl (List.mem_append_left _ ho)
  · rcases hb o ho with h1 | h1
    · exact .inl (List.mem_append_right _ h1)
    · exact .inr h1
end HY
end

section
set_option linter.all false
set_option linter.unusedSimpArgs false
set_option linter.unusedVariables false
set_option linter.unusedSectionVars false
open Go Go.Proofs AF HY
namespace HY
set_option maxRecDepth 100000
end HY
end

section
set_option linter.all false
set_option linter.unusedSimpArgs false
set_option linter.unusedVariables false
set_option linter.unusedSectionVars false
open Go Go.Proofs AF HY
namespace HY
set_option maxRecDepth 100000
end HY
end

section
set_option linter.all false
set_option linter.unusedSimpArgs false
set_option linter.unusedVariables false
set_option linter.unusedSectionVars false
open Go Go.Proofs AF HY
namespace HY
set_option maxRecDepth 100000
theorem wrap8_id {n : Int} (h0 : 0 ≤ n) (h1 : n ≤ 255) : IntKind.u8.wrap n = n := by
  have e1 : (2 : Int) ^ IntKind.bits IntKind.u8 = 256 := rfl
  have e3 : IntKind.signed IntKind.u8 = false := rfl
  unfold IntKind.wrap
  rw [e1, e3]
  simp only [Bool.false_and, Bool.false_eq_true, if_false]
  omega
theorem bytesA_snoc (s : List UInt8) (c : UInt8) : bytesA (s ++ [c]) = bytesA s ++ [.int .u8 (c.toNat : Int)] := by simp [bytesA]
end HY
end

section
set_option linter.all false
set_option linter.unusedSimpArgs false
set_option linter.unusedVariables false
set_option linter.unusedSectionVars false
open Go Go.Proofs AF HY
namespace HY
set_option maxRecDepth 100000
end HY
end

section
set_option linter.all false
set_option linter.unusedSimpArgs false
set_option linter.unusedVariables false
set_option linter.unusedSectionVars false
open Go Go.Proofs AF HY
namespace HY
set_option maxRecDepth 100000
def intsV (l : List Int) : AV := .sl l.length fun i => [.int .i64 (l.getD i 0)]
def intsC (p : List Int) : List AV := p.map (AV.int .i64)
theorem intsC_len (p : List Int) : (intsC p).length = p.length := by simp [intsC]
theorem intsC_snoc (L : List Int) (x : Int) : intsC (L ++ [x]) = intsC L ++ [.int .i64 x] := by simp [intsC]
theorem intsV_of {p : List Int} {n m : Nat} {fz : Nat → Bool} {h : List AObj} (e : p.length = m) : VLe (.sl m fun i => ((List.drop i (intsC p)).take 1).map (rei fz h (n + 1))) (intsV p) := by
  subst e
  refine sl1_of (intsC_len p) rfl (fun i c hc => ?_) (fun c hc => ?_)
  · unfold intsC at hc
    rw [List.getElem?_map, Option.map_eq_some_iff] at hc
    obtain ⟨x, hx, rfl⟩ := hc
    simp [List.getD_eq_getElem?_getD, hx]
  · unfold intsC at hc
    rw [List.mem_map] at hc
    obtain ⟨x, _, rfl⟩ := hc
    rfl
def patC (p : Pat) : List AV := [.str p.letters, intsV p.levels]
def findN (p : Int → Bool) : List Int → Nat → Int
  | [], _ => -1
  | c :: r, i => if p c = true then i else findN p r (i + 1)
theorem t127 (s : List Int) (p : Int → Bool) (F : Nat) (h : List AObj) (hs : s.length ≤ 1000000000) (hp : ∀ (c : Int) (h : List AObj), ACalls Tryd.prog F [.int .i64 c] h (.bool (p c)) h) : ACalls Tryd.prog 60 [intsV s, .fn (.func F) [] []] h (.int .i64 (findN p s 0)) h := by
  refine acalls_of fn60l (by simp) ?_
  simp only [List.length_cons, List.length_nil, Nat.reduceAdd, Nat.reduceSub, List.replicate, List.cons_append, List.nil_append, List.append_nil]
  simp (disch := omega) only [c60l, intsV, go_sem, wrap64_id, Int.tdiv_eq_ediv_of_nonneg, Int.tmod_eq_emod_of_nonneg]
  repeat' first
    | ((first | refine fnQ_pure1 ?_ ?_ | refine fnQ_pure0 ?_ ?_); (next => repeat' first | exact rvs_n | refine rvs_t ?_ | (simp [go_sem]; done)); simp only [go_sem]; (first | exact VLe.refl _ | refine VLe_int ?_ | refine VLe_bool ?_ | refine VLe_str ?_ | skip))
    | (with_reducible refine And.intro ?_ ?_)
    | with_reducible intro _
  all_goals first
    | omega
    | (rename_i hx; revert hx; simp; done)
    | (simp; done)
    | skip
  refine loop_of (T := fun i : Nat => spar 19 [(0, intsV s), (1, .fn (.func F) [] []), (6, intsV s), (7, .int .i64 s.length), (8, .int .i64 i)]) (H := fun _ => h) (inv := fun i => i ≤ s.length ∧ findN p s 0 = findN p (s.drop i) i) (m := fun i => s.length - i) 0 ⟨by omega, by simp⟩ (Wk.temps ?_) ?_
  · (simp only [intsV, spar, List.foldl, List.replicate, go_sem, VLes_nil, VLes_cons, VLe_undef_iff, VLe_self]; try (repeat' first | (with_reducible refine And.intro ?_ ?_) | (refine VLe_int ?_; omega) | (refine VLe_bool ?_; rfl) | exact VLe.refl _))
  · rintro i ⟨i1, i2⟩ K hK
    rw [i2]
    by_cases hi : i < s.length
    · have e : s.drop i = s.getD i 0 :: s.drop (i + 1) := by rw [List.drop_eq_getElem_cons hi]; simp [List.getD_eq_getElem?_getD, hi]
      rw [e] at i2 ⊢
      simp only [findN] at i2 ⊢
      have hpc := fun h => hp (s.getD i 0) h
      cases hb : p (s.getD i 0) with
      | true =>
        rw [hb] at hpc
        simp (disch := omega) only [spar, List.foldl, List.replicate, intsV, go_sem, wrap64_id, Int.tdiv_eq_ediv_of_nonneg, Int.tmod_eq_emod_of_nonneg]
        repeat' first
          | (refine callV_pure (hpc _) ?_; simp (disch := omega) only [intsV, go_sem, wrap64_id, Int.tdiv_eq_ediv_of_nonneg, Int.tmod_eq_emod_of_nonneg])
          | ((first | refine fnQ_pure1 ?_ ?_ | refine fnQ_pure0 ?_ ?_); (next => repeat' first | exact rvs_n | refine rvs_t ?_ | (simp [go_sem]; done)); simp only [go_sem]; (first | exact VLe.refl _ | refine VLe_int ?_ | refine VLe_bool ?_ | refine VLe_str ?_ | skip))
          | (with_reducible refine And.intro ?_ ?_)
          | with_reducible intro _
        all_goals first
          | omega
          | (rename_i hx; revert hx; simp; done)
          | (simp; done)
          | skip
        all_goals simp
      | false =>
        rw [hb] at hpc i2
        simp (disch := omega) only [spar, List.foldl, List.replicate, intsV, go_sem, wrap64_id, Int.tdiv_eq_ediv_of_nonneg, Int.tmod_eq_emod_of_nonneg]
        repeat' first
          | (refine callV_pure (hpc _) ?_; simp (disch := omega) only [intsV, go_sem, wrap64_id, Int.tdiv_eq_ediv_of_nonneg, Int.tmod_eq_emod_of_nonneg])
          | ((first | refine fnQ_pure1 ?_ ?_ | refine fnQ_pure0 ?_ ?_); (next => repeat' first | exact rvs_n | refine rvs_t ?_ | (simp [go_sem]; done)); simp only [go_sem]; (first | exact VLe.refl _ | refine VLe_int ?_ | refine VLe_bool ?_ | refine VLe_str ?_ | skip))
          | (with_reducible refine And.intro ?_ ?_)
          | with_reducible intro _
        all_goals first
          | omega
          | (rename_i hx; revert hx; simp; done)
          | (simp; done)
          | skip
        refine hK _ _ (i + 1) ⟨by omega, by rw [i2]; simp⟩ (by omega) (Wk.temps ?_)
        (simp only [intsV, spar, List.foldl, List.replicate, go_sem, VLes_nil, VLes_cons, VLe_undef_iff, VLe_self]; try (repeat' first | (with_reducible refine And.intro ?_ ?_) | (refine VLe_int ?_; omega) | (refine VLe_bool ?_; rfl) | exact VLe.refl _))
    · have e : i = s.length := by omega
      subst e
      rw [List.drop_length]
      simp (disch := omega) only [spar, List.foldl, List.replicate, intsV, go_sem, wrap64_id, Int.tdiv_eq_ediv_of_nonneg, Int.tmod_eq_emod_of_nonneg]
      repeat' first
        | ((first | refine fnQ_pure1 ?_ ?_ | refine fnQ_pure0 ?_ ?_); (next => repeat' first | exact rvs_n | refine rvs_t ?_ | (simp [go_sem]; done)); simp only [go_sem]; (first | exact VLe.refl _ | refine VLe_int ?_ | refine VLe_bool ?_ | refine VLe_str ?_ | skip))
        | (with_reducible refine And.intro ?_ ?_)
        | with_reducible intro _
      all_goals first
        | omega
        | (rename_i hx; revert hx; simp; done)
        | (simp; done)
        | skip
end HY
end

section
set_option linter.all false
set_option linter.unusedSimpArgs false
set_option linter.unusedVariables false
set_option linter.unusedSectionVars false
open Go Go.Proofs AF HY
namespace HY
set_option maxRecDepth 100000
end HY
end

section
set_option linter.all false
set_option linter.unusedSimpArgs false
set_option linter.unusedVariables false
set_option linter.unusedSectionVars false
open Go Go.Proofs AF HY
namespace HY
set_option maxRecDepth 100000
end HY
end

section
set_option linter.all false
set_option linter.unusedSimpArgs false
set_option linter.unusedVariables false
set_option linter.unusedSectionVars false
open Go Go.Proofs AF HY
namespace HY
set_option maxRecDepth 100000
end HY
end

section
set_option linter.all false
set_option linter.unusedSimpArgs false
set_option linter.unusedVariables false
set_option linter.unusedSectionVars false
open Go Go.Proofs AF HY
namespace HY
set_option maxRecDepth 100000
def patsV (ps : List Pat) : AV := .sl ps.length fun i => patC (ps.getD i default)
def firstE : List Pat → Int
  | [] => 0
  | p :: r => if checkPat p = 0 then firstE r else checkPat p
def checkPats (ps : List Pat) : Int := if 4096 < ps.length then 4 else firstE ps
def okPats (ps : List Pat) : Prop := ps.length ≤ 1000000000 ∧ ∀ i, i < ps.length → (ps.getD i default).letters.length ≤ 1000000000 ∧ (ps.getD i default).levels.length ≤ 1000000000
end HY
end

section
set_option linter.all false
set_option linter.unusedSimpArgs false
set_option linter.unusedVariables false
set_option linter.unusedSectionVars false
open Go Go.Proofs AF HY
namespace HY
set_option maxRecDepth 100000
structure Src (h : List AObj) (e : AV) (n : Nat) (cs : List AV) : Prop where
  flag : e.flag = true
  strip : e.strip = e
  lenOk : ∀ X, okL (h ++ X) .len [e] = True
  len : ∀ X, valL (h ++ X) .len [e] = .int .i64 n
  cells : ∀ X, sliceCells (h ++ X) e = some (n, cs)
  apart : ∀ k v z p m, h.length ≤ k → apartS (.osl k v z p m) e = true
end HY
end

section
set_option linter.all false
set_option linter.unusedSimpArgs false
set_option linter.unusedVariables false
set_option linter.unusedSectionVars false
open Go Go.Proofs AF HY
namespace HY
set_option maxRecDepth 100000
def eqS (n m : Nat) (f g : Nat → List UInt8) : Bool := decide (n = m) && (List.range n).all fun i => decide (f i = g i)
theorem filter_succ_t {p : Nat → Bool} {i : Nat} (h : p i = true) : (List.range (i + 1)).filter p = (List.range i).filter p ++ [i] := by
  rw [List.range_succ, List.filter_append]; simp [h]
theorem filter_succ_f {p : Nat → Bool} {i : Nat} (h : p i = false) : (List.range (i + 1)).filter p = (List.range i).filter p := by
  rw [List.range_succ, List.filter_append]; simp [h]
theorem all_take {f g : Nat → List UInt8} {n i : Nat} (h : ∀ j, j < n → f j = g j) : ((List.range n).all fun i => decide (f i = g i)) = true := by
  rw [List.all_eq_true]
  intro j hj
  simpa using h j (by simpa using hj)
theorem all_false {f g : Nat → List UInt8} {n i : Nat} (hi : i < n) (h : ¬ f i = g i) : ((List.range n).all fun i => decide (f i = g i)) = false := by
  rw [Bool.eq_false_iff]
  intro hc
  rw [List.all_eq_true] at hc
  have := hc i (by simpa using hi)
  simp at this
  exact h this
theorem t143 (n m : Nat) (f g : Nat → List UInt8) (h : List AObj) (hn : n ≤ 1000000000) : ACalls Tryd.prog 31 [.sl n fun i => [.str (f i)], .sl m fun i => [.str (g i)]] h (.bool (eqS n m f g)) h := by
  unfold eqS
  by_cases g0 : n = m
  · subst g0
    refine acalls_of fn31l (by simp) ?_
    simp only [List.length_cons, List.length_nil, Nat.reduceAdd, Nat.reduceSub, List.replicate, List.cons_append, List.nil_append, List.append_nil]
    simp (disch := omega) only [c31l, go_sem, wrap64_id, Int.tdiv_eq_ediv_of_nonneg, Int.tmod_eq_emod_of_nonneg]
    repeat' first
      | ((first | refine fnQ_pure1 ?_ ?_ | refine fnQ_pure0 ?_ ?_); (next => repeat' first | exact rvs_n | refine rvs_t ?_ | (simp [go_sem]; done)); simp only [go_sem]; (first | exact VLe.refl _ | refine VLe_int ?_ | refine VLe_bool ?_ | refine VLe_str ?_ | skip))
      | (with_reducible refine And.intro ?_ ?_)
      | with_reducible intro _
    all_goals first
      | omega
      | (rename_i hx; revert hx; simp; done)
      | (simp; done)
      | skip
    refine loop_of (T := fun i : Nat => spar 26 [(0, .sl n fun i => [.str (f i)]), (1, .sl n fun i => [.str (g i)]), (12, .int .i64 n), (13, .int .i64 i)]) (H := fun _ => h) (inv := fun i => i ≤ n ∧ ∀ j, j < i → f j = g j) (m := fun i => n - i) 0 ⟨by omega, by omega⟩ (Wk.temps ?_) ?_
    · (simp only [spar, List.foldl, List.replicate, go_sem, VLes_nil, VLes_cons, VLe_undef_iff, VLe_self]; try (repeat' first | (with_reducible refine And.intro ?_ ?_) | (refine VLe_int ?_; omega) | (refine VLe_bool ?_; rfl) | exact VLe.refl _))
    rintro i ⟨i1, i2⟩ K hK
    by_cases hi : i < n
    · by_cases hb : f i = g i
      · have k1 : (f i = g i) = True := eq_true hb
        simp (disch := omega) only [spar, List.foldl, List.replicate, k1, go_sem, wrap64_id, Int.tdiv_eq_ediv_of_nonneg, Int.tmod_eq_emod_of_nonneg]
        repeat' first
          | ((first | refine fnQ_pure1 ?_ ?_ | refine fnQ_pure0 ?_ ?_); (next => repeat' first | exact rvs_n | refine rvs_t ?_ | (simp [go_sem]; done)); simp only [go_sem]; (first | exact VLe.refl _ | refine VLe_int ?_ | refine VLe_bool ?_ | refine VLe_str ?_ | skip))
          | (with_reducible refine And.intro ?_ ?_)
          | with_reducible intro _
        all_goals first
          | omega
          | (rename_i hx; revert hx; simp; done)
          | (simp; done)
          | skip
        refine hK _ _ (i + 1) ⟨by omega, fun j hj => ?_⟩ (by omega) (Wk.temps ?_)
        · by_cases e : j = i
          · subst e; exact hb
          · exact i2 j (by omega)
        · (simp only [spar, List.foldl, List.replicate, go_sem, VLes_nil, VLes_cons, VLe_undef_iff, VLe_self]; try (repeat' first | (with_reducible refine And.intro ?_ ?_) | (refine VLe_int ?_; omega) | (refine VLe_bool ?_; rfl) | exact VLe.refl _))
      · have k1 : (f i = g i) = False := eq_false hb
        rw [all_false hi hb]
        simp (disch := omega) only [spar, List.foldl, List.replicate, k1, go_sem, wrap64_id, Int.tdiv_eq_ediv_of_nonneg, Int.tmod_eq_emod_of_nonneg]
        repeat' first
          | ((first | refine fnQ_pure1 ?_ ?_ | refine fnQ_pure0 ?_ ?_); (next => repeat' first | exact rvs_n | refine rvs_t ?_ | (simp [go_sem]; done)); simp only [go_sem]; (first | exact VLe.refl _ | refine VLe_int ?_ | refine VLe_bool ?_ | refine VLe_str ?_ | skip))
          | (with_reducible refine And.intro ?_ ?_)
          | with_reducible intro _
        all_goals first
          | omega
          | (rename_i hx; revert hx; simp; done)
          | (simp; done)
          | skip
    · have e : i = n := by omega
      subst e
      rw [all_take (i := 0) i2]
      simp (disch := omega) only [spar, List.foldl, List.replicate, go_sem, wrap64_id, Int.tdiv_eq_ediv_of_nonneg, Int.tmod_eq_emod_of_nonneg]
      repeat' first
        | ((first | refine fnQ_pure1 ?_ ?_ | refine fnQ_pure0 ?_ ?_); (next => repeat' first | exact rvs_n | refine rvs_t ?_ | (simp [go_sem]; done)); simp only [go_sem]; (first | exact VLe.refl _ | refine VLe_int ?_ | refine VLe_bool ?_ | refine VLe_str ?_ | skip))
        | (with_reducible refine And.intro ?_ ?_)
        | with_reducible intro _
      all_goals first
        | omega
        | (rename_i hx; revert hx; simp; done)
        | (simp; done)
        | skip
  · have k0 : ((n : Int) = m) = False := eq_false (by omega)
    rw [decide_eq_false g0]
    refine acalls_of fn31l (by simp) ?_
    simp only [List.length_cons, List.length_nil, Nat.reduceAdd, Nat.reduceSub, List.replicate, List.cons_append, List.nil_append, List.append_nil]
    simp (disch := omega) only [c31l, k0, go_sem, wrap64_id, Int.tdiv_eq_ediv_of_nonneg, Int.tmod_eq_emod_of_nonneg]
    repeat' first
      | ((first | refine fnQ_pure1 ?_ ?_ | refine fnQ_pure0 ?_ ?_); (next => repeat' first | exact rvs_n | refine rvs_t ?_ | (simp [go_sem]; done)); simp only [go_sem]; (first | exact VLe.refl _ | refine VLe_int ?_ | refine VLe_bool ?_ | refine VLe_str ?_ | skip))
      | (with_reducible refine And.intro ?_ ?_)
      | with_reducible intro _
    all_goals first
      | omega
      | (rename_i hx; revert hx; simp; done)
      | (simp; done)
      | skip
end HY
end

section
set_option linter.all false
set_option linter.unusedSimpArgs false
set_option linter.unusedVariables false
set_option linter.unusedSectionVars false
open Go Go.Proofs AF HY
namespace HY
set_option maxRecDepth 100000
theorem intsC_set (all : List Int) {a : Nat} (x : Int) (ha : a < all.length) : List.take a (intsC all) ++ [.int .i64 x] ++ List.drop (a + 1) (intsC all) = intsC (all.set a x) := by
  unfold intsC
  rw [List.map_set, List.set_eq_take_append_cons_drop, if_pos (by simpa using ha), List.append_assoc]
  rfl
theorem intsC_get {all : List Int} {a : Nat} (ha : a < all.length) : (intsC all)[a]? = some (.int .i64 (all.getD a 0)) := by simp [intsC, List.getD_eq_getElem?_getD, ha]
end HY
end

section
set_option linter.all false
set_option linter.unusedSimpArgs false
set_option linter.unusedVariables false
set_option linter.unusedSectionVars false
open Go Go.Proofs AF HY
namespace HY
set_option maxRecDepth 100000
def same (pat l : List (List UInt8)) (a k : Nat) : Bool := (List.range k).all fun i => decide (l.getD (a + i) [] = pat.getD i [])
end HY
end

section
set_option linter.all false
set_option linter.unusedSimpArgs false
set_option linter.unusedVariables false
set_option linter.unusedSectionVars false
open Go Go.Proofs AF HY
namespace HY
set_option maxRecDepth 100000
def intsN (L : List Int) : AV := if L = [] then .nl else intsV L
theorem intsN_le (L : List Int) : VLe (intsN L) (intsV L) := by
  unfold intsN
  split
  · rename_i e; subst e; exact VLe_nl
  · exact VLe.refl _
theorem slOf_intsN {v n : Nat} {L : List Int} {fz : Nat → Bool} {h : List AObj} : VLe (slOf (some (ownO v 3 (intsC L))) v 1 0 L.length (rei fz h (n + 1))) (intsN L) := by
  unfold ownO intsN
  split
  · rename_i e
    have : L = [] := by cases L with
      | nil => rfl
      | cons a l => simp [intsC] at e
    subst this
    rw [slOf_emp, if_pos rfl, if_pos rfl]
    exact VLe.refl _
  · rename_i e
    rw [if_neg (by intro e2; subst e2; exact e rfl), slOf_mem, if_pos ⟨rfl, by rw [intsC_len]; omega⟩]
    simp only [Nat.zero_add, Nat.mul_one]
    exact intsV_of rfl
theorem slOf_ints {v n : Nat} {L : List Int} {fz : Nat → Bool} {h : List AObj} : VLe (slOf (some (ownO v 3 (intsC L))) v 1 0 L.length (rei fz h (n + 1))) (intsV L) := by
  unfold ownO
  split
  · rename_i e
    have : L = [] := by cases L with
      | nil => rfl
      | cons a l => simp [intsC] at e
    subst this
    rw [slOf_emp, if_pos rfl]
    exact VLe_nl
  · rw [slOf_mem, if_pos ⟨rfl, by rw [intsC_len]; omega⟩]
    simp only [Nat.zero_add, Nat.mul_one]
    exact intsV_of rfl
end HY
end

section
set_option linter.all false
set_option linter.unusedSimpArgs false
set_option linter.unusedVariables false
set_option linter.unusedSectionVars false
open Go Go.Proofs AF HY
namespace HY
set_option maxRecDepth 100000
theorem flag_intsV (L : List Int) : (intsV L).flag = true := rfl
theorem strip_intsV (L : List Int) : (intsV L).strip = intsV L := rfl
theorem frz_intsV {fz : Nat → Bool} {h : List AObj} {n : Nat} (L : List Int) : frz fz h (n + 1) (intsV L) = intsV L := rfl
theorem rei_intsV {fz : Nat → Bool} {h : List AObj} {n : Nat} (L : List Int) : rei fz h (n + 1) (intsV L) = intsV L := rfl
theorem flag_strs (L : List (List UInt8)) : (strs L).flag = true := rfl
theorem strip_strs (L : List (List UInt8)) : (strs L).strip = strs L := rfl
theorem frz_strs {fz : Nat → Bool} {h : List AObj} {n : Nat} (L : List (List UInt8)) : frz fz h (n + 1) (strs L) = strs L := rfl
theorem rei_strs {fz : Nat → Bool} {h : List AObj} {n : Nat} (L : List (List UInt8)) : rei fz h (n + 1) (strs L) = strs L := rfl
theorem flag_patsV (L : List Pat) : (patsV L).flag = true := rfl
theorem strip_patsV (L : List Pat) : (patsV L).strip = patsV L := rfl
theorem frz_patsV {fz : Nat → Bool} {h : List AObj} {n : Nat} (L : List Pat) : frz fz h (n + 1) (patsV L) = patsV L := rfl
theorem rei_patsV {fz : Nat → Bool} {h : List AObj} {n : Nat} (L : List Pat) : rei fz h (n + 1) (patsV L) = patsV L := rfl
theorem flag_intsN (L : List Int) : (intsN L).flag = true := by unfold intsN; split <;> rfl
theorem strip_intsN (L : List Int) : (intsN L).strip = intsN L := by unfold intsN; split <;> rfl
theorem frz_intsN {fz : Nat → Bool} {h : List AObj} {n : Nat} (L : List Int) : frz fz h (n + 1) (intsN L) = intsN L := by unfold intsN; split <;> rfl
theorem rei_intsN {fz : Nat → Bool} {h : List AObj} {n : Nat} (L : List Int) : rei fz h (n + 1) (intsN L) = intsN L := by unfold intsN; split <;> rfl
attribute [go_sem] flag_intsV strip_intsV frz_intsV rei_intsV flag_strs strip_strs frz_strs rei_strs flag_patsV strip_patsV frz_patsV rei_patsV flag_intsN strip_intsN frz_intsN rei_intsN
end HY
end

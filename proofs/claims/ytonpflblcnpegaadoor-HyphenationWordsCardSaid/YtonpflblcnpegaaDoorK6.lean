import Derived.Test.YtonpflblcnpegaaDoorK5
set_option linter.all false
set_option linter.unusedSimpArgs false
set_option linter.unusedVariables false
set_option linter.unusedSectionVars false
section
set_option linter.all false
set_option linter.unusedSimpArgs false
set_option linter.unusedVariables false
set_option linter.unusedSectionVars false
open Go Go.Proofs AF HY
namespace HY
set_option maxRecDepth 100000
theorem kind_foldB (c : UInt8) : kind (foldB c) = kind c := by
  have hc := c.toNat_lt
  have hn := foldB_nat c
  by_cases h : 65 ≤ (c.toNat : Int) ∧ (c.toNat : Int) ≤ 90
  · rw [if_pos h] at hn
    unfold kind kindI
    rw [if_pos (by omega), if_pos (by omega)]
  · rw [if_neg h] at hn
    unfold kind
    rw [hn]
theorem ch_fold (s : List UInt8) (i : Nat) (h : i < s.length) : ch (fold s) i = foldB (ch s i) := by simp [fold, ch, List.getD_eq_getElem?_getD, h]
theorem clusO_fold (r : List UInt8) : ∀ (f : Nat) (cur : List UInt8), 0 < cur.length → clusO f (fold cur) (fold r) = (clusO f cur r).map (fun x => (x.1, fold x.2)) := by
  induction r with
  | nil => intro f cur _; rfl
  | cons c r ih =>
    intro f cur hc
    have e : fold (c :: r) = foldB c :: fold r := rfl
    rw [e]
    simp only [clusO]
    rw [ch_fold cur 0 hc, kind_foldB, kind_foldB]
    split
    · rw [← ih f (cur ++ [c]) (by simp)]
      simp [fold]
    · rw [List.map_cons, ← ih (f + cur.length) [c] (by simp), fold_len]
      rfl
theorem clus_fold (s : List UInt8) : clus (fold s) = (clus s).map fold := by
  cases s with
  | nil => rfl
  | cons c r =>
    have := clusO_fold r 0 [c] (by simp)
    simp only [clus, clusters, show fold (c :: r) = foldB c :: fold r from rfl]
    rw [show [foldB c] = fold [c] from rfl, this]
    simp
theorem clus_fold_len (s : List UInt8) : (clus (fold s)).length = (clus s).length := by rw [clus_fold]; simp
theorem allLevels_len (ps : List Pat) (l : List (List UInt8)) : (allLevels ps l).length = l.length + 1 := by
  unfold allLevels
  rw [foldl_len (fun a p => addPat_len l a p)]
  simp
theorem levelsOf_len (ps : List Pat) (w : List UInt8) : (levelsOf ps w).length = (clus w).length - 1 := by
  unfold levelsOf
  rw [List.length_take, List.length_drop, allLevels_len]
  simp [unitsOf, clus_fold_len]
  omega
def hitP (n : Nat) (lv : List Int) (i : Nat) : Bool := decide ((lv.getD i 0).tmod 2 = 1) && (decide (1 ≤ i) && decide (i + 3 ≤ n))
def offN (own : List (List UInt8)) (i : Nat) : Nat := (own.take i).flatten.length
def ptIdx (n : Nat) (lv : List Int) (m : Nat) : List Nat := (List.range m).filter (hitP n lv)
def ptAt (own : List (List UInt8)) (lv : List Int) (m : Nat) : List Int := (ptIdx own.length lv m).map fun i => (offN own (i + 1) : Int)
def ptHi (n : Nat) (lv : List Int) (m : Nat) : List Int := (ptIdx n lv m).map fun i => lv.getD i 0
theorem offN_zero (own : List (List UInt8)) : offN own 0 = 0 := rfl
theorem offN_succ {own : List (List UInt8)} {i : Nat} (h : i < own.length) : offN own (i + 1) = offN own i + (own.getD i []).length := by
  unfold offN; rw [flatten_take_succ own h, List.length_append]
theorem offN_le (own : List (List UInt8)) (i : Nat) : offN own i ≤ own.flatten.length := flatten_take_le own i
theorem ptAt_t {own : List (List UInt8)} {lv : List Int} {i : Nat} (h : hitP own.length lv i = true) : ptAt own lv (i + 1) = ptAt own lv i ++ [(offN own (i + 1) : Int)] := by
  unfold ptAt ptIdx; rw [filter_succ_t h, List.map_append]; rfl
theorem ptHi_t {n : Nat} {lv : List Int} {i : Nat} (h : hitP n lv i = true) : ptHi n lv (i + 1) = ptHi n lv i ++ [lv.getD i 0] := by
  unfold ptHi ptIdx; rw [filter_succ_t h, List.map_append]; rfl
theorem ptAt_f {own : List (List UInt8)} {lv : List Int} {i : Nat} (h : hitP own.length lv i = false) : ptAt own lv (i + 1) = ptAt own lv i := by
  unfold ptAt ptIdx; rw [filter_succ_f h]
theorem ptHi_f {n : Nat} {lv : List Int} {i : Nat} (h : hitP n lv i = false) : ptHi n lv (i + 1) = ptHi n lv i := by
  unfold ptHi ptIdx; rw [filter_succ_f h]
theorem ptIdx_le (n : Nat) (lv : List Int) (m : Nat) : (ptIdx n lv m).length ≤ m := by
  have := List.length_filter_le (hitP n lv) (List.range m)
  rwa [List.length_range] at this
theorem ptAt_len (own : List (List UInt8)) (lv : List Int) (m : Nat) : (ptAt own lv m).length = (ptIdx own.length lv m).length := by simp [ptAt]
theorem ptHi_len (n : Nat) (lv : List Int) (m : Nat) : (ptHi n lv m).length = (ptIdx n lv m).length := by simp [ptHi]
def intsN (L : List Int) : AV := if L = [] then .nl else intsV L
theorem intsN_nil : intsN [] = .nl := rfl
theorem intsN_le (L : List Int) : VLe (intsN L) (intsV L) := by
  unfold intsN
  split
  · rename_i e; subst e; exact VLe_nl
  · exact VLe.refl _
theorem slOf_intsN {v n : Nat} {L : List Int} {fz : Nat → Bool} {h : List AObj} : VLe (slOf (some (ownO v 3 (intsC L))) v 1 0 L.length (rei fz h (n + 1))) (intsN L) := by
  unfold ownO intsN
  split
  · rename_i e
    have : L = [] := by cases L with
      | nil => rfl
      | cons a l => simp [intsC] at e
    subst this
    rw [slOf_emp, if_pos rfl, if_pos rfl]
    exact VLe.refl _
  · rename_i e
    rw [if_neg (by intro e2; subst e2; exact e rfl), slOf_mem, if_pos ⟨rfl, by rw [intsC_len]; omega⟩]
    simp only [Nat.zero_add, Nat.mul_one]
    exact intsV_of rfl
theorem slOf_ints {v n : Nat} {L : List Int} {fz : Nat → Bool} {h : List AObj} : VLe (slOf (some (ownO v 3 (intsC L))) v 1 0 L.length (rei fz h (n + 1))) (intsV L) := by
  unfold ownO
  split
  · rename_i e
    have : L = [] := by cases L with
      | nil => rfl
      | cons a l => simp [intsC] at e
    subst this
    rw [slOf_emp, if_pos rfl]
    exact VLe_nl
  · rw [slOf_mem, if_pos ⟨rfl, by rw [intsC_len]; omega⟩]
    simp only [Nat.zero_add, Nat.mul_one]
    exact intsV_of rfl
set_option maxHeartbeats 4000000 in
theorem t113 (ps : List Pat) (w : List UInt8) (h : List AObj) (hok : okPats ps) (hw : w.length ≤ 1000000) (hw0 : 0 < (clus w).length) (hwf : wfPats ps) :
    ACalls Tryd.prog 44 [patsV ps, .str w] h (.tup [intsN (ptAt (clus w) (levelsOf ps w) ((clus w).length - 1)), intsV (ptHi (clus w).length (levelsOf ps w) ((clus w).length - 1))]) h := by
  have c131 := fun h => t131 ps w h hok hw (by rw [clus_fold_len]; exact hw0) hwf
  have c105 := fun h => t105 w h (by omega)
  have hll := levelsOf_len ps w
  have hcl := clus_len w
  have hof := fun i => offN_le (clus w) i
  rw [clus_join] at hof
  obtain ⟨lv, hlv⟩ : ∃ x, x = levelsOf ps w := ⟨_, rfl⟩
  obtain ⟨own, hown⟩ : ∃ x, x = clus w := ⟨_, rfl⟩
  rw [← hlv] at c131 hll ⊢
  rw [← hown] at c105 hll hcl hof hw0 ⊢
  refine acalls_of fn44d (by simp) ?_
  simp only [List.length_cons, List.length_nil, Nat.reduceAdd, Nat.reduceSub, List.replicate, List.cons_append, List.nil_append, List.append_nil]
  simp (disch := omega) only [c44d, patsV, madeA1, go_sem, wrap64_id, Int.tdiv_eq_ediv_of_nonneg, Int.tmod_eq_emod_of_nonneg]
  repeat' first
    | ((first | refine callA_pure (c105 _) ?_ ?_ | refine callA_pure (c131 _) ?_ ?_); (next => repeat' first | exact flags_n | refine flags_c (by first | rfl | assumption) ?_); simp (disch := omega) only [patsV, madeA1, intsV, strs, go_sem, wrap64_id, Int.tdiv_eq_ediv_of_nonneg, Int.tmod_eq_emod_of_nonneg])
    | ((first | refine callG_pure (fun e => ⟨?_, c105 _⟩) ?_ | refine callG_pure (fun e => ⟨?_, c131 _⟩) ?_); (next => repeat' first | exact flags_n | refine flags_c (by first | rfl | assumption) ?_); simp (disch := omega) only [patsV, madeA1, intsV, strs, go_sem, wrap64_id, Int.tdiv_eq_ediv_of_nonneg, Int.tmod_eq_emod_of_nonneg])
    | ((first | refine fnQ_pure1 ?_ ?_ | refine fnQ_pure0 ?_ ?_); (next => repeat' first | exact rvs_n | refine rvs_t ?_ | (simp [go_sem]; done)); simp only [go_sem]; (first | exact VLe.refl _ | refine VLe_int ?_ | refine VLe_bool ?_ | refine VLe_str ?_ | skip))
    | (with_reducible refine And.intro ?_ ?_)
    | with_reducible intro _
  all_goals first
    | omega
    | (rename_i hx; revert hx; simp; done)
    | (simp; done)
    | skip
  refine loop_of (T := fun i : Nat × Nat × AObj × AObj => spar 56 [(6, .osl (h.length + 2) i.2.1 1 0 (ptAt own lv i.1).length), (7, .osl (h.length + 3) i.2.1 1 0 (ptHi own.length lv i.1).length), (8, strs own), (9, .int .i64 (offN own i.1)), (16, intsV lv), (17, .int .i64 lv.length), (18, .int .i64 i.1)])
    (H := fun i => h ++ [.emp 1, .emp 1, ownO i.2.1 3 (intsC (ptAt own lv i.1)), ownO i.2.1 3 (intsC (ptHi own.length lv i.1)), i.2.2.1, .emp 0, i.2.2.2, .emp 0])
    (inv := fun i => i.1 ≤ lv.length ∧ site [i.2.2.1] 0 = true ∧ site [i.2.2.2] 0 = true) (m := fun i => lv.length - i.1) (0, 1, .emp 0, .emp 0) ⟨by simp, rfl, rfl⟩ (Wk.temps ?_) ?_
  · (simp only [strs, patsV, intsV, offN_zero, spar, List.foldl, List.replicate, go_sem, VLes_nil, VLes_cons, VLe_undef_iff, VLe_self]; try (repeat' first | (with_reducible refine And.intro ?_ ?_) | (refine VLe_int ?_; omega) | (refine VLe_bool ?_; rfl) | exact VLe.refl _))
  rintro ⟨i, v, O1, O2⟩ ⟨i1, i2, i3⟩ K hK
  simp only at i1 i2 i3 hK
  have i2' : ∀ m, site (O1 :: m) 0 = true := fun _ => i2
  have i3' : ∀ m, site (O2 :: m) 0 = true := fun _ => i3
  have q1 := ptIdx_le own.length lv i
  have q2 := ptAt_len own lv i
  have q3 := ptHi_len own.length lv i
  have e1 := intsC_len (ptAt own lv i)
  have e2 := intsC_len (ptHi own.length lv i)
  have f1 : List.take (ptAt own lv i).length (intsC (ptAt own lv i)) = intsC (ptAt own lv i) := List.take_of_length_le (by omega)
  have f2 : List.take (ptHi own.length lv i).length (intsC (ptHi own.length lv i)) = intsC (ptHi own.length lv i) := List.take_of_length_le (by omega)
  by_cases hi : i < lv.length
  · have ho := offN_succ (own := own) (i := i) (by omega)
    have hle := hof (i + 1)
    cases hb : hitP own.length lv i with
    | true =>
      have r1 := ptAt_t hb
      have r2 := ptHi_t hb
      unfold hitP at hb
      simp only [Bool.and_eq_true, decide_eq_true_eq] at hb
      have k1 : ((lv.getD i 0).tmod 2 = 1) = True := eq_true hb.1
      have k2 : (1 ≤ (i : Int)) = True := eq_true (by omega)
      have k3 : (2 ≤ (own.length : Int) - (i : Int) - 1) = True := eq_true (by omega)
      simp (disch := omega) only [spar, List.foldl, List.replicate, strs, intsV, i2', i3', k1, k2, k3, madeA1, e1, e2, f1, f2, go_sem, wrap64_id, Int.tdiv_eq_ediv_of_nonneg, Int.tmod_eq_emod_of_nonneg]
      repeat' first
        | ((first | refine fnQ_pure1 ?_ ?_ | refine fnQ_pure0 ?_ ?_); (next => repeat' first | exact rvs_n | refine rvs_t ?_ | (simp [go_sem]; done)); simp only [go_sem]; (first | exact VLe.refl _ | refine VLe_int ?_ | refine VLe_bool ?_ | refine VLe_str ?_ | skip))
        | (with_reducible refine And.intro ?_ ?_)
        | with_reducible intro _
      all_goals first
        | omega
        | (rename_i hx; revert hx; simp; done)
        | (simp; done)
        | skip
      have hoi : (offN own i : Int) + ((own.getD i []).length : Int) = ((offN own (i + 1) : Nat) : Int) := by omega
      have l1 : (ptAt own lv i).length + 1 = (ptAt own lv (i + 1)).length := by rw [r1]; simp
      have l2 : (ptHi own.length lv i).length + 1 = (ptHi own.length lv (i + 1)).length := by rw [r2]; simp
      rw [hoi, ← intsC_snoc, ← intsC_snoc, ← r1, ← r2, l1, l2]
      refine hK _ _ (i + 1, v + 1, .mem (verOf (some O1) + 1) 3 [.int .i64 (offN own (i + 1) : Nat)], .mem (verOf (some O2) + 1) 3 [.int .i64 (lv.getD i 0)]) ⟨by simp only; omega, rfl, rfl⟩ (by simp only; omega) (Wk.temps ?_)
      (simp only [strs, intsV, spar, List.foldl, List.replicate, go_sem, VLes_nil, VLes_cons, VLe_undef_iff, VLe_self]; try (repeat' first | (with_reducible refine And.intro ?_ ?_) | (refine VLe_int ?_; omega) | (refine VLe_bool ?_; rfl) | exact VLe.refl _))
    | false =>
      have r1 := ptAt_f hb
      have r2 := ptHi_f hb
      simp (disch := omega) only [spar, List.foldl, List.replicate, strs, intsV, i2', i3', madeA1, go_sem, wrap64_id, Int.tdiv_eq_ediv_of_nonneg, Int.tmod_eq_emod_of_nonneg]
      repeat' first
        | ((first | refine fnQ_pure1 ?_ ?_ | refine fnQ_pure0 ?_ ?_); (next => repeat' first | exact rvs_n | refine rvs_t ?_ | (simp [go_sem]; done)); simp only [go_sem]; (first | exact VLe.refl _ | refine VLe_int ?_ | refine VLe_bool ?_ | refine VLe_str ?_ | skip))
        | (with_reducible refine And.intro ?_ ?_)
        | with_reducible intro _
      all_goals first
        | omega
        | (rename_i hx; revert hx; simp; done)
        | (simp; done)
        | skip
      · rename_i hx
        exfalso
        have : hitP own.length lv i = true := by
          unfold hitP
          simp only [Bool.and_eq_true, decide_eq_true_eq]
          exact ⟨hx.1.1, by omega, by omega⟩
        rw [this] at hb
        cases hb
      · rw [← r1, ← r2]
        refine hK _ _ (i + 1, v, O1, O2) ⟨by simp only; omega, i2, i3⟩ (by simp only; omega) (Wk.temps ?_)
        (simp only [strs, intsV, spar, List.foldl, List.replicate, go_sem, VLes_nil, VLes_cons, VLe_undef_iff, VLe_self]; try (repeat' first | (with_reducible refine And.intro ?_ ?_) | (refine VLe_int ?_; omega) | (refine VLe_bool ?_; rfl) | exact VLe.refl _))
  · have e : i = own.length - 1 := by omega
    subst e
    simp (disch := omega) only [spar, List.foldl, List.replicate, strs, intsV, go_sem, wrap64_id, Int.tdiv_eq_ediv_of_nonneg, Int.tmod_eq_emod_of_nonneg]
    repeat' first
      | ((first | refine fnQ_pure1 ?_ ?_ | refine fnQ_pure0 ?_ ?_); (next => repeat' first | exact rvs_n | refine rvs_t ?_ | (simp [go_sem]; done)); simp only [go_sem]; (first | exact VLe.refl _ | refine VLe_int ?_ | refine VLe_bool ?_ | refine VLe_str ?_ | skip))
      | (with_reducible refine And.intro ?_ ?_)
      | with_reducible intro _
    all_goals first
      | omega
      | (rename_i hx; revert hx; simp; done)
      | (simp; done)
      | skip
    exact VLe_tup ⟨slOf_intsN, slOf_ints, trivial⟩
end HY
end

section
set_option linter.all false
set_option linter.unusedSimpArgs false
set_option linter.unusedVariables false
set_option linter.unusedSectionVars false
open Go Go.Proofs AF HY
namespace HY
set_option maxRecDepth 100000
theorem firstE_zero {ps : List Pat} (h : firstE ps = 0) : ∀ p ∈ ps, checkPat p = 0 := by
  induction ps with
  | nil => intro p hp; simp at hp
  | cons a r ih =>
    simp only [firstE] at h
    split at h
    · rename_i h0
      intro p hp
      rcases List.mem_cons.1 hp with rfl | hp
      · exact h0
      · exact ih h p hp
    · rename_i h0; exact absurd h h0
theorem checkPat_lev {p : Pat} (h : checkPat p = 0) : p.levels.length = (clus p.letters).length + 1 := by
  unfold checkPat at h
  repeat' split at h
  all_goals first
    | (cases h; done)
    | (rename_i hx _; simpa using hx)
    | skip
theorem wf_of_check {ps : List Pat} (h : checkPats ps = 0) : wfPats ps := by
  unfold checkPats at h
  split at h
  · cases h
  intro i hi
  rw [clus_fold_len]
  refine checkPat_lev (firstE_zero h _ ?_)
  rw [List.getD_eq_getElem?_getD, List.getElem?_eq_getElem hi]
  exact List.getElem_mem hi
theorem word_pos {w : List UInt8} (h : isWord w = true) : 0 < (clus w).length := by
  apply clus_pos
  intro e
  subst e
  simp [isWord] at h
theorem startE_zero {ps : List Pat} {w : List UInt8} (h : startE ps w = 0) : wfPats ps ∧ isWord w = true := by
  unfold startE at h
  split at h
  · rename_i h1
    split at h
    · rename_i h2; exact ⟨wf_of_check h1, h2⟩
    · cases h
  · cases h
def pointsR (ps : List Pat) (w : List UInt8) : List Int := if startE ps w = 0 then ptAt (clus w) (levelsOf ps w) ((clus w).length - 1) else []
theorem flag_intsV (L : List Int) : (intsV L).flag = true := rfl
theorem strip_intsV (L : List Int) : (intsV L).strip = intsV L := rfl
theorem frz_intsV {fz : Nat → Bool} {h : List AObj} {n : Nat} (L : List Int) : frz fz h (n + 1) (intsV L) = intsV L := rfl
theorem rei_intsV {fz : Nat → Bool} {h : List AObj} {n : Nat} (L : List Int) : rei fz h (n + 1) (intsV L) = intsV L := rfl
theorem flag_strs (L : List (List UInt8)) : (strs L).flag = true := rfl
theorem strip_strs (L : List (List UInt8)) : (strs L).strip = strs L := rfl
theorem frz_strs {fz : Nat → Bool} {h : List AObj} {n : Nat} (L : List (List UInt8)) : frz fz h (n + 1) (strs L) = strs L := rfl
theorem rei_strs {fz : Nat → Bool} {h : List AObj} {n : Nat} (L : List (List UInt8)) : rei fz h (n + 1) (strs L) = strs L := rfl
theorem flag_patsV (L : List Pat) : (patsV L).flag = true := rfl
theorem strip_patsV (L : List Pat) : (patsV L).strip = patsV L := rfl
theorem frz_patsV {fz : Nat → Bool} {h : List AObj} {n : Nat} (L : List Pat) : frz fz h (n + 1) (patsV L) = patsV L := rfl
theorem rei_patsV {fz : Nat → Bool} {h : List AObj} {n : Nat} (L : List Pat) : rei fz h (n + 1) (patsV L) = patsV L := rfl
theorem flag_intsN (L : List Int) : (intsN L).flag = true := by unfold intsN; split <;> rfl
theorem strip_intsN (L : List Int) : (intsN L).strip = intsN L := by unfold intsN; split <;> rfl
theorem frz_intsN {fz : Nat → Bool} {h : List AObj} {n : Nat} (L : List Int) : frz fz h (n + 1) (intsN L) = intsN L := by unfold intsN; split <;> rfl
theorem rei_intsN {fz : Nat → Bool} {h : List AObj} {n : Nat} (L : List Int) : rei fz h (n + 1) (intsN L) = intsN L := by unfold intsN; split <;> rfl
attribute [go_sem] flag_intsV strip_intsV frz_intsV rei_intsV flag_strs strip_strs frz_strs rei_strs flag_patsV strip_patsV frz_patsV rei_patsV flag_intsN strip_intsN frz_intsN rei_intsN
theorem t89 (ps : List Pat) (w : List UInt8) (h : List AObj) (hok : okPats ps) (hw : w.length ≤ 1000000) : ACalls Tryd.prog 19 [patsV ps, .str w] h (.tup [intsN (pointsR ps w), .int .i64 (startE ps w)]) h := by
  have c112 := fun h => t112 ps w h hok (by omega)
  unfold pointsR
  by_cases g : startE ps w = 0
  · obtain ⟨g1, g2⟩ := startE_zero g
    have c113 := fun h => t113 ps w h hok hw (word_pos g2) g1
    rw [if_pos g]
    rw [g] at c112 ⊢
    refine acalls_of fn19d (by simp) ?_
    simp only [List.length_cons, List.length_nil, Nat.reduceAdd, Nat.reduceSub, List.replicate, List.cons_append, List.nil_append, List.append_nil]
    simp (disch := omega) only [c19d, go_sem, wrap64_id, Int.tdiv_eq_ediv_of_nonneg, Int.tmod_eq_emod_of_nonneg]
    repeat' first
      | ((first | refine callA_pure (c112 _) ?_ ?_ | refine callA_pure (c113 _) ?_ ?_); (next => repeat' first | exact flags_n | refine flags_c (by first | rfl | assumption) ?_); simp (disch := omega) only [go_sem, wrap64_id, Int.tdiv_eq_ediv_of_nonneg, Int.tmod_eq_emod_of_nonneg])
      | ((first | refine callG_pure (fun e => ⟨?_, c112 _⟩) ?_ | refine callG_pure (fun e => ⟨?_, c113 _⟩) ?_); (next => repeat' first | exact flags_n | refine flags_c (by first | rfl | assumption) ?_); simp (disch := omega) only [go_sem, wrap64_id, Int.tdiv_eq_ediv_of_nonneg, Int.tmod_eq_emod_of_nonneg])
      | ((first | refine fnQ_pure1 ?_ ?_ | refine fnQ_pure0 ?_ ?_); (next => repeat' first | exact rvs_n | refine rvs_t ?_ | (simp [go_sem]; done)); simp only [go_sem]; (first | exact VLe.refl _ | refine VLe_int ?_ | refine VLe_bool ?_ | refine VLe_str ?_ | skip))
      | (with_reducible refine And.intro ?_ ?_)
      | with_reducible intro _
    all_goals first
      | omega
      | (rename_i hx; revert hx; simp; done)
      | (simp; done)
      | skip
  · rw [if_neg g, intsN_nil]
    refine acalls_of fn19d (by simp) ?_
    simp only [List.length_cons, List.length_nil, Nat.reduceAdd, Nat.reduceSub, List.replicate, List.cons_append, List.nil_append, List.append_nil]
    simp (disch := omega) only [c19d, go_sem, wrap64_id, Int.tdiv_eq_ediv_of_nonneg, Int.tmod_eq_emod_of_nonneg]
    repeat' first
      | ((first | refine callA_pure (c112 _) ?_ ?_); (next => repeat' first | exact flags_n | refine flags_c (by first | rfl | assumption) ?_); simp (disch := omega) only [g, go_sem, wrap64_id, Int.tdiv_eq_ediv_of_nonneg, Int.tmod_eq_emod_of_nonneg])
      | ((first | refine callG_pure (fun e => ⟨?_, c112 _⟩) ?_); (next => repeat' first | exact flags_n | refine flags_c (by first | rfl | assumption) ?_); simp (disch := omega) only [g, go_sem, wrap64_id, Int.tdiv_eq_ediv_of_nonneg, Int.tmod_eq_emod_of_nonneg])
      | ((first | refine fnQ_pure1 ?_ ?_ | refine fnQ_pure0 ?_ ?_); (next => repeat' first | exact rvs_n | refine rvs_t ?_ | (simp [go_sem]; done)); simp only [go_sem]; (first | exact VLe.refl _ | refine VLe_int ?_ | refine VLe_bool ?_ | refine VLe_str ?_ | skip))
      | (with_reducible refine And.intro ?_ ?_)
      | with_reducible intro _
    all_goals first
      | omega
      | (rename_i hx; revert hx; simp; done)
      | (simp; done)
      | skip
theorem atS (own : List (List UInt8)) (lv : List Int) {i : Nat} (h : i = 0 ∨ hitP own.length lv (i - 1) = false) : ptAt own lv (i + 1 - 1) = ptAt own lv (i - 1) := by
  cases i with
  | zero => rfl
  | succ i =>
    rcases h with h | h
    · omega
    · exact ptAt_f h
set_option maxHeartbeats 4000000 in
theorem t94 (ps : List Pat) (w : List UInt8) (h : List AObj) (hok : okPats ps) (hw : w.length ≤ 1000000) : ACalls Tryd.prog 29 [patsV ps, .str w] h (.tup [intsV (pointsR ps w), .int .i64 (startE ps w)]) h := by
  have c119 := fun h => t119 ps w h hok (by omega)
  unfold pointsR
  by_cases g : startE ps w = 0
  case neg =>
    rw [if_neg g]
    refine acalls_of fn29d (by simp) ?_
    simp only [List.length_cons, List.length_nil, Nat.reduceAdd, Nat.reduceSub, List.replicate, List.cons_append, List.nil_append, List.append_nil]
    simp (disch := omega) only [c29d, go_sem, wrap64_id, Int.tdiv_eq_ediv_of_nonneg, Int.tmod_eq_emod_of_nonneg]
    repeat' first
      | ((first | refine callA_pure (c119 _) ?_ ?_); (next => repeat' first | exact flags_n | refine flags_c (by first | rfl | assumption) ?_); simp (disch := omega) only [g, go_sem, wrap64_id, Int.tdiv_eq_ediv_of_nonneg, Int.tmod_eq_emod_of_nonneg])
      | ((first | refine callG_pure (fun e => ⟨?_, c119 _⟩) ?_); (next => repeat' first | exact flags_n | refine flags_c (by first | rfl | assumption) ?_); simp (disch := omega) only [g, go_sem, wrap64_id, Int.tdiv_eq_ediv_of_nonneg, Int.tmod_eq_emod_of_nonneg])
      | ((first | refine fnQ_pure1 ?_ ?_ | refine fnQ_pure0 ?_ ?_); (next => repeat' first | exact rvs_n | refine rvs_t ?_ | (simp [go_sem]; done)); simp only [go_sem]; (first | exact VLe.refl _ | refine VLe_int ?_ | refine VLe_bool ?_ | refine VLe_str ?_ | skip))
      | (with_reducible refine And.intro ?_ ?_)
      | with_reducible intro _
    all_goals first
      | omega
      | (rename_i hx; revert hx; simp; done)
      | (simp; done)
      | skip
    exact VLe_tup ⟨VLe_nl, VLe.refl _, trivial⟩
  obtain ⟨g1, g2⟩ := startE_zero g
  rw [if_pos g]
  rw [g] at c119 ⊢
  have hw0 := word_pos g2
  have c120 := fun h => t120 ps w h hok hw (by rw [clus_fold_len]; exact hw0) g1
  have c71 := fun h => t71 w h (by omega)
  have hll := levelsOf_len ps w
  have hcl := clus_len w
  have hof := fun i => offN_le (clus w) i
  rw [clus_join] at hof
  obtain ⟨lv, hlv⟩ : ∃ x, x = levelsOf ps w := ⟨_, rfl⟩
  obtain ⟨own, hown⟩ : ∃ x, x = clus w := ⟨_, rfl⟩
  rw [← hlv] at c120 hll ⊢
  rw [← hown] at c71 hll hcl hof hw0 ⊢
  refine acalls_of fn29d (by simp) ?_
  simp only [List.length_cons, List.length_nil, Nat.reduceAdd, Nat.reduceSub, List.replicate, List.cons_append, List.nil_append, List.append_nil]
  simp (disch := omega) only [c29d, go_sem, wrap64_id, Int.tdiv_eq_ediv_of_nonneg, Int.tmod_eq_emod_of_nonneg]
  repeat' first
    | ((first | refine callA_pure (c119 _) ?_ ?_ | refine callA_pure (c120 _) ?_ ?_ | refine callA_pure (c71 _) ?_ ?_); (next => repeat' first | exact flags_n | refine flags_c (by first | rfl | assumption) ?_); simp (disch := omega) only [go_sem, wrap64_id, Int.tdiv_eq_ediv_of_nonneg, Int.tmod_eq_emod_of_nonneg])
    | ((first | refine callG_pure (fun e => ⟨?_, c119 _⟩) ?_ | refine callG_pure (fun e => ⟨?_, c120 _⟩) ?_ | refine callG_pure (fun e => ⟨?_, c71 _⟩) ?_); (next => repeat' first | exact flags_n | refine flags_c (by first | rfl | assumption) ?_); simp (disch := omega) only [go_sem, wrap64_id, Int.tdiv_eq_ediv_of_nonneg, Int.tmod_eq_emod_of_nonneg])
    | ((first | refine fnQ_pure1 ?_ ?_ | refine fnQ_pure0 ?_ ?_); (next => repeat' first | exact rvs_n | refine rvs_t ?_ | (simp [go_sem]; done)); simp only [go_sem]; (first | exact VLe.refl _ | refine VLe_int ?_ | refine VLe_bool ?_ | refine VLe_str ?_ | skip))
    | (with_reducible refine And.intro ?_ ?_)
    | with_reducible intro _
  all_goals first
    | omega
    | (rename_i hx; revert hx; simp; done)
    | (simp; done)
    | skip
  refine loop_of (T := fun i : Nat × Nat × AObj => spar 59 [(7, strs own), (8, intsV lv), (9, .osl (h.length + 1) i.2.1 1 0 (ptAt own lv (i.1 - 1)).length), (10, .int .i64 (offN own i.1)), (11, .int .i64 i.1)])
    (H := fun i => h ++ [.emp 1, ownO i.2.1 3 (intsC (ptAt own lv (i.1 - 1))), i.2.2, .emp 0])
    (inv := fun i => i.1 ≤ own.length ∧ site [i.2.2] 0 = true) (m := fun i => own.length - i.1) (0, 1, .emp 0) ⟨by simp, rfl⟩ (Wk.temps ?_) ?_
  · (simp only [offN_zero, spar, List.foldl, List.replicate, go_sem, VLes_nil, VLes_cons, VLe_undef_iff, VLe_self]; try (repeat' first | (with_reducible refine And.intro ?_ ?_) | (refine VLe_int ?_; omega) | (refine VLe_bool ?_; rfl) | exact VLe.refl _))
  rintro ⟨i, v, O1⟩ ⟨i1, i2⟩ K hK
  simp only at i1 i2 hK
  have i2' : ∀ m, site (O1 :: m) 0 = true := fun _ => i2
  have q1 := ptIdx_le own.length lv (i - 1)
  have q2 := ptAt_len own lv (i - 1)
  have e1 := intsC_len (ptAt own lv (i - 1))
  have f1 : List.take (ptAt own lv (i - 1)).length (intsC (ptAt own lv (i - 1))) = intsC (ptAt own lv (i - 1)) := List.take_of_length_le (by omega)
  by_cases hi : i < own.length
  · have ho := offN_succ (own := own) (i := i) hi
    have hle := hof (i + 1)
    have hoi : (offN own i : Int) + ((own.getD i []).length : Int) = ((offN own (i + 1) : Nat) : Int) := by omega
    have hx : ((i : Int) - 1).toNat = i - 1 := by omega
    by_cases hb : 1 ≤ i ∧ hitP own.length lv (i - 1) = true
    · obtain ⟨hb0, hb⟩ := hb
      have r1 := ptAt_t hb
      rw [show i - 1 + 1 = i by omega] at r1
      unfold hitP at hb
      simp only [Bool.and_eq_true, decide_eq_true_eq] at hb
      have k1 : ((lv.getD (i - 1) 0).tmod 2 = 1) = True := eq_true hb.1
      have k2 : (2 ≤ (i : Int)) = True := eq_true (by omega)
      have k3 : ((i : Int) ≤ (own.length : Int) - 2) = True := eq_true (by omega)
      simp (disch := omega) only [spar, List.foldl, List.replicate, strs, intsV, i2', k1, k2, k3, madeA1, e1, f1, hx, go_sem, wrap64_id, Int.tdiv_eq_ediv_of_nonneg, Int.tmod_eq_emod_of_nonneg]
      repeat' first
        | ((first | refine fnQ_pure1 ?_ ?_ | refine fnQ_pure0 ?_ ?_); (next => repeat' first | exact rvs_n | refine rvs_t ?_ | (simp [go_sem]; done)); simp only [go_sem]; (first | exact VLe.refl _ | refine VLe_int ?_ | refine VLe_bool ?_ | refine VLe_str ?_ | skip))
        | (with_reducible refine And.intro ?_ ?_)
        | with_reducible intro _
      all_goals first
        | omega
        | (rename_i hx; revert hx; simp; done)
        | (simp; done)
        | skip
      have l1 : (ptAt own lv (i - 1)).length + 1 = (ptAt own lv (i + 1 - 1)).length := by rw [Nat.add_sub_cancel, r1]; simp
      have l2 : intsC (ptAt own lv (i - 1)) ++ [.int .i64 (offN own i : Nat)] = intsC (ptAt own lv (i + 1 - 1)) := by rw [← intsC_snoc, Nat.add_sub_cancel, r1]
      rw [hoi, l1, l2]
      refine hK _ _ (i + 1, v + 1, .mem (verOf (some O1) + 1) 3 [.int .i64 (offN own i : Nat)]) ⟨by simp only; omega, rfl⟩ (by simp only; omega) (Wk.temps ?_)
      (simp only [strs, intsV, spar, List.foldl, List.replicate, go_sem, VLes_nil, VLes_cons, VLe_undef_iff, VLe_self]; try (repeat' first | (with_reducible refine And.intro ?_ ?_) | (refine VLe_int ?_; omega) | (refine VLe_bool ?_; rfl) | exact VLe.refl _))
    · have r1 := atS own lv (i := i) (by
        by_cases h0 : i = 0
        · exact .inl h0
        · right
          cases hc : hitP own.length lv (i - 1) with
          | false => rfl
          | true => exact absurd ⟨by omega, hc⟩ hb)
      simp (disch := omega) only [spar, List.foldl, List.replicate, strs, intsV, i2', madeA1, e1, f1, hx, go_sem, wrap64_id, Int.tdiv_eq_ediv_of_nonneg, Int.tmod_eq_emod_of_nonneg]
      repeat' first
        | ((first | refine fnQ_pure1 ?_ ?_ | refine fnQ_pure0 ?_ ?_); (next => repeat' first | exact rvs_n | refine rvs_t ?_ | (simp [go_sem]; done)); simp only [go_sem]; (first | exact VLe.refl _ | refine VLe_int ?_ | refine VLe_bool ?_ | refine VLe_str ?_ | skip))
        | (with_reducible refine And.intro ?_ ?_)
        | with_reducible intro _
      all_goals first
        | omega
        | (rename_i hx; revert hx; simp; done)
        | (simp; done)
        | skip
      · rename_i hx
        exfalso
        refine hb ⟨by omega, ?_⟩
        unfold hitP
        simp only [Bool.and_eq_true, decide_eq_true_eq]
        exact ⟨hx.2, by omega, by omega⟩
      · rw [hoi, ← r1]
        refine hK _ _ (i + 1, v, O1) ⟨by simp only; omega, i2⟩ (by simp only; omega) (Wk.temps ?_)
        (simp only [strs, intsV, spar, List.foldl, List.replicate, go_sem, VLes_nil, VLes_cons, VLe_undef_iff, VLe_self]; try (repeat' first | (with_reducible refine And.intro ?_ ?_) | (refine VLe_int ?_; omega) | (refine VLe_bool ?_; rfl) | exact VLe.refl _))
  · have e : i = own.length := by omega
    subst e
    simp (disch := omega) only [spar, List.foldl, List.replicate, strs, intsV, go_sem, wrap64_id, Int.tdiv_eq_ediv_of_nonneg, Int.tmod_eq_emod_of_nonneg]
    repeat' first
      | ((first | refine fnQ_pure1 ?_ ?_ | refine fnQ_pure0 ?_ ?_); (next => repeat' first | exact rvs_n | refine rvs_t ?_ | (simp [go_sem]; done)); simp only [go_sem]; (first | exact VLe.refl _ | refine VLe_int ?_ | refine VLe_bool ?_ | refine VLe_str ?_ | skip))
      | (with_reducible refine And.intro ?_ ?_)
      | with_reducible intro _
    all_goals first
      | omega
      | (rename_i hx; revert hx; simp; done)
      | (simp; done)
      | skip
    exact VLe_tup ⟨slOf_ints, VLe.refl _, trivial⟩
end HY
end

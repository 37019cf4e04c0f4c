import Derived.Test.YtonpflblcnpegaaDoorE36
set_option linter.all false
set_option linter.unusedSimpArgs false
set_option linter.unusedVariables false
set_option linter.unusedSectionVars false
open Go Go.Proofs AF HY
namespace HY
set_option maxRecDepth 100000
theorem foldB_idem (c : UInt8) : foldB (foldB c) = foldB c := by
  apply UInt8.toNat_inj.1
  have h1 := foldB_nat c
  have h2 := foldB_nat (foldB c)
  have hc := c.toNat_lt
  split at h1 <;> split at h2 <;> omega
theorem fold_idem (s : List UInt8) : fold (fold s) = fold s := by
  unfold fold
  rw [List.map_map]
  exact List.map_congr_left (fun c _ => foldB_idem c)
def foldP (p : Pat) : Pat := ⟨fold p.letters, p.levels⟩
theorem units_fold (w : List UInt8) : unitsOf (fold w) = unitsOf w := by unfold unitsOf; rw [fold_idem]
theorem addPat_fold (l : List (List UInt8)) (all : List Int) (p : Pat) : addPat l all (foldP p) = addPat l all p := by unfold addPat foldP; simp only [fold_idem]
theorem levelsOf_fold (ps : List Pat) (w : List UInt8) : levelsOf (ps.map foldP) (fold w) = levelsOf ps w := by
  unfold levelsOf allLevels
  rw [units_fold, List.foldl_map]
  simp only [addPat_fold]
theorem levelsOf_foldw (ps : List Pat) (w : List UInt8) : levelsOf ps (fold w) = levelsOf ps w := by unfold levelsOf; rw [units_fold]
theorem foldB_dot (c : UInt8) : (foldB c = 46) ↔ (c = 46) := by
  rw [← UInt8.toNat_inj, ← UInt8.toNat_inj]
  have h1 := foldB_nat c
  have hc := c.toNat_lt
  have e : (46 : UInt8).toNat = 46 := rfl
  rw [e]
  split at h1 <;> omega
theorem pre_fold (s : List UInt8) : hasPre (fold s) [46] = hasPre s [46] := by
  rw [hasPre_dot, hasPre_dot, fold_len]
  by_cases h : 0 < s.length
  · rw [ch_fold s 0 h]
    congr 1
    exact decide_eq_decide.2 (foldB_dot _)
  · simp [h]
theorem suf_fold (s : List UInt8) : hasSuf (fold s) [46] = hasSuf s [46] := by
  rw [hasSuf_dot, hasSuf_dot, fold_len]
  by_cases h : 0 < s.length
  · rw [ch_fold s _ (by omega)]
    congr 1
    exact decide_eq_decide.2 (foldB_dot _)
  · simp [h]
theorem inner_fold (s : List UInt8) : inner (fold s) = fold (inner s) := by
  have h1 : trimPre (fold s) [46] = fold (trimPre s [46]) := by
    unfold trimPre
    rw [pre_fold]
    split
    · unfold fold; rw [List.map_drop]
    · rfl
  unfold inner
  rw [h1]
  generalize trimPre s [46] = r
  unfold trimSuf
  rw [suf_fold, fold_len]
  split
  · unfold fold; rw [List.map_take]
  · rfl
theorem head_fold (c : List UInt8) : kind (ch (fold c) 0) = kind (ch c 0) := by
  cases c with
  | nil => rfl
  | cons a r => rw [ch_fold _ 0 (by simp), kind_foldB]
theorem checkC_fold (s : List UInt8) : checkC (fold s) = checkC s := by
  unfold checkC
  rw [fold_len, clus_fold, List.any_map]
  have : (badHead ∘ fold) = badHead := by
    funext c
    unfold Function.comp badHead
    rw [head_fold]
  rw [this]
theorem any_fold {p : UInt8 → Bool} (hp : ∀ c, p (foldB c) = p c) (s : List UInt8) : (fold s).any p = s.any p := by
  unfold fold
  rw [List.any_map]
  congr 1
  funext c
  exact hp c
theorem fold_nil (s : List UInt8) : (fold s = []) ↔ (s = []) := by unfold fold; exact List.map_eq_nil_iff
theorem checkPat_fold (p : Pat) : checkPat (foldP p) = checkPat p := by
  unfold checkPat foldP
  simp only
  rw [fold_len, inner_fold, any_fold (p := fun c => !onlyC c) (fun c => by unfold onlyC; rw [kind_foldB]), checkC_fold, clus_fold_len, pre_fold, suf_fold]
  simp only [fold_nil]
theorem isWord_fold (w : List UInt8) : isWord (fold w) = isWord w := by
  unfold isWord
  rw [fold_len, checkC_fold, head_fold, any_fold (fun c => by rw [kind_foldB])]
theorem check_fold {ps : List Pat} (h : Fine ps) : checkPats (ps.map foldP) = 0 := by
  refine check_of (by rw [List.length_map]; have := h.len; omega) (fun p hp => ?_)
  rw [List.mem_map] at hp
  obtain ⟨x, hx, rfl⟩ := hp
  rw [checkPat_fold]
  exact h.all x hx
theorem okPats_fold {ps : List Pat} (h : okPats ps) : okPats (ps.map foldP) := by
  refine ⟨by rw [List.length_map]; exact h.1, fun i hi => ?_⟩
  rw [List.length_map] at hi
  have h2 := h.2 i hi
  rw [List.getD_eq_getElem?_getD, List.getElem?_eq_getElem hi] at h2
  rw [List.getD_eq_getElem?_getD, List.getElem?_map, List.getElem?_eq_getElem hi]
  simp only [Option.map_some, Option.getD_some] at h2 ⊢
  unfold foldP
  simp only [fold_len]
  exact h2
theorem offN_fold (own : List (List UInt8)) (i : Nat) : offN (own.map fold) i = offN own i := by
  unfold offN
  rw [← List.map_take, List.length_flatten, List.length_flatten, List.map_map]
  congr 1
  exact List.map_congr_left (fun c _ => fold_len c)
theorem points_fold (ps : List Pat) (w : List UInt8) (h : startE ps w = 0) (h2 : startE ps (fold w) = 0) : pointsR ps (fold w) = pointsR ps w := by
  unfold pointsR
  rw [if_pos h, if_pos h2, levelsOf_foldw, clus_fold, List.length_map]
  unfold ptAt
  rw [List.length_map]
  simp only [offN_fold]
end HY

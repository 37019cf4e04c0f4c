import Derived.Test.YtonpflblcnpegaaDoorE32
set_option linter.all false
set_option linter.unusedSimpArgs false
set_option linter.unusedVariables false
set_option linter.unusedSectionVars false
open Go Go.Proofs AF HY
namespace HY
set_option maxRecDepth 100000
def exQ : List Pat := exP ++ [⟨[100, 101], [0, 3, 0]⟩]
def wX : List UInt8 := [120, 97, 98, 99, 100, 101]
def wC : List UInt8 := [99, 100, 101]
def txt : List UInt8 := [97, 49, 98, 32, 46, 99, 50, 100, 51, 101, 46]
theorem a_parse : parseB txt = exP := by decide +kernel
theorem a_check : checkPats exP = 0 := by decide +kernel
theorem a_split : splitL 32 txt = [[97, 49, 98], [46, 99, 50, 100, 51, 101, 46]] := by decide +kernel
instance (s : List UInt8) : Decidable (okPart s) := by unfold okPart; infer_instance
theorem a_part : ∀ x ∈ splitL 32 txt, okPart x := by decide +kernel
theorem a_lv : levelsR exQ wX = [0, 1, 0, 0, 3] := by decide +kernel
theorem a_st : startE exQ wX = 0 ∧ startE exP wX = 0 ∧ startE exP wC = 0 := by decide +kernel
theorem a_sp : splitR exP wX = [[120, 97], [98, 99, 100, 101]] := by decide +kernel
theorem a_lc : levelsR exP wC = [2, 3] := by decide +kernel
theorem a_pc : pointsR exP wC = [] := by decide +kernel
theorem ok_of_small {ps : List Pat} (h : ps.length ≤ 8 ∧ ∀ p ∈ ps, p.letters.length ≤ 100 ∧ p.levels.length ≤ 100) : okPats ps := by
  refine ⟨by omega, fun i hi => ?_⟩
  have := h.2 _ (List.getElem_mem hi)
  rw [List.getD_eq_getElem?_getD, List.getElem?_eq_getElem hi]
  simp
  omega
theorem ok_exP : okPats exP := ok_of_small (by decide +kernel)
theorem ok_exQ : okPats exQ := ok_of_small (by decide +kernel)
end HY

/-
  AFN: guarded operations that change objects.
-/
import Derived.Test.YtpnjpjibccmkiaaAfM
set_option linter.all false
set_option linter.unusedSimpArgs false
set_option linter.unusedVariables false
set_option linter.unusedSectionVars false
namespace AF
open Go
section
variable {P : Program} {b : Nat} {r : List RO} {K : Nx} {t : List AV} {h : List AObj} {d : Option Nat} {xs : List X} {j : Nat} {u : Bool}
theorem wg_bslc {i z n : Nat} {ty : TypeId} {zs : List AV} {ps : List (Nat × Nat)} : opsA P b (⟨d, some (j, u), .bslc i z n ty zs ps, xs⟩ :: r) K t h =
    (guardOk (getA j t) = true ∧ (guardA (getA j t) u = true → flags (evs t xs) ∧ effE b h (.bslc i z n ty zs ps) (strips (evs t xs)) t d (opsA P b r K)) ∧ (guardA (getA j t) u = false → opsA P b r K (putA t d .undef) h)) := by simp only [opsA, stepO, stepB, R.kd]
theorem wg_box {i : Nat} {ty : TypeId} : opsA P b (⟨d, some (j, u), .box i ty, xs⟩ :: r) K t h =
    (guardOk (getA j t) = true ∧ (guardA (getA j t) u = true → flags (evs t xs) ∧ effE b h (.box i ty) (strips (evs t xs)) t d (opsA P b r K)) ∧ (guardA (getA j t) u = false → opsA P b r K (putA t d .undef) h)) := by simp only [opsA, stepO, stepB, R.kd]
theorem wg_app {i z m : Nat} {ty : TypeId} : opsA P b (⟨d, some (j, u), .app i z ty m, xs⟩ :: r) K t h =
    (guardOk (getA j t) = true ∧ (guardA (getA j t) u = true → flags (evs t xs) ∧ effE b h (.app i z ty m) (strips (evs t xs)) t d (opsA P b r K)) ∧ (guardA (getA j t) u = false → opsA P b r K (putA t d .undef) h)) := by simp only [opsA, stepO, stepB, R.kd]
end
attribute [go_sem] wg_bslc wg_box wg_app
end AF

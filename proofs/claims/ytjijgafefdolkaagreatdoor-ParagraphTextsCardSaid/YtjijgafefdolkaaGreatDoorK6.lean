import Derived.Test.YtjijgafefdolkaaGreatDoorK2
set_option linter.all false
set_option linter.unusedSimpArgs false
set_option linter.unusedVariables false
set_option linter.unusedSectionVars false
section
namespace AF
open Go
def qsf (n : Nat) (H : List AObj) : List AV → List AV → Prop
 | [], [] => True
 | a :: l, b :: m => VOut n H a b ∧ qsf n H l m
 | _, _ => False
theorem qsf.get {n : Nat} {H : List AObj} : ∀ {l m : List AV}, qsf n H l m → l.length = m.length ∧ ∀ (i : Nat) c, m[i]? = some c → ∃ a, l[i]? = some a ∧ VOut n H a c := by
 intro l
 induction l with
 | nil => intro m h; cases m with
  | nil => exact ⟨rfl, by simp⟩
  | cons => exact h.elim
 | cons a l ih => intro m h; cases m with
  | nil => exact h.elim
  | cons b m =>
   obtain ⟨h1, h2⟩ := ih h.2
   refine ⟨by simp [h1], fun i c hc => ?_⟩
   cases i with
   | zero => simp at hc; subst hc; exact ⟨a, rfl, h.1⟩
   | succ i => exact h2 i c (by simpa using hc)
end AF
end

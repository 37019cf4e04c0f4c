/-
  AF9: every resolved operation that reads.
-/
import Derived.Test.YtpnjpjibccmkiaaAf8
set_option linter.all false
set_option linter.unusedSimpArgs false
set_option linter.unusedVariables false
set_option linter.unusedSectionVars false
namespace AF
open Go
section
variable {P : Program} {js : List Tmp} {imp : List FuncId} {w : World} {σ : List OB}
theorem exec_mem {o : Oper} {r : R} {os : List Operand} (hc : cvOp P js imp o = some (r, os)) (hk : r.kd = .mem) {vs : List AV} {ρ : Operand → Value} (hρ : ∀ c, ρ (.const c) = c) (hv : VRs w σ vs (os.map ρ)) {h : List AObj} (H : HR w σ h) (hok : okL h r vs) :
    PureOk P w σ ρ o (valL h r vs) := by
  unfold cvOp at hc
  split at hc
  · rename_i ho
    split at hc
    · rename_i j e _ _
      cases hs : sizeA P e with
      | none => simp [hs] at hc
      | some sz => simp [hs] at hc; obtain ⟨rfl, rfl⟩ := hc; simp [R.kd] at hk
    · cases hc; simp [R.kd] at hk
  · rename_i ho
    split at hc
    · rename_i j e _ _
      cases hs : sizeA P e with
      | none => simp [hs] at hc
      | some sz => simp [hs] at hc; obtain ⟨rfl, rfl⟩ := hc; simp [R.kd] at hk
    · cases hc; simp [R.kd] at hk
  · rename_i x _ ho; cases hc; simp [R.kd] at hk
  · rename_i x _ ho; cases hc; simp [R.kd] at hk
  · cases hc; simp [R.kd] at hk
  · rename_i op t x y u ho
    split at hc
    · cases hc; simp [R.kd] at hk
    · cases hc; simp [R.kd] at hk
    · rename_i ht
      split at hc
      · cases hc; simp [R.kd] at hk
      · cases hc; simp [R.kd] at hk
      · cases hc
    · rename_i fs ht
      split at hc
      · rename_i ks hks hb
        simp at hb
        split at hc
        · cases hc; simp [R.kd] at hk
        · cases hc; simp [R.kd] at hk
        · cases hc
      · cases hc
    · rename_i d _ _ _ _ ht
      split at hc
      · rename_i k hk'
        obtain ⟨n, z, v, rfl, rfl, h1, h2, h3⟩ := isnilOp_spec hc
        simp [R.kd] at hk
      · cases hc
    · cases hc
  · rename_i op t x ho; cases hc; simp [R.kd] at hk
  · rename_i s d x ho
    split at hc
    · rename_i j k h1 h2; cases hc; simp [R.kd] at hk
    · cases hc
  · rename_i t x f ho
    cases hf : fieldOf P t f with
    | none => simp [hf] at hc
    | some p => simp [hf] at hc; obtain ⟨rfl, rfl⟩ := hc; simp [R.kd] at hk
  · rename_i x i ho; cases hc; simp [R.kd] at hk
  · rename_i t ps ho
    split at hc
    · rename_i z l hz hl hb; cases hc; simp [R.kd] at hk
    · cases hc
  · rename_i f first cap ho; cases hc; simp [R.kd] at hk
  · rename_i t x i ho
    split at hc
    · rename_i ht; cases hc; simp [R.kd] at hk
    · cases hc
  · rename_i t x lo hi ho
    split at hc
    · rename_i ht; cases hc; simp [R.kd] at hk
    · rename_i e ht
      cases hs : P.info? e with
      | none => simp [sizeA, hs] at hc
      | some i => simp [sizeA, hs] at hc; obtain ⟨rfl, rfl⟩ := hc; exact re_slc ho ht hs H hv hok
    · cases hc
  · rename_i t x i ho
    split at hc
    · rename_i e ht
      cases hs : P.info? e with
      | none => simp [sizeA, hs] at hc
      | some i => simp [sizeA, hs] at hc; obtain ⟨rfl, rfl⟩ := hc; exact re_idxA ho ht hs H hv hok
    · rename_i n e ht
      cases hs : P.info? e with
      | none => simp [sizeA, hs] at hc
      | some i => simp [sizeA, hs] at hc; obtain ⟨rfl, rfl⟩ := hc; exact re_idxArr ho ht hs H hv hok
    · cases hc
  · rename_i t x f ho
    cases hf : fieldOf P t f with
    | none => simp [hf] at hc
    | some p => simp [hf] at hc; obtain ⟨rfl, rfl⟩ := hc; exact re_fldA ho hf H hv hok
  · rename_i t x ho
    cases hf : aggOf P t with
    | none => simp [hf] at hc
    | some p => simp [hf] at hc; obtain ⟨rfl, rfl⟩ := hc; exact re_load ho hf H hv hok
  · rename_i x ho; cases hc; exact re_nil ho H hv hok
  · split at hc
    · cases hc; simp [R.kd] at hk
    · cases hc
  · rename_i t x ho
    cases hf : siteOf js o.dst with
    | none => simp [hf] at hc
    | some p => simp [hf] at hc; obtain ⟨rfl, rfl⟩ := hc; simp [R.kd] at hk
  · rename_i t a x ho
    cases hf : sizeA P t with
    | none => simp [hf] at hc
    | some p => simp [hf] at hc; obtain ⟨rfl, rfl⟩ := hc; simp [R.kd] at hk
  · split at hc
    · split at hc
      · cases hc; simp [R.kd] at hk
      · cases hc
    · cases hc
  · split at hc
    · split at hc
      · simp at hc; obtain ⟨_, rfl, rfl⟩ := hc; simp [R.kd] at hk
      · cases hc
    · cases hc
  · rename_i c ho
    split at hc
    · split at hc
      · split at hc
        · rename_i hb _ _ _ _ e1 e2 _ _ ht
          cases hc; exact re_len ho hb e1 e2 ht H hv hok
        · cases hc; simp [R.kd] at hk
        · cases hc
      · cases hc
    · rename_i hcal
      split at hc
      · split at hc
        · cases hc; simp [R.kd] at hk
        · cases hc
      · cases hc
    · rename_i hcal
      split at hc
      · split at hc
        · cases hc; simp [R.kd] at hk
        · cases hc
      · cases hc
    · split at hc
      · split at hc
        · simp at hc; obtain ⟨_, i, hi, rfl, rfl⟩ := hc; simp [R.kd] at hk
        · simp at hc; obtain ⟨_, rfl, rfl⟩ := hc; simp [R.kd] at hk
        · cases hc
      · cases hc
    · split at hc
      · cases hc; simp [R.kd] at hk
      · cases hc
    · cases hc; simp [R.kd] at hk
    · cases hc
  · cases hc

end
end AF

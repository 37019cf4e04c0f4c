/-
  AF11: every resolved operation that changes objects; calls; a list of operations.
-/
import Derived.Test.YtpnjpjibccmkiaaAf10
set_option linter.all false
set_option linter.unusedSimpArgs false
set_option linter.unusedVariables false
set_option linter.unusedSectionVars false
namespace AF
open Go
section
variable {P : Program} {js : List Tmp} {imp : List FuncId} {w : World} {σ : List OB}
theorem exec_eff {o : Oper} {r : R} {os : List Operand} (hc : cvOp P js imp o = some (r, os)) (hk : r.kd = .eff) {vs : List AV} {ρ : Operand → Value} (hρ : ∀ c, ρ (.const c) = c) (hv : VRs w σ vs (os.map ρ)) {h : List AObj} (H : HR w σ h) {b : Nat} {t : List AV} {d : Option Nat} {nx : Nx} (he : effE b h r vs t d nx) :
    EffOk P w σ ρ o t d nx := by
  unfold cvOp at hc
  split at hc
  · rename_i ho
    split at hc
    · rename_i j e _ _
      cases hs : sizeA P e with
      | none => simp [hs] at hc
      | some sz => simp [hs] at hc; obtain ⟨rfl, rfl⟩ := hc; exact ef_nilo (.inl ho) hρ H he
    · cases hc; simp [R.kd] at hk
  · rename_i ho
    split at hc
    · rename_i j e _ _
      cases hs : sizeA P e with
      | none => simp [hs] at hc
      | some sz => simp [hs] at hc; obtain ⟨rfl, rfl⟩ := hc; exact ef_nilo (.inr ho) hρ H he
    · cases hc; simp [R.kd] at hk
  · rename_i x _ ho; cases hc; simp [R.kd] at hk
  · rename_i x _ ho; cases hc; simp [R.kd] at hk
  · cases hc; simp [R.kd] at hk
  · rename_i op t x y u ho
    split at hc
    · cases hc; simp [R.kd] at hk
    · cases hc; simp [R.kd] at hk
    · rename_i ht
      split at hc
      · cases hc; simp [R.kd] at hk
      · cases hc; simp [R.kd] at hk
      · cases hc
    · rename_i fs ht
      split at hc
      · rename_i ks hks hb
        simp at hb
        split at hc
        · cases hc; simp [R.kd] at hk
        · cases hc; simp [R.kd] at hk
        · cases hc
      · cases hc
    · rename_i d _ _ _ _ ht
      split at hc
      · rename_i k hk'
        obtain ⟨n, z, v, rfl, rfl, h1, h2, h3⟩ := isnilOp_spec hc
        simp [R.kd] at hk
      · cases hc
    · cases hc
  · rename_i op t x ho; cases hc; simp [R.kd] at hk
  · rename_i s d x ho
    split at hc
    · rename_i j k h1 h2; cases hc; simp [R.kd] at hk
    · cases hc
  · rename_i t x f ho
    cases hf : fieldOf P t f with
    | none => simp [hf] at hc
    | some p => simp [hf] at hc; obtain ⟨rfl, rfl⟩ := hc; simp [R.kd] at hk
  · rename_i x i ho; cases hc; simp [R.kd] at hk
  · rename_i t ps ho
    split at hc
    · rename_i z l hz hl hb; cases hc; simp [R.kd] at hk
    · cases hc
  · rename_i f first cap ho; cases hc; simp [R.kd] at hk
  · rename_i t x i ho
    split at hc
    · rename_i ht; cases hc; simp [R.kd] at hk
    · cases hc
  · rename_i t x lo hi ho
    split at hc
    · rename_i ht; cases hc; simp [R.kd] at hk
    · rename_i e ht
      cases hs : sizeA P e with
      | none => simp [hs] at hc
      | some sz => simp [hs] at hc; obtain ⟨rfl, rfl⟩ := hc; simp [R.kd] at hk
    · cases hc
  · rename_i t x i ho
    split at hc
    · rename_i e ht
      cases hs : sizeA P e with
      | none => simp [hs] at hc
      | some sz => simp [hs] at hc; obtain ⟨rfl, rfl⟩ := hc; simp [R.kd] at hk
    · rename_i n e ht
      cases hs : sizeA P e with
      | none => simp [hs] at hc
      | some sz => simp [hs] at hc; obtain ⟨rfl, rfl⟩ := hc; simp [R.kd] at hk
    · cases hc
  · rename_i t x f ho
    cases hf : fieldOf P t f with
    | none => simp [hf] at hc
    | some p => simp [hf] at hc; obtain ⟨rfl, rfl⟩ := hc; simp [R.kd] at hk
  · rename_i t x ho
    cases hf : aggOf P t with
    | none => simp [hf] at hc
    | some p => simp [hf] at hc; obtain ⟨rfl, rfl⟩ := hc; simp [R.kd] at hk
  · cases hc; simp [R.kd] at hk
  · rename_i ty ho
    split at hc
    · rename_i j z _ hz; cases hc; exact ef_alloc ho hz H he
    · cases hc
  · rename_i ty x ho
    cases hf : siteOf js o.dst with
    | none => simp [hf] at hc
    | some p => simp [hf] at hc; obtain ⟨rfl, rfl⟩ := hc; exact ef_box ho H hv he
  · rename_i ty a x ho
    cases hf : P.info? ty with
    | none => simp [sizeA, hf] at hc
    | some i => simp [sizeA, hf] at hc; obtain ⟨rfl, rfl⟩ := hc; exact ef_store ho hf H hv he
  · rename_i ty l c ho
    split at hc
    · rename_i j e _ ht
      split at hc
      · rename_i z i hz hi; cases hc; exact ef_mkslc ho ht hz hi H hv he
      · cases hc
    · cases hc
  · rename_i ty n ps ho
    split at hc
    · rename_i j e _ ht
      split at hc
      · rename_i z i hz hi
        simp at hc
        obtain ⟨h1, rfl, rfl⟩ := hc
        exact ef_bslc ho ht hz hi h1 H hv he
      · cases hc
    · cases hc
  · rename_i c ho
    split at hc
    · split at hc
      · split at hc
        · cases hc; simp [R.kd] at hk
        · rename_i hb _ _ _ _ e1 e2 _ ht
          cases hc; simp [R.kd] at hk
        · cases hc
      · cases hc
    · rename_i hcal
      split at hc
      · split at hc
        · cases hc; simp [R.kd] at hk
        · cases hc
      · cases hc
    · rename_i hcal
      split at hc
      · split at hc
        · cases hc; simp [R.kd] at hk
        · cases hc
      · cases hc
    · rename_i hcal
      split at hc
      · rename_i e1 e2
        split at hc
        · rename_i ht _
          simp at hc; obtain ⟨heq, i, hi, rfl, rfl⟩ := hc; subst heq; exact ef_app ho hcal e1 e2 ht hi H hv he
        · rename_i ht hu
          simp at hc; obtain ⟨hB, rfl, rfl⟩ := hc; exact ef_apps ho hcal e1 e2 ht hu hB H hv he
        · cases hc
      · cases hc
    · split at hc
      · cases hc; simp [R.kd] at hk
      · cases hc
    · cases hc; simp [R.kd] at hk
    · cases hc
  · cases hc

end
end AF

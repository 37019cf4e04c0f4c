/-
  AFL: what is asked at the end may be weakened.
-/
import Derived.Test.YtpnjpjibccmkiaaAfK
set_option linter.all false
set_option linter.unusedSimpArgs false
set_option linter.unusedVariables false
set_option linter.unusedSectionVars false
namespace AF
open Go
theorem opsA_mono {P : Program} {b : Nat} {l : List RO} : ∀ {nx nx' : Nx} {t : List AV} {h : List AObj}, (∀ t h, nx t h → nx' t h) → opsA P b l nx t h → opsA P b l nx' t h := by
  induction l with
  | nil => intro nx nx' t h hn H; exact hn _ _ H
  | cons o l ih => intro nx nx' t h hn H; exact stepO_mono (fun t h H => ih hn H) H
theorem rangeEnd_mono {h0 : List AObj} {t : List AV} {Q Q' : Ex → Nx} {h : List AObj} (hq : ∀ e t h, Q e t h → Q' e t h) (H : rangeEnd h0 t Q h) : rangeEnd h0 t Q' h := by
  obtain ⟨hh, s, ts, L, h1, h2, h3, h4⟩ := H
  refine ⟨hh, s, ts, L, h1, h2, h3, ?_⟩
  cases s with
  | ready => exact hq _ _ _ h4
  | ret => exact hq _ _ _ h4
  | exit id => exact hq _ _ _ h4
  | busy => exact h4
theorem codeA_mono {P : Program} {b : Nat} {x : C} : ∀ {Q Q' : Ex → Nx} {t : List AV} {h : List AObj}, (∀ e t h, Q e t h → Q' e t h) → codeA P b x Q t h → codeA P b x Q' t h := by
  induction x with
  | skip => intro Q Q' t h hq H; exact hq _ _ _ H
  | ops l => intro Q Q' t h hq H; exact opsA_mono (fun t h H => hq _ _ _ H) H
  | seq x y ihx ihy =>
    intro Q Q' t h hq H
    refine ihx (fun e t h H => ?_) H
    cases e with
    | normal => exact ihy hq H
    | exit id => exact hq _ _ _ H
    | ret => exact hq _ _ _ H
  | cond c x y ihx ihy =>
    intro Q Q' t h hq H
    simp only [codeA, condA] at *
    split at H
    · exact ⟨fun e => ihx hq (H.1 e), fun e => ihy hq (H.2 e)⟩
    · exact ⟨ihx hq H.1, ihy hq H.2⟩
    · exact H.elim
  | block id x ih =>
    intro Q Q' t h hq H
    refine ih (fun e t h H => ?_) H
    cases e with
    | normal => exact hq _ _ _ H
    | ret => exact hq _ _ _ H
    | exit i =>
      simp only [Ex.inBlock] at *
      split
      · rename_i e; rw [if_pos e] at H; exact hq _ _ _ H
      · rename_i e; rw [if_neg e] at H; exact hq _ _ _ H
  | loop x ih =>
    intro Q Q' t h hq H
    obtain ⟨I, h1, h2⟩ := H
    refine ⟨I, h1, fun n t' h' hi => ih (fun e t h H => ?_) (h2 n t' h' hi)⟩
    cases e with
    | normal => exact H
    | exit id => exact hq _ _ _ H
    | ret => exact hq _ _ _ H
  | range u ps x y ihx ihy =>
    intro Q Q' t h hq H L hy
    have := H L hy
    split at this
    · exact this.le (VLes.refl _) (fun v h' hr => ⟨v, VLe.refl _, rangeEnd_mono hq hr⟩)
    · exact this
  | exit id => intro Q Q' t h hq H; exact hq _ _ _ H
  | ret => intro Q Q' t h hq H; exact hq _ _ _ H
  | wk =>
    intro Q Q' t h hq H
    obtain ⟨t', h', h1, h2⟩ := H
    exact ⟨t', h', h1, hq _ _ _ h2⟩
  | bad => intro Q Q' t h hq H; exact H
def slcOf (o : Option AObj) (ver sz off n : Nat) : Option (Nat × List AV) :=
  match o with
  | some (.mem v _ cs) => if v = ver ∧ off + n * sz ≤ cs.length then some (n, (cs.drop off).take (n * sz)) else none
  | some (.emp v) => if v = ver ∧ n = 0 then some (0, []) else none
  | _ => none
theorem sliceCells_osl {h : List AObj} {k ver sz off n : Nat} : sliceCells h (.osl k ver sz off n) = slcOf (getO k h) ver sz off n := rfl
theorem slcOf_mem {v ver sz off n : Nat} {ty : TypeId} {cs : List AV} : slcOf (some (.mem v ty cs)) ver sz off n = if v = ver ∧ off + n * sz ≤ cs.length then some (n, (cs.drop off).take (n * sz)) else none := rfl
theorem slcOf_emp {v ver sz off n : Nat} : slcOf (some (.emp v)) ver sz off n = if v = ver ∧ n = 0 then some (0, []) else none := rfl
theorem apartS_osl {k v z p n k' v' z' p' n' : Nat} : apartS (.osl k v z p n) (.osl k' v' z' p' n') = (k != k') := rfl
theorem apartS_sl {k v z p n m : Nat} {f : Nat → List AV} : apartS (.osl k v z p n) (.sl m f) = true := rfl
theorem apartS_nl {k v z p n : Nat} : apartS (.osl k v z p n) .nl = true := rfl
attribute [go_sem] Int.toNat_zero decide_true decide_false beq_self_eq_true
attribute [go_sem] sliceCells_osl slcOf_mem slcOf_emp apartS_osl apartS_sl apartS_nl
theorem valL_idx_nl {g : List AObj} {z : Nat} {i : AV} : valL g (.idxA z) [.nl, i] = .undef := rfl
theorem valL_load_undef {g : List AObj} {n : Option Nat} : valL g (.load n) [.undef] = .undef := rfl
theorem valL_fld_undef {g : List AObj} {n : Nat} : valL g (.fldA n) [.undef] = .undef := rfl
theorem binV_undef {op : BinOp} {y : AV} : binV op .undef y = .undef := rfl
theorem pickV_tbu {p g : Bool} : pickV (.bool true) (.bool p) (.gd g .undef) = .bool p := rfl
theorem pickV_fub {p g : Bool} : pickV (.bool false) (.gd g .undef) (.bool p) = .bool p := rfl
attribute [go_sem] valL_idx_nl valL_load_undef valL_fld_undef binV_undef pickV_tbu pickV_fub
theorem c_range {P : Program} {b : Nat} {u : X} {ps : List Nat} {x y : C} {Q : Ex → Nx} {t : List AV} {h : List AObj} : codeA P b (.range u ps x y) Q t h = rangeA P (ev t u) ps (codeA P b x) (codeA P b y) Q t h := (rfl)
attribute [go_sem] c_range
end AF

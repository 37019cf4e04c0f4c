/-
  AF14: code: what the resolved code's walk shows of the model's code.
-/
import Derived.Test.YtpnjpjibccmkiaaAf13
import Derived.Sort.LoopGhostIn
set_option linter.all false
set_option linter.unusedSimpArgs false
set_option linter.unusedVariables false
set_option linter.unusedSectionVars false
namespace AF
open Go

/-- The resolved code. `wks`: the regions before which knowledge may be given up. -/
def cv (P : Program) (js : List Tmp) (imp : List FuncId) (wks : List Nat) : Code → Option C
  | .skip => some .skip
  | .region id ops draw => match cvROs P js imp ops ops.toList with
    | some l => if draw && !(drawC ops l && P.follows .mixedOrders) then some .bad else if wks.contains id then some (.seq .wk (.ops l)) else some (.ops l)
    | none => some .bad
  | .seq a b => match cv P js imp wks a, cv P js imp wks b with
    | some x, some y => some (.seq x y)
    | _, _ => some .bad
  | .cond c a b => match cvX c, cv P js imp wks a, cv P js imp wks b with
    | some u, some x, some y => some (.cond u x y)
    | _, _, _ => some .bad
  | .block id a => (cv P js imp wks a).map (.block id)
  | .loop a => (cv P js imp wks a).map .loop
  | .rangeFunc f ps a b => match cvX f, cv P js imp wks a, cv P js imp wks b with
    | some u, some x, some y => some (.range u ps.toList x y)
    | _, _, _ => some .bad
  | .exit id => some (.exit id)
  | .ret => some .ret
  | _ => some .bad


section
variable {P : Program} {js : List Tmp} {imp : List FuncId} {N : Nat}

theorem cvROs_spec {all : Array Oper} : ∀ {l : List Oper} {r : List RO}, cvROs P js imp all l = some r → r.length = l.length ∧ ∀ (i : Nat) o ro, l[i]? = some o → r[i]? = some ro → cvRO P js imp all o = some ro := by
  intro l
  induction l with
  | nil => intro r h; cases h; exact ⟨rfl, fun i o ro h => by simp at h⟩
  | cons o l ih =>
    intro r h
    simp only [cvROs] at h
    split at h
    · rename_i a r' ha hr
      cases h
      obtain ⟨h1, h2⟩ := ih hr
      refine ⟨by simp [h1], fun i o' ro ho hro => ?_⟩
      cases i with
      | zero => simp at ho hro; subst ho hro; exact ha
      | succ i => exact h2 i o' ro (by simpa using ho) (by simpa using hro)
    · cases h

def exOf : Exit → Option Ex
  | .normal => some .normal
  | .exit id => some (.exit id)
  | .ret => some .ret
  | _ => none

/-- What the walk's post says of a way out. -/
def PostA (N : Nat) (w : World) (σ : List OB) (Q : Ex → Nx) (e : Exit) (a : Act) (w' : World) : Prop :=
  ∃ x σ' t h, exOf e = some x ∧ SR N w' σ' t h a ∧ Ext w σ w' σ' ∧ Q x t h

theorem PostA.trans {w w' : World} {σ σ' : List OB} {Q : Ex → Nx} {e : Exit} {a : Act} {w'' : World} (h : Ext w σ w' σ') (hp : PostA N w' σ' Q e a w'') : PostA N w σ Q e a w'' := by
  obtain ⟨x, σ'', t, hh, h1, h2, h3, h4⟩ := hp
  exact ⟨x, σ'', t, hh, h1, h2, h.trans h3, h4⟩

/-- Soundness: in a round or not. -/
def Sound (P : Program) (b : Nat) (c : C) (k : Code) : Prop :=
  ∀ (N : Nat) (ρ : Option Nat) (Q : Ex → Nx) (w : World) (σ : List OB) (t : List AV) (h : List AObj) (a : Act), codeA P b c Q t h → (∀ l, ρ = some l → ∃ r, w.heap[l]? = some (.loop r)) → SR N w σ t h a → k.wpIn (FW ρ) 0 P (PostA N w σ Q) a w

theorem drew_ext (w : World) (σ : List OB) : Ext w σ { w with drawn := w.drawn + 1 } σ := ⟨rfl, rfl, rfl, Nat.le_refl _, fun _ _ _ => rfl, fun _ h => .inl h, fun _ o h => ⟨o, h, Nat.le_refl _, fun _ => rfl⟩, fun _ r h => ⟨r, h⟩⟩

theorem SR.drew {w : World} {σ : List OB} {t : List AV} {h : List AObj} {a : Act} (H : SR N w σ t h a) : SR N { w with drawn := w.drawn + 1 } σ t h a := by
  have e := drew_ext w σ
  refine ⟨⟨H.hr.len, H.hr.inj, H.hr.lt, fun k a o ha ho => (H.hr.obj k a o ha ho).ext e (fun b _ => rfl)⟩, H.sz, fun i c x hc hx => (H.tm i c x hc hx).ext e, H.df⟩

theorem sound_ops {id : Nat} {ops : Array Oper} {draw : Bool} {l : List RO} (hl : cvROs P js imp ops ops.toList = some l) (hd : draw = true → drawC ops l = true ∧ P.follows .mixedOrders = true) (b : Nat) : Sound P b (.ops l) (.region id ops draw) := by
  intro N ρ Q w σ t h a hc hρ H
  obtain ⟨h1, h2⟩ := cvROs_spec hl
  have hlen : l.length = ops.size := by simpa using h1
  have hall : ∀ (i : Nat) o ro, ops[i]? = some o → l[i]? = some ro → cvRO P js imp ops o = some ro := fun i o ro ho hro => h2 i o ro (by simpa using ho) hro
  have hN : opsN P b l (List.range ops.size) (Q .normal) t h := by
    have := opsN_range (P := P) b (Q .normal) [] l t h hc
    simpa [hlen] using this
  cases draw with
  | false =>
    refine wpIn_region ?_
    exact list_sound hlen hall _ hN H (fun a' w' σ' t' h' g1 g2 g3 => ⟨.normal, σ', t', h', rfl, g1, g2, g3⟩)
  | true =>
    obtain ⟨d1, d2⟩ := hd rfl
    refine wpIn_region_draw fun n => ?_
    simp only [Region.schedule, d2, Bool.true_or, if_true]
    have hrem : remain ops.size (Array.replicate ops.size false) = List.range ops.size := by
      unfold remain
      apply List.filter_eq_self.2
      intro i hi
      have : i < ops.size := by simpa using hi
      simp [this]
    have := draw_all (P := P) (b := b) (K := Q .normal) d1 hlen ops.size n (Array.replicate ops.size false) (t := t) (h := h) (by simp) (by
      intro k o _ hk
      exfalso
      by_cases hlt : k < ops.size
      · simp [hlt] at hk
      · simp [hlt] at hk) (by rw [hrem]; simp) (by rw [hrem]; exact hN)
    exact list_sound hlen hall _ this H.drew (fun a' w' σ' t' h' g1 g2 g3 => ⟨.normal, σ', t', h', rfl, g1, (drew_ext w σ).trans g2, g3⟩)

theorem sound_seq {b : Nat} {x y : C} {k l : Code} (hx : Sound P b x k) (hy : Sound P b y l) : Sound P b (.seq x y) (.seq k l) := by
  intro N ρ Q w σ t h a hc hρ H
  refine wpIn_seq (wpIn_mono (hx N ρ _ w σ t h a hc hρ H) ?_)
  rintro e a' w' ⟨z, σ', t', h', he, g1, g2, g3⟩
  cases e with
  | normal =>
    cases he
    exact wpIn_mono (hy N ρ Q w' σ' t' h' a' g3 (fun l hl => (hρ l hl).elim fun r hr => g2.loops l r hr) g1) (fun e a'' w'' hp => hp.trans g2)
  | exit id => cases he; exact ⟨_, σ', t', h', rfl, g1, g2, g3⟩
  | ret => cases he; exact ⟨_, σ', t', h', rfl, g1, g2, g3⟩
  | goto l => cases he
  | panic c => cases he
  | outgrown => cases he

theorem sound_cond {b : Nat} {o : Operand} {c : X} {x y : C} {k l : Code} (ho : cvX o = some c) (hx : Sound P b x k) (hy : Sound P b y l) : Sound P b (.cond c x y) (.cond o k l) := by
  intro N ρ Q w σ t h a hc hρ H
  have hv := cvX_vr H.sz H.tm ho
  have hc' : condA (ev t c) (codeA P b x Q) (codeA P b y Q) t h := hc
  unfold condA at hc'
  split at hc'
  · rename_i bb he
    rw [he] at hv
    have := vr_bool hv
    cases bb with
    | true => exact wpIn_cond_true this (hx N ρ Q w σ t h a (hc'.1 rfl) hρ H)
    | false => exact wpIn_cond_false this (hy N ρ Q w σ t h a (hc'.2 rfl) hρ H)
  · rename_i he
    rw [he] at hv
    obtain ⟨bb, this⟩ := vr_anyb hv
    cases bb with
    | true => exact wpIn_cond_true this (hx N ρ Q w σ t h a hc'.1 hρ H)
    | false => exact wpIn_cond_false this (hy N ρ Q w σ t h a hc'.2 hρ H)
  · exact hc'.elim

theorem sound_block {b id : Nat} {x : C} {k : Code} (hx : Sound P b x k) : Sound P b (.block id x) (.block id k) := by
  intro N ρ Q w σ t h a hc hρ H
  refine wpIn_block (wpIn_mono (hx N ρ _ w σ t h a hc hρ H) ?_)
  rintro e a' w' ⟨z, σ', t', h', he, g1, g2, g3⟩
  cases e with
  | normal => cases he; exact ⟨_, σ', t', h', rfl, g1, g2, g3⟩
  | exit i =>
    cases he
    simp only [Exit.inBlock]
    simp only [Ex.inBlock] at g3
    split
    · rename_i hi
      rw [if_pos hi] at g3
      exact ⟨_, σ', t', h', rfl, g1, g2, g3⟩
    · rename_i hi
      rw [if_neg hi] at g3
      exact ⟨_, σ', t', h', rfl, g1, g2, g3⟩
  | ret => cases he; exact ⟨_, σ', t', h', rfl, g1, g2, g3⟩
  | goto l => cases he
  | panic c => cases he
  | outgrown => cases he

theorem sound_loop {b : Nat} {x : C} {k : Code} (hx : Sound P b x k) : Sound P b (.loop x) (.loop k) := by
  intro N ρ Q w σ t h a hc hρ H
  have hc' : loopA (fun K => codeA P b x (Ex.andThen K Q)) t h := hc
  obtain ⟨I, ⟨n, t0, h0, hw, hI⟩, hround⟩ := hc'
  obtain ⟨σ0, H0, e0⟩ := hw N w σ a H
  refine wpIn_loop_ghost (fun n a' w' => ∃ σ' t' h', I n t' h' ∧ SR N w' σ' t' h' a' ∧ Ext w σ w' σ') n ⟨σ0, t0, h0, hI, H0, e0⟩ ?_
  rintro n a' w' ⟨σ', t', h', g1, g2, g3⟩
  refine wpIn_mono (hx N ρ _ w' σ' t' h' a' (hround n t' h' g1) (fun l hl => (hρ l hl).elim fun r hr => g3.loops l r hr) g2) ?_
  rintro e a'' w'' ⟨z, σ'', t'', h'', he, q1, q2, q3⟩
  cases e with
  | normal =>
    cases he
    obtain ⟨n', t1, h1, hlt, hwk, hI'⟩ := q3
    obtain ⟨σ1, H1, e1⟩ := hwk N w'' σ'' a'' q1
    exact ⟨n', hlt, σ1, t1, h1, hI', H1, (g3.trans q2).trans e1⟩
  | exit id => cases he; exact ⟨_, σ'', t'', h'', rfl, q1, g3.trans q2, q3⟩
  | ret => cases he; exact ⟨_, σ'', t'', h'', rfl, q1, g3.trans q2, q3⟩
  | goto l => cases he
  | panic c => cases he
  | outgrown => cases he

theorem sound_bad {b : Nat} {k : Code} : Sound P b .bad k := fun _ _ _ _ _ _ _ _ hc => (show False from hc).elim

theorem sound_skip {b : Nat} : Sound P b .skip .skip := by
  intro N ρ Q w σ t h a hc hρ H
  exact wpIn_skip ⟨.normal, σ, t, h, rfl, H, Ext.refl w σ, hc⟩

theorem sound_exit {b id : Nat} : Sound P b (.exit id) (.exit id) := by
  intro N ρ Q w σ t h a hc hρ H
  exact wpIn_exit ⟨.exit id, σ, t, h, rfl, H, Ext.refl w σ, hc⟩

theorem sound_ret {b : Nat} : Sound P b .ret .ret := by
  intro N ρ Q w σ t h a hc hρ H
  exact wpIn_ret ⟨.ret, σ, t, h, rfl, H, Ext.refl w σ, hc⟩

theorem sound_wk {b : Nat} {x : C} {k : Code} (hx : Sound P b x k) : Sound P b (.seq .wk x) k := by
  intro N ρ Q w σ t h a hc hρ H
  obtain ⟨t', h', hw, hc'⟩ := (show ∃ t' h', Wk t h t' h' ∧ codeA P b x Q t' h' from hc)
  obtain ⟨σ', H', e⟩ := hw N w σ a H
  exact wpIn_mono (hx N ρ Q w σ' t' h' a hc' hρ H') (fun e' a' w' hp => hp.trans e)
end
end AF

/-
  AFC: from a function's contract to the statement about it.
-/
import Derived.Test.YtpnjpjibccmkiaaAfB
import Derived.Carry
import Derived.RowKit
import Derived.WalkKit
import Derived.ProofKit
set_option linter.all false
set_option linter.unusedSimpArgs false
set_option linter.unusedVariables false
set_option linter.unusedSectionVars false
namespace AF
open Go Go.ChangeShapes Go.WideShapes Go.ChangeAt Go.RowKit

section
variable {H : Type} {enc : TypeId × Value → H} {P : Program} {W W' : World}

/-- All arguments read behind the call as before. -/
theorem trodAll_stay (hl : laidOutB P = true) (hb : Below W.heap.size W W') : ∀ {ts : List TypeId} {vs : List Value} {ds : List (DataW H)} {ps : List MemPlace}, (∀ t ∈ ts, P.readableRec t = true ∧ t < P.types.size) →
    (∀ x ∈ ps, x.block < W.heap.size) → DataW.TrodAll enc P W 0 (fun _ => true) true ts vs ds ps → DataW.TrodAll enc P W' 0 (fun b => decide (b < W.heap.size)) true ts vs ds ps := by
  intro ts
  induction ts with
  | nil =>
    intro vs ds ps _ _ h
    match vs, ds, h with
    | [], [], h => exact h
  | cons t ts ih =>
    intro vs ds ps ht hp h
    match vs, ds, h with
    | v :: vs, d :: ds, ⟨p, q, h1, h2, e⟩ =>
      subst e
      refine ⟨p, q, ?_, ?_, rfl⟩
      · exact Below.trod hl (ht t (by simp)).1 (ht t (by simp)).2 h1 hb (fun x hx => hp x (by simp [hx]))
      · exact ih (fun u hu => ht u (by simp [hu])) (fun x hx => hp x (by simp [hx])) h2

/-- A law's statement holds behind a call that comes back with 'true' and has only made new memory. -/
theorem law_post {f : Func} {s : ChangeSpec} {args : Array Value} {ds : List (DataW H)} {before : List MemPlace} {tb : TypeId} (hl : laidOutB P = true) (hv : s.vars = []) (hfn : s.fn H ds = { results := [.lit (.bool true)], args := ds })
    (hrt : f.resultTypes = #[tb]) (htb : P.underlying tb = some .bool) (hro : ∀ t ∈ f.params.toList, P.readableRec t = true ∧ t < P.types.size)
    (hW : DataW.Whole enc P f.params.toList s.vars false W args.toList ds [] before) (hA : DataW.TrodAll enc P W 0 (fun _ => true) true f.params.toList args.toList ds before) (hb : Below W.heap.size W W') :
    s.post enc P f false true false false W args (.bool true) W' := by
  have hlt : ∀ x ∈ before, x.block < W.heap.size := fun x hx => hW.lt x hx
  refine ⟨ds, [], before, [], before, [], hW, ?_, ?_, ?_, ?_, fun h => by cases h⟩
  · rw [List.append_nil, hfn, hrt]
    exact ⟨[], [], shut_bool htb true, rfl, rfl⟩
  · rw [List.append_nil, hfn]
    exact trodAll_stay hl hb hro hlt hA
  · rw [List.append_nil, hfn, hv]
    rfl
  · exact World.keptBut_mono (fun x hx => ⟨hx, .inr (.inl hx)⟩) (hb.frame (· ∈ before))

/-- The step of a law's proof: what its arguments read as gives abstract values, and the contract gives 'true'. -/
theorem law_step {f : Func} {fid : FuncId} {s : ChangeSpec} {args : Array Value} {ds gs : List (DataW H)} {before : List MemPlace} {tb : TypeId} (hl : laidOutB P = true) (hv : s.vars = []) (hfn : ∀ ds', ds'.length = f.params.size → s.fn H ds' = { results := [.lit (.bool true)], args := ds' })
    (hrt : f.resultTypes = #[tb]) (htb : P.underlying tb = some .bool) (hro : ∀ t ∈ f.params.toList, P.readableRec t = true ∧ t < P.types.size)
    (hW : DataW.Whole enc P f.params.toList s.vars false W args.toList ds gs before)
    (hc : ∀ p, DataW.TrodAll enc P W 0 (fun _ => true) true f.params.toList args.toList ds p → ds.length = f.params.size ∧ ∃ as : List AV, VRs W [] as args.toList ∧ ACalls P fid as [] (.bool true) []) :
    Calls P fid args W fun e W' => ∃ v, e = .returned v ∧ s.post enc P f false true false false W args v W' := by
  have hW' := hW
  obtain ⟨p, q, hA, hV, rfl, hz, _⟩ := hW
  rw [hv] at hV
  obtain ⟨rfl, rfl⟩ := trodVars_none hV
  obtain ⟨hlen, as, h1, h2⟩ := hc p hA
  rw [List.append_nil] at hW'
  have h3 := h2.2 W [] args.toList (HR.nil W) h1
  rw [Array.toArray_toList] at h3
  refine (callsIn_wide.1 h3).mono ?_
  rintro e W' ⟨v, σ', rfl, g1, g2, g3⟩
  have hσ : σ' = [] := by have := g1.len; simpa using this
  subst hσ
  obtain rfl := vr_bool g2
  exact ⟨_, rfl, law_post hl hv (hfn ds hlen) hrt htb hro hW' hA g3.below⟩
end
end AF

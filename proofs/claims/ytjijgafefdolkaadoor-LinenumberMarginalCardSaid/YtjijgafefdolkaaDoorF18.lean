/-
  The law LinenumberMarginal comes back with true for every input, and its arguments read behind the call as before: the row, and the card that ties its listed variables.
-/
import Derived.Test.YtjijgafefdolkaaDoorK6
import Derived.Test.YtjijgafefdolkaaDoorK4
import Derived.Test.YtjijgafefdolkaaDoorRows
import Derived.Test.YtjijgafefdolkaaDoorTie
import Derived.Test.YtjijgafefdolkaaDoorCards
import Derived.ProofKit
import Derived.ChangeMaps5
import Derived.OpenShut
import Derived.LaidMore
import Derived.Lay
import Derived.SevenTiedAt
import Derived.Stop.Joined
set_option linter.all false
set_option linter.unusedSimpArgs false
set_option linter.unusedVariables false
set_option linter.unusedSectionVars false
open Go Go.Proofs AF HY P48 LN Go.ChangeShapes Go.WideShapes Go.ChangeAt Go.RowKit
set_option maxRecDepth 100000
namespace Go.Proofs.YtjijgafefdolkaaDoor
theorem own : ownKnob Tryd.prog.godebug = none := by kernel_rfl
theorem laid : laidOutB Tryd.prog = true := by kernel_rfl
theorem trodAll_n {H : Type} {enc : TypeId × Value → H} {P : Program} {w : World} {base : Nat} {spare : Nat → Bool} {held : Bool} {t0 t1 : TypeId} {args : Array Value} {ds : List (DataW H)} {ps : List MemPlace}
    (h : DataW.TrodAll enc P w base spare held [t0, t1] args.toList ds ps) :
    ∃ v0 v1 d0 d1 p0 p1, args = #[v0, v1] ∧ ds = [d0, d1] ∧ DataW.Trod enc P w base spare held t0 v0 d0 p0 ∧ DataW.Trod enc P w base spare held t1 v1 d1 p1 := by
  obtain ⟨v0, vs0, d0, ds0, p0, q0, hargs, rfl, rfl, hd0, hr0⟩ := trodAll_cons h
  obtain ⟨v1, vs1, d1, ds1, p1, q1, rfl, rfl, rfl, hd1, hr1⟩ := trodAll_cons hr0
  obtain ⟨rfl, rfl, rfl⟩ := trodAll_nil hr1
  exact ⟨v0, v1, d0, d1, p0, p1, by cases args; simp_all, rfl, hd0, hd1⟩
theorem marginal_lifted (os : Os) (started : os.Started) (H : Type) (enc : TypeId × Value → H) :
    ReturnsInHanded {} Tryd.checked os 3 .any (fun w args => (Rows.linenumberMarginalSpec.pre enc Tryd.prog Tryd.f3 Rows.linenumberMarginalRow.domain false w args ∧ laidMetH Tryd.prog Rows.linenumberMarginalRow.laid w) ∧ sizedMet enc Tryd.prog Tryd.f3 (OpenSpec.ofChange Rows.linenumberMarginalSpec) false w args)
      (Rows.linenumberMarginalSpec.post enc Tryd.prog Tryd.f3 false true false false) := by
  refine returnsInHanded_of_change_and (C := Tryd.checked) (X := fun w _ => laidMetH Tryd.prog Rows.linenumberMarginalRow.laid w) (fun _ _ _ hh h => h.of_heap hh) own started (by kernel_rfl) Tryd.func3
    (ChangeSpec.witness_shaped (enc := enc) (C := Tryd.checked) (os := os) (X := fun w _ => laidMetH Tryd.prog Rows.linenumberMarginalRow.laid w) false (World.laidAll Tryd.prog os Rows.linenumberMarginalRow.laid) #[.int .u16 0, .int .u8 0] 8 (World.laidAll_os _ _ _)
      (World.shaped_of_ZipB (by kernel_rfl) (by kernel_rfl)) (by kernel_rfl) (by kernel_rfl) (by kernel_rfl)
      (by rw [MakeChecks.laidMetH_plain _ _ _ (by kernel_rfl)]; exact laidMet_laidAll _ (by kernel_rfl) (by kernel_rfl))) ?_
  intro W base args ds gs before hval hW _ _ _ _
  refine law_step (tb := 4) laid rfl ?_ (by kernel_rfl) Tryd.underlying4 ?_ hW ?_
  · intro ds' h'
    match ds', h' with
    | [a0, a1], _ => rfl
  · intro t ht
    rw [show Tryd.f3.params.toList = [22, 5] by rw [Tryd.params3]] at ht
    simp only [List.mem_cons, List.not_mem_nil, or_false] at ht
    rcases ht with rfl | rfl <;> exact ⟨by kernel_rfl, of_decide_eq_true (by kernel_rfl)⟩
  · intro p hA
    rw [Tryd.params3] at hA hval
    obtain ⟨v0, v1, d0, d1, p0, p1, rfl, rfl, h0, h1⟩ := trodAll_n hA
    obtain ⟨n1, rfl, _, _, w1⟩ := open_int Tryd.underlying22 (hval 0 22 v0 rfl rfl) h0
    obtain ⟨n2, rfl, _, _, w2⟩ := open_int Tryd.underlying5 (hval 1 5 v1 rfl rfl) h1
    have m1 : 0 ≤ n1 ∧ n1 ≤ 65535 := by simpa [Lit.wf, IntKind.min, IntKind.max, IntKind.signed, IntKind.bits] using w1
    have m2 : 0 ≤ n2 ∧ n2 ≤ 255 := by simpa [Lit.wf, IntKind.min, IntKind.max, IntKind.signed, IntKind.bits] using w2
    obtain ⟨a, rfl⟩ : ∃ a : Nat, n1 = a := ⟨n1.toNat, by omega⟩
    obtain ⟨b, rfl⟩ : ∃ b : Nat, n2 = b := ⟨n2.toNat, by omega⟩
    refine ⟨by rw [Tryd.params3]; rfl, [.int .u16 (a : Int), .int .u8 (b : Int)], ?_, t3 a b [] (by omega) (by omega)⟩
    exact VRs.cons' (.imm .int) (VRs.cons' (.imm .int) (VRs.nil'))
theorem marginal_holds : Rows.LinenumberMarginalSaid :=
  OpenClaim.holds_of_wide 3 Tryd.f3 rfl rfl rfl rfl rfl rfl rfl ⟨rfl, rfl, rfl, rfl, rfl⟩ rfl rfl rfl rfl rfl (by kernel_rfl) Tryd.func3 (by kernel_rfl)
    (of_decide_eq_true (by kernel_rfl)) (by unfold Func.isWrapper; first | (rw [if_pos (by decide +kernel)]; kernel_rfl) | (rw [if_neg (by decide +kernel)]; exact ⟨rfl, rfl⟩))
    (fun os started H enc _ => marginal_lifted os started H enc)
theorem marginal_card : Rows.LinenumberMarginalCardSaid :=
  Claim7.holds_tied_plain_at .later [] [.data, .data, .data] true (true, "4f42a60b6635ff51ad48f97d81ab0b60d9db825461a3218943985012fe89ee4b") true marginal_holds (fun _ h => by cases h) (by kernel_rfl) (fun _ h => by cases h) linenumberMarginal_row_tie rfl ⟨rfl, rfl⟩ (by kernel_rfl) rfl
    (fun f fn hf hfn => by
      obtain rfl : f = 3 := Option.some.inj ((show Tryd.prog.funcNamed "apograph/apographlaw49.LinenumberMarginal" = some 3 by kernel_rfl).symm.trans hf) |>.symm
      obtain rfl : fn = Tryd.f3 := (Option.some.inj (Tryd.func3.symm.trans hfn)).symm
      exact ⟨by kernel_rfl, fun j t ht => by
        rw [Tryd.params3] at ht
        have hm : t ∈ [22, 5] := by simpa using Array.mem_of_getElem? ht
        have hall : ([22, 5].all fun u => !Tryd.prog.wantsStandIn u) = true := by kernel_rfl
        exact (show Tryd.prog.wantsStandIn t = false by simpa using List.all_eq_true.1 hall t hm)⟩)
    (by kernel_rfl)
#print axioms marginal_holds
#print axioms marginal_card
end Go.Proofs.YtjijgafefdolkaaDoor

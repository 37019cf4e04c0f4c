/-
  The law LinenumberRanges comes back with true for every input, and its arguments read behind the call as before: the row, and the card that ties its listed variables. No condition.
-/
import Derived.Test.YtjijgafefdolkaaDoorK8
import Derived.Test.YtjijgafefdolkaaDoorK5
import Derived.Test.YtjijgafefdolkaaDoorRows
import Derived.Test.YtjijgafefdolkaaDoorTie
import Derived.Test.YtjijgafefdolkaaDoorCards
import Derived.ProofKit
import Derived.ChangeMaps5
import Derived.OpenShut
import Derived.LaidMore
import Derived.Lay
import Derived.SevenTiedAt
import Derived.Stop.Joined
set_option linter.all false
set_option linter.unusedSimpArgs false
set_option linter.unusedVariables false
set_option linter.unusedSectionVars false
open Go Go.Proofs AF HY P48 LN Go.ChangeShapes Go.WideShapes Go.ChangeAt Go.RowKit
set_option maxRecDepth 100000
namespace Go.Proofs.YtjijgafefdolkaaDoor
theorem own : ownKnob Tryd.prog.godebug = none := by kernel_rfl
theorem laid : laidOutB Tryd.prog = true := by kernel_rfl
theorem trodAll_n {H : Type} {enc : TypeId × Value → H} {P : Program} {w : World} {base : Nat} {spare : Nat → Bool} {held : Bool} {t0 t1 t2 : TypeId} {args : Array Value} {ds : List (DataW H)} {ps : List MemPlace}
    (h : DataW.TrodAll enc P w base spare held [t0, t1, t2] args.toList ds ps) :
    ∃ v0 v1 v2 d0 d1 d2 p0 p1 p2, args = #[v0, v1, v2] ∧ ds = [d0, d1, d2] ∧ DataW.Trod enc P w base spare held t0 v0 d0 p0 ∧ DataW.Trod enc P w base spare held t1 v1 d1 p1 ∧ DataW.Trod enc P w base spare held t2 v2 d2 p2 := by
  obtain ⟨v0, vs0, d0, ds0, p0, q0, hargs, rfl, rfl, hd0, hr0⟩ := trodAll_cons h
  obtain ⟨v1, vs1, d1, ds1, p1, q1, rfl, rfl, rfl, hd1, hr1⟩ := trodAll_cons hr0
  obtain ⟨v2, vs2, d2, ds2, p2, q2, rfl, rfl, rfl, hd2, hr2⟩ := trodAll_cons hr1
  obtain ⟨rfl, rfl, rfl⟩ := trodAll_nil hr2
  exact ⟨v0, v1, v2, d0, d1, d2, p0, p1, p2, by cases args; simp_all, rfl, hd0, hd1, hd2⟩
theorem ranges_lifted (os : Os) (started : os.Started) (H : Type) (enc : TypeId × Value → H) :
    ReturnsInHanded {} Tryd.checked os 6 .any (fun w args => (Rows.linenumberRangesSpec.pre enc Tryd.prog Tryd.f6 Rows.linenumberRangesRow.domain false w args ∧ laidMetH Tryd.prog Rows.linenumberRangesRow.laid w) ∧ sizedMet enc Tryd.prog Tryd.f6 (OpenSpec.ofChange Rows.linenumberRangesSpec) false w args)
      (Rows.linenumberRangesSpec.post enc Tryd.prog Tryd.f6 false true false false) := by
  refine returnsInHanded_of_change_and (C := Tryd.checked) (X := fun w _ => laidMetH Tryd.prog Rows.linenumberRangesRow.laid w) (fun _ _ _ hh h => h.of_heap hh) own started (by kernel_rfl) Tryd.func6
    (ChangeSpec.witness_shaped (enc := enc) (C := Tryd.checked) (os := os) (X := fun w _ => laidMetH Tryd.prog Rows.linenumberRangesRow.laid w) false (World.laidAll Tryd.prog os Rows.linenumberRangesRow.laid) #[.int .u16 0, .int .u16 0, .string ByteArray.empty] 8 (World.laidAll_os _ _ _)
      (World.shaped_of_ZipB (by kernel_rfl) (by kernel_rfl)) (by kernel_rfl) (by kernel_rfl) (by kernel_rfl)
      (by rw [MakeChecks.laidMetH_plain _ _ _ (by kernel_rfl)]; exact laidMet_laidAll _ (by kernel_rfl) (by kernel_rfl))) ?_
  intro W base args ds gs before hval hW _ _ hX _
  have hX : laidMetH Tryd.prog Rows.linenumberRangesRow.laid W := hX
  rw [MakeChecks.laidMetH_plain _ _ _ (by kernel_rfl)] at hX
  refine law_step_pin (tb := 4) (bs := err_bs) (G := err_G) laid rfl ?_ (by kernel_rfl) Tryd.underlying4 ?_ hW (err_cells hX) (err_stay hX) ?_
  · intro ds' h'
    match ds', h' with
    | [a0, a1, a2], _ => rfl
  · intro t ht
    rw [show Tryd.f6.params.toList = [22, 22, 9] by rw [Tryd.params6]] at ht
    simp only [List.mem_cons, List.not_mem_nil, or_false] at ht
    rcases ht with rfl | rfl | rfl <;> exact ⟨by kernel_rfl, of_decide_eq_true (by kernel_rfl)⟩
  · intro p hA
    rw [Tryd.params6] at hA hval
    obtain ⟨v0, v1, v2, d0, d1, d2, p0, p1, p2, rfl, rfl, h0, h1, h2⟩ := trodAll_n hA
    obtain ⟨n0, rfl, _, _, w0⟩ := open_int Tryd.underlying22 (hval 0 22 v0 rfl rfl) h0
    have hl0 : (0 : Int) ≤ n0 ∧ n0 ≤ 65535 := by simpa [Lit.wf, IntKind.min, IntKind.max, IntKind.signed, IntKind.bits] using w0
    obtain ⟨n1, rfl, _, _, w1⟩ := open_int Tryd.underlying22 (hval 1 22 v1 rfl rfl) h1
    have hl1 : (0 : Int) ≤ n1 ∧ n1 ≤ 65535 := by simpa [Lit.wf, IntKind.min, IntKind.max, IntKind.signed, IntKind.bits] using w1
    obtain ⟨s2, rfl, rfl, rfl, ws2⟩ := Go.ChangeMaps.open_string Tryd.underlying9 (hval 2 9 v2 rfl rfl) h2
    have hl2 : s2.data.toList.length ≤ 9223372036854775807 := by unfold maxLen at ws2; simpa using ws2
    refine ⟨by rw [Tryd.params6]; rfl, [.int .u16 n0, .int .u16 n1, .str s2.data.toList], ?_, t6 n0 n1 s2.data.toList _ err_pins err_pins2 hl0 hl1 hl2⟩
    exact VRs.cons' (.imm .int) (VRs.cons' (.imm .int) (VRs.cons' (.imm .str) (VRs.nil')))
theorem ranges_holds : Rows.LinenumberRangesSaid :=
  OpenClaim.holds_of_wide 6 Tryd.f6 rfl rfl rfl rfl rfl rfl rfl ⟨rfl, rfl, rfl, rfl, rfl⟩ rfl rfl rfl rfl rfl (by kernel_rfl) Tryd.func6 (by kernel_rfl)
    (of_decide_eq_true (by kernel_rfl)) (by unfold Func.isWrapper; first | (rw [if_pos (by decide +kernel)]; kernel_rfl) | (rw [if_neg (by decide +kernel)]; exact ⟨rfl, rfl⟩))
    (fun os started H enc _ => ranges_lifted os started H enc)
theorem ranges_card : Rows.LinenumberRangesCardSaid :=
  Claim7.holds_tied_plain_at .later [] [.data, .data, .data, .sentinel, .sentinel] true (true, "4f42a60b6635ff51ad48f97d81ab0b60d9db825461a3218943985012fe89ee4b") true ranges_holds (fun _ h => by cases h) (by kernel_rfl) (fun _ h => by cases h) linenumberRanges_row_tie rfl ⟨rfl, rfl⟩ (by kernel_rfl) rfl
    (fun f fn hf hfn => by
      obtain rfl : f = 6 := Option.some.inj ((show Tryd.prog.funcNamed "apograph/apographlaw49.LinenumberRanges" = some 6 by kernel_rfl).symm.trans hf) |>.symm
      obtain rfl : fn = Tryd.f6 := (Option.some.inj (Tryd.func6.symm.trans hfn)).symm
      exact ⟨by kernel_rfl, fun j t ht => by
        rw [Tryd.params6] at ht
        have hm : t ∈ [22, 22, 9] := by simpa using Array.mem_of_getElem? ht
        have hall : ([22, 22, 9].all fun u => !Tryd.prog.wantsStandIn u) = true := by kernel_rfl
        exact (show Tryd.prog.wantsStandIn t = false by simpa using List.all_eq_true.1 hall t hm)⟩)
    (by kernel_rfl)
#print axioms ranges_holds
#print axioms ranges_card
end Go.Proofs.YtjijgafefdolkaaDoor

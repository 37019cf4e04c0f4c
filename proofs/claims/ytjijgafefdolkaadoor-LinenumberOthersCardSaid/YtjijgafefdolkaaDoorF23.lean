/-
  The law LinenumberOthers comes back with true for every input, and its arguments read behind the call as before: the row, and the card that ties its listed variables. No condition.
-/
import Derived.Test.YtjijgafefdolkaaDoorK11
import Derived.Test.YtjijgafefdolkaaDoorK9
import Derived.Test.YtjijgafefdolkaaDoorK6
import Derived.Test.YtjijgafefdolkaaDoorRows
import Derived.Test.YtjijgafefdolkaaDoorTie
import Derived.Test.YtjijgafefdolkaaDoorCards
import Derived.ProofKit
import Derived.ChangeMaps5
import Derived.OpenShut
import Derived.LaidMore
import Derived.Lay
import Derived.SevenTiedAt
import Derived.Stop.Joined
set_option linter.all false
set_option linter.unusedSimpArgs false
set_option linter.unusedVariables false
set_option linter.unusedSectionVars false
open Go Go.Proofs AF HY P48 LN Go.ChangeShapes Go.WideShapes Go.ChangeAt Go.RowKit
set_option maxRecDepth 100000
namespace Go.Proofs.YtjijgafefdolkaaDoor
theorem own : ownKnob Tryd.prog.godebug = none := by kernel_rfl
theorem laid : laidOutB Tryd.prog = true := by kernel_rfl
theorem trodAll_n {H : Type} {enc : TypeId × Value → H} {P : Program} {w : World} {base : Nat} {spare : Nat → Bool} {held : Bool} {t0 t1 t2 t3 t4 t5 : TypeId} {args : Array Value} {ds : List (DataW H)} {ps : List MemPlace}
    (h : DataW.TrodAll enc P w base spare held [t0, t1, t2, t3, t4, t5] args.toList ds ps) :
    ∃ v0 v1 v2 v3 v4 v5 d0 d1 d2 d3 d4 d5 p0 p1 p2 p3 p4 p5, args = #[v0, v1, v2, v3, v4, v5] ∧ ds = [d0, d1, d2, d3, d4, d5] ∧ DataW.Trod enc P w base spare held t0 v0 d0 p0 ∧ DataW.Trod enc P w base spare held t1 v1 d1 p1 ∧ DataW.Trod enc P w base spare held t2 v2 d2 p2 ∧ DataW.Trod enc P w base spare held t3 v3 d3 p3 ∧ DataW.Trod enc P w base spare held t4 v4 d4 p4 ∧ DataW.Trod enc P w base spare held t5 v5 d5 p5 := by
  obtain ⟨v0, vs0, d0, ds0, p0, q0, hargs, rfl, rfl, hd0, hr0⟩ := trodAll_cons h
  obtain ⟨v1, vs1, d1, ds1, p1, q1, rfl, rfl, rfl, hd1, hr1⟩ := trodAll_cons hr0
  obtain ⟨v2, vs2, d2, ds2, p2, q2, rfl, rfl, rfl, hd2, hr2⟩ := trodAll_cons hr1
  obtain ⟨v3, vs3, d3, ds3, p3, q3, rfl, rfl, rfl, hd3, hr3⟩ := trodAll_cons hr2
  obtain ⟨v4, vs4, d4, ds4, p4, q4, rfl, rfl, rfl, hd4, hr4⟩ := trodAll_cons hr3
  obtain ⟨v5, vs5, d5, ds5, p5, q5, rfl, rfl, rfl, hd5, hr5⟩ := trodAll_cons hr4
  obtain ⟨rfl, rfl, rfl⟩ := trodAll_nil hr5
  exact ⟨v0, v1, v2, v3, v4, v5, d0, d1, d2, d3, d4, d5, p0, p1, p2, p3, p4, p5, by cases args; simp_all, rfl, hd0, hd1, hd2, hd3, hd4, hd5⟩
theorem read_ints_flat : flatK Tryd.prog 3 = some [.int .i64] := by kernel_rfl
theorem read_ints_of {zs : List AV} (h : fksOk [.int .i64] zs) : ∃ x : Int, zs = [.int .i64 x] := by
  have hl := fksOk_len h
  match zs, hl with
  | [a], _ =>
    obtain ⟨⟨a', ha, _⟩, _⟩ := h
    exact ⟨a', by rw [ha]⟩
/-- What such a slice reads as. -/
theorem read_ints {H : Type} {enc : TypeId × Value → H} {W : World} {base : Nat} {v : Value} {d : DataW H} {ps : List MemPlace} (hval : Value.okWide Tryd.prog W .any base 23 v) (h : DataW.Trod enc Tryd.prog W 0 (fun _ => true) true 23 v d ps) :
    ∃ l : List Int, l.length ≤ 9223372036854775807 ∧ VR W [] (intsV l) v := by
  obtain ⟨n, f, hn, hvi, hf⟩ := slice_trod (ow := AF.own []) Tryd.underlying23 read_ints_flat (by decide) hval own_nil h
  have key : ∀ i, i < n → ∃ x : Int, f i = [.int .i64 x] := fun i hi => read_ints_of (hf i hi)
  let l : List Int := (List.range n).map fun i => if hi : i < n then (key i hi).choose else 0
  have hl : l.length = n := by simp [l]
  refine ⟨l, by rw [hl]; unfold maxLen at hn; omega, ?_⟩
  refine VLe_sl hl.symm (fun i hi => ?_) W [] v (.imm hvi)
  rw [hl] at hi
  have e : l.getD i 0 = (key i hi).choose := by
    simp [l, List.getD_eq_getElem?_getD, hi]
  rw [e]
  exact (key i hi).choose_spec
theorem read_strs_flat : flatK Tryd.prog 9 = some [.str] := by kernel_rfl
theorem read_strs_of {zs : List AV} (h : fksOk [.str] zs) : ∃ x : (List UInt8), zs = [.str x] := by
  have hl := fksOk_len h
  match zs, hl with
  | [a], _ =>
    obtain ⟨⟨a', ha, _⟩, _⟩ := h
    exact ⟨a', by rw [ha]⟩
/-- What such a slice reads as. -/
theorem read_strs {H : Type} {enc : TypeId × Value → H} {W : World} {base : Nat} {v : Value} {d : DataW H} {ps : List MemPlace} (hval : Value.okWide Tryd.prog W .any base 36 v) (h : DataW.Trod enc Tryd.prog W 0 (fun _ => true) true 36 v d ps) :
    ∃ l : List (List UInt8), l.length ≤ 9223372036854775807 ∧ VR W [] (strs l) v := by
  obtain ⟨n, f, hn, hvi, hf⟩ := slice_trod (ow := AF.own []) Tryd.underlying36 read_strs_flat (by decide) hval own_nil h
  have key : ∀ i, i < n → ∃ x : (List UInt8), f i = [.str x] := fun i hi => read_strs_of (hf i hi)
  let l : List (List UInt8) := (List.range n).map fun i => if hi : i < n then (key i hi).choose else []
  have hl : l.length = n := by simp [l]
  refine ⟨l, by rw [hl]; unfold maxLen at hn; omega, ?_⟩
  refine VLe_sl hl.symm (fun i hi => ?_) W [] v (.imm hvi)
  rw [hl] at hi
  have e : l.getD i [] = (key i hi).choose := by
    simp [l, List.getD_eq_getElem?_getD, hi]
  rw [e]
  exact (key i hi).choose_spec
theorem others_lifted (os : Os) (started : os.Started) (H : Type) (enc : TypeId × Value → H) :
    ReturnsInHanded {} Tryd.checked os 7 .any (fun w args => (Rows.linenumberOthersSpec.pre enc Tryd.prog Tryd.f7 Rows.linenumberOthersRow.domain false w args ∧ laidMetH Tryd.prog Rows.linenumberOthersRow.laid w) ∧ sizedMet enc Tryd.prog Tryd.f7 (OpenSpec.ofChange Rows.linenumberOthersSpec) false w args)
      (Rows.linenumberOthersSpec.post enc Tryd.prog Tryd.f7 false true false false) := by
  refine returnsInHanded_of_change_and (C := Tryd.checked) (X := fun w _ => laidMetH Tryd.prog Rows.linenumberOthersRow.laid w) (fun _ _ _ hh h => h.of_heap hh) own started (by kernel_rfl) Tryd.func7
    (ChangeSpec.witness_shaped (enc := enc) (C := Tryd.checked) (os := os) (X := fun w _ => laidMetH Tryd.prog Rows.linenumberOthersRow.laid w) false (World.laidAll Tryd.prog os Rows.linenumberOthersRow.laid) #[.int .i64 0, .int .i64 0, .string ByteArray.empty, .slice none 0 0, .slice none 0 0, .slice none 0 0] 8 (World.laidAll_os _ _ _)
      (World.shaped_of_ZipB (by kernel_rfl) (by kernel_rfl)) (by kernel_rfl) (by kernel_rfl) (by kernel_rfl)
      (by rw [MakeChecks.laidMetH_plain _ _ _ (by kernel_rfl)]; exact laidMet_laidAll _ (by kernel_rfl) (by kernel_rfl))) ?_
  intro W base args ds gs before hval hW _ _ hX _
  have hX : laidMetH Tryd.prog Rows.linenumberOthersRow.laid W := hX
  rw [MakeChecks.laidMetH_plain _ _ _ (by kernel_rfl)] at hX
  refine law_step_pin (tb := 4) (bs := err_bs) (G := err_G) laid rfl ?_ (by kernel_rfl) Tryd.underlying4 ?_ hW (err_cells hX) (err_stay hX) ?_
  · intro ds' h'
    match ds', h' with
    | [a0, a1, a2, a3, a4, a5], _ => rfl
  · intro t ht
    rw [show Tryd.f7.params.toList = [3, 3, 9, 36, 36, 23] by rw [Tryd.params7]] at ht
    simp only [List.mem_cons, List.not_mem_nil, or_false] at ht
    rcases ht with rfl | rfl | rfl | rfl | rfl | rfl <;> exact ⟨by kernel_rfl, of_decide_eq_true (by kernel_rfl)⟩
  · intro p hA
    rw [Tryd.params7] at hA hval
    obtain ⟨v0, v1, v2, v3, v4, v5, d0, d1, d2, d3, d4, d5, p0, p1, p2, p3, p4, p5, rfl, rfl, h0, h1, h2, h3, h4, h5⟩ := trodAll_n hA
    obtain ⟨n0, rfl, _, _, w0⟩ := open_int Tryd.underlying3 (hval 0 3 v0 rfl rfl) h0
    have hl0 : (-9223372036854775808 : Int) ≤ n0 ∧ n0 ≤ 9223372036854775807 := by simpa [Lit.wf, IntKind.min, IntKind.max, IntKind.signed, IntKind.bits] using w0
    obtain ⟨n1, rfl, _, _, w1⟩ := open_int Tryd.underlying3 (hval 1 3 v1 rfl rfl) h1
    have hl1 : (-9223372036854775808 : Int) ≤ n1 ∧ n1 ≤ 9223372036854775807 := by simpa [Lit.wf, IntKind.min, IntKind.max, IntKind.signed, IntKind.bits] using w1
    obtain ⟨s2, rfl, rfl, rfl, ws2⟩ := Go.ChangeMaps.open_string Tryd.underlying9 (hval 2 9 v2 rfl rfl) h2
    have hl2 : s2.data.toList.length ≤ 9223372036854775807 := by unfold maxLen at ws2; simpa using ws2
    obtain ⟨l3, hl3, hv3⟩ := read_strs (hval 3 36 v3 rfl rfl) h3
    obtain ⟨l4, hl4, hv4⟩ := read_strs (hval 4 36 v4 rfl rfl) h4
    obtain ⟨l5, hl5, hv5⟩ := read_ints (hval 5 23 v5 rfl rfl) h5
    refine ⟨by rw [Tryd.params7]; rfl, [.int .i64 n0, .int .i64 n1, .str s2.data.toList, strs l3, strs l4, intsV l5], ?_, t7 n0 n1 s2.data.toList l3 l4 l5 _ err_pins err_pins2 hl0 hl1⟩
    exact VRs.cons' (.imm .int) (VRs.cons' (.imm .int) (VRs.cons' (.imm .str) (VRs.cons' hv3 (VRs.cons' hv4 (VRs.cons' hv5 (VRs.nil'))))))
theorem others_holds : Rows.LinenumberOthersSaid :=
  OpenClaim.holds_of_wide 7 Tryd.f7 rfl rfl rfl rfl rfl rfl rfl ⟨rfl, rfl, rfl, rfl, rfl⟩ rfl rfl rfl rfl rfl (by kernel_rfl) Tryd.func7 (by kernel_rfl)
    (of_decide_eq_true (by kernel_rfl)) (by unfold Func.isWrapper; first | (rw [if_pos (by decide +kernel)]; kernel_rfl) | (rw [if_neg (by decide +kernel)]; exact ⟨rfl, rfl⟩))
    (fun os started H enc _ => others_lifted os started H enc)
theorem others_card : Rows.LinenumberOthersCardSaid :=
  Claim7.holds_tied_plain_at .later [] [.data, .data, .data, .sentinel, .sentinel] true (true, "4f42a60b6635ff51ad48f97d81ab0b60d9db825461a3218943985012fe89ee4b") true others_holds (fun _ h => by cases h) (by kernel_rfl) (fun _ h => by cases h) linenumberOthers_row_tie rfl ⟨rfl, rfl⟩ (by kernel_rfl) rfl
    (fun f fn hf hfn => by
      obtain rfl : f = 7 := Option.some.inj ((show Tryd.prog.funcNamed "apograph/apographlaw49.LinenumberOthers" = some 7 by kernel_rfl).symm.trans hf) |>.symm
      obtain rfl : fn = Tryd.f7 := (Option.some.inj (Tryd.func7.symm.trans hfn)).symm
      exact ⟨by kernel_rfl, fun j t ht => by
        rw [Tryd.params7] at ht
        have hm : t ∈ [3, 3, 9, 36, 36, 23] := by simpa using Array.mem_of_getElem? ht
        have hall : ([3, 3, 9, 36, 36, 23].all fun u => !Tryd.prog.wantsStandIn u) = true := by kernel_rfl
        exact (show Tryd.prog.wantsStandIn t = false by simpa using List.all_eq_true.1 hall t hm)⟩)
    (by kernel_rfl)
#print axioms others_holds
#print axioms others_card
end Go.Proofs.YtjijgafefdolkaaDoor

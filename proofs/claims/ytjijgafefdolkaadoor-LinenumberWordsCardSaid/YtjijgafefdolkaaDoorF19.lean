/-
  The law LinenumberWords comes back with true for every input, and its arguments read behind the call as before: the row, and the card that ties its listed variables. No condition.
-/
import Derived.Test.YtjijgafefdolkaaDoorK7
import Derived.Test.YtjijgafefdolkaaDoorK4
import Derived.Test.YtjijgafefdolkaaDoorRows
import Derived.Test.YtjijgafefdolkaaDoorTie
import Derived.Test.YtjijgafefdolkaaDoorCards
import Derived.ProofKit
import Derived.ChangeMaps5
import Derived.OpenShut
import Derived.LaidMore
import Derived.Lay
import Derived.SevenTiedAt
import Derived.Stop.Joined
set_option linter.all false
set_option linter.unusedSimpArgs false
set_option linter.unusedVariables false
set_option linter.unusedSectionVars false
open Go Go.Proofs AF HY P48 LN Go.ChangeShapes Go.WideShapes Go.ChangeAt Go.RowKit
set_option maxRecDepth 100000
namespace Go.Proofs.YtjijgafefdolkaaDoor
theorem own : ownKnob Tryd.prog.godebug = none := by kernel_rfl
theorem laid : laidOutB Tryd.prog = true := by kernel_rfl
theorem trodAll_n {H : Type} {enc : TypeId × Value → H} {P : Program} {w : World} {base : Nat} {spare : Nat → Bool} {held : Bool} {t0 t1 t2 t3 t4 t5 : TypeId} {args : Array Value} {ds : List (DataW H)} {ps : List MemPlace}
    (h : DataW.TrodAll enc P w base spare held [t0, t1, t2, t3, t4, t5] args.toList ds ps) :
    ∃ v0 v1 v2 v3 v4 v5 d0 d1 d2 d3 d4 d5 p0 p1 p2 p3 p4 p5, args = #[v0, v1, v2, v3, v4, v5] ∧ ds = [d0, d1, d2, d3, d4, d5] ∧ DataW.Trod enc P w base spare held t0 v0 d0 p0 ∧ DataW.Trod enc P w base spare held t1 v1 d1 p1 ∧ DataW.Trod enc P w base spare held t2 v2 d2 p2 ∧ DataW.Trod enc P w base spare held t3 v3 d3 p3 ∧ DataW.Trod enc P w base spare held t4 v4 d4 p4 ∧ DataW.Trod enc P w base spare held t5 v5 d5 p5 := by
  obtain ⟨v0, vs0, d0, ds0, p0, q0, hargs, rfl, rfl, hd0, hr0⟩ := trodAll_cons h
  obtain ⟨v1, vs1, d1, ds1, p1, q1, rfl, rfl, rfl, hd1, hr1⟩ := trodAll_cons hr0
  obtain ⟨v2, vs2, d2, ds2, p2, q2, rfl, rfl, rfl, hd2, hr2⟩ := trodAll_cons hr1
  obtain ⟨v3, vs3, d3, ds3, p3, q3, rfl, rfl, rfl, hd3, hr3⟩ := trodAll_cons hr2
  obtain ⟨v4, vs4, d4, ds4, p4, q4, rfl, rfl, rfl, hd4, hr4⟩ := trodAll_cons hr3
  obtain ⟨v5, vs5, d5, ds5, p5, q5, rfl, rfl, rfl, hd5, hr5⟩ := trodAll_cons hr4
  obtain ⟨rfl, rfl, rfl⟩ := trodAll_nil hr5
  exact ⟨v0, v1, v2, v3, v4, v5, d0, d1, d2, d3, d4, d5, p0, p1, p2, p3, p4, p5, by cases args; simp_all, rfl, hd0, hd1, hd2, hd3, hd4, hd5⟩
theorem read_items_flat : flatK Tryd.prog 57 = some [.int .i64, .int .i64, .int .i64, .int .i64, .int .i64, .str] := by kernel_rfl
theorem read_items_of {zs : List AV} (h : fksOk [.int .i64, .int .i64, .int .i64, .int .i64, .int .i64, .str] zs) : ∃ x : It, zs = itemC x := by
  have hl := fksOk_len h
  match zs, hl with
  | [a, b, c, d, e, g], _ =>
    obtain ⟨⟨a', ha, _⟩, ⟨b', hb, _⟩, ⟨c', hc, _⟩, ⟨d', hd, _⟩, ⟨e', he, _⟩, ⟨g', hg, _⟩, _⟩ := h
    exact ⟨⟨a', b', c', d', e', g'⟩, by rw [ha, hb, hc, hd, he, hg]; rfl⟩
/-- What such a slice reads as. -/
theorem read_items {H : Type} {enc : TypeId × Value → H} {W : World} {base : Nat} {v : Value} {d : DataW H} {ps : List MemPlace} (hval : Value.okWide Tryd.prog W .any base 29 v) (h : DataW.Trod enc Tryd.prog W 0 (fun _ => true) true 29 v d ps) :
    ∃ l : List It, l.length ≤ 9223372036854775807 ∧ VR W [] (items l) v := by
  obtain ⟨n, f, hn, hvi, hf⟩ := slice_trod (ow := AF.own []) Tryd.underlying29 read_items_flat (by decide) hval own_nil h
  have key : ∀ i, i < n → ∃ x : It, f i = itemC x := fun i hi => read_items_of (hf i hi)
  let l : List It := (List.range n).map fun i => if hi : i < n then (key i hi).choose else default
  have hl : l.length = n := by simp [l]
  refine ⟨l, by rw [hl]; unfold maxLen at hn; omega, ?_⟩
  refine VLe_sl hl.symm (fun i hi => ?_) W [] v (.imm hvi)
  rw [hl] at hi
  have e : it l i = (key i hi).choose := by
    rw [it_eq (by rw [hl]; exact hi)]; simp [l, hi]
  rw [e]
  exact (key i hi).choose_spec
theorem read_lines_flat : flatK Tryd.prog 60 = some [.int .i64, .int .i64, .int .i64, .int .i64, .str] := by kernel_rfl
theorem read_lines_of {zs : List AV} (h : fksOk [.int .i64, .int .i64, .int .i64, .int .i64, .str] zs) : ∃ x : Ln, zs = lineC x := by
  have hl := fksOk_len h
  match zs, hl with
  | [a, b, c, d, g], _ =>
    obtain ⟨⟨a', ha, _⟩, ⟨b', hb, _⟩, ⟨c', hc, _⟩, ⟨d', hd, _⟩, ⟨g', hg, _⟩, _⟩ := h
    exact ⟨⟨a', b', c', d', g'⟩, by rw [ha, hb, hc, hd, hg]; rfl⟩
/-- What such a slice reads as. -/
theorem read_lines {H : Type} {enc : TypeId × Value → H} {W : World} {base : Nat} {v : Value} {d : DataW H} {ps : List MemPlace} (hval : Value.okWide Tryd.prog W .any base 30 v) (h : DataW.Trod enc Tryd.prog W 0 (fun _ => true) true 30 v d ps) :
    ∃ l : List Ln, l.length ≤ 9223372036854775807 ∧ VR W [] (linesV l) v := by
  obtain ⟨n, f, hn, hvi, hf⟩ := slice_trod (ow := AF.own []) Tryd.underlying30 read_lines_flat (by decide) hval own_nil h
  have key : ∀ i, i < n → ∃ x : Ln, f i = lineC x := fun i hi => read_lines_of (hf i hi)
  let l : List Ln := (List.range n).map fun i => if hi : i < n then (key i hi).choose else default
  have hl : l.length = n := by simp [l]
  refine ⟨l, by rw [hl]; unfold maxLen at hn; omega, ?_⟩
  refine VLe_sl hl.symm (fun i hi => ?_) W [] v (.imm hvi)
  rw [hl] at hi
  have e : l.getD i default = (key i hi).choose := by
    simp [l, List.getD_eq_getElem?_getD, hi]
  rw [e]
  exact (key i hi).choose_spec
theorem read_ints_flat : flatK Tryd.prog 3 = some [.int .i64] := by kernel_rfl
theorem read_ints_of {zs : List AV} (h : fksOk [.int .i64] zs) : ∃ x : Int, zs = [.int .i64 x] := by
  have hl := fksOk_len h
  match zs, hl with
  | [a], _ =>
    obtain ⟨⟨a', ha, _⟩, _⟩ := h
    exact ⟨a', by rw [ha]⟩
/-- What such a slice reads as. -/
theorem read_ints {H : Type} {enc : TypeId × Value → H} {W : World} {base : Nat} {v : Value} {d : DataW H} {ps : List MemPlace} (hval : Value.okWide Tryd.prog W .any base 23 v) (h : DataW.Trod enc Tryd.prog W 0 (fun _ => true) true 23 v d ps) :
    ∃ l : List Int, l.length ≤ 9223372036854775807 ∧ VR W [] (intsV l) v := by
  obtain ⟨n, f, hn, hvi, hf⟩ := slice_trod (ow := AF.own []) Tryd.underlying23 read_ints_flat (by decide) hval own_nil h
  have key : ∀ i, i < n → ∃ x : Int, f i = [.int .i64 x] := fun i hi => read_ints_of (hf i hi)
  let l : List Int := (List.range n).map fun i => if hi : i < n then (key i hi).choose else 0
  have hl : l.length = n := by simp [l]
  refine ⟨l, by rw [hl]; unfold maxLen at hn; omega, ?_⟩
  refine VLe_sl hl.symm (fun i hi => ?_) W [] v (.imm hvi)
  rw [hl] at hi
  have e : l.getD i 0 = (key i hi).choose := by
    simp [l, List.getD_eq_getElem?_getD, hi]
  rw [e]
  exact (key i hi).choose_spec
theorem words_lifted (os : Os) (started : os.Started) (H : Type) (enc : TypeId × Value → H) :
    ReturnsInHanded {} Tryd.checked os 4 .any (fun w args => (Rows.linenumberWordsSpec.pre enc Tryd.prog Tryd.f4 Rows.linenumberWordsRow.domain false w args ∧ laidMetH Tryd.prog Rows.linenumberWordsRow.laid w) ∧ sizedMet enc Tryd.prog Tryd.f4 (OpenSpec.ofChange Rows.linenumberWordsSpec) false w args)
      (Rows.linenumberWordsSpec.post enc Tryd.prog Tryd.f4 false true false false) := by
  refine returnsInHanded_of_change_and (C := Tryd.checked) (X := fun w _ => laidMetH Tryd.prog Rows.linenumberWordsRow.laid w) (fun _ _ _ hh h => h.of_heap hh) own started (by kernel_rfl) Tryd.func4
    (ChangeSpec.witness_shaped (enc := enc) (C := Tryd.checked) (os := os) (X := fun w _ => laidMetH Tryd.prog Rows.linenumberWordsRow.laid w) false (World.laidAll Tryd.prog os Rows.linenumberWordsRow.laid) #[.slice none 0 0, .slice none 0 0, .slice none 0 0, .slice none 0 0, .int .i64 0, .int .i64 0] 8 (World.laidAll_os _ _ _)
      (World.shaped_of_ZipB (by kernel_rfl) (by kernel_rfl)) (by kernel_rfl) (by kernel_rfl) (by kernel_rfl)
      (by rw [MakeChecks.laidMetH_plain _ _ _ (by kernel_rfl)]; exact laidMet_laidAll _ (by kernel_rfl) (by kernel_rfl))) ?_
  intro W base args ds gs before hval hW _ _ _ _
  refine law_step (tb := 4) laid rfl ?_ (by kernel_rfl) Tryd.underlying4 ?_ hW ?_
  · intro ds' h'
    match ds', h' with
    | [a0, a1, a2, a3, a4, a5], _ => rfl
  · intro t ht
    rw [show Tryd.f4.params.toList = [29, 30, 23, 23, 3, 3] by rw [Tryd.params4]] at ht
    simp only [List.mem_cons, List.not_mem_nil, or_false] at ht
    rcases ht with rfl | rfl | rfl | rfl | rfl | rfl <;> exact ⟨by kernel_rfl, of_decide_eq_true (by kernel_rfl)⟩
  · intro p hA
    rw [Tryd.params4] at hA hval
    obtain ⟨v0, v1, v2, v3, v4, v5, d0, d1, d2, d3, d4, d5, p0, p1, p2, p3, p4, p5, rfl, rfl, h0, h1, h2, h3, h4, h5⟩ := trodAll_n hA
    obtain ⟨l0, hl0, hv0⟩ := read_items (hval 0 29 v0 rfl rfl) h0
    obtain ⟨l1, hl1, hv1⟩ := read_lines (hval 1 30 v1 rfl rfl) h1
    obtain ⟨l2, hl2, hv2⟩ := read_ints (hval 2 23 v2 rfl rfl) h2
    obtain ⟨l3, hl3, hv3⟩ := read_ints (hval 3 23 v3 rfl rfl) h3
    obtain ⟨n4, rfl, _, _, w4⟩ := open_int Tryd.underlying3 (hval 4 3 v4 rfl rfl) h4
    have hl4 : (-9223372036854775808 : Int) ≤ n4 ∧ n4 ≤ 9223372036854775807 := by simpa [Lit.wf, IntKind.min, IntKind.max, IntKind.signed, IntKind.bits] using w4
    obtain ⟨n5, rfl, _, _, w5⟩ := open_int Tryd.underlying3 (hval 5 3 v5 rfl rfl) h5
    have hl5 : (-9223372036854775808 : Int) ≤ n5 ∧ n5 ≤ 9223372036854775807 := by simpa [Lit.wf, IntKind.min, IntKind.max, IntKind.signed, IntKind.bits] using w5
    refine ⟨by rw [Tryd.params4]; rfl, [items l0, linesV l1, intsV l2, intsV l3, .int .i64 n4, .int .i64 n5], ?_, t4 l0 l1 l2 l3 n4 n5 [] hl0⟩
    exact VRs.cons' hv0 (VRs.cons' hv1 (VRs.cons' hv2 (VRs.cons' hv3 (VRs.cons' (.imm .int) (VRs.cons' (.imm .int) (VRs.nil'))))))
theorem words_holds : Rows.LinenumberWordsSaid :=
  OpenClaim.holds_of_wide 4 Tryd.f4 rfl rfl rfl rfl rfl rfl rfl ⟨rfl, rfl, rfl, rfl, rfl⟩ rfl rfl rfl rfl rfl (by kernel_rfl) Tryd.func4 (by kernel_rfl)
    (of_decide_eq_true (by kernel_rfl)) (by unfold Func.isWrapper; first | (rw [if_pos (by decide +kernel)]; kernel_rfl) | (rw [if_neg (by decide +kernel)]; exact ⟨rfl, rfl⟩))
    (fun os started H enc _ => words_lifted os started H enc)
theorem words_card : Rows.LinenumberWordsCardSaid :=
  Claim7.holds_tied_plain_at .later [] [.data, .data, .data] true (true, "4f42a60b6635ff51ad48f97d81ab0b60d9db825461a3218943985012fe89ee4b") true words_holds (fun _ h => by cases h) (by kernel_rfl) (fun _ h => by cases h) linenumberWords_row_tie rfl ⟨rfl, rfl⟩ (by kernel_rfl) rfl
    (fun f fn hf hfn => by
      obtain rfl : f = 4 := Option.some.inj ((show Tryd.prog.funcNamed "apograph/apographlaw49.LinenumberWords" = some 4 by kernel_rfl).symm.trans hf) |>.symm
      obtain rfl : fn = Tryd.f4 := (Option.some.inj (Tryd.func4.symm.trans hfn)).symm
      exact ⟨by kernel_rfl, fun j t ht => by
        rw [Tryd.params4] at ht
        have hm : t ∈ [29, 30, 23, 23, 3, 3] := by simpa using Array.mem_of_getElem? ht
        have hall : ([29, 30, 23, 23, 3, 3].all fun u => !Tryd.prog.wantsStandIn u) = true := by kernel_rfl
        exact (show Tryd.prog.wantsStandIn t = false by simpa using List.all_eq_true.1 hall t hm)⟩)
    (by kernel_rfl)
#print axioms words_holds
#print axioms words_card
end Go.Proofs.YtjijgafefdolkaaDoor

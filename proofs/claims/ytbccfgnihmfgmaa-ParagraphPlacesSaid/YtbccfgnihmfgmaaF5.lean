/-
  The law ParagraphPlaces comes back with true for every input, and its arguments read behind the call as before. No condition.
-/
import Derived.Test.YtbccfgnihmfgmaaG9
import Derived.Test.YtbccfgnihmfgmaaG2
import Derived.Test.YtbccfgnihmfgmaaRows
set_option linter.all false
set_option linter.unusedSimpArgs false
set_option linter.unusedVariables false
set_option linter.unusedSectionVars false
open Go Go.Proofs AF P48 Go.ChangeShapes Go.WideShapes Go.ChangeAt Go.RowKit
set_option maxRecDepth 100000
namespace Go.Proofs.Ytbccfgnihmfgmaa
theorem own : ownKnob Try.prog.godebug = none := by kernel_rfl
theorem flat28 : flatK Try.prog 28 = some [.int .i64, .int .i64, .int .i64, .int .i64, .int .i64, .str] := by kernel_rfl
theorem laid : laidOutB Try.prog = true := by kernel_rfl

theorem item_of {zs : List AV} (h : fksOk [.int .i64, .int .i64, .int .i64, .int .i64, .int .i64, .str] zs) : ∃ x : It, zs = itemC x := by
  have hl := fksOk_len h
  match zs, hl with
  | [a, b, c, d, e, g], _ =>
    obtain ⟨⟨a', ha, _⟩, ⟨b', hb, _⟩, ⟨c', hc, _⟩, ⟨d', hd, _⟩, ⟨e', he, _⟩, ⟨g', hg, _⟩, _⟩ := h
    exact ⟨⟨a', b', c', d', e', g'⟩, by rw [ha, hb, hc, hd, he, hg]; rfl⟩
/-- What a slice of items reads as. -/
theorem read_items {H : Type} {enc : TypeId × Value → H} {W : World} {base : Nat} {v : Value} {d : DataW H} {ps : List MemPlace} (hval : Value.okWide Try.prog W .any base 22 v) (h : DataW.Trod enc Try.prog W 0 (fun _ => true) true 22 v d ps) :
    ∃ l : List It, l.length ≤ 9223372036854775807 ∧ VR W [] (items l) v := by
  obtain ⟨n, f, hn, hvi, hf⟩ := slice_trod (ow := AF.own []) Try.underlying22 flat28 (by decide) hval own_nil h
  have key : ∀ i, i < n → ∃ x : It, f i = itemC x :=
    fun i hi => item_of (hf i hi)
  let l : List It := (List.range n).map fun i => if hi : i < n then (key i hi).choose else default
  have hl : l.length = n := by simp [l]
  refine ⟨l, by rw [hl]; unfold maxLen at hn; omega, ?_⟩
  refine VLe_sl hl.symm (fun i hi => ?_) W [] v (.imm hvi)
  rw [hl] at hi
  have e : it l i = (key i hi).choose := by
    rw [it_eq (by rw [hl]; exact hi)]
    simp [l, hi]
  rw [e]
  exact (key i hi).choose_spec

theorem places_lifted (os : Os) (started : os.Started) (H : Type) (enc : TypeId × Value → H) :
    ReturnsInHanded {} Try.checked os 5 .any (Rows.paragraphPlacesSpec.pre6 enc Try.prog Try.f5 Rows.paragraphPlacesRow.domain false) (Rows.paragraphPlacesSpec.post enc Try.prog Try.f5 false true false false) := by
  refine returnsInHanded_of_change (C := Try.checked) own started (by kernel_rfl) Try.func5
    (ChangeSpec.witness6 (enc := enc) (C := Try.checked) false ⟨#[], #[.slice none 0 0, .int .i64 0], []⟩ 8 (by kernel_rfl) (by kernel_rfl) (by kernel_rfl) (by kernel_rfl)) ?_
  intro W base args ds gs before hval hW _ _
  refine law_step (tb := 4) laid rfl ?_ (by kernel_rfl) Try.underlying4 ?_ hW ?_
  · intro ds' h'
    match ds', h' with
    | [a, b], _ => rfl
  · intro t ht
    rw [show Try.f5.params.toList = [22, 3] by rw [Try.params5]] at ht
    simp only [List.mem_cons, List.not_mem_nil, or_false] at ht
    rcases ht with rfl | rfl <;> exact ⟨by kernel_rfl, of_decide_eq_true (by kernel_rfl)⟩
  · intro p hA
    rw [Try.params5] at hA hval
    obtain ⟨v0, v1, d0, d1, p0, p1, rfl, rfl, rfl, h0, h1⟩ := trodAll_two hA
    obtain ⟨n1, rfl, _, _, _⟩ := open_int Try.underlying3 (hval 1 3 v1 rfl rfl) h1
    obtain ⟨l, hl, hvr⟩ := read_items (hval 0 22 v0 rfl rfl) h0
    refine ⟨by rw [Try.params5]; rfl, [items l, .int .i64 n1], ?_, law5 l n1 [] hl⟩
    exact VRs.cons' hvr (VRs.cons' (.imm .int) VRs.nil')

theorem places_holds : Rows.ParagraphPlacesSaid :=
  OpenClaim.holds_of_wide 5 Try.f5 rfl rfl rfl rfl rfl rfl rfl ⟨rfl, rfl, rfl, rfl, rfl⟩ rfl rfl rfl rfl rfl (by kernel_rfl) Try.func5 (by kernel_rfl)
    (of_decide_eq_true (by kernel_rfl)) (by unfold Func.isWrapper; first | (rw [if_pos (by decide +kernel)]; kernel_rfl) | (rw [if_neg (by decide +kernel)]; exact ⟨rfl, rfl⟩))
    (fun os started H enc _ => places_lifted os started H enc)
#print axioms places_holds
end Go.Proofs.Ytbccfgnihmfgmaa

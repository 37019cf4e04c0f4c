/-
  The law ParagraphBreaks comes back with true for every input, and its arguments read behind the call as before. No condition.
-/
import Derived.Test.YtbccfgnihmfgmaaGE
import Derived.Test.YtbccfgnihmfgmaaG2
import Derived.Test.YtbccfgnihmfgmaaRows
set_option linter.all false
set_option linter.unusedSimpArgs false
set_option linter.unusedVariables false
set_option linter.unusedSectionVars false
open Go Go.Proofs AF P48 Go.ChangeShapes Go.WideShapes Go.ChangeAt Go.RowKit
set_option maxRecDepth 100000
namespace Go.Proofs.Ytbccfgnihmfgmaa
theorem own : ownKnob Try.prog.godebug = none := by kernel_rfl
theorem flat28 : flatK Try.prog 28 = some [.int .i64, .int .i64, .int .i64, .int .i64, .int .i64, .str] := by kernel_rfl
theorem laid : laidOutB Try.prog = true := by kernel_rfl

theorem item_of {zs : List AV} (h : fksOk [.int .i64, .int .i64, .int .i64, .int .i64, .int .i64, .str] zs) : ∃ x : It, zs = itemC x := by
  have hl := fksOk_len h
  match zs, hl with
  | [a, b, c, d, e, g], _ =>
    obtain ⟨⟨a', ha, _⟩, ⟨b', hb, _⟩, ⟨c', hc, _⟩, ⟨d', hd, _⟩, ⟨e', he, _⟩, ⟨g', hg, _⟩, _⟩ := h
    exact ⟨⟨a', b', c', d', e', g'⟩, by rw [ha, hb, hc, hd, he, hg]; rfl⟩
/-- What a slice of items reads as. -/
theorem read_items {H : Type} {enc : TypeId × Value → H} {W : World} {base : Nat} {v : Value} {d : DataW H} {ps : List MemPlace} (hval : Value.okWide Try.prog W .any base 22 v) (h : DataW.Trod enc Try.prog W 0 (fun _ => true) true 22 v d ps) :
    ∃ l : List It, l.length ≤ 9223372036854775807 ∧ VR W [] (items l) v := by
  obtain ⟨n, f, hn, hvi, hf⟩ := slice_trod (ow := AF.own []) Try.underlying22 flat28 (by decide) hval own_nil h
  have key : ∀ i, i < n → ∃ x : It, f i = itemC x :=
    fun i hi => item_of (hf i hi)
  let l : List It := (List.range n).map fun i => if hi : i < n then (key i hi).choose else default
  have hl : l.length = n := by simp [l]
  refine ⟨l, by rw [hl]; unfold maxLen at hn; omega, ?_⟩
  refine VLe_sl hl.symm (fun i hi => ?_) W [] v (.imm hvi)
  rw [hl] at hi
  have e : it l i = (key i hi).choose := by
    rw [it_eq (by rw [hl]; exact hi)]
    simp [l, hi]
  rw [e]
  exact (key i hi).choose_spec

theorem flat3 : flatK Try.prog 3 = some [.int .i64] := by kernel_rfl
/-- What a slice of numbers reads as. -/
theorem read_ints {H : Type} {enc : TypeId × Value → H} {W : World} {base : Nat} {v : Value} {d : DataW H} {ps : List MemPlace} (hval : Value.okWide Try.prog W .any base 29 v) (h : DataW.Trod enc Try.prog W 0 (fun _ => true) true 29 v d ps) :
    ∃ q : List Int, q.length ≤ 9223372036854775807 ∧ (∀ j, -9223372036854775808 ≤ q.getD j 0 ∧ q.getD j 0 ≤ 9223372036854775807) ∧ VR W [] (ints q) v := by
  obtain ⟨n, f, hn, hvi, hf⟩ := slice_trod (ow := AF.own []) Try.underlying29 flat3 (by decide) hval own_nil h
  have key : ∀ i, i < n → ∃ x : Int, f i = [.int .i64 x] ∧ (Lit.int .i64 x).wf = true := by
    intro i hi
    have := hf i hi
    generalize f i = zs at this
    match zs, fksOk_len this with
    | [a], _ =>
      obtain ⟨⟨x, hx, hw⟩, _⟩ := this
      exact ⟨x, by rw [hx], hw⟩
  let l : List Int := (List.range n).map fun i => if hi : i < n then (key i hi).choose else 0
  have hl : l.length = n := by simp [l]
  have hgd : ∀ i (hi : i < n), l.getD i 0 = (key i hi).choose := fun i hi => by simp [l, List.getD_eq_getElem?_getD, hi]
  refine ⟨l, by rw [hl]; unfold maxLen at hn; omega, fun j => ?_, ?_⟩
  · by_cases hj : j < n
    · rw [hgd j hj]
      have := (key j hj).choose_spec.2
      simpa [Lit.wf, IntKind.min, IntKind.max, IntKind.signed, IntKind.bits] using this
    · have : l.getD j 0 = 0 := by rw [List.getD_eq_getElem?_getD, List.getElem?_eq_none (by omega)]; rfl
      rw [this]; omega
  · refine VLe_sl hl.symm (fun i hi => ?_) W [] v (.imm hvi)
    rw [hl] at hi
    rw [hgd i hi]
    exact (key i hi).choose_spec.1
theorem trodAll_six {H : Type} {enc : TypeId × Value → H} {P : Program} {w : World} {base : Nat} {spare : Nat → Bool} {held : Bool} {t t1 t2 t3 t4 t5 : TypeId} {args : Array Value} {ds : List (DataW H)} {ps : List MemPlace}
    (h : DataW.TrodAll enc P w base spare held [t, t1, t2, t3, t4, t5] args.toList ds ps) :
    ∃ v v1 v2 v3 v4 v5 d d1 d2 d3 d4 d5 p p1 p2 p3 p4 p5, args = #[v, v1, v2, v3, v4, v5] ∧ ds = [d, d1, d2, d3, d4, d5] ∧ DataW.Trod enc P w base spare held t v d p ∧ DataW.Trod enc P w base spare held t1 v1 d1 p1 ∧ DataW.Trod enc P w base spare held t2 v2 d2 p2 ∧ DataW.Trod enc P w base spare held t3 v3 d3 p3 ∧ DataW.Trod enc P w base spare held t4 v4 d4 p4 ∧ DataW.Trod enc P w base spare held t5 v5 d5 p5 := by
  obtain ⟨v, vs, d, ds', p, q, hargs, rfl, rfl, hd, hrest⟩ := trodAll_cons h
  obtain ⟨v1, vs1, d1, ds1, p1, q1, rfl, rfl, rfl, hd1, hrest1⟩ := trodAll_cons hrest
  obtain ⟨v2, vs2, d2, ds2, p2, q2, rfl, rfl, rfl, hd2, hrest2⟩ := trodAll_cons hrest1
  obtain ⟨v3, vs3, d3, ds3, p3, q3, rfl, rfl, rfl, hd3, hrest3⟩ := trodAll_cons hrest2
  obtain ⟨v4, vs4, d4, ds4, p4, q4, rfl, rfl, rfl, hd4, hrest4⟩ := trodAll_cons hrest3
  obtain ⟨v5, vs5, d5, ds5, p5, q5, rfl, rfl, rfl, hd5, hrest5⟩ := trodAll_cons hrest4
  obtain ⟨rfl, rfl, rfl⟩ := trodAll_nil hrest5
  exact ⟨v, v1, v2, v3, v4, v5, d, d1, d2, d3, d4, d5, p, p1, p2, p3, p4, p5, by cases args; simp_all, rfl, hd, hd1, hd2, hd3, hd4, hd5⟩
theorem breaks_lifted (os : Os) (started : os.Started) (H : Type) (enc : TypeId × Value → H) :
    ReturnsInHanded {} Try.checked os 8 .any (Rows.paragraphBreaksSpec.pre6 enc Try.prog Try.f8 Rows.paragraphBreaksRow.domain false) (Rows.paragraphBreaksSpec.post enc Try.prog Try.f8 false true false false) := by
  refine returnsInHanded_of_change (C := Try.checked) own started (by kernel_rfl) Try.func8
    (ChangeSpec.witness6 (enc := enc) (C := Try.checked) false ⟨#[], #[.slice none 0 0, .int .i64 0, .int .i64 0, .int .i64 0, .slice none 0 0, .slice none 0 0], []⟩ 8 (by kernel_rfl) (by kernel_rfl) (by kernel_rfl) (by kernel_rfl)) ?_
  intro W base args ds gs before hval hW _ _
  refine law_step (tb := 4) laid rfl ?_ (by kernel_rfl) Try.underlying4 ?_ hW ?_
  · intro ds' h'
    match ds', h' with
    | [a, b, c, e, f, g], _ => rfl
  · intro t ht
    rw [show Try.f8.params.toList = [22, 3, 3, 3, 29, 29] by rw [Try.params8]] at ht
    simp only [List.mem_cons, List.not_mem_nil, or_false] at ht
    rcases ht with rfl | rfl | rfl | rfl | rfl | rfl <;> exact ⟨by kernel_rfl, of_decide_eq_true (by kernel_rfl)⟩
  · intro p hA
    rw [Try.params8] at hA hval
    obtain ⟨v0, v1, v2, v3, v4, v5, d0, d1, d2, d3, d4, d5, p0, p1, p2, p3, p4, p5, rfl, rfl, h0, h1, h2, h3, h4, h5⟩ := trodAll_six hA
    obtain ⟨n1, rfl, _, _, _⟩ := open_int Try.underlying3 (hval 1 3 v1 rfl rfl) h1
    obtain ⟨n2, rfl, _, _, _⟩ := open_int Try.underlying3 (hval 2 3 v2 rfl rfl) h2
    obtain ⟨n3, rfl, _, _, _⟩ := open_int Try.underlying3 (hval 3 3 v3 rfl rfl) h3
    obtain ⟨l, hl, hvr⟩ := read_items (hval 0 22 v0 rfl rfl) h0
    obtain ⟨q, hq, hqb, hqr⟩ := read_ints (hval 4 29 v4 rfl rfl) h4
    obtain ⟨r, hr, hrb, hrr⟩ := read_ints (hval 5 29 v5 rfl rfl) h5
    refine ⟨by rw [Try.params8]; rfl, [items l, .int .i64 n1, .int .i64 n2, .int .i64 n3, ints q, ints r], ?_, law8 l n1 n2 n3 q r [] hl hq hr (fun j => (hrb j).2)⟩
    exact VRs.cons' hvr (VRs.cons' (.imm .int) (VRs.cons' (.imm .int) (VRs.cons' (.imm .int) (VRs.cons' hqr (VRs.cons' hrr VRs.nil')))))

theorem breaks_holds : Rows.ParagraphBreaksSaid :=
  OpenClaim.holds_of_wide 8 Try.f8 rfl rfl rfl rfl rfl rfl rfl ⟨rfl, rfl, rfl, rfl, rfl⟩ rfl rfl rfl rfl rfl (by kernel_rfl) Try.func8 (by kernel_rfl)
    (of_decide_eq_true (by kernel_rfl)) (by unfold Func.isWrapper; first | (rw [if_pos (by decide +kernel)]; kernel_rfl) | (rw [if_neg (by decide +kernel)]; exact ⟨rfl, rfl⟩))
    (fun os started H enc _ => breaks_lifted os started H enc)
#print axioms breaks_holds
end Go.Proofs.Ytbccfgnihmfgmaa

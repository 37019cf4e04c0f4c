/-
  The law ParagraphItems comes back with true for every input, and its arguments read behind the call as before. No condition.
-/
import Derived.Test.YtbccfgnihmfgmaaHD

import Derived.Test.YtbccfgnihmfgmaaRows
set_option linter.all false
set_option linter.unusedSimpArgs false
set_option linter.unusedVariables false
set_option linter.unusedSectionVars false
open Go Go.Proofs AF HY P48 Go.ChangeShapes Go.WideShapes Go.ChangeAt Go.RowKit
set_option maxRecDepth 100000
namespace Go.Proofs.Ytbccfgnihmfgmaa
theorem own : ownKnob Try.prog.godebug = none := by kernel_rfl
theorem flat28 : flatK Try.prog 28 = some [.int .i64, .int .i64, .int .i64, .int .i64, .int .i64, .str] := by kernel_rfl
theorem laid : laidOutB Try.prog = true := by kernel_rfl
theorem cells58 : Try.prog.cellsOf 58 = 13 := by kernel_rfl
theorem cells59 : Try.prog.cellsOf 59 = 1 := by kernel_rfl
theorem cells60 : Try.prog.cellsOf 60 = 1 := by kernel_rfl
theorem cells62 : Try.prog.cellsOf 62 = 15 := by kernel_rfl
theorem cells91 : Try.prog.cellsOf 91 = 7 := by kernel_rfl
theorem cells95 : Try.prog.cellsOf 95 = 2 := by kernel_rfl
theorem cells3 : Try.prog.cellsOf 3 = 1 := by kernel_rfl
theorem cells4 : Try.prog.cellsOf 4 = 1 := by kernel_rfl
theorem cells9 : Try.prog.cellsOf 9 = 1 := by kernel_rfl
theorem cells29 : Try.prog.cellsOf 29 = 1 := by kernel_rfl
theorem cells55 : Try.prog.cellsOf 55 = 1 := by kernel_rfl
theorem cells56 : Try.prog.cellsOf 56 = 1 := by kernel_rfl
theorem deep62 : okDeep Try.prog 8 62 = true := by kernel_rfl
theorem good_struct {d : Nat} {t : TypeId} {fs : Array Field} {zs : List AV} (ht : Try.prog.underlying t = some (.struct fs)) (h : GoodC Try.prog (d + 1) t zs) : zs.length = Try.prog.cellsOf t ∧ ∀ f ∈ fs.toList, GoodC Try.prog d f.type ((zs.drop f.offset).take (Try.prog.cellsOf f.type)) := by
  unfold GoodC at h; rw [ht] at h; exact h
theorem good_slice {d : Nat} {t e : TypeId} {zs : List AV} (ht : Try.prog.underlying t = some (.slice e)) (h : GoodC Try.prog (d + 1) t zs) : ∃ (n : Nat) (f : Nat → List AV), zs = [.sl n f] ∧ n ≤ maxLen ∧ ∀ i, i < n → GoodC Try.prog d e (f i) := by
  unfold GoodC at h; rw [ht] at h; exact h
theorem good_int {d : Nat} {t : TypeId} {k : IntKind} {zs : List AV} (ht : Try.prog.underlying t = some (.int k)) (h : GoodC Try.prog (d + 1) t zs) : ∃ n, zs = [.int k n] := by
  unfold GoodC at h; rw [ht] at h; obtain ⟨n, h, _⟩ := h; exact ⟨n, h⟩
theorem good_bool {d : Nat} {t : TypeId} {zs : List AV} (ht : Try.prog.underlying t = some .bool) (h : GoodC Try.prog (d + 1) t zs) : ∃ n, zs = [.bool n] := by
  unfold GoodC at h; rw [ht] at h; exact h
theorem good_str {d : Nat} {t : TypeId} {zs : List AV} (ht : Try.prog.underlying t = some .string) (h : GoodC Try.prog (d + 1) t zs) : ∃ n, zs = [.str n] := by
  unfold GoodC at h; rw [ht] at h; obtain ⟨n, h, _⟩ := h; exact ⟨n, h⟩
theorem pat_of {d : Nat} {zs : List AV} (h : GoodC Try.prog (d + 3) 95 zs) : ∃ p : Pat, ILes zs (patC p) := by
  obtain ⟨hl, hf⟩ := good_struct Try.underlying95 h
  simp only [List.mem_cons, List.not_mem_nil, or_false, forall_eq_or_imp, forall_eq, cells9, cells29] at hf
  obtain ⟨h0, h1⟩ := hf
  rw [cells95] at hl
  match zs, hl with
  | [a, b], _ =>
    obtain ⟨s, hs⟩ := good_str Try.underlying9 h0
    obtain ⟨n, f, hb, _, hfi⟩ := good_slice Try.underlying29 h1
    simp at hs hb
    subst hs hb
    have key : ∀ i, i < n → ∃ x : Int, f i = [.int .i64 x] := fun i hi => good_int Try.underlying3 (hfi i hi)
    let l : List Int := (List.range n).map fun i => if hi : i < n then (key i hi).choose else 0
    have hln : l.length = n := by simp [l]
    refine ⟨⟨s, l⟩, ILe.refl _, ?_, trivial⟩
    show ILe (.sl n f) (intsV l)
    unfold intsV
    rw [hln]
    refine ILe.sl_eq (fun i hi => ?_)
    have : l.getD i 0 = (key i hi).choose := by simp [l, List.getD_eq_getElem?_getD, hi]
    rw [this]
    exact (key i hi).choose_spec
theorem pats_of {d : Nat} {zs : List AV} (h : GoodC Try.prog (d + 4) 59 zs) : ∃ (a : AV) (ps : List Pat), zs = [a] ∧ ps.length ≤ 9223372036854775807 ∧ ILe a (patsV ps) := by
  obtain ⟨n, f, rfl, hn, hfi⟩ := good_slice Try.underlying59 h
  have key : ∀ i, i < n → ∃ p : Pat, ILes (f i) (patC p) := fun i hi => pat_of (hfi i hi)
  let l : List Pat := (List.range n).map fun i => if hi : i < n then (key i hi).choose else default
  have hln : l.length = n := by simp [l]
  refine ⟨_, l, rfl, by rw [hln]; unfold maxLen at hn; omega, ?_⟩
  unfold patsV
  rw [hln]
  refine ILe.sl (fun i hi => ?_)
  have : l.getD i default = (key i hi).choose := by simp [l, List.getD_eq_getElem?_getD, hi]
  rw [this]
  exact (key i hi).choose_spec
theorem wd_of {d : Nat} {zs : List AV} (h : GoodC Try.prog (d + 2) 91 zs) : ∃ w : Wd, zs = wordC w := by
  obtain ⟨hl, hf⟩ := good_struct Try.underlying91 h
  simp only [List.mem_cons, List.not_mem_nil, or_false, forall_eq_or_imp, forall_eq, cells9, cells3, cells4] at hf
  obtain ⟨h0, h1, h2, h3, h4, h5, h6⟩ := hf
  rw [cells91] at hl
  match zs, hl with
  | [a, b, c, e, f, g, k], _ =>
    obtain ⟨x0, e0⟩ := good_str Try.underlying9 h0
    obtain ⟨x1, e1⟩ := good_int Try.underlying3 h1
    obtain ⟨x2, e2⟩ := good_int Try.underlying3 h2
    obtain ⟨x3, e3⟩ := good_int Try.underlying3 h3
    obtain ⟨x4, e4⟩ := good_bool Try.underlying4 h4
    obtain ⟨x5, e5⟩ := good_bool Try.underlying4 h5
    obtain ⟨x6, e6⟩ := good_str Try.underlying9 h6
    simp at e0 e1 e2 e3 e4 e5 e6
    subst e0 e1 e2 e3 e4 e5 e6
    exact ⟨⟨x0, x1, x2, x3, x4, x5, x6⟩, rfl⟩
theorem words_of {d : Nat} {zs : List AV} (h : GoodC Try.prog (d + 3) 60 zs) : ∃ (a : AV) (ws : List Wd), zs = [a] ∧ ws.length ≤ 9223372036854775807 ∧ ILe a (wordsV ws) := by
  obtain ⟨n, f, rfl, hn, hfi⟩ := good_slice Try.underlying60 h
  have key : ∀ i, i < n → ∃ p : Wd, f i = wordC p := fun i hi => wd_of (hfi i hi)
  let l : List Wd := (List.range n).map fun i => if hi : i < n then (key i hi).choose else default
  have hln : l.length = n := by simp [l]
  refine ⟨_, l, rfl, by rw [hln]; unfold maxLen at hn; omega, ?_⟩
  unfold wordsV
  rw [hln]
  refine ILe.sl_eq (fun i hi => ?_)
  have : l.getD i default = (key i hi).choose := by simp [l, List.getD_eq_getElem?_getD, hi]
  rw [this]
  exact (key i hi).choose_spec
theorem sty_of {d : Nat} {zs : List AV} (h : GoodC Try.prog (d + 2) 58 zs) : ∃ (s : Sty) (x : List AV), zs = styC s x := by
  obtain ⟨hl, hf⟩ := good_struct Try.underlying58 h
  simp only [List.mem_cons, List.not_mem_nil, or_false, forall_eq_or_imp, forall_eq, cells3, cells55, cells56] at hf
  obtain ⟨h0, h1, h2, h3, h4, h5, h6, h7, h8, h9, h10, h11, h12⟩ := hf
  rw [cells58] at hl
  match zs, hl with
  | [z0, z1, z2, z3, z4, z5, z6, z7, z8, z9, z10, z11, z12], _ =>
    obtain ⟨x5, e5⟩ := good_int Try.underlying3 h5
    obtain ⟨x6, e6⟩ := good_int Try.underlying3 h6
    obtain ⟨x7, e7⟩ := good_int Try.underlying3 h7
    obtain ⟨x8, e8⟩ := good_int Try.underlying3 h8
    obtain ⟨x9, e9⟩ := good_int Try.underlying3 h9
    simp at e5 e6 e7 e8 e9
    subst e5 e6 e7 e8 e9
    exact ⟨⟨x5, x6, x7, x8, x9⟩, [z0, z1, z2, z3, z4, z10, z11, z12], rfl⟩
theorem setting_of {d : Nat} {zs : List AV} (h : GoodC Try.prog (d + 5) 62 zs) : ∃ (s : Sty) (x : List AV) (ps : List Pat) (ws : List Wd), ps.length ≤ 9223372036854775807 ∧ ws.length ≤ 9223372036854775807 ∧ ILes zs (styC s x ++ [patsV ps, wordsV ws]) := by
  obtain ⟨hl, hf⟩ := good_struct Try.underlying62 h
  simp only [List.mem_cons, List.not_mem_nil, or_false, forall_eq_or_imp, forall_eq, cells58, cells59, cells60] at hf
  obtain ⟨h0, h1, h2⟩ := hf
  rw [cells62] at hl
  match zs, hl with
  | [z0, z1, z2, z3, z4, z5, z6, z7, z8, z9, z10, z11, z12, z13, z14], _ =>
    obtain ⟨s, x, e0⟩ := sty_of h0
    obtain ⟨a, ps, e1, hps, hpl⟩ := pats_of h1
    obtain ⟨b, ws, e2, hws, hwl⟩ := words_of h2
    simp at e1 e2
    subst e1 e2
    refine ⟨s, x, ps, ws, hps, hws, ?_⟩
    have e3 : [z0, z1, z2, z3, z4, z5, z6, z7, z8, z9, z10, z11, z12] = styC s x := e0
    have e4 : [z0, z1, z2, z3, z4, z5, z6, z7, z8, z9, z10, z11, z12, z13, z14] = styC s x ++ [z13, z14] := by rw [← e3]; rfl
    rw [e4]
    unfold styC
    exact ⟨ILe.refl _, ILe.refl _, ILe.refl _, ILe.refl _, ILe.refl _, ILe.refl _, ILe.refl _, ILe.refl _, ILe.refl _, ILe.refl _, ILe.refl _, ILe.refl _, ILe.refl _, hpl, hwl, trivial⟩
theorem item_of {zs : List AV} (h : fksOk [.int .i64, .int .i64, .int .i64, .int .i64, .int .i64, .str] zs) : ∃ x : It, zs = itemC x := by
  have hl := fksOk_len h
  match zs, hl with
  | [a, b, c, d, e, g], _ =>
    obtain ⟨⟨a', ha, _⟩, ⟨b', hb, _⟩, ⟨c', hc, _⟩, ⟨d', hd, _⟩, ⟨e', he, _⟩, ⟨g', hg, _⟩, _⟩ := h
    exact ⟨⟨a', b', c', d', e', g'⟩, by rw [ha, hb, hc, hd, he, hg]; rfl⟩
/-- What a slice of items reads as. -/
theorem read_items {H : Type} {enc : TypeId × Value → H} {W : World} {base : Nat} {v : Value} {d : DataW H} {ps : List MemPlace} (hval : Value.okWide Try.prog W .any base 22 v) (h : DataW.Trod enc Try.prog W 0 (fun _ => true) true 22 v d ps) :
    ∃ l : List It, l.length ≤ 9223372036854775807 ∧ VR W [] (items l) v := by
  obtain ⟨n, f, hn, hvi, hf⟩ := slice_trod (ow := AF.own []) Try.underlying22 flat28 (by decide) hval own_nil h
  have key : ∀ i, i < n → ∃ x : It, f i = itemC x :=
    fun i hi => item_of (hf i hi)
  let l : List It := (List.range n).map fun i => if hi : i < n then (key i hi).choose else default
  have hl : l.length = n := by simp [l]
  refine ⟨l, by rw [hl]; unfold maxLen at hn; omega, ?_⟩
  refine VLe_sl hl.symm (fun i hi => ?_) W [] v (.imm hvi)
  rw [hl] at hi
  have e : it l i = (key i hi).choose := by
    rw [it_eq (by rw [hl]; exact hi)]
    simp [l, hi]
  rw [e]
  exact (key i hi).choose_spec
theorem trodAll_two {H : Type} {enc : TypeId × Value → H} {P : Program} {w : World} {base : Nat} {spare : Nat → Bool} {held : Bool} {t t1 : TypeId} {args : Array Value} {ds : List (DataW H)} {ps : List MemPlace}
    (h : DataW.TrodAll enc P w base spare held [t, t1] args.toList ds ps) :
    ∃ v v1 d d1 p p1, args = #[v, v1] ∧ ds = [d, d1] ∧ DataW.Trod enc P w base spare held t v d p ∧ DataW.Trod enc P w base spare held t1 v1 d1 p1 := by
  obtain ⟨v, vs, d, ds', p, q, hargs, rfl, rfl, hd, hrest⟩ := trodAll_cons h
  obtain ⟨v1, vs1, d1, ds1, p1, q1, rfl, rfl, rfl, hd1, hrest1⟩ := trodAll_cons hrest
  obtain ⟨rfl, rfl, rfl⟩ := trodAll_nil hrest1
  exact ⟨v, v1, d, d1, p, p1, by cases args; simp_all, rfl, hd, hd1⟩
theorem items_lifted (os : Os) (started : os.Started) (H : Type) (enc : TypeId × Value → H) :
    ReturnsInHanded {} Try.checked os 9 .any (Rows.paragraphItemsSpec.pre6 enc Try.prog Try.f9 Rows.paragraphItemsRow.domain false) (Rows.paragraphItemsSpec.post enc Try.prog Try.f9 false true false false) := by
  refine returnsInHanded_of_change (C := Try.checked) own started (by kernel_rfl) Try.func9
    (ChangeSpec.witness6 (enc := enc) (C := Try.checked) false ⟨#[], #[.agg #[.int .i64 0, .int .i64 0, .int .i64 0, .int .i64 0, .int .i64 0, .int .i64 0, .int .i64 0, .int .i64 0, .int .i64 0, .int .i64 0, .int .i64 0, .slice none 0 0, .slice none 0 0, .slice none 0 0, .slice none 0 0], .slice none 0 0], []⟩ 8 (by kernel_rfl) (by kernel_rfl) (by kernel_rfl) (by kernel_rfl)) ?_
  intro W base args ds gs before hval hW _ _
  refine law_step (tb := 4) laid rfl ?_ (by kernel_rfl) Try.underlying4 ?_ hW ?_
  · intro ds' h'
    match ds', h' with
    | [a, b], _ => rfl
  · intro t ht
    rw [show Try.f9.params.toList = [62, 22] by rw [Try.params9]] at ht
    simp only [List.mem_cons, List.not_mem_nil, or_false] at ht
    rcases ht with rfl | rfl <;> exact ⟨by kernel_rfl, of_decide_eq_true (by kernel_rfl)⟩
  · intro p hA
    rw [Try.params9] at hA hval
    obtain ⟨v0, v1, d0, d1, p0, p1, rfl, rfl, h0, h1⟩ := trodAll_two hA
    obtain ⟨l, hl, hvr⟩ := read_items (hval 1 22 v1 rfl rfl) h1
    have hv0 : Value.okWide Try.prog W .any base 62 v0 := hval 0 62 v0 rfl rfl
    unfold Value.okWide at hv0
    rw [Try.underlying62] at hv0
    simp only at hv0
    obtain ⟨cs, rfl, _, _⟩ := hv0
    obtain ⟨zs, hg, hvi⟩ := read_agg (ow := AF.own []) own_nil deep62 h0
    obtain ⟨s, x, ps, ws, hps, hws, hil⟩ := setting_of hg
    have hvi2 := ILe.agg hil _ _ _ hvi
    refine ⟨by rw [Try.params9]; rfl, [.agg (styC s x ++ [patsV ps, wordsV ws]), items l], ?_, law9 s x ps ws l [] hps hws hl⟩
    exact VRs.cons' (.imm hvi2) (VRs.cons' hvr VRs.nil')

theorem items_holds : Rows.ParagraphItemsSaid :=
  OpenClaim.holds_of_wide 9 Try.f9 rfl rfl rfl rfl rfl rfl rfl ⟨rfl, rfl, rfl, rfl, rfl⟩ rfl rfl rfl rfl rfl (by kernel_rfl) Try.func9 (by kernel_rfl)
    (of_decide_eq_true (by kernel_rfl)) (by unfold Func.isWrapper; first | (rw [if_pos (by decide +kernel)]; kernel_rfl) | (rw [if_neg (by decide +kernel)]; exact ⟨rfl, rfl⟩))
    (fun os started H enc _ => items_lifted os started H enc)
#print axioms items_holds
end Go.Proofs.Ytbccfgnihmfgmaa

/-
  The law HyphenationForbids comes back with true for every input, and its arguments read behind the call as before: the row, and the card that ties its listed variables.
-/
import Derived.Test.YtonpflblcnpegaaDoorK9
import Derived.Test.YtonpflblcnpegaaDoorK6
import Derived.Test.YtonpflblcnpegaaDoorRows
import Derived.Test.YtonpflblcnpegaaDoorTie
import Derived.Test.YtonpflblcnpegaaDoorCards
import Derived.ProofKit
import Derived.ChangeMaps5
import Derived.OpenShut
import Derived.LaidMore
import Derived.Lay
import Derived.SevenTiedAt
import Derived.Stop.Joined
set_option linter.all false
set_option linter.unusedSimpArgs false
set_option linter.unusedVariables false
set_option linter.unusedSectionVars false
open Go Go.Proofs AF HY Go.ChangeShapes Go.WideShapes Go.ChangeAt Go.RowKit
set_option maxRecDepth 100000
namespace Go.Proofs.YtonpflblcnpegaaDoor
theorem own : ownKnob Tryd.prog.godebug = none := by kernel_rfl
theorem laid : laidOutB Tryd.prog = true := by kernel_rfl
theorem cells32 : Tryd.prog.cellsOf 32 = 2 := by kernel_rfl
theorem cells9 : Tryd.prog.cellsOf 9 = 1 := by kernel_rfl
theorem cells26 : Tryd.prog.cellsOf 26 = 1 := by kernel_rfl
theorem cells22 : Tryd.prog.cellsOf 22 = 1 := by kernel_rfl
theorem deep22 : okDeep Tryd.prog 8 22 = true := by kernel_rfl
theorem good_struct {d : Nat} {t : TypeId} {fs : Array Field} {zs : List AV} (ht : Tryd.prog.underlying t = some (.struct fs)) (h : GoodC Tryd.prog (d + 1) t zs) : zs.length = Tryd.prog.cellsOf t ∧ ∀ f ∈ fs.toList, GoodC Tryd.prog d f.type ((zs.drop f.offset).take (Tryd.prog.cellsOf f.type)) := by
  unfold GoodC at h; rw [ht] at h; exact h
theorem good_slice {d : Nat} {t e : TypeId} {zs : List AV} (ht : Tryd.prog.underlying t = some (.slice e)) (h : GoodC Tryd.prog (d + 1) t zs) : ∃ (n : Nat) (f : Nat → List AV), zs = [.sl n f] ∧ n ≤ maxLen ∧ ∀ i, i < n → GoodC Tryd.prog d e (f i) := by
  unfold GoodC at h; rw [ht] at h; exact h
theorem good_int {d : Nat} {t : TypeId} {k : IntKind} {zs : List AV} (ht : Tryd.prog.underlying t = some (.int k)) (h : GoodC Tryd.prog (d + 1) t zs) : ∃ n, zs = [.int k n] := by
  unfold GoodC at h; rw [ht] at h; obtain ⟨n, h, _⟩ := h; exact ⟨n, h⟩
theorem good_bool {d : Nat} {t : TypeId} {zs : List AV} (ht : Tryd.prog.underlying t = some .bool) (h : GoodC Tryd.prog (d + 1) t zs) : ∃ n, zs = [.bool n] := by
  unfold GoodC at h; rw [ht] at h; exact h
theorem good_str {d : Nat} {t : TypeId} {zs : List AV} (ht : Tryd.prog.underlying t = some .string) (h : GoodC Tryd.prog (d + 1) t zs) : ∃ n, zs = [.str n] := by
  unfold GoodC at h; rw [ht] at h; obtain ⟨n, h, _⟩ := h; exact ⟨n, h⟩
theorem pat_of {d : Nat} {zs : List AV} (h : GoodC Tryd.prog (d + 3) 32 zs) : ∃ p : Pat, ILes zs (patC p) := by
  obtain ⟨hl, hf⟩ := good_struct Tryd.underlying32 h
  simp only [List.mem_cons, List.not_mem_nil, or_false, forall_eq_or_imp, forall_eq, cells9, cells26] at hf
  obtain ⟨h0, h1⟩ := hf
  rw [cells32] at hl
  match zs, hl with
  | [a, b], _ =>
    obtain ⟨s, hs⟩ := good_str Tryd.underlying9 h0
    obtain ⟨n, f, hb, _, hfi⟩ := good_slice Tryd.underlying26 h1
    simp at hs hb
    subst hs hb
    have key : ∀ i, i < n → ∃ x : Int, f i = [.int .i64 x] := fun i hi => good_int Tryd.underlying3 (hfi i hi)
    let l : List Int := (List.range n).map fun i => if hi : i < n then (key i hi).choose else 0
    have hln : l.length = n := by simp [l]
    refine ⟨⟨s, l⟩, ILe.refl _, ?_, trivial⟩
    show ILe (.sl n f) (intsV l)
    unfold intsV
    rw [hln]
    refine ILe.sl_eq (fun i hi => ?_)
    have : l.getD i 0 = (key i hi).choose := by simp [l, List.getD_eq_getElem?_getD, hi]
    rw [this]
    exact (key i hi).choose_spec
theorem pats_of {d : Nat} {zs : List AV} (h : GoodC Tryd.prog (d + 4) 22 zs) : ∃ (a : AV) (ps : List Pat), zs = [a] ∧ ps.length ≤ 9223372036854775807 ∧ ILe a (patsV ps) := by
  obtain ⟨n, f, rfl, hn, hfi⟩ := good_slice Tryd.underlying22 h
  have key : ∀ i, i < n → ∃ p : Pat, ILes (f i) (patC p) := fun i hi => pat_of (hfi i hi)
  let l : List Pat := (List.range n).map fun i => if hi : i < n then (key i hi).choose else default
  have hln : l.length = n := by simp [l]
  refine ⟨_, l, rfl, by rw [hln]; unfold maxLen at hn; omega, ?_⟩
  unfold patsV
  rw [hln]
  refine ILe.sl (fun i hi => ?_)
  have : l.getD i default = (key i hi).choose := by simp [l, List.getD_eq_getElem?_getD, hi]
  rw [this]
  exact (key i hi).choose_spec
theorem trodAll_n {H : Type} {enc : TypeId × Value → H} {P : Program} {w : World} {base : Nat} {spare : Nat → Bool} {held : Bool} {t0 t1 t2 : TypeId} {args : Array Value} {ds : List (DataW H)} {ps : List MemPlace}
    (h : DataW.TrodAll enc P w base spare held [t0, t1, t2] args.toList ds ps) :
    ∃ v0 v1 v2 d0 d1 d2 p0 p1 p2, args = #[v0, v1, v2] ∧ ds = [d0, d1, d2] ∧ DataW.Trod enc P w base spare held t0 v0 d0 p0 ∧ DataW.Trod enc P w base spare held t1 v1 d1 p1 ∧ DataW.Trod enc P w base spare held t2 v2 d2 p2 := by
  obtain ⟨v0, vs0, d0, ds0, p0, q0, hargs, rfl, rfl, hd0, hr0⟩ := trodAll_cons h
  obtain ⟨v1, vs1, d1, ds1, p1, q1, rfl, rfl, rfl, hd1, hr1⟩ := trodAll_cons hr0
  obtain ⟨v2, vs2, d2, ds2, p2, q2, rfl, rfl, rfl, hd2, hr2⟩ := trodAll_cons hr1
  obtain ⟨rfl, rfl, rfl⟩ := trodAll_nil hr2
  exact ⟨v0, v1, v2, d0, d1, d2, p0, p1, p2, by cases args; simp_all, rfl, hd0, hd1, hd2⟩
/-- What a slice of patterns reads as. -/
theorem read_pats {H : Type} {enc : TypeId × Value → H} {W : World} {base : Nat} {v : Value} {d : DataW H} {ps : List MemPlace} (hval : Value.okWide Tryd.prog W .any base 22 v) (h : DataW.Trod enc Tryd.prog W 0 (fun _ => true) true 22 v d ps) :
    ∃ l : List Pat, l.length ≤ 9223372036854775807 ∧ VR W [] (patsV l) v := by
  have hc : v.cells = #[v] := by
    unfold Value.okWide at hval
    rw [Tryd.underlying22] at hval
    simp only at hval
    unfold Cell.okWide Cell.ok at hval
    rw [Tryd.underlying22] at hval
    cases v <;> first | rfl | (exfalso; simp at hval)
  obtain ⟨z, hg, hvi⟩ := read_one (ow := AF.own []) own_nil deep22 hc h
  obtain ⟨a, ps, e, hl, hil⟩ := pats_of hg
  simp at e
  subst e
  exact ⟨ps, hl, .imm (hil _ _ _ hvi)⟩
theorem forbids_lifted (os : Os) (started : os.Started) (H : Type) (enc : TypeId × Value → H) :
    ReturnsInHanded {} Tryd.checked os 8 .any (fun w args => (Rows.hyphenationForbidsSpec.pre enc Tryd.prog Tryd.f8 Rows.hyphenationForbidsRow.domain false w args ∧ laidMetH Tryd.prog Rows.hyphenationForbidsRow.laid w) ∧ sizedMet enc Tryd.prog Tryd.f8 (OpenSpec.ofChange Rows.hyphenationForbidsSpec) false w args)
      (Rows.hyphenationForbidsSpec.post enc Tryd.prog Tryd.f8 false true false false) := by
  refine returnsInHanded_of_change_and (C := Tryd.checked) (X := fun w _ => laidMetH Tryd.prog Rows.hyphenationForbidsRow.laid w) (fun _ _ _ hh h => h.of_heap hh) own started (by kernel_rfl) Tryd.func8
    (ChangeSpec.witness_shaped (enc := enc) (C := Tryd.checked) (os := os) (X := fun w _ => laidMetH Tryd.prog Rows.hyphenationForbidsRow.laid w) false (World.laidAll Tryd.prog os Rows.hyphenationForbidsRow.laid) #[.slice none 0 0, .string ByteArray.empty, .string ByteArray.empty] 8 (World.laidAll_os _ _ _)
      (World.shaped_of_ZipB (by kernel_rfl) (by kernel_rfl)) (by kernel_rfl) (by kernel_rfl) (by kernel_rfl)
      (by rw [MakeChecks.laidMetH_plain _ _ _ (by kernel_rfl)]; exact laidMet_laidAll _ (by kernel_rfl) (by kernel_rfl))) ?_
  intro W base args ds gs before hval hW _ _ _ _
  refine law_step (tb := 4) laid rfl ?_ (by kernel_rfl) Tryd.underlying4 ?_ hW ?_
  · intro ds' h'
    match ds', h' with
    | [a0, a1, a2], _ => rfl
  · intro t ht
    rw [show Tryd.f8.params.toList = [22, 9, 9] by rw [Tryd.params8]] at ht
    simp only [List.mem_cons, List.not_mem_nil, or_false] at ht
    rcases ht with rfl | rfl | rfl <;> exact ⟨by kernel_rfl, of_decide_eq_true (by kernel_rfl)⟩
  · intro p hA
    rw [Tryd.params8] at hA hval
    obtain ⟨v0, v1, v2, d0, d1, d2, p0, p1, p2, rfl, rfl, h0, h1, h2⟩ := trodAll_n hA
    obtain ⟨l0, hl0, hv0⟩ := read_pats (hval 0 22 v0 rfl rfl) h0
    obtain ⟨s1, rfl, rfl, rfl, ws1⟩ := Go.ChangeMaps.open_string Tryd.underlying9 (hval 1 9 v1 rfl rfl) h1
    obtain ⟨s2, rfl, rfl, rfl, ws2⟩ := Go.ChangeMaps.open_string Tryd.underlying9 (hval 2 9 v2 rfl rfl) h2
    refine ⟨by rw [Tryd.params8]; rfl, [patsV l0, .str s1.data.toList, .str s2.data.toList], ?_, v8 l0 s1.data.toList s2.data.toList [] hl0⟩
    exact VRs.cons' hv0 (VRs.cons' (.imm .str) (VRs.cons' (.imm .str) (VRs.nil')))
theorem forbids_holds : Rows.HyphenationForbidsSaid :=
  OpenClaim.holds_of_wide 8 Tryd.f8 rfl rfl rfl rfl rfl rfl rfl ⟨rfl, rfl, rfl, rfl, rfl⟩ rfl rfl rfl rfl rfl (by kernel_rfl) Tryd.func8 (by kernel_rfl)
    (of_decide_eq_true (by kernel_rfl)) (by unfold Func.isWrapper; first | (rw [if_pos (by decide +kernel)]; kernel_rfl) | (rw [if_neg (by decide +kernel)]; exact ⟨rfl, rfl⟩))
    (fun os started H enc _ => forbids_lifted os started H enc)
theorem forbids_card : Rows.HyphenationForbidsCardSaid :=
  Claim7.holds_tied_plain_at .later [] [.data, .pinned] true (true, "39023698a723358a6c5fea6281d9c09585bafc29f11b9acfbabdf349a443be6d") false forbids_holds (fun _ h => by cases h) (by kernel_rfl) (fun _ h => by cases h) hyphenationForbids_row_tie rfl ⟨rfl, rfl⟩ (by kernel_rfl) rfl
    (fun f fn hf hfn => by
      obtain rfl : f = 8 := Option.some.inj ((show Tryd.prog.funcNamed "apograph/apographlaw47.HyphenationForbids" = some 8 by kernel_rfl).symm.trans hf) |>.symm
      obtain rfl : fn = Tryd.f8 := (Option.some.inj (Tryd.func8.symm.trans hfn)).symm
      exact ⟨by kernel_rfl, fun j t ht => by
        rw [Tryd.params8] at ht
        have hm : t ∈ [22, 9, 9] := by simpa using Array.mem_of_getElem? ht
        have hall : ([22, 9, 9].all fun u => !Tryd.prog.wantsStandIn u) = true := by kernel_rfl
        exact (show Tryd.prog.wantsStandIn t = false by simpa using List.all_eq_true.1 hall t hm)⟩)
    (by kernel_rfl)
#print axioms forbids_holds
#print axioms forbids_card
end Go.Proofs.YtonpflblcnpegaaDoor

/-
  The law ReconstructLayers comes back with true for every input, and its arguments read behind the call as before: the row, and the card that ties its listed variables. No condition.
-/
import Derived.Test.YthlgfjbghnildaaGreatDoorK16
import Derived.Test.YthlgfjbghnildaaGreatDoorK8
import Derived.Test.YthlgfjbghnildaaGreatDoorK4
import Derived.Test.YthlgfjbghnildaaGreatDoorRows
import Derived.Test.YthlgfjbghnildaaGreatDoorTie
import Derived.Test.YthlgfjbghnildaaGreatDoorCards
import Derived.ProofKit
import Derived.ChangeMaps5
import Derived.OpenShut
import Derived.LaidMore
import Derived.Lay
import Derived.SevenTiedAt
import Derived.Stop.Joined
set_option linter.all false
set_option linter.unusedSimpArgs false
set_option linter.unusedVariables false
set_option linter.unusedSectionVars false
open Go Go.Proofs AF HY RC LN Go.ChangeShapes Go.WideShapes Go.ChangeAt Go.RowKit
set_option maxRecDepth 100000
namespace Go.Proofs.YthlgfjbghnildaaGreatDoor
theorem own : ownKnob Tryz.prog.godebug = none := by kernel_rfl
theorem laid : laidOutB Tryz.prog = true := by kernel_rfl
theorem trodAll_n {H : Type} {enc : TypeId × Value → H} {P : Program} {w : World} {base : Nat} {spare : Nat → Bool} {held : Bool} {t0 t1 : TypeId} {args : Array Value} {ds : List (DataW H)} {ps : List MemPlace}
    (h : DataW.TrodAll enc P w base spare held [t0, t1] args.toList ds ps) :
    ∃ v0 v1 d0 d1 p0 p1, args = #[v0, v1] ∧ ds = [d0, d1] ∧ DataW.Trod enc P w base spare held t0 v0 d0 p0 ∧ DataW.Trod enc P w base spare held t1 v1 d1 p1 := by
  obtain ⟨v0, vs0, d0, ds0, p0, q0, hargs, rfl, rfl, hd0, hr0⟩ := trodAll_cons h
  obtain ⟨v1, vs1, d1, ds1, p1, q1, rfl, rfl, rfl, hd1, hr1⟩ := trodAll_cons hr0
  obtain ⟨rfl, rfl, rfl⟩ := trodAll_nil hr1
  exact ⟨v0, v1, d0, d1, p0, p1, by cases args; simp_all, rfl, hd0, hd1⟩
theorem cells3 : Tryz.prog.cellsOf 3 = 1 := by kernel_rfl
theorem cells4 : Tryz.prog.cellsOf 4 = 1 := by kernel_rfl
theorem cells9 : Tryz.prog.cellsOf 9 = 1 := by kernel_rfl
theorem cells22 : Tryz.prog.cellsOf 22 = 1 := by kernel_rfl
theorem cells23 : Tryz.prog.cellsOf 23 = 1 := by kernel_rfl
theorem cells24 : Tryz.prog.cellsOf 24 = 1 := by kernel_rfl
theorem cells26 : Tryz.prog.cellsOf 26 = 4 := by kernel_rfl
theorem cells37 : Tryz.prog.cellsOf 37 = 1 := by kernel_rfl
theorem cells47 : Tryz.prog.cellsOf 47 = 1 := by kernel_rfl
theorem cells49 : Tryz.prog.cellsOf 49 = 6 := by kernel_rfl
theorem cells51 : Tryz.prog.cellsOf 51 = 2 := by kernel_rfl
theorem cells85 : Tryz.prog.cellsOf 85 = 2 := by kernel_rfl
theorem deep26 : qbp Tryz.prog 8 26 = true := by kernel_rfl
theorem good_struct {d : Nat} {t : TypeId} {fs : Array Field} {zs : List AV} (ht : Tryz.prog.underlying t = some (.struct fs)) (h : zK Tryz.prog (d + 1) t zs) : zs.length = Tryz.prog.cellsOf t ∧ ∀ f ∈ fs.toList, zK Tryz.prog d f.type ((zs.drop f.offset).take (Tryz.prog.cellsOf f.type)) := by
  unfold zK at h; rw [ht] at h; exact h
theorem good_slice {d : Nat} {t e : TypeId} {zs : List AV} (ht : Tryz.prog.underlying t = some (.slice e)) (h : zK Tryz.prog (d + 1) t zs) : ∃ (n : Nat) (f : Nat → List AV), zs = [.sl n f] ∧ n ≤ maxLen ∧ ∀ i, i < n → zK Tryz.prog d e (f i) := by
  unfold zK at h; rw [ht] at h; exact h
theorem good_int {d : Nat} {t : TypeId} {k : IntKind} {zs : List AV} (ht : Tryz.prog.underlying t = some (.int k)) (h : zK Tryz.prog (d + 1) t zs) : ∃ n, zs = [.int k n] := by
  unfold zK at h; rw [ht] at h; obtain ⟨n, h, _⟩ := h; exact ⟨n, h⟩
theorem good_bool {d : Nat} {t : TypeId} {zs : List AV} (ht : Tryz.prog.underlying t = some .bool) (h : zK Tryz.prog (d + 1) t zs) : ∃ n, zs = [.bool n] := by
  unfold zK at h; rw [ht] at h; exact h
theorem good_str {d : Nat} {t : TypeId} {zs : List AV} (ht : Tryz.prog.underlying t = some .string) (h : zK Tryz.prog (d + 1) t zs) : ∃ n, zs = [.str n] := by
  unfold zK at h; rw [ht] at h; obtain ⟨n, h, _⟩ := h; exact ⟨n, h⟩
theorem strs_of {d : Nat} {zs : List AV} (h : zK Tryz.prog (d + 2) 22 zs) : ∃ (a : AV) (l : List (List UInt8)), zs = [a] ∧ l.length ≤ 9223372036854775807 ∧ ILe a (HY.strs l) := by
  obtain ⟨n, f, rfl, hn, hfi⟩ := good_slice Tryz.underlying22 h
  have key : ∀ i, i < n → ∃ x : (List UInt8), f i = [.str x] := fun i hi => good_str Tryz.underlying9 (hfi i hi)
  let l : List (List UInt8) := (List.range n).map fun i => if hi : i < n then (key i hi).choose else []
  have hln : l.length = n := by simp [l]
  have hg : ∀ i (hi : i < n), l.getD i [] = (key i hi).choose := fun i hi => by simp [l, gdqA, hi]
  refine ⟨_, l, rfl, by rw [hln]; unfold maxLen at hn; omega, ?_⟩
  · unfold HY.strs
    rw [hln]
    refine ILe.sl_eq (fun i hi => ?_)
    rw [hg i hi]
    exact (key i hi).choose_spec
theorem ints_of {d : Nat} {zs : List AV} (h : zK Tryz.prog (d + 2) 37 zs) : ∃ (a : AV) (l : List Int), zs = [a] ∧ l.length ≤ 9223372036854775807 ∧ ILe a (ql l) := by
  obtain ⟨n, f, rfl, hn, hfi⟩ := good_slice Tryz.underlying37 h
  have key : ∀ i, i < n → ∃ x : Int, f i = [.int .i64 x] := fun i hi => good_int Tryz.underlying3 (hfi i hi)
  let l : List Int := (List.range n).map fun i => if hi : i < n then (key i hi).choose else 0
  have hln : l.length = n := by simp [l]
  have hg : ∀ i (hi : i < n), l.getD i 0 = (key i hi).choose := fun i hi => by simp [l, gdqA, hi]
  refine ⟨_, l, rfl, by rw [hln]; unfold maxLen at hn; omega, ?_⟩
  · unfold ql
    rw [hln]
    refine ILe.sl_eq (fun i hi => ?_)
    rw [hg i hi]
    exact (key i hi).choose_spec
theorem va_of {d : Nat} {zs : List AV} (h : zK Tryz.prog (d + 3) 51 zs) : ∃ v : Va, v.words.length ≤ 9223372036854775807 ∧ v.sigla.length ≤ 9223372036854775807 ∧ qcq zs (vaC v) := by
  obtain ⟨hl, hf⟩ := good_struct Tryz.underlying51 h
  simp only [List.mem_cons, List.not_mem_nil, or_false, forall_eq_or_imp, forall_eq, cells22] at hf
  obtain ⟨h0, h1⟩ := hf
  rw [cells51] at hl
  match zs, hl with
  | [a, b], _ =>
    obtain ⟨x, w, e0, l0, i0⟩ := strs_of h0
    obtain ⟨y, s, e1, l1, i1⟩ := strs_of h1
    simp at e0 e1
    subst e0 e1
    exact ⟨⟨w, s⟩, l0, l1, i0, i1, trivial⟩
theorem vas_of {d : Nat} {zs : List AV} (h : zK Tryz.prog (d + 4) 47 zs) : ∃ (a : AV) (l : List Va), zs = [a] ∧ l.length ≤ 9223372036854775807 ∧ (∀ i, (l.getD i default).words.length ≤ 9223372036854775807) ∧ (∀ i, (l.getD i default).sigla.length ≤ 9223372036854775807) ∧ ILe a (qB l) := by
  obtain ⟨n, f, rfl, hn, hfi⟩ := good_slice Tryz.underlying47 h
  have key : ∀ i, i < n → ∃ x : Va, x.words.length ≤ 9223372036854775807 ∧ x.sigla.length ≤ 9223372036854775807 ∧ qcq (f i) (vaC x) := fun i hi => va_of (hfi i hi)
  let l : List Va := (List.range n).map fun i => if hi : i < n then (key i hi).choose else default
  have hln : l.length = n := by simp [l]
  have hg : ∀ i (hi : i < n), l.getD i default = (key i hi).choose := fun i hi => by simp [l, gdqA, hi]
  refine ⟨_, l, rfl, by rw [hln]; unfold maxLen at hn; omega, ?_, ?_, ?_⟩
  · intro i
    by_cases hi : i < n
    · rw [hg i hi]; exact (key i hi).choose_spec.1
    · rw [gdqA, List.getElem?_eq_none (by omega)]
      first | exact Nat.zero_le _ | exact ⟨Nat.zero_le _, Nat.zero_le _, fun _ => Nat.zero_le _, fun _ => Nat.zero_le _⟩
  · intro i
    by_cases hi : i < n
    · rw [hg i hi]; exact (key i hi).choose_spec.2.1
    · rw [gdqA, List.getElem?_eq_none (by omega)]
      first | exact Nat.zero_le _ | exact ⟨Nat.zero_le _, Nat.zero_le _, fun _ => Nat.zero_le _, fun _ => Nat.zero_le _⟩
  · unfold qB
    rw [hln]
    refine ILe.sl (fun i hi => ?_)
    rw [hg i hi]
    exact (key i hi).choose_spec.2.2
theorem en_of {d : Nat} {zs : List AV} (h : zK Tryz.prog (d + 5) 49 zs) : ∃ e : En, EnB e ∧ qcq zs (enC e) := by
  obtain ⟨hl, hf⟩ := good_struct Tryz.underlying49 h
  simp only [List.mem_cons, List.not_mem_nil, or_false, forall_eq_or_imp, forall_eq, cells3, cells4, cells22, cells47] at hf
  obtain ⟨h0, h1, h2, h3, h4, h5⟩ := hf
  rw [cells49] at hl
  match zs, hl with
  | [z0, z1, z2, z3, z4, z5], _ =>
    obtain ⟨x0, e0⟩ := good_int Tryz.underlying3 h0
    obtain ⟨x1, e1⟩ := good_int Tryz.underlying3 h1
    obtain ⟨x2, e2⟩ := good_int Tryz.underlying3 h2
    obtain ⟨x3, e3⟩ := good_bool Tryz.underlying4 h3
    obtain ⟨a4, x4, e4, l4, i4⟩ := strs_of h4
    obtain ⟨a5, x5, e5, l5, b5, c5, i5⟩ := vas_of h5
    simp at e0 e1 e2 e3 e4 e5
    subst e0 e1 e2 e3 e4 e5
    exact ⟨⟨x0, x1, x2, x3, x4, x5⟩, ⟨l5, l4, b5, c5⟩, ILe.refl _, ILe.refl _, ILe.refl _, ILe.refl _, i4, i5, trivial⟩
theorem ens_of {d : Nat} {zs : List AV} (h : zK Tryz.prog (d + 6) 24 zs) : ∃ (a : AV) (l : List En), zs = [a] ∧ l.length ≤ 9223372036854775807 ∧ (∀ i, EnB (l.getD i default)) ∧ ILe a (qy l) := by
  obtain ⟨n, f, rfl, hn, hfi⟩ := good_slice Tryz.underlying24 h
  have key : ∀ i, i < n → ∃ x : En, EnB x ∧ qcq (f i) (enC x) := fun i hi => en_of (hfi i hi)
  let l : List En := (List.range n).map fun i => if hi : i < n then (key i hi).choose else default
  have hln : l.length = n := by simp [l]
  have hg : ∀ i (hi : i < n), l.getD i default = (key i hi).choose := fun i hi => by simp [l, gdqA, hi]
  refine ⟨_, l, rfl, by rw [hln]; unfold maxLen at hn; omega, ?_, ?_⟩
  · intro i
    by_cases hi : i < n
    · rw [hg i hi]; exact (key i hi).choose_spec.1
    · rw [gdqA, List.getElem?_eq_none (by omega)]
      first | exact Nat.zero_le _ | exact ⟨Nat.zero_le _, Nat.zero_le _, fun _ => Nat.zero_le _, fun _ => Nat.zero_le _⟩
  · unfold qy
    rw [hln]
    refine ILe.sl (fun i hi => ?_)
    rw [hg i hi]
    exact (key i hi).choose_spec.2
theorem gr_of {d : Nat} {zs : List AV} (h : zK Tryz.prog (d + 3) 85 zs) : ∃ g : Gr, qcq zs (grC g) := by
  obtain ⟨hl, hf⟩ := good_struct Tryz.underlying85 h
  simp only [List.mem_cons, List.not_mem_nil, or_false, forall_eq_or_imp, forall_eq, cells9, cells37] at hf
  obtain ⟨h0, h1⟩ := hf
  rw [cells85] at hl
  match zs, hl with
  | [a, b], _ =>
    obtain ⟨w, e0⟩ := good_str Tryz.underlying9 h0
    obtain ⟨y, s, e1, l1, i1⟩ := ints_of h1
    simp at e0 e1
    subst e0 e1
    exact ⟨⟨w, s⟩, ILe.refl _, i1, trivial⟩
theorem grs_of {d : Nat} {zs : List AV} (h : zK Tryz.prog (d + 4) 23 zs) : ∃ (a : AV) (l : List Gr), zs = [a] ∧ l.length ≤ 9223372036854775807 ∧ ILe a (qu l) := by
  obtain ⟨n, f, rfl, hn, hfi⟩ := good_slice Tryz.underlying23 h
  have key : ∀ i, i < n → ∃ x : Gr, qcq (f i) (grC x) := fun i hi => gr_of (hfi i hi)
  let l : List Gr := (List.range n).map fun i => if hi : i < n then (key i hi).choose else default
  have hln : l.length = n := by simp [l]
  have hg : ∀ i (hi : i < n), l.getD i default = (key i hi).choose := fun i hi => by simp [l, gdqA, hi]
  refine ⟨_, l, rfl, by rw [hln]; unfold maxLen at hn; omega, ?_⟩
  · unfold qu
    rw [hln]
    refine ILe.sl (fun i hi => ?_)
    rw [hg i hi]
    exact (key i hi).choose_spec
theorem case_of {d : Nat} {zs : List AV} (h : zK Tryz.prog (d + 7) 26 zs) : ∃ (names : List (List UInt8)) (gs : List Gr) (t : List (List UInt8)) (l : List En), CB names gs t l ∧ qcq zs (zx names gs t l) := by
  obtain ⟨hl, hf⟩ := good_struct Tryz.underlying26 h
  simp only [List.mem_cons, List.not_mem_nil, or_false, forall_eq_or_imp, forall_eq, cells22, cells23, cells24] at hf
  obtain ⟨h0, h1, h2, h3⟩ := hf
  rw [cells26] at hl
  match zs, hl with
  | [a, b, c, e], _ =>
    obtain ⟨a0, x0, e0, l0, i0⟩ := strs_of h0
    obtain ⟨a1, x1, e1, l1, i1⟩ := grs_of h1
    obtain ⟨a2, x2, e2, l2, i2⟩ := strs_of h2
    obtain ⟨a3, x3, e3, l3, b3, i3⟩ := ens_of h3
    simp at e0 e1 e2 e3
    subst e0 e1 e2 e3
    exact ⟨x0, x1, x2, x3, ⟨l0, l1, l2, l3, b3⟩, i0, i1, i2, i3, trivial⟩
theorem read_case {H : Type} {enc : TypeId × Value → H} {W : World} {base : Nat} {v : Value} {d : DataW H} {ps : List MemPlace} (hval : Value.okWide Tryz.prog W .any base 26 v) (h : DataW.Trod enc Tryz.prog W 0 (fun _ => true) true 26 v d ps) :
    ∃ (names : List (List UInt8)) (gs : List Gr) (t : List (List UInt8)) (l : List En), CB names gs t l ∧ VR W [] (.agg (zx names gs t l)) v := by
  unfold Value.okWide at hval
  rw [Tryz.underlying26] at hval
  simp only at hval
  obtain ⟨cs, rfl, _, _⟩ := hval
  obtain ⟨zs, hg, hvi⟩ := qoE (ow := AF.own []) qsc deep26 h
  obtain ⟨nm, gs, t, l, h1, hil⟩ := case_of hg
  exact ⟨nm, gs, t, l, h1, .imm (ILe.agg hil _ _ _ hvi)⟩
theorem layers_lifted (os : Os) (started : os.Started) (H : Type) (enc : TypeId × Value → H) :
    ReturnsInHanded {} Tryz.checked os 9 .any (fun w args => (Rows.reconstructLayersSpec.pre enc Tryz.prog Tryz.f9 Rows.reconstructLayersRow.domain false w args ∧ laidMetH Tryz.prog Rows.reconstructLayersRow.laid w) ∧ sizedMet enc Tryz.prog Tryz.f9 (OpenSpec.ofChange Rows.reconstructLayersSpec) false w args)
      (Rows.reconstructLayersSpec.post enc Tryz.prog Tryz.f9 false true false false) := by
  refine returnsInHanded_of_change_and (C := Tryz.checked) (X := fun w _ => laidMetH Tryz.prog Rows.reconstructLayersRow.laid w) (fun _ _ _ hh h => h.of_heap hh) own started (by kernel_rfl) Tryz.func9
    (ChangeSpec.witness_shaped (enc := enc) (C := Tryz.checked) (os := os) (X := fun w _ => laidMetH Tryz.prog Rows.reconstructLayersRow.laid w) false (World.laidAll Tryz.prog os Rows.reconstructLayersRow.laid) #[.agg #[.slice none 0 0, .slice none 0 0, .slice none 0 0, .slice none 0 0], .int .u8 0] 8 (World.laidAll_os _ _ _)
      (World.shaped_of_ZipB (by kernel_rfl) (by kernel_rfl)) (by kernel_rfl) (by kernel_rfl) (by kernel_rfl)
      (by rw [MakeChecks.laidMetH_plain _ _ _ (by kernel_rfl)]; exact laidMet_laidAll _ (by kernel_rfl) (by kernel_rfl))) ?_
  intro W base args ds gs before hval hW _ _ hX _
  have hX : laidMetH Tryz.prog Rows.reconstructLayersRow.laid W := hX
  rw [MakeChecks.laidMetH_plain _ _ _ (by kernel_rfl)] at hX
  refine qd9 (tb := 4) (bs := qdq) (G := qxh) laid rfl ?_ (by kernel_rfl) Tryz.underlying4 ?_ hW (qoS hX) (qsC hX) ?_
  · intro ds' h'
    match ds', h' with
    | [a0, a1], _ => rfl
  · intro t ht
    rw [show Tryz.f9.params.toList = [26, 5] by rw [Tryz.params9]] at ht
    simp only [List.mem_cons, List.not_mem_nil, or_false] at ht
    rcases ht with rfl | rfl <;> exact ⟨by kernel_rfl, of_decide_eq_true (by kernel_rfl)⟩
  · intro p hA
    rw [Tryz.params9] at hA hval
    obtain ⟨v0, v1, d0, d1, p0, p1, rfl, rfl, h0, h1⟩ := trodAll_n hA
    obtain ⟨nm0, gs0, tx0, en0, hb0, hv0⟩ := read_case (hval 0 26 v0 rfl rfl) h0
    obtain ⟨n1, rfl, _, _, w1⟩ := open_int Tryz.underlying5 (hval 1 5 v1 rfl rfl) h1
    have hl1 : (0 : Int) ≤ n1 ∧ n1 ≤ 255 := by simpa [Lit.wf, IntKind.min, IntKind.max, IntKind.signed, IntKind.bits] using w1
    refine ⟨by rw [Tryz.params9]; rfl, [(.agg (zx nm0 gs0 tx0 en0)), .int .u8 n1], ?_, qAL nm0 gs0 tx0 en0 n1 [.pin qdq qxh] hb0 hl1 qsB⟩
    exact VRs.cons' hv0 (VRs.cons' (.imm .int) (VRs.nil'))
theorem layers_holds : Rows.ReconstructLayersSaid :=
  OpenClaim.holds_of_wide 9 Tryz.f9 rfl rfl rfl rfl rfl rfl rfl ⟨rfl, rfl, rfl, rfl, rfl⟩ rfl rfl rfl rfl rfl (by kernel_rfl) Tryz.func9 (by kernel_rfl)
    (of_decide_eq_true (by kernel_rfl)) (by unfold Func.isWrapper; first | (rw [if_pos (by decide +kernel)]; kernel_rfl) | (rw [if_neg (by decide +kernel)]; exact ⟨rfl, rfl⟩))
    (fun os started H enc _ => layers_lifted os started H enc)
theorem layers_card : Rows.ReconstructLayersCardSaid :=
  Claim7.holds_tied_plain_at .later [] [.data, .data, .data, .sentinel, .sentinel] true (true, "3b80a068f42c10e7ea3dd00310fca924e046da96ad04b8e1230c62f0ef8bbb01") true layers_holds (fun _ h => by cases h) (by kernel_rfl) (fun _ h => by cases h) reconstructLayers_row_tie rfl ⟨rfl, rfl⟩ (by kernel_rfl) rfl
    (fun f fn hf hfn => by
      obtain rfl : f = 9 := Option.some.inj ((show Tryz.prog.funcNamed "apograph/apographlaw46.ReconstructLayers" = some 9 by kernel_rfl).symm.trans hf) |>.symm
      obtain rfl : fn = Tryz.f9 := (Option.some.inj (Tryz.func9.symm.trans hfn)).symm
      exact ⟨by kernel_rfl, fun j t ht => by
        rw [Tryz.params9] at ht
        have hm : t ∈ [26, 5] := by simpa using Array.mem_of_getElem? ht
        have hall : ([26, 5].all fun u => !Tryz.prog.wantsStandIn u) = true := by kernel_rfl
        exact (show Tryz.prog.wantsStandIn t = false by simpa using List.all_eq_true.1 hall t hm)⟩)
    (by kernel_rfl)
#print axioms layers_holds
#print axioms layers_card
end Go.Proofs.YthlgfjbghnildaaGreatDoor

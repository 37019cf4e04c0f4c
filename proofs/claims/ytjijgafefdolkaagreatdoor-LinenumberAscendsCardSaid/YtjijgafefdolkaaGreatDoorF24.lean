/-
  The law LinenumberAscends comes back with true for every input, and its arguments read qP the call as before: the row, and the card that ties its listed variables. No condition.
-/
import Derived.Test.YtjijgafefdolkaaGreatDoorK10
import Derived.Test.YtjijgafefdolkaaGreatDoorK5
import Derived.Test.YtjijgafefdolkaaGreatDoorRows
import Derived.Test.YtjijgafefdolkaaGreatDoorTie
import Derived.Test.YtjijgafefdolkaaGreatDoorCards
import Derived.ProofKit
import Derived.ChangeMaps5
import Derived.OpenShut
import Derived.LaidMore
import Derived.Lay
import Derived.SevenTiedAt
import Derived.Stop.Joined
set_option linter.all false
set_option linter.unusedSimpArgs false
set_option linter.unusedVariables false
set_option linter.unusedSectionVars false
open Go Go.Proofs AF HY P48 LN Go.ChangeShapes Go.WideShapes Go.ChangeAt Go.RowKit
set_option maxRecDepth 100000
namespace Go.Proofs.YtjijgafefdolkaaGreatDoor
theorem own : ownKnob Tryz.prog.godebug = none := by kernel_rfl
theorem laid : laidOutB Tryz.prog = true := by kernel_rfl
theorem trodAll_n {H : Type} {enc : TypeId × Value → H} {P : Program} {w : World} {base : Nat} {spare : Nat → Bool} {held : Bool} {t0 t1 t2 : TypeId} {args : Array Value} {ds : List (DataW H)} {ps : List MemPlace}
    (h : DataW.TrodAll enc P w base spare held [t0, t1, t2] args.toList ds ps) :
    ∃ v0 v1 v2 d0 d1 d2 p0 p1 p2, args = #[v0, v1, v2] ∧ ds = [d0, d1, d2] ∧ DataW.Trod enc P w base spare held t0 v0 d0 p0 ∧ DataW.Trod enc P w base spare held t1 v1 d1 p1 ∧ DataW.Trod enc P w base spare held t2 v2 d2 p2 := by
  obtain ⟨v0, vs0, d0, ds0, p0, q0, hargs, rfl, rfl, hd0, hr0⟩ := trodAll_cons h
  obtain ⟨v1, vs1, d1, ds1, p1, q1, rfl, rfl, rfl, hd1, hr1⟩ := trodAll_cons hr0
  obtain ⟨v2, vs2, d2, ds2, p2, q2, rfl, rfl, rfl, hd2, hr2⟩ := trodAll_cons hr1
  obtain ⟨rfl, rfl, rfl⟩ := trodAll_nil hr2
  exact ⟨v0, v1, v2, d0, d1, d2, p0, p1, p2, by cases args; simp_all, rfl, hd0, hd1, hd2⟩
theorem cells3 : Tryz.prog.cellsOf 3 = 1 := by kernel_rfl
theorem cells4 : Tryz.prog.cellsOf 4 = 1 := by kernel_rfl
theorem cells9 : Tryz.prog.cellsOf 9 = 1 := by kernel_rfl
theorem cells22 : Tryz.prog.cellsOf 22 = 1 := by kernel_rfl
theorem cells23 : Tryz.prog.cellsOf 23 = 1 := by kernel_rfl
theorem cells25 : Tryz.prog.cellsOf 25 = 13 := by kernel_rfl
theorem cells26 : Tryz.prog.cellsOf 26 = 1 := by kernel_rfl
theorem cells27 : Tryz.prog.cellsOf 27 = 1 := by kernel_rfl
theorem cells33 : Tryz.prog.cellsOf 33 = 7 := by kernel_rfl
theorem cells42 : Tryz.prog.cellsOf 42 = 1 := by kernel_rfl
theorem cells61 : Tryz.prog.cellsOf 61 = 2 := by kernel_rfl
theorem deep26 : qaj Tryz.prog 8 26 = true := by kernel_rfl
theorem deep27 : qaj Tryz.prog 8 27 = true := by kernel_rfl
theorem deep25 : qaj Tryz.prog 8 25 = true := by kernel_rfl
theorem good_struct {d : Nat} {t : TypeId} {fs : Array Field} {zs : List AV} (ht : Tryz.prog.underlying t = some (.struct fs)) (h : ju Tryz.prog (d + 1) t zs) : zs.length = Tryz.prog.cellsOf t ∧ ∀ f ∈ fs.toList, ju Tryz.prog d f.type ((zs.drop f.offset).take (Tryz.prog.cellsOf f.type)) := by
  unfold ju at h; rw [ht] at h; exact h
theorem good_slice {d : Nat} {t e : TypeId} {zs : List AV} (ht : Tryz.prog.underlying t = some (.slice e)) (h : ju Tryz.prog (d + 1) t zs) : ∃ (n : Nat) (f : Nat → List AV), zs = [.sl n f] ∧ n ≤ maxLen ∧ ∀ i, i < n → ju Tryz.prog d e (f i) := by
  unfold ju at h; rw [ht] at h; exact h
theorem good_int {d : Nat} {t : TypeId} {k : IntKind} {zs : List AV} (ht : Tryz.prog.underlying t = some (.int k)) (h : ju Tryz.prog (d + 1) t zs) : ∃ n, zs = [.int k n] := by
  unfold ju at h; rw [ht] at h; obtain ⟨n, h, _⟩ := h; exact ⟨n, h⟩
theorem good_bool {d : Nat} {t : TypeId} {zs : List AV} (ht : Tryz.prog.underlying t = some .bool) (h : ju Tryz.prog (d + 1) t zs) : ∃ n, zs = [.bool n] := by
  unfold ju at h; rw [ht] at h; exact h
theorem good_str {d : Nat} {t : TypeId} {zs : List AV} (ht : Tryz.prog.underlying t = some .string) (h : ju Tryz.prog (d + 1) t zs) : ∃ n, zs = [.str n] := by
  unfold ju at h; rw [ht] at h; obtain ⟨n, h, _⟩ := h; exact ⟨n, h⟩
theorem pat_of {d : Nat} {zs : List AV} (h : ju Tryz.prog (d + 3) 61 zs) : ∃ p : Pat, qfR zs (qbr p) := by
  obtain ⟨hl, hf⟩ := good_struct Tryz.underlying61 h
  simp only [List.mem_cons, List.not_mem_nil, or_false, forall_eq_or_imp, forall_eq, cells9, cells42] at hf
  obtain ⟨h0, h1⟩ := hf
  rw [cells61] at hl
  match zs, hl with
  | [a, b], _ =>
    obtain ⟨s, hs⟩ := good_str Tryz.underlying9 h0
    obtain ⟨n, f, hb, _, hfi⟩ := good_slice Tryz.underlying42 h1
    simp at hs hb
    subst hs hb
    have key : ∀ i, i < n → ∃ x : Int, f i = [.int .i64 x] := fun i hi => good_int Tryz.underlying3 (hfi i hi)
    let l : List Int := (List.range n).map fun i => if hi : i < n then (key i hi).choose else 0
    have hln : l.length = n := by simp [l]
    refine ⟨⟨s, l⟩, ILe.refl _, ?_, trivial⟩
    show ILe (.sl n f) (qw l)
    unfold qw
    rw [hln]
    refine ILe.sl_eq (fun i hi => ?_)
    have : l.getD i 0 = (key i hi).choose := by simp [l, List.getD_eq_getElem?_getD, hi]
    rw [this]
    exact (key i hi).choose_spec
theorem pats_of {d : Nat} {zs : List AV} (h : ju Tryz.prog (d + 4) 26 zs) : ∃ (a : AV) (ps : List Pat), zs = [a] ∧ ps.length ≤ 9223372036854775807 ∧ ILe a (qA ps) := by
  obtain ⟨n, f, rfl, hn, hfi⟩ := good_slice Tryz.underlying26 h
  have key : ∀ i, i < n → ∃ p : Pat, qfR (f i) (qbr p) := fun i hi => pat_of (hfi i hi)
  let l : List Pat := (List.range n).map fun i => if hi : i < n then (key i hi).choose else default
  have hln : l.length = n := by simp [l]
  refine ⟨_, l, rfl, by rw [hln]; unfold maxLen at hn; omega, ?_⟩
  unfold qA
  rw [hln]
  refine ILe.sl (fun i hi => ?_)
  have : l.getD i default = (key i hi).choose := by simp [l, List.getD_eq_getElem?_getD, hi]
  rw [this]
  exact (key i hi).choose_spec
theorem wd_of {d : Nat} {zs : List AV} (h : ju Tryz.prog (d + 2) 33 zs) : ∃ w : Wd, zs = zV w := by
  obtain ⟨hl, hf⟩ := good_struct Tryz.underlying33 h
  simp only [List.mem_cons, List.not_mem_nil, or_false, forall_eq_or_imp, forall_eq, cells9, cells3, cells4] at hf
  obtain ⟨h0, h1, h2, h3, h4, h5, h6⟩ := hf
  rw [cells33] at hl
  match zs, hl with
  | [a, b, c, e, f, g, k], _ =>
    obtain ⟨x0, e0⟩ := good_str Tryz.underlying9 h0
    obtain ⟨x1, e1⟩ := good_int Tryz.underlying3 h1
    obtain ⟨x2, e2⟩ := good_int Tryz.underlying3 h2
    obtain ⟨x3, e3⟩ := good_int Tryz.underlying3 h3
    obtain ⟨x4, e4⟩ := good_bool Tryz.underlying4 h4
    obtain ⟨x5, e5⟩ := good_bool Tryz.underlying4 h5
    obtain ⟨x6, e6⟩ := good_str Tryz.underlying9 h6
    simp at e0 e1 e2 e3 e4 e5 e6
    subst e0 e1 e2 e3 e4 e5 e6
    exact ⟨⟨x0, x1, x2, x3, x4, x5, x6⟩, rfl⟩
theorem words_of {d : Nat} {zs : List AV} (h : ju Tryz.prog (d + 3) 27 zs) : ∃ (a : AV) (ws : List Wd), zs = [a] ∧ ws.length ≤ 9223372036854775807 ∧ ILe a (qu ws) := by
  obtain ⟨n, f, rfl, hn, hfi⟩ := good_slice Tryz.underlying27 h
  have key : ∀ i, i < n → ∃ p : Wd, f i = zV p := fun i hi => wd_of (hfi i hi)
  let l : List Wd := (List.range n).map fun i => if hi : i < n then (key i hi).choose else default
  have hln : l.length = n := by simp [l]
  refine ⟨_, l, rfl, by rw [hln]; unfold maxLen at hn; omega, ?_⟩
  unfold qu
  rw [hln]
  refine ILe.sl_eq (fun i hi => ?_)
  have : l.getD i default = (key i hi).choose := by simp [l, List.getD_eq_getElem?_getD, hi]
  rw [this]
  exact (key i hi).choose_spec
theorem sty_of {d : Nat} {zs : List AV} (h : ju Tryz.prog (d + 2) 25 zs) : ∃ (s : Sty) (W : Int) (x : List AV), zs = zl s x ∧ x.getD 0 .undef = .int .i64 W := by
  obtain ⟨hl, hf⟩ := good_struct Tryz.underlying25 h
  simp only [List.mem_cons, List.not_mem_nil, or_false, forall_eq_or_imp, forall_eq, cells3, cells22, cells23] at hf
  obtain ⟨h0, h1, h2, h3, h4, h5, h6, h7, h8, h9, h10, h11, h12⟩ := hf
  rw [cells25] at hl
  match zs, hl with
  | [z0, z1, z2, z3, z4, z5, z6, z7, z8, z9, z10, z11, z12], _ =>
    obtain ⟨x0, e0⟩ := good_int Tryz.underlying3 h0
    obtain ⟨x5, e5⟩ := good_int Tryz.underlying3 h5
    obtain ⟨x6, e6⟩ := good_int Tryz.underlying3 h6
    obtain ⟨x7, e7⟩ := good_int Tryz.underlying3 h7
    obtain ⟨x8, e8⟩ := good_int Tryz.underlying3 h8
    obtain ⟨x9, e9⟩ := good_int Tryz.underlying3 h9
    simp at e0 e5 e6 e7 e8 e9
    subst e0 e5 e6 e7 e8 e9
    exact ⟨⟨x5, x6, x7, x8, x9⟩, x0, [.int .i64 x0, z1, z2, z3, z4, z10, z11, z12], rfl, rfl⟩
theorem one_cell {W : World} {base : Nat} {t e : TypeId} {v : Value} (ht : Tryz.prog.underlying t = some (.slice e)) (hval : Value.okWide Tryz.prog W .any base t v) : v.cells = #[v] := by
  unfold Value.okWide at hval
  rw [ht] at hval
  simp only at hval
  unfold Cell.okWide Cell.ok at hval
  rw [ht] at hval
  cases v <;> first | rfl | (exfalso; simp at hval)
theorem read_pats {H : Type} {enc : TypeId × Value → H} {W : World} {base : Nat} {v : Value} {d : DataW H} {ps : List MemPlace} (hval : Value.okWide Tryz.prog W .any base 26 v) (h : DataW.Trod enc Tryz.prog W 0 (fun _ => true) true 26 v d ps) :
    ∃ l : List Pat, l.length ≤ 9223372036854775807 ∧ VR W [] (qA l) v := by
  obtain ⟨z, hg, hvi⟩ := qhi (ow := AF.own []) qel deep26 (one_cell Tryz.underlying26 hval) h
  obtain ⟨a, ps, e, hl, hil⟩ := pats_of hg
  simp at e
  subst e
  exact ⟨ps, hl, .imm (hil _ _ _ hvi)⟩
theorem read_words {H : Type} {enc : TypeId × Value → H} {W : World} {base : Nat} {v : Value} {d : DataW H} {ps : List MemPlace} (hval : Value.okWide Tryz.prog W .any base 27 v) (h : DataW.Trod enc Tryz.prog W 0 (fun _ => true) true 27 v d ps) :
    ∃ l : List Wd, l.length ≤ 9223372036854775807 ∧ VR W [] (qu l) v := by
  obtain ⟨z, hg, hvi⟩ := qhi (ow := AF.own []) qel deep27 (one_cell Tryz.underlying27 hval) h
  obtain ⟨a, ps, e, hl, hil⟩ := words_of hg
  simp at e
  subst e
  exact ⟨ps, hl, .imm (hil _ _ _ hvi)⟩
theorem read_style {H : Type} {enc : TypeId × Value → H} {W : World} {base : Nat} {v : Value} {d : DataW H} {ps : List MemPlace} (hval : Value.okWide Tryz.prog W .any base 25 v) (h : DataW.Trod enc Tryz.prog W 0 (fun _ => true) true 25 v d ps) :
    ∃ (s : Sty) (w : Int) (x : List AV), x.getD 0 .undef = .int .i64 w ∧ VR W [] (.agg (zl s x)) v := by
  unfold Value.okWide at hval
  rw [Tryz.underlying25] at hval
  simp only at hval
  obtain ⟨cs, rfl, _, _⟩ := hval
  obtain ⟨zs, hg, hvi⟩ := qpg (ow := AF.own []) qel deep25 h
  obtain ⟨s, w, x, rfl, hx⟩ := sty_of hg
  exact ⟨s, w, x, hx, .imm hvi⟩
theorem ascends_lifted (os : Os) (started : os.Started) (H : Type) (enc : TypeId × Value → H) :
    ReturnsInHanded {} Tryz.checked os 4 .any (fun w args => (Rows.linenumberAscendsSpec.pre enc Tryz.prog Tryz.f4 Rows.linenumberAscendsRow.domain false w args ∧ laidMetH Tryz.prog Rows.linenumberAscendsRow.laid w) ∧ sizedMet enc Tryz.prog Tryz.f4 (OpenSpec.ofChange Rows.linenumberAscendsSpec) false w args)
      (Rows.linenumberAscendsSpec.post enc Tryz.prog Tryz.f4 false true false false) := by
  refine returnsInHanded_of_change_and (C := Tryz.checked) (X := fun w _ => laidMetH Tryz.prog Rows.linenumberAscendsRow.laid w) (fun _ _ _ hh h => h.of_heap hh) own started (by kernel_rfl) Tryz.func4
    (ChangeSpec.witness_shaped (enc := enc) (C := Tryz.checked) (os := os) (X := fun w _ => laidMetH Tryz.prog Rows.linenumberAscendsRow.laid w) false (World.laidAll Tryz.prog os Rows.linenumberAscendsRow.laid) #[.agg #[.int .i64 0, .int .i64 0, .int .i64 0, .int .i64 0, .int .i64 0, .int .i64 0, .int .i64 0, .int .i64 0, .int .i64 0, .int .i64 0, .int .i64 0, .slice none 0 0, .slice none 0 0], .slice none 0 0, .slice none 0 0] 8 (World.laidAll_os _ _ _)
      (World.shaped_of_ZipB (by kernel_rfl) (by kernel_rfl)) (by kernel_rfl) (by kernel_rfl) (by kernel_rfl)
      (by rw [MakeChecks.laidMetH_plain _ _ _ (by kernel_rfl)]; exact laidMet_laidAll _ (by kernel_rfl) (by kernel_rfl))) ?_
  intro W base args ds gs before hval hW _ _ _ _
  refine qoJ (tb := 4) laid rfl ?_ (by kernel_rfl) Tryz.underlying4 ?_ hW ?_
  · intro ds' h'
    match ds', h' with
    | [a0, a1, a2], _ => rfl
  · intro t ht
    rw [show Tryz.f4.params.toList = [25, 26, 27] by rw [Tryz.params4]] at ht
    simp only [List.mem_cons, List.not_mem_nil, or_false] at ht
    rcases ht with rfl | rfl | rfl <;> exact ⟨by kernel_rfl, of_decide_eq_true (by kernel_rfl)⟩
  · intro p hA
    rw [Tryz.params4] at hA hval
    obtain ⟨v0, v1, v2, d0, d1, d2, p0, p1, p2, rfl, rfl, h0, h1, h2⟩ := trodAll_n hA
    obtain ⟨y0, w0, x0, hx0, hv0⟩ := read_style (hval 0 25 v0 rfl rfl) h0
    obtain ⟨l1, hl1, hv1⟩ := read_pats (hval 1 26 v1 rfl rfl) h1
    obtain ⟨l2, hl2, hv2⟩ := read_words (hval 2 27 v2 rfl rfl) h2
    refine ⟨by rw [Tryz.params4]; rfl, [.agg (zl y0 x0), qA l1, qu l2], ?_, a4 y0 w0 x0 l1 l2 [] hl1 hl2 hx0⟩
    exact VRs.cons' hv0 (VRs.cons' hv1 (VRs.cons' hv2 (VRs.nil')))
theorem ascends_holds : Rows.LinenumberAscendsSaid :=
  OpenClaim.holds_of_wide 4 Tryz.f4 rfl rfl rfl rfl rfl rfl rfl ⟨rfl, rfl, rfl, rfl, rfl⟩ rfl rfl rfl rfl rfl (by kernel_rfl) Tryz.func4 (by kernel_rfl)
    (of_decide_eq_true (by kernel_rfl)) (by unfold Func.isWrapper; first | (rw [if_pos (by decide +kernel)]; kernel_rfl) | (rw [if_neg (by decide +kernel)]; exact ⟨rfl, rfl⟩))
    (fun os started H enc _ => ascends_lifted os started H enc)
theorem ascends_card : Rows.LinenumberAscendsCardSaid :=
  Claim7.holds_tied_plain_at .later [] [.data, .data, .data] true (true, "b7c5b76050656f442653c21beb8a5c1ec0e7f8dff73a287fc4c1ac934d382512") false ascends_holds (fun _ h => by cases h) (by kernel_rfl) (fun _ h => by cases h) linenumberAscends_row_tie rfl ⟨rfl, rfl⟩ (by kernel_rfl) rfl
    (fun f fn hf hfn => by
      obtain rfl : f = 4 := Option.some.inj ((show Tryz.prog.funcNamed "apograph/apographlaw49.LinenumberAscends" = some 4 by kernel_rfl).symm.trans hf) |>.symm
      obtain rfl : fn = Tryz.f4 := (Option.some.inj (Tryz.func4.symm.trans hfn)).symm
      exact ⟨by kernel_rfl, fun j t ht => by
        rw [Tryz.params4] at ht
        have hm : t ∈ [25, 26, 27] := by simpa using Array.mem_of_getElem? ht
        have hall : ([25, 26, 27].all fun u => !Tryz.prog.wantsStandIn u) = true := by kernel_rfl
        exact (show Tryz.prog.wantsStandIn t = false by simpa using List.all_eq_true.1 hall t hm)⟩)
    (by kernel_rfl)
#print axioms ascends_holds
#print axioms ascends_card
end Go.Proofs.YtjijgafefdolkaaGreatDoor

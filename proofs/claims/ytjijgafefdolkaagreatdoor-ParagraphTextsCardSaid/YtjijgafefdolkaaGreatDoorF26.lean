/-
  The law ParagraphTexts comes back with true for every input, and its arguments read qS the call as before: the row, and the card that ties its listed variables. No condition.
-/
import Derived.Test.YtjijgafefdolkaaGreatDoorK12
import Derived.Test.YtjijgafefdolkaaGreatDoorK6
import Derived.Test.YtjijgafefdolkaaGreatDoorRows
import Derived.Test.YtjijgafefdolkaaGreatDoorTie
import Derived.Test.YtjijgafefdolkaaGreatDoorCards
import Derived.ProofKit
import Derived.ChangeMaps5
import Derived.OpenShut
import Derived.LaidMore
import Derived.Lay
import Derived.SevenTiedAt
import Derived.Stop.Joined
set_option linter.all false
set_option linter.unusedSimpArgs false
set_option linter.unusedVariables false
set_option linter.unusedSectionVars false
open Go Go.Proofs AF HY P48 LN Go.ChangeShapes Go.WideShapes Go.ChangeAt Go.RowKit
set_option maxRecDepth 100000
namespace Go.Proofs.YtjijgafefdolkaaGreatDoor
theorem own : ownKnob Tryz.prog.godebug = none := by kernel_rfl
theorem laid : laidOutB Tryz.prog = true := by kernel_rfl
theorem trodAll_n {H : Type} {enc : TypeId × Value → H} {P : Program} {w : World} {base : Nat} {spare : Nat → Bool} {held : Bool} {t0 t1 : TypeId} {args : Array Value} {ds : List (DataW H)} {ps : List MemPlace}
    (h : DataW.TrodAll enc P w base spare held [t0, t1] args.toList ds ps) :
    ∃ v0 v1 d0 d1 p0 p1, args = #[v0, v1] ∧ ds = [d0, d1] ∧ DataW.Trod enc P w base spare held t0 v0 d0 p0 ∧ DataW.Trod enc P w base spare held t1 v1 d1 p1 := by
  obtain ⟨v0, vs0, d0, ds0, p0, q0, hargs, rfl, rfl, hd0, hr0⟩ := trodAll_cons h
  obtain ⟨v1, vs1, d1, ds1, p1, q1, rfl, rfl, rfl, hd1, hr1⟩ := trodAll_cons hr0
  obtain ⟨rfl, rfl, rfl⟩ := trodAll_nil hr1
  exact ⟨v0, v1, d0, d1, p0, p1, by cases args; simp_all, rfl, hd0, hd1⟩
theorem cells3 : Tryz.prog.cellsOf 3 = 1 := by kernel_rfl
theorem cells4 : Tryz.prog.cellsOf 4 = 1 := by kernel_rfl
theorem cells9 : Tryz.prog.cellsOf 9 = 1 := by kernel_rfl
theorem cells22 : Tryz.prog.cellsOf 22 = 1 := by kernel_rfl
theorem cells23 : Tryz.prog.cellsOf 23 = 1 := by kernel_rfl
theorem cells25 : Tryz.prog.cellsOf 25 = 13 := by kernel_rfl
theorem cells26 : Tryz.prog.cellsOf 26 = 1 := by kernel_rfl
theorem cells27 : Tryz.prog.cellsOf 27 = 1 := by kernel_rfl
theorem cells33 : Tryz.prog.cellsOf 33 = 7 := by kernel_rfl
theorem cells42 : Tryz.prog.cellsOf 42 = 1 := by kernel_rfl
theorem cells61 : Tryz.prog.cellsOf 61 = 2 := by kernel_rfl
theorem deep26 : qap Tryz.prog 8 26 = true := by kernel_rfl
theorem deep27 : qap Tryz.prog 8 27 = true := by kernel_rfl
theorem deep25 : qap Tryz.prog 8 25 = true := by kernel_rfl
theorem good_struct {d : Nat} {t : TypeId} {fs : Array Field} {zs : List AV} (ht : Tryz.prog.underlying t = some (.struct fs)) (h : jH Tryz.prog (d + 1) t zs) : zs.length = Tryz.prog.cellsOf t ∧ ∀ f ∈ fs.toList, jH Tryz.prog d f.type ((zs.drop f.offset).take (Tryz.prog.cellsOf f.type)) := by
  unfold jH at h; rw [ht] at h; exact h
theorem good_slice {d : Nat} {t e : TypeId} {zs : List AV} (ht : Tryz.prog.underlying t = some (.slice e)) (h : jH Tryz.prog (d + 1) t zs) : ∃ (n : Nat) (f : Nat → List AV), zs = [.sl n f] ∧ n ≤ maxLen ∧ ∀ i, i < n → jH Tryz.prog d e (f i) := by
  unfold jH at h; rw [ht] at h; exact h
theorem good_int {d : Nat} {t : TypeId} {k : IntKind} {zs : List AV} (ht : Tryz.prog.underlying t = some (.int k)) (h : jH Tryz.prog (d + 1) t zs) : ∃ n, zs = [.int k n] := by
  unfold jH at h; rw [ht] at h; obtain ⟨n, h, _⟩ := h; exact ⟨n, h⟩
theorem good_bool {d : Nat} {t : TypeId} {zs : List AV} (ht : Tryz.prog.underlying t = some .bool) (h : jH Tryz.prog (d + 1) t zs) : ∃ n, zs = [.bool n] := by
  unfold jH at h; rw [ht] at h; exact h
theorem good_str {d : Nat} {t : TypeId} {zs : List AV} (ht : Tryz.prog.underlying t = some .string) (h : jH Tryz.prog (d + 1) t zs) : ∃ n, zs = [.str n] := by
  unfold jH at h; rw [ht] at h; obtain ⟨n, h, _⟩ := h; exact ⟨n, h⟩
theorem pat_of {d : Nat} {zs : List AV} (h : jH Tryz.prog (d + 3) 61 zs) : ∃ p : Pat, qfe zs (qbo p) := by
  obtain ⟨hl, hf⟩ := good_struct Tryz.underlying61 h
  simp only [List.mem_cons, List.not_mem_nil, or_false, forall_eq_or_imp, forall_eq, cells9, cells42] at hf
  obtain ⟨h0, h1⟩ := hf
  rw [cells61] at hl
  match zs, hl with
  | [a, b], _ =>
    obtain ⟨s, hs⟩ := good_str Tryz.underlying9 h0
    obtain ⟨n, f, hb, _, hfi⟩ := good_slice Tryz.underlying42 h1
    simp at hs hb
    subst hs hb
    have key : ∀ i, i < n → ∃ x : Int, f i = [.int .i64 x] := fun i hi => good_int Tryz.underlying3 (hfi i hi)
    let l : List Int := (List.range n).map fun i => if hi : i < n then (key i hi).choose else 0
    have hln : l.length = n := by simp [l]
    refine ⟨⟨s, l⟩, ILe.refl _, ?_, trivial⟩
    show ILe (.sl n f) (qy l)
    unfold qy
    rw [hln]
    refine ILe.sl_eq (fun i hi => ?_)
    have : l.getD i 0 = (key i hi).choose := by simp [l, List.getD_eq_getElem?_getD, hi]
    rw [this]
    exact (key i hi).choose_spec
theorem pats_of {d : Nat} {zs : List AV} (h : jH Tryz.prog (d + 4) 26 zs) : ∃ (a : AV) (ps : List Pat), zs = [a] ∧ ps.length ≤ 9223372036854775807 ∧ ILe a (qw ps) := by
  obtain ⟨n, f, rfl, hn, hfi⟩ := good_slice Tryz.underlying26 h
  have key : ∀ i, i < n → ∃ p : Pat, qfe (f i) (qbo p) := fun i hi => pat_of (hfi i hi)
  let l : List Pat := (List.range n).map fun i => if hi : i < n then (key i hi).choose else default
  have hln : l.length = n := by simp [l]
  refine ⟨_, l, rfl, by rw [hln]; unfold maxLen at hn; omega, ?_⟩
  unfold qw
  rw [hln]
  refine ILe.sl (fun i hi => ?_)
  have : l.getD i default = (key i hi).choose := by simp [l, List.getD_eq_getElem?_getD, hi]
  rw [this]
  exact (key i hi).choose_spec
theorem wd_of {d : Nat} {zs : List AV} (h : jH Tryz.prog (d + 2) 33 zs) : ∃ w : Wd, zs = qY w := by
  obtain ⟨hl, hf⟩ := good_struct Tryz.underlying33 h
  simp only [List.mem_cons, List.not_mem_nil, or_false, forall_eq_or_imp, forall_eq, cells9, cells3, cells4] at hf
  obtain ⟨h0, h1, h2, h3, h4, h5, h6⟩ := hf
  rw [cells33] at hl
  match zs, hl with
  | [a, b, c, e, f, g, k], _ =>
    obtain ⟨x0, e0⟩ := good_str Tryz.underlying9 h0
    obtain ⟨x1, e1⟩ := good_int Tryz.underlying3 h1
    obtain ⟨x2, e2⟩ := good_int Tryz.underlying3 h2
    obtain ⟨x3, e3⟩ := good_int Tryz.underlying3 h3
    obtain ⟨x4, e4⟩ := good_bool Tryz.underlying4 h4
    obtain ⟨x5, e5⟩ := good_bool Tryz.underlying4 h5
    obtain ⟨x6, e6⟩ := good_str Tryz.underlying9 h6
    simp at e0 e1 e2 e3 e4 e5 e6
    subst e0 e1 e2 e3 e4 e5 e6
    exact ⟨⟨x0, x1, x2, x3, x4, x5, x6⟩, rfl⟩
theorem words_of {d : Nat} {zs : List AV} (h : jH Tryz.prog (d + 3) 27 zs) : ∃ (a : AV) (ws : List Wd), zs = [a] ∧ ws.length ≤ 9223372036854775807 ∧ ILe a (qt ws) := by
  obtain ⟨n, f, rfl, hn, hfi⟩ := good_slice Tryz.underlying27 h
  have key : ∀ i, i < n → ∃ p : Wd, f i = qY p := fun i hi => wd_of (hfi i hi)
  let l : List Wd := (List.range n).map fun i => if hi : i < n then (key i hi).choose else default
  have hln : l.length = n := by simp [l]
  refine ⟨_, l, rfl, by rw [hln]; unfold maxLen at hn; omega, ?_⟩
  unfold qt
  rw [hln]
  refine ILe.sl_eq (fun i hi => ?_)
  have : l.getD i default = (key i hi).choose := by simp [l, List.getD_eq_getElem?_getD, hi]
  rw [this]
  exact (key i hi).choose_spec
theorem sty_of {d : Nat} {zs : List AV} (h : jH Tryz.prog (d + 2) 25 zs) : ∃ (s : Sty) (W : Int) (x : List AV), zs = za s x ∧ x.getD 0 .undef = .int .i64 W := by
  obtain ⟨hl, hf⟩ := good_struct Tryz.underlying25 h
  simp only [List.mem_cons, List.not_mem_nil, or_false, forall_eq_or_imp, forall_eq, cells3, cells22, cells23] at hf
  obtain ⟨h0, h1, h2, h3, h4, h5, h6, h7, h8, h9, h10, h11, h12⟩ := hf
  rw [cells25] at hl
  match zs, hl with
  | [z0, z1, z2, z3, z4, z5, z6, z7, z8, z9, z10, z11, z12], _ =>
    obtain ⟨x0, e0⟩ := good_int Tryz.underlying3 h0
    obtain ⟨x5, e5⟩ := good_int Tryz.underlying3 h5
    obtain ⟨x6, e6⟩ := good_int Tryz.underlying3 h6
    obtain ⟨x7, e7⟩ := good_int Tryz.underlying3 h7
    obtain ⟨x8, e8⟩ := good_int Tryz.underlying3 h8
    obtain ⟨x9, e9⟩ := good_int Tryz.underlying3 h9
    simp at e0 e5 e6 e7 e8 e9
    subst e0 e5 e6 e7 e8 e9
    exact ⟨⟨x5, x6, x7, x8, x9⟩, x0, [.int .i64 x0, z1, z2, z3, z4, z10, z11, z12], rfl, rfl⟩
theorem one_cell {W : World} {base : Nat} {t e : TypeId} {v : Value} (ht : Tryz.prog.underlying t = some (.slice e)) (hval : Value.okWide Tryz.prog W .any base t v) : v.cells = #[v] := by
  unfold Value.okWide at hval
  rw [ht] at hval
  simp only at hval
  unfold Cell.okWide Cell.ok at hval
  rw [ht] at hval
  cases v <;> first | rfl | (exfalso; simp at hval)
theorem read_pats {H : Type} {enc : TypeId × Value → H} {W : World} {base : Nat} {v : Value} {d : DataW H} {ps : List MemPlace} (hval : Value.okWide Tryz.prog W .any base 26 v) (h : DataW.Trod enc Tryz.prog W 0 (fun _ => true) true 26 v d ps) :
    ∃ l : List Pat, l.length ≤ 9223372036854775807 ∧ VR W [] (qw l) v := by
  obtain ⟨z, hg, hvi⟩ := qii (ow := AF.own []) qdz deep26 (one_cell Tryz.underlying26 hval) h
  obtain ⟨a, ps, e, hl, hil⟩ := pats_of hg
  simp at e
  subst e
  exact ⟨ps, hl, .imm (hil _ _ _ hvi)⟩
theorem read_words {H : Type} {enc : TypeId × Value → H} {W : World} {base : Nat} {v : Value} {d : DataW H} {ps : List MemPlace} (hval : Value.okWide Tryz.prog W .any base 27 v) (h : DataW.Trod enc Tryz.prog W 0 (fun _ => true) true 27 v d ps) :
    ∃ l : List Wd, l.length ≤ 9223372036854775807 ∧ VR W [] (qt l) v := by
  obtain ⟨z, hg, hvi⟩ := qii (ow := AF.own []) qdz deep27 (one_cell Tryz.underlying27 hval) h
  obtain ⟨a, ps, e, hl, hil⟩ := words_of hg
  simp at e
  subst e
  exact ⟨ps, hl, .imm (hil _ _ _ hvi)⟩
theorem read_style {H : Type} {enc : TypeId × Value → H} {W : World} {base : Nat} {v : Value} {d : DataW H} {ps : List MemPlace} (hval : Value.okWide Tryz.prog W .any base 25 v) (h : DataW.Trod enc Tryz.prog W 0 (fun _ => true) true 25 v d ps) :
    ∃ (s : Sty) (w : Int) (x : List AV), x.getD 0 .undef = .int .i64 w ∧ VR W [] (.agg (za s x)) v := by
  unfold Value.okWide at hval
  rw [Tryz.underlying25] at hval
  simp only at hval
  obtain ⟨cs, rfl, _, _⟩ := hval
  obtain ⟨zs, hg, hvi⟩ := qih (ow := AF.own []) qdz deep25 h
  obtain ⟨s, w, x, rfl, hx⟩ := sty_of hg
  exact ⟨s, w, x, hx, .imm hvi⟩
theorem cells29 : Tryz.prog.cellsOf 29 = 15 := by kernel_rfl
theorem deep29 : qap Tryz.prog 8 29 = true := by kernel_rfl
theorem setting_of {d : Nat} {zs : List AV} (h : jH Tryz.prog (d + 5) 29 zs) : ∃ (s : Sty) (x : List AV) (ps : List Pat) (ws : List Wd), ps.length ≤ 9223372036854775807 ∧ ws.length ≤ 9223372036854775807 ∧ qfe zs (za s x ++ [qw ps, qt ws]) := by
  obtain ⟨hl, hf⟩ := good_struct Tryz.underlying29 h
  simp only [List.mem_cons, List.not_mem_nil, or_false, forall_eq_or_imp, forall_eq, cells25, cells26, cells27] at hf
  obtain ⟨h0, h1, h2⟩ := hf
  rw [cells29] at hl
  match zs, hl with
  | [z0, z1, z2, z3, z4, z5, z6, z7, z8, z9, z10, z11, z12, z13, z14], _ =>
    obtain ⟨s, W, x, e0, _⟩ := sty_of h0
    obtain ⟨a, ps, e1, hps, hpl⟩ := pats_of h1
    obtain ⟨b, ws, e2, hws, hwl⟩ := words_of h2
    simp at e1 e2
    subst e1 e2
    refine ⟨s, x, ps, ws, hps, hws, ?_⟩
    have e3 : [z0, z1, z2, z3, z4, z5, z6, z7, z8, z9, z10, z11, z12] = za s x := e0
    have e4 : [z0, z1, z2, z3, z4, z5, z6, z7, z8, z9, z10, z11, z12, z13, z14] = za s x ++ [z13, z14] := by rw [← e3]; rfl
    rw [e4]
    unfold za
    exact ⟨ILe.refl _, ILe.refl _, ILe.refl _, ILe.refl _, ILe.refl _, ILe.refl _, ILe.refl _, ILe.refl _, ILe.refl _, ILe.refl _, ILe.refl _, ILe.refl _, ILe.refl _, hpl, hwl, trivial⟩
theorem read_setting {H : Type} {enc : TypeId × Value → H} {W : World} {base : Nat} {v : Value} {d : DataW H} {ps : List MemPlace} (hval : Value.okWide Tryz.prog W .any base 29 v) (h : DataW.Trod enc Tryz.prog W 0 (fun _ => true) true 29 v d ps) :
    ∃ (s : Sty) (x : List AV) (lp : List Pat) (lw : List Wd), lp.length ≤ 9223372036854775807 ∧ lw.length ≤ 9223372036854775807 ∧ VR W [] (.agg (za s x ++ [qw lp, qt lw])) v := by
  unfold Value.okWide at hval
  rw [Tryz.underlying29] at hval
  simp only at hval
  obtain ⟨cs, rfl, _, _⟩ := hval
  obtain ⟨zs, hg, hvi⟩ := qih (ow := AF.own []) qdz deep29 h
  obtain ⟨s, x, lp, lw, h1, h2, hil⟩ := setting_of hg
  exact ⟨s, x, lp, lw, h1, h2, .imm (ILe.agg hil _ _ _ hvi)⟩
theorem texts_lifted (os : Os) (started : os.Started) (H : Type) (enc : TypeId × Value → H) :
    ReturnsInHanded {} Tryz.checked os 3 .any (fun w args => (Rows.paragraphTextsSpec.pre enc Tryz.prog Tryz.f3 Rows.paragraphTextsRow.domain false w args ∧ laidMetH Tryz.prog Rows.paragraphTextsRow.laid w) ∧ sizedMet enc Tryz.prog Tryz.f3 (OpenSpec.ofChange Rows.paragraphTextsSpec) false w args)
      (Rows.paragraphTextsSpec.post enc Tryz.prog Tryz.f3 false true false false) := by
  refine returnsInHanded_of_change_and (C := Tryz.checked) (X := fun w _ => laidMetH Tryz.prog Rows.paragraphTextsRow.laid w) (fun _ _ _ hh h => h.of_heap hh) own started (by kernel_rfl) Tryz.func3
    (ChangeSpec.witness_shaped (enc := enc) (C := Tryz.checked) (os := os) (X := fun w _ => laidMetH Tryz.prog Rows.paragraphTextsRow.laid w) false (World.laidAll Tryz.prog os Rows.paragraphTextsRow.laid) #[.agg #[.int .i64 0, .int .i64 0, .int .i64 0, .int .i64 0, .int .i64 0, .int .i64 0, .int .i64 0, .int .i64 0, .int .i64 0, .int .i64 0, .int .i64 0, .slice none 0 0, .slice none 0 0, .slice none 0 0, .slice none 0 0], .int .i64 0] 8 (World.laidAll_os _ _ _)
      (World.shaped_of_ZipB (by kernel_rfl) (by kernel_rfl)) (by kernel_rfl) (by kernel_rfl) (by kernel_rfl)
      (by rw [MakeChecks.laidMetH_plain _ _ _ (by kernel_rfl)]; exact laidMet_laidAll _ (by kernel_rfl) (by kernel_rfl))) ?_
  intro W base args ds gs before hval hW _ _ _ _
  refine qqj (tb := 4) laid rfl ?_ (by kernel_rfl) Tryz.underlying4 ?_ hW ?_
  · intro ds' h'
    match ds', h' with
    | [a0, a1], _ => rfl
  · intro t ht
    rw [show Tryz.f3.params.toList = [29, 3] by rw [Tryz.params3]] at ht
    simp only [List.mem_cons, List.not_mem_nil, or_false] at ht
    rcases ht with rfl | rfl <;> exact ⟨by kernel_rfl, of_decide_eq_true (by kernel_rfl)⟩
  · intro p hA
    rw [Tryz.params3] at hA hval
    obtain ⟨v0, v1, d0, d1, p0, p1, rfl, rfl, h0, h1⟩ := trodAll_n hA
    obtain ⟨y0, x0, lp0, lw0, hp0, hw0, hv0⟩ := read_setting (hval 0 29 v0 rfl rfl) h0
    obtain ⟨n1, rfl, _, _, w1⟩ := open_int Tryz.underlying3 (hval 1 3 v1 rfl rfl) h1
    have hl1 : (-9223372036854775808 : Int) ≤ n1 ∧ n1 ≤ 9223372036854775807 := by simpa [Lit.wf, IntKind.min, IntKind.max, IntKind.signed, IntKind.bits] using w1
    refine ⟨by rw [Tryz.params3]; rfl, [(.agg (za y0 x0 ++ [qw lp0, qt lw0])), .int .i64 n1], ?_, a3 y0 n1 x0 lp0 lw0 [] hp0 hw0⟩
    exact VRs.cons' hv0 (VRs.cons' (.imm .int) (VRs.nil'))
theorem texts_holds : Rows.ParagraphTextsSaid :=
  OpenClaim.holds_of_wide 3 Tryz.f3 rfl rfl rfl rfl rfl rfl rfl ⟨rfl, rfl, rfl, rfl, rfl⟩ rfl rfl rfl rfl rfl (by kernel_rfl) Tryz.func3 (by kernel_rfl)
    (of_decide_eq_true (by kernel_rfl)) (by unfold Func.isWrapper; first | (rw [if_pos (by decide +kernel)]; kernel_rfl) | (rw [if_neg (by decide +kernel)]; exact ⟨rfl, rfl⟩))
    (fun os started H enc _ => texts_lifted os started H enc)
theorem texts_card : Rows.ParagraphTextsCardSaid :=
  Claim7.holds_tied_plain_at .later [] [.data, .pinned] true (true, "b7c5b76050656f442653c21beb8a5c1ec0e7f8dff73a287fc4c1ac934d382512") false texts_holds (fun _ h => by cases h) (by kernel_rfl) (fun _ h => by cases h) paragraphTexts_row_tie rfl ⟨rfl, rfl⟩ (by kernel_rfl) rfl
    (fun f fn hf hfn => by
      obtain rfl : f = 3 := Option.some.inj ((show Tryz.prog.funcNamed "apograph/apographlaw48.ParagraphTexts" = some 3 by kernel_rfl).symm.trans hf) |>.symm
      obtain rfl : fn = Tryz.f3 := (Option.some.inj (Tryz.func3.symm.trans hfn)).symm
      exact ⟨by kernel_rfl, fun j t ht => by
        rw [Tryz.params3] at ht
        have hm : t ∈ [29, 3] := by simpa using Array.mem_of_getElem? ht
        have hall : ([29, 3].all fun u => !Tryz.prog.wantsStandIn u) = true := by kernel_rfl
        exact (show Tryz.prog.wantsStandIn t = false by simpa using List.all_eq_true.1 hall t hm)⟩)
    (by kernel_rfl)
#print axioms texts_holds
#print axioms texts_card
end Go.Proofs.YtjijgafefdolkaaGreatDoor

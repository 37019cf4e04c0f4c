import Derived.Test.YtpnjpjibccmkiaaW7
set_option linter.all false
set_option linter.unusedSimpArgs false
set_option linter.unusedVariables false
set_option linter.unusedSectionVars false
open Go Go.Proofs AF P48
set_option maxRecDepth 100000
def hit (n : Nat) (p : List Int) (frm : Nat) (x : Nat × Int) : Bool := decide (0 ≤ behind n p x.1 ∧ x.2 + behind n p x.1 = p.getD frm 0)
theorem arcs_split (l : List It) (width : Int) {frm to : Nat} {c : Int} (h1 : frm ≤ to) (h2 : to ≤ l.length) (h3 : arc l width frm to = some c) : ∃ r, arcs l width frm = arcsTo l width frm to ++ (to, c) :: r := by
  refine ⟨(List.range' (to + 1) (l.length - to)).filterMap fun to => (arc l width frm to).map fun c => (to, c), ?_⟩
  unfold arcs arcsTo
  rw [show l.length + 1 - frm = (to - frm) + (1 + (l.length - to)) by omega, ← List.range'_append_1, ← List.range'_append_1, List.filterMap_append, List.filterMap_append]
  rw [show frm + (to - frm) = to by omega]
  congr 1
  simp [h3]
theorem pick_of (l : List It) (width : Int) (p : List Int) {frm to : Nat} {c : Int} (h1 : frm ≤ to) (h2 : to ≤ l.length) (h3 : arc l width frm to = some c) (h4 : (arcsTo l width frm to).find? (hit l.length p frm) = none) (h5 : hit l.length p frm (to, c) = true) :
    pick l p frm (arcs l width frm) = some to := by
  obtain ⟨r, hr⟩ := arcs_split l width h1 h2 h3
  unfold pick
  rw [hr]
  show ((arcsTo l width frm to ++ (to, c) :: r).find? (hit l.length p frm)).map _ = _
  rw [List.find?_append, h4, List.find?_cons_of_pos h5]
  rfl
theorem pick_ge {l : List It} {width : Int} {p : List Int} {frm to : Nat} (h : pick l p frm (arcs l width frm) = some to) : frm ≤ to ∧ to ≤ l.length := by
  unfold pick at h
  rw [Option.map_eq_some_iff] at h
  obtain ⟨⟨t, c⟩, h1, rfl⟩ := h
  have := mem_arcs.1 (List.mem_of_find?_eq_some h1)
  exact ⟨this.1, this.2.1⟩
theorem brkGo_fuel {l : List It} {width : Int} {p : List Int} : ∀ (k k' frm : Nat), l.length + 1 - frm ≤ k → l.length + 1 - frm ≤ k' → brkGo l width p k frm = brkGo l width p k' frm := by
  intro k
  induction k with
  | zero =>
    intro k' frm h1 h2
    cases k' with
    | zero => rfl
    | succ k' =>
      simp only [brkGo]
      cases hp : pick l p frm (arcs l width frm) with
      | none => rfl
      | some to => have := pick_ge hp; omega
  | succ k ih =>
    intro k' frm h1 h2
    cases k' with
    | zero =>
      simp only [brkGo]
      cases hp : pick l p frm (arcs l width frm) with
      | none => rfl
      | some to => have := pick_ge hp; omega
    | succ k' =>
      simp only [brkGo]
      cases hp : pick l p frm (arcs l width frm) with
      | none => rfl
      | some to =>
        have := pick_ge hp
        simp only
        split
        · rw [ih k' (to + 1) (by omega) (by omega)]
        · rfl
theorem brk_step {l : List It} {width : Int} {p : List Int} {frm to : Nat} (hf : frm ≤ l.length) (h : pick l p frm (arcs l width frm) = some to) :
    brkGo l width p (l.length + 1 - frm) frm = if to < l.length then to :: brkGo l width p (l.length + 1 - (to + 1)) (to + 1) else [to] := by
  have hg := pick_ge h
  rw [show l.length + 1 - frm = (l.length - frm) + 1 by omega]
  rw [brkGo, h]
  simp only
  split
  · rw [brkGo_fuel (l.length - frm) (l.length + 1 - (to + 1)) (to + 1) (by omega) (by omega)]
  · rfl
def outA (b v : Nat) (bs : List Nat) : AV := if bs = [] then .nl else .osl b v 1 0 bs.length
def outO (v : Nat) (bs : List Nat) : AObj := if bs = [] then .emp 0 else .mem v 3 (cellsI (bs.map Int.ofNat))
theorem Low.of {h a b : List AObj} (e : b.length = a.length) (hb : ∀ o ∈ b, o ∈ a ∨ (lowO (h.length + a.length) o ∧ lowO (h.length + a.length + 1) o)) : Low (h ++ a) (h ++ b) := by
  refine ⟨by simp [e], fun o ho => ?_⟩
  rw [List.length_append]
  rcases List.mem_append.1 ho with ho | ho
  · exact .inl (List.mem_append_left _ ho)
  · rcases hb o ho with h1 | h1
    · exact .inl (List.mem_append_right _ h1)
    · exact .inr h1
theorem low_cells {bs : List Nat} {to n : Nat} {c : AV} (h : c ∈ cellsI (bs.map Int.ofNat) ++ [.int .i64 to]) : lowV n c = true := by
  unfold cellsI at h
  simp at h
  rcases h with ⟨a, _, rfl⟩ | rfl <;> rfl
theorem outA_nil (b v : Nat) : outA b v [] = .nl := rfl
theorem outO_nil (v : Nat) : outO v [] = .emp 0 := rfl
theorem outA_ne {bs : List Nat} (h : bs ≠ []) (b v : Nat) : outA b v bs = .osl b v 1 0 bs.length := if_neg h
theorem outO_ne {bs : List Nat} (h : bs ≠ []) (v : Nat) : outO v bs = .mem v 3 (cellsI (bs.map Int.ofNat)) := if_neg h
def breakAV (l : List It) (width : Int) : AV :=
  if checkW l width = 0 then (if (pots l width).getD 0 0 < 0 then .tup [ints [], .int .i64 0, .int .i64 23] else .tup [ints ((brk l width).map Int.ofNat), .int .i64 ((pots l width).getD 0 0), .int .i64 0])
  else .tup [ints [], .int .i64 0, .int .i64 (checkW l width)]
theorem ints_nil {f : Nat → List AV} : VLe (.sl 0 f) (ints []) := VLe_sl0
theorem ints_nl : VLe .nl (ints []) := VLe_nl
theorem checkW_range (l : List It) (width : Int) (h : checkW l width = 0) : check l = 0 ∧ 0 ≤ width ∧ width ≤ 1073741824 := by
  unfold checkW isLen at h
  grind

set_option maxHeartbeats 4000000 in
theorem t13 (l : List It) (width : Int) (h : List AObj) (hl : l.length ≤ 300) : ACalls Try.prog 13 [items l, .int .i64 width] h (breakAV l width) h := by
  by_cases hw : checkW l width = 0
  · obtain ⟨hc, w0, w1⟩ := checkW_range l width hw
    have hv := Valid.of hl hc
    have plen := pots_len l width
    obtain ⟨p, hp⟩ : ∃ p, p = pots l width := ⟨_, rfl⟩
    by_cases hneg : (pots l width).getD 0 0 < 0
    · refine acalls_of fn13 (by simp) ?_
      simp only [List.length_cons, List.length_nil, Nat.reduceAdd, Nat.reduceSub, List.replicate, List.cons_append, List.nil_append, List.append_nil]
      simp (disch := omega) only [c13, go_sem, wrap64_id, Int.tdiv_eq_ediv_of_nonneg, Int.tmod_eq_emod_of_nonneg]
      repeat' first
        | (refine callA_pure (t38 l width _ (by omega)) (by first | exact ⟨rfl, trivial⟩ | exact ⟨rfl, rfl, trivial⟩ | exact ⟨rfl, rfl, rfl, trivial⟩ | exact ⟨rfl, rfl, rfl, rfl, trivial⟩ | simp only [go_sem]) ?_; simp (disch := omega) only [ints, hw, hneg, go_sem, wrap64_id, Int.tdiv_eq_ediv_of_nonneg, Int.tmod_eq_emod_of_nonneg])
        | (refine callG_pure (fun e => ⟨by first | exact ⟨rfl, trivial⟩ | exact ⟨e, trivial⟩ | exact ⟨e, e, trivial⟩ | exact ⟨rfl, rfl, trivial⟩ | exact ⟨e, e, e, trivial⟩ | simp_all only [go_sem], t38 l width _ (by omega)⟩) ?_; simp (disch := omega) only [ints, hw, hneg, go_sem, wrap64_id, Int.tdiv_eq_ediv_of_nonneg, Int.tmod_eq_emod_of_nonneg])
        | (refine callA_pure (t39 l width hv w0 w1 _) (by first | exact ⟨rfl, trivial⟩ | exact ⟨rfl, rfl, trivial⟩ | exact ⟨rfl, rfl, rfl, trivial⟩ | exact ⟨rfl, rfl, rfl, rfl, trivial⟩ | simp only [go_sem]) ?_; simp (disch := omega) only [ints, hw, hneg, go_sem, wrap64_id, Int.tdiv_eq_ediv_of_nonneg, Int.tmod_eq_emod_of_nonneg])
        | (refine callG_pure (fun e => ⟨by first | exact ⟨rfl, trivial⟩ | exact ⟨e, trivial⟩ | exact ⟨e, e, trivial⟩ | exact ⟨rfl, rfl, trivial⟩ | exact ⟨e, e, e, trivial⟩ | simp_all only [go_sem], t39 l width hv w0 w1 _⟩) ?_; simp (disch := omega) only [ints, hw, hneg, go_sem, wrap64_id, Int.tdiv_eq_ediv_of_nonneg, Int.tmod_eq_emod_of_nonneg])
        | ((first | refine fnQ_pure1 (by first | exact ⟨trivial, trivial⟩ | exact ⟨trivial, trivial, trivial⟩ | exact ⟨trivial, trivial, trivial, trivial⟩ | simp [go_sem]) ?_ | refine fnQ_pure0 (by first | exact ⟨trivial, trivial⟩ | exact ⟨trivial, trivial, trivial⟩ | exact ⟨trivial, trivial, trivial, trivial⟩ | simp [go_sem]) ?_); simp only [go_sem]; (first | exact VLe.refl _ | refine VLe_int ?_ | refine VLe_bool ?_ | refine VLe_str ?_ | skip))
        | (with_reducible refine And.intro ?_ ?_)
        | with_reducible intro _
      all_goals first
        | omega
        | skip
      simp only [breakAV, hw, hneg, if_true]
      exact VLe_tup (VLes2 ints_nl (VLes2 (VLe.refl _) (VLes2 (VLe.refl _) VLes.nil)))
    · have hfin := brk_path hc (width := width) (l.length + 1) 0 (by omega) (by omega) (by omega)
      refine acalls_of fn13 (by simp) ?_
      simp only [List.length_cons, List.length_nil, Nat.reduceAdd, Nat.reduceSub, List.replicate, List.cons_append, List.nil_append, List.append_nil]
      simp (disch := omega) only [c13, go_sem, wrap64_id, Int.tdiv_eq_ediv_of_nonneg, Int.tmod_eq_emod_of_nonneg]
      repeat' first
        | (refine callA_pure (t38 l width _ (by omega)) (by first | exact ⟨rfl, trivial⟩ | exact ⟨rfl, rfl, trivial⟩ | exact ⟨rfl, rfl, rfl, trivial⟩ | exact ⟨rfl, rfl, rfl, rfl, trivial⟩ | simp only [go_sem]) ?_; simp (disch := omega) only [ints, hw, hneg, go_sem, wrap64_id, Int.tdiv_eq_ediv_of_nonneg, Int.tmod_eq_emod_of_nonneg])
        | (refine callG_pure (fun e => ⟨by first | exact ⟨rfl, trivial⟩ | exact ⟨e, trivial⟩ | exact ⟨e, e, trivial⟩ | exact ⟨rfl, rfl, trivial⟩ | exact ⟨e, e, e, trivial⟩ | simp_all only [go_sem], t38 l width _ (by omega)⟩) ?_; simp (disch := omega) only [ints, hw, hneg, go_sem, wrap64_id, Int.tdiv_eq_ediv_of_nonneg, Int.tmod_eq_emod_of_nonneg])
        | (refine callA_pure (t39 l width hv w0 w1 _) (by first | exact ⟨rfl, trivial⟩ | exact ⟨rfl, rfl, trivial⟩ | exact ⟨rfl, rfl, rfl, trivial⟩ | exact ⟨rfl, rfl, rfl, rfl, trivial⟩ | simp only [go_sem]) ?_; simp (disch := omega) only [ints, hw, hneg, go_sem, wrap64_id, Int.tdiv_eq_ediv_of_nonneg, Int.tmod_eq_emod_of_nonneg])
        | (refine callG_pure (fun e => ⟨by first | exact ⟨rfl, trivial⟩ | exact ⟨e, trivial⟩ | exact ⟨e, e, trivial⟩ | exact ⟨rfl, rfl, trivial⟩ | exact ⟨e, e, e, trivial⟩ | simp_all only [go_sem], t39 l width hv w0 w1 _⟩) ?_; simp (disch := omega) only [ints, hw, hneg, go_sem, wrap64_id, Int.tdiv_eq_ediv_of_nonneg, Int.tmod_eq_emod_of_nonneg])
        | ((first | refine fnQ_pure1 (by first | exact ⟨trivial, trivial⟩ | exact ⟨trivial, trivial, trivial⟩ | exact ⟨trivial, trivial, trivial, trivial⟩ | simp [go_sem]) ?_ | refine fnQ_pure0 (by first | exact ⟨trivial, trivial⟩ | exact ⟨trivial, trivial, trivial⟩ | exact ⟨trivial, trivial, trivial, trivial⟩ | simp [go_sem]) ?_); simp only [go_sem]; (first | exact VLe.refl _ | refine VLe_int ?_ | refine VLe_bool ?_ | refine VLe_str ?_ | skip))
        | (with_reducible refine And.intro ?_ ?_)
        | with_reducible intro _
      all_goals first
        | omega
        | skip
      refine loop_of (T := fun i : List Nat × Nat × Nat × AObj × Nat => spar 73 [(0, items l), (1, .int .i64 width), (8, .op (h.length + 1) 1 0), (9, .op (h.length + 2) 1 0), (10, .op (h.length + 3) i.2.2.1 0)])
        (H := fun i => h ++ [.emp 1, .mem 1 29 [ints (pots l width)], .mem 1 29 [outA (h.length + 5) i.2.2.2.2 i.1], .mem i.2.2.1 3 [.int .i64 i.2.1], i.2.2.2.1, outO i.2.2.2.2 i.1])
        (inv := fun i => site [i.2.2.2.1] 0 = true ∧ ((i.2.1 ≤ l.length ∧ 0 ≤ (pots l width).getD i.2.1 0 ∧ i.1 ++ brkGo l width (pots l width) (l.length + 1 - i.2.1) i.2.1 = brk l width ∧ (i.1 = [] ∨ (i.1 ≠ [] ∧ i.1[i.1.length - 1]? = some (i.2.1 - 1) ∧ 0 < i.2.1 ∧ i.1.length ≤ i.2.1))) ∨
          (i.2.1 = l.length + 1 ∧ i.1 = brk l width ∧ i.1 ≠ [] ∧ i.1[i.1.length - 1]? = some l.length ∧ i.1.length ≤ i.2.1))) (m := fun i => l.length + 1 - i.2.1) ([], 0, 1, .emp 0, 0)
        ⟨rfl, .inl ⟨by simp only; omega, by simp only; omega, rfl, .inl rfl⟩⟩ (Wk.temps ?_) ?_
      · simp only [spar, List.foldl, List.replicate, go_sem, VLes_nil, VLes_cons, VLe_undef_iff, VLe_self]
        try (repeat' first | (with_reducible refine And.intro ?_ ?_) | (refine VLe_int ?_; omega) | (refine VLe_bool ?_; rfl))
      · rintro ⟨bs, frm, V, O, v⟩ ⟨i0, i1⟩ K hK
        simp only at i0 i1 hK
        rcases i1 with ⟨j1, j2, j3, rfl | ⟨hne, hlast, hpos, hlen⟩⟩ | ⟨rfl, rfl, hne, hlast, hlen⟩
        · have hpk := pick_some hc (width := width) j1 j2
          obtain ⟨p, hp⟩ : ∃ p, p = pots l width := ⟨_, rfl⟩
          rw [← hp] at hpk j2 j3 plen
          have hbp : ∀ j, -1 ≤ p.getD j 0 ∧ p.getD j 0 ≤ 20000 * (l.length + 1 : Nat) := by rw [hp]; exact potsGo_bound hv.ok width (l.length + 1)
          have hbf := hbp frm
          have i0' : ∀ m, site (O :: m) 0 = true := fun _ => i0
          simp only [← hp]
          simp (disch := omega) only [spar, List.foldl, List.replicate, items, ints, outA_nil, outO_nil, i0', go_sem, wrap64_id, Int.tdiv_eq_ediv_of_nonneg, Int.tmod_eq_emod_of_nonneg]
          repeat' first
            | (refine callA_pure (t40 l width frm _) (by first | exact ⟨rfl, trivial⟩ | exact ⟨rfl, rfl, trivial⟩ | exact ⟨rfl, rfl, rfl, trivial⟩ | exact ⟨rfl, rfl, rfl, rfl, trivial⟩ | simp only [go_sem]) ?_; simp (disch := omega) only [ints, go_sem, wrap64_id, Int.tdiv_eq_ediv_of_nonneg, Int.tmod_eq_emod_of_nonneg])
            | (refine callG_pure (fun e => ⟨by first | exact ⟨rfl, trivial⟩ | exact ⟨e, trivial⟩ | exact ⟨e, e, trivial⟩ | exact ⟨rfl, rfl, trivial⟩ | exact ⟨e, e, e, trivial⟩ | simp_all only [go_sem], t40 l width frm _⟩) ?_; simp (disch := omega) only [ints, go_sem, wrap64_id, Int.tdiv_eq_ediv_of_nonneg, Int.tmod_eq_emod_of_nonneg])
            | ((first | refine fnQ_pure1 (by first | exact ⟨trivial, trivial⟩ | exact ⟨trivial, trivial, trivial⟩ | exact ⟨trivial, trivial, trivial, trivial⟩ | simp [go_sem]) ?_ | refine fnQ_pure0 (by first | exact ⟨trivial, trivial⟩ | exact ⟨trivial, trivial, trivial⟩ | exact ⟨trivial, trivial, trivial, trivial⟩ | simp [go_sem]) ?_); simp only [go_sem]; (first | exact VLe.refl _ | refine VLe_int ?_ | refine VLe_bool ?_ | refine VLe_str ?_ | skip))
            | (with_reducible refine And.intro ?_ ?_)
            | with_reducible intro _
          all_goals first
            | omega
            | skip
          refine range_lines hv w0 w1 j1 (S := fun to hh => hh = h ++ [.emp 1, .mem 1 29 [.sl p.length fun i => [.int .i64 (p.getD i 0)]], .mem 1 29 [.nl], .mem V 3 [.int .i64 frm], O, .emp 0] ∧ (arcsTo l width frm to).find? (hit l.length p frm) = none)
            (E := fun e hh => ∃ to c, e = .exit 2 ∧ frm ≤ to ∧ to ≤ l.length ∧ pick l p frm (arcs l width frm) = some to ∧ arc l width frm to = some c ∧ hit l.length p frm (to, c) = true ∧ hh = h ++ [.emp 1, .mem 1 29 [.sl p.length fun i => [.int .i64 (p.getD i 0)]], .mem 1 29 [.osl (h.length + 5) 1 1 0 1], .mem V 3 [.int .i64 ((to : Int) + 1)], .mem (verOf (some O) + 1) 3 [.int .i64 to], .mem 1 3 [.int .i64 to]]) ?_ ?_ ?_ ?_ ?_ ?_ ?_ ?_
          · rintro to hh ⟨rfl, _⟩
            exact ⟨rfl, fun o ho => .inl ho⟩
          · rintro e hh ⟨to, c, rfl, h1, h2, h3, h4, h5, rfl⟩
            refine Low.of rfl (fun o ho => ?_)
            simp only [List.mem_cons, List.not_mem_nil, or_false] at ho
            rcases ho with rfl | rfl | rfl | rfl | rfl | rfl <;> first | (left; simp; done) | (right; constructor <;> (intro c hc; simp at hc; subst hc; simp [lowV]))
          · rintro to hh h1 h2 h3 ⟨rfl, h4⟩
            refine ⟨rfl, ?_⟩
            rw [arcsTo_succ l width h1, h3, List.append_nil]
            exact h4
          · exact ⟨rfl, by rw [arcsTo_self]; rfl⟩
          · simp [lowV, lowV.lowVs, linesF, items]
          · rintro to c hh tl L h1 h2 h3 ⟨rfl, h4⟩ hlen
            simp only [setsA]
            have hcb := arc_bound hv.ok h3
            have hbd := behind_bound (n := l.length) hbp (by omega) to
            simp (disch := omega) only [List.append_assoc, eq_self, go_sem, wrap64_id, Int.tdiv_eq_ediv_of_nonneg, Int.tmod_eq_emod_of_nonneg]
            repeat' first
              | (refine callA_pure (t41 l.length p to _ plen h2 (by omega)) (by first | exact ⟨rfl, trivial⟩ | exact ⟨rfl, rfl, trivial⟩ | exact ⟨rfl, rfl, rfl, trivial⟩ | exact ⟨rfl, rfl, rfl, rfl, trivial⟩ | simp only [go_sem]) ?_; simp (disch := omega) only [List.append_assoc, madeA, i0', go_sem, wrap64_id, Int.tdiv_eq_ediv_of_nonneg, Int.tmod_eq_emod_of_nonneg])
              | (refine callG_pure (fun e => ⟨by first | exact ⟨rfl, trivial⟩ | exact ⟨e, trivial⟩ | exact ⟨e, e, trivial⟩ | exact ⟨rfl, rfl, trivial⟩ | exact ⟨e, e, e, trivial⟩ | simp_all only [go_sem], t41 l.length p to _ plen h2 (by omega)⟩) ?_; simp (disch := omega) only [List.append_assoc, madeA, i0', go_sem, wrap64_id, Int.tdiv_eq_ediv_of_nonneg, Int.tmod_eq_emod_of_nonneg])
              | ((first | refine fnQ_pure1 (by first | exact ⟨trivial, trivial⟩ | exact ⟨trivial, trivial, trivial⟩ | exact ⟨trivial, trivial, trivial, trivial⟩ | simp [go_sem]) ?_ | refine fnQ_pure0 (by first | exact ⟨trivial, trivial⟩ | exact ⟨trivial, trivial, trivial⟩ | exact ⟨trivial, trivial, trivial, trivial⟩ | simp [go_sem]) ?_); simp only [go_sem]; (first | exact VLe.refl _ | refine VLe_int ?_ | refine VLe_bool ?_ | refine VLe_str ?_ | skip))
              | (with_reducible refine And.intro ?_ ?_)
              | with_reducible intro _
            all_goals first
              | omega
              | skip
            · rename_i h5
              refine ⟨h ++ [.emp 1, .mem 1 29 [.sl p.length fun i => [.int .i64 (p.getD i 0)]], .mem 1 29 [.osl (h.length + 5) 1 1 0 1], .mem V 3 [.int .i64 ((to : Int) + 1)], .mem (verOf (some O) + 1) 3 [.int .i64 to], .mem 1 3 [.int .i64 to]], by simp, by simp, ?_⟩
              have hh5 : hit l.length p frm (to, c) = true := by unfold hit; simpa using h5
              exact ⟨to, c, h1, h2, pick_of l width p h1 h2 h3 h4 hh5, h3, hh5, rfl⟩
            · rename_i h5
              refine ⟨h ++ [.emp 1, .mem 1 29 [.sl p.length fun i => [.int .i64 (p.getD i 0)]], .mem 1 29 [.nl], .mem V 3 [.int .i64 frm], O, .emp 0], by simp, by simp, rfl, ?_⟩
              have hh5 : hit l.length p frm (to, c) = false := by unfold hit; simpa using h5
              rw [arcsTo_succ l width h1, h3, List.find?_append, h4]
              simp [hh5]
          · rintro hh ⟨_, h4⟩
            obtain ⟨to, c, h5, _⟩ := hpk
            unfold pick at h5
            rw [arcsTo_all] at h4
            unfold hit at h4
            rw [h4] at h5
            cases h5
          · rintro e hh ⟨to, c, rfl, h1, h2, h3, h4, h5, rfl⟩
            show Ex.inBlock 2 _ (.exit 2) _ _
            simp (disch := omega) only [i0', go_sem, wrap64_id, Int.tdiv_eq_ediv_of_nonneg, Int.tmod_eq_emod_of_nonneg]
            repeat' first
              | (with_reducible refine And.intro ?_ ?_)
              | (with_reducible intro _)
            all_goals first
              | omega
              | skip
            have hst := brk_step (width := width) (p := p) j1 h3
            rw [hst] at j3
            unfold hit at h5
            simp only [decide_eq_true_eq] at h5
            refine hK _ _ ([to], to + 1, V + 1, .mem (verOf (some O) + 1) 3 [.int .i64 to], 1) ⟨rfl, ?_⟩ (by simp only; omega) ?_
            · simp only
              by_cases hlt : to < l.length
              · left
                rw [if_pos hlt] at j3
                refine ⟨hlt, ?_, by rw [← hp]; simpa using j3, .inr ⟨by simp, by simp, by omega, by simp⟩⟩
                have : behind l.length p to = p.getD (to + 1) 0 := by unfold behind; rw [if_neg (by omega)]
                rw [← hp]
                omega
              · right
                rw [if_neg hlt] at j3
                exact ⟨by omega, by simpa using j3, by simp, by simp; omega, by simp⟩
            · rw [outA_ne (by simp), outO_ne (by simp)]
              simp only [← hp]
              refine Wk.temps ?_
              simp only [items, ints, spar, List.foldl, List.replicate, go_sem, VLes_nil, VLes_cons, VLe_undef_iff, VLe_self]
              try (repeat' first | (with_reducible refine And.intro ?_ ?_) | (refine VLe_int ?_; omega) | (refine VLe_bool ?_; rfl))
        · have hpk := pick_some hc (width := width) j1 j2
          obtain ⟨p, hp⟩ : ∃ p, p = pots l width := ⟨_, rfl⟩
          rw [← hp] at hpk j2 j3 plen
          have hbp : ∀ j, -1 ≤ p.getD j 0 ∧ p.getD j 0 ≤ 20000 * (l.length + 1 : Nat) := by rw [hp]; exact potsGo_bound hv.ok width (l.length + 1)
          have hbf := hbp frm
          have eA := outA_ne hne (h.length + 5) v
          have eO := outO_ne hne v
          have hbl : (cellsI (bs.map Int.ofNat)).length = bs.length := by rw [cellsI_len, List.length_map]
          have hb0 : 0 < bs.length := List.length_pos_iff.2 hne
          have eL : (cellsI (bs.map Int.ofNat))[bs.length - 1]? = some (.int .i64 ((frm - 1 : Nat) : Int)) := by simp [cellsI, hlast]
          have eT : ((bs.length : Int) - 1).toNat = bs.length - 1 := by omega
          have i0' : ∀ m, site (O :: m) 0 = true := fun _ => i0
          simp only [← hp]
          simp (disch := omega) only [spar, List.foldl, List.replicate, items, ints, eA, eO, i0', hbl, eL, eT, go_sem, wrap64_id, Int.tdiv_eq_ediv_of_nonneg, Int.tmod_eq_emod_of_nonneg]
          repeat' first
            | (refine callA_pure (t40 l width frm _) (by first | exact ⟨rfl, trivial⟩ | exact ⟨rfl, rfl, trivial⟩ | exact ⟨rfl, rfl, rfl, trivial⟩ | exact ⟨rfl, rfl, rfl, rfl, trivial⟩ | simp only [go_sem]) ?_; simp (disch := omega) only [ints, go_sem, wrap64_id, Int.tdiv_eq_ediv_of_nonneg, Int.tmod_eq_emod_of_nonneg])
            | (refine callG_pure (fun e => ⟨by first | exact ⟨rfl, trivial⟩ | exact ⟨e, trivial⟩ | exact ⟨e, e, trivial⟩ | exact ⟨rfl, rfl, trivial⟩ | exact ⟨e, e, e, trivial⟩ | simp_all only [go_sem], t40 l width frm _⟩) ?_; simp (disch := omega) only [ints, go_sem, wrap64_id, Int.tdiv_eq_ediv_of_nonneg, Int.tmod_eq_emod_of_nonneg])
            | ((first | refine fnQ_pure1 (by first | exact ⟨trivial, trivial⟩ | exact ⟨trivial, trivial, trivial⟩ | exact ⟨trivial, trivial, trivial, trivial⟩ | simp [go_sem]) ?_ | refine fnQ_pure0 (by first | exact ⟨trivial, trivial⟩ | exact ⟨trivial, trivial, trivial⟩ | exact ⟨trivial, trivial, trivial, trivial⟩ | simp [go_sem]) ?_); simp only [go_sem]; (first | exact VLe.refl _ | refine VLe_int ?_ | refine VLe_bool ?_ | refine VLe_str ?_ | skip))
            | (with_reducible refine And.intro ?_ ?_)
            | with_reducible intro _
          all_goals first
            | omega
            | skip
          refine range_lines hv w0 w1 j1 (S := fun to hh => hh = h ++ [.emp 1, .mem 1 29 [.sl p.length fun i => [.int .i64 (p.getD i 0)]], .mem 1 29 [.osl (h.length + 5) v 1 0 bs.length], .mem V 3 [.int .i64 frm], O, .mem v 3 (cellsI (bs.map Int.ofNat))] ∧ (arcsTo l width frm to).find? (hit l.length p frm) = none)
            (E := fun e hh => ∃ to c, e = .exit 2 ∧ frm ≤ to ∧ to ≤ l.length ∧ pick l p frm (arcs l width frm) = some to ∧ arc l width frm to = some c ∧ hit l.length p frm (to, c) = true ∧ hh = h ++ [.emp 1, .mem 1 29 [.sl p.length fun i => [.int .i64 (p.getD i 0)]], .mem 1 29 [.osl (h.length + 5) (v + 1) 1 0 (bs.length + 1)], .mem V 3 [.int .i64 ((to : Int) + 1)], .mem (verOf (some O) + 1) 3 [.int .i64 to], .mem (v + 1) 3 (cellsI (bs.map Int.ofNat) ++ [.int .i64 to])]) ?_ ?_ ?_ ?_ ?_ ?_ ?_ ?_
          · rintro to hh ⟨rfl, _⟩
            exact ⟨rfl, fun o ho => .inl ho⟩
          · rintro e hh ⟨to, c, rfl, h1, h2, h3, h4, h5, rfl⟩
            refine Low.of rfl (fun o ho => ?_)
            simp only [List.mem_cons, List.not_mem_nil, or_false] at ho
            rcases ho with rfl | rfl | rfl | rfl | rfl | rfl <;> first | (left; simp; done) | (right; constructor <;> (intro c hc; first | (simp at hc; subst hc; simp [lowV]; done) | exact low_cells hc))
          · rintro to hh h1 h2 h3 ⟨rfl, h4⟩
            refine ⟨rfl, ?_⟩
            rw [arcsTo_succ l width h1, h3, List.append_nil]
            exact h4
          · exact ⟨rfl, by rw [arcsTo_self]; rfl⟩
          · simp [lowV, lowV.lowVs, linesF, items]
          · rintro to c hh tl L h1 h2 h3 ⟨rfl, h4⟩ hlen
            simp only [setsA]
            have hcb := arc_bound hv.ok h3
            have hbd := behind_bound (n := l.length) hbp (by omega) to
            simp (disch := omega) only [List.append_assoc, eq_self, go_sem, wrap64_id, Int.tdiv_eq_ediv_of_nonneg, Int.tmod_eq_emod_of_nonneg]
            repeat' first
              | (refine callA_pure (t41 l.length p to _ plen h2 (by omega)) (by first | exact ⟨rfl, trivial⟩ | exact ⟨rfl, rfl, trivial⟩ | exact ⟨rfl, rfl, rfl, trivial⟩ | exact ⟨rfl, rfl, rfl, rfl, trivial⟩ | simp only [go_sem]) ?_; simp (disch := omega) only [List.append_assoc, madeA, i0', hbl, go_sem, wrap64_id, Int.tdiv_eq_ediv_of_nonneg, Int.tmod_eq_emod_of_nonneg])
              | (refine callG_pure (fun e => ⟨by first | exact ⟨rfl, trivial⟩ | exact ⟨e, trivial⟩ | exact ⟨e, e, trivial⟩ | exact ⟨rfl, rfl, trivial⟩ | exact ⟨e, e, e, trivial⟩ | simp_all only [go_sem], t41 l.length p to _ plen h2 (by omega)⟩) ?_; simp (disch := omega) only [List.append_assoc, madeA, i0', hbl, go_sem, wrap64_id, Int.tdiv_eq_ediv_of_nonneg, Int.tmod_eq_emod_of_nonneg])
              | ((first | refine fnQ_pure1 (by first | exact ⟨trivial, trivial⟩ | exact ⟨trivial, trivial, trivial⟩ | exact ⟨trivial, trivial, trivial, trivial⟩ | simp [go_sem]) ?_ | refine fnQ_pure0 (by first | exact ⟨trivial, trivial⟩ | exact ⟨trivial, trivial, trivial⟩ | exact ⟨trivial, trivial, trivial, trivial⟩ | simp [go_sem]) ?_); simp only [go_sem]; (first | exact VLe.refl _ | refine VLe_int ?_ | refine VLe_bool ?_ | refine VLe_str ?_ | skip))
              | (with_reducible refine And.intro ?_ ?_)
              | with_reducible intro _
            all_goals first
              | omega
              | (rw [bne_iff_ne]; omega)
              | skip
            · rename_i h5
              refine ⟨h ++ [.emp 1, .mem 1 29 [.sl p.length fun i => [.int .i64 (p.getD i 0)]], .mem 1 29 [.osl (h.length + 5) (v + 1) 1 0 (bs.length + 1)], .mem V 3 [.int .i64 ((to : Int) + 1)], .mem (verOf (some O) + 1) 3 [.int .i64 to], .mem (v + 1) 3 (cellsI (bs.map Int.ofNat) ++ [.int .i64 to])], by simp [List.take_of_length_le (Nat.le_of_eq hbl)], by simp, ?_⟩
              have hh5 : hit l.length p frm (to, c) = true := by unfold hit; simpa using h5
              exact ⟨to, c, h1, h2, pick_of l width p h1 h2 h3 h4 hh5, h3, hh5, rfl⟩
            · rename_i h5
              refine ⟨h ++ [.emp 1, .mem 1 29 [.sl p.length fun i => [.int .i64 (p.getD i 0)]], .mem 1 29 [.osl (h.length + 5) v 1 0 bs.length], .mem V 3 [.int .i64 frm], O, .mem v 3 (cellsI (bs.map Int.ofNat))], by simp, by simp, rfl, ?_⟩
              have hh5 : hit l.length p frm (to, c) = false := by unfold hit; simpa using h5
              rw [arcsTo_succ l width h1, h3, List.find?_append, h4]
              simp [hh5]
          · rintro hh ⟨_, h4⟩
            obtain ⟨to, c, h5, _⟩ := hpk
            unfold pick at h5
            rw [arcsTo_all] at h4
            unfold hit at h4
            rw [h4] at h5
            cases h5
          · rintro e hh ⟨to, c, rfl, h1, h2, h3, h4, h5, rfl⟩
            show Ex.inBlock 2 _ (.exit 2) _ _
            simp (disch := omega) only [i0', go_sem, wrap64_id, Int.tdiv_eq_ediv_of_nonneg, Int.tmod_eq_emod_of_nonneg]
            repeat' first
              | (with_reducible refine And.intro ?_ ?_)
              | (with_reducible intro _)
            all_goals first
              | omega
              | skip
            have hst := brk_step (width := width) (p := p) j1 h3
            rw [hst] at j3
            unfold hit at h5
            simp only [decide_eq_true_eq] at h5
            refine hK _ _ (bs ++ [to], to + 1, V + 1, .mem (verOf (some O) + 1) 3 [.int .i64 to], v + 1) ⟨rfl, ?_⟩ (by simp only; omega) ?_
            · simp only
              by_cases hlt : to < l.length
              · left
                rw [if_pos hlt] at j3
                refine ⟨hlt, ?_, by rw [← hp]; simpa using j3, .inr ⟨by simp, by simp, by omega, by simp; omega⟩⟩
                have : behind l.length p to = p.getD (to + 1) 0 := by unfold behind; rw [if_neg (by omega)]
                rw [← hp]
                omega
              · right
                rw [if_neg hlt] at j3
                exact ⟨by omega, by simpa using j3, by simp, by simp; omega, by simp; omega⟩
            · rw [outA_ne (by simp), outO_ne (by simp)]
              have e1 : cellsI ((bs ++ [to]).map Int.ofNat) = cellsI (bs.map Int.ofNat) ++ [.int .i64 to] := by simp [cellsI]
              simp only [← hp, e1, List.length_append, List.length_singleton]
              refine Wk.temps ?_
              simp only [items, ints, spar, List.foldl, List.replicate, go_sem, VLes_nil, VLes_cons, VLe_undef_iff, VLe_self]
              try (repeat' first | (with_reducible refine And.intro ?_ ?_) | (refine VLe_int ?_; omega) | (refine VLe_bool ?_; rfl))
        · have hbl : (cellsI ((brk l width).map Int.ofNat)).length = (brk l width).length := by rw [cellsI_len, List.length_map]
          have eA := outA_ne hne (h.length + 5) v
          have eO := outO_ne hne v
          have hb0 : 0 < (brk l width).length := List.length_pos_iff.2 hne
          have eL : (cellsI ((brk l width).map Int.ofNat))[(brk l width).length - 1]? = some (.int .i64 (l.length : Int)) := by simp [cellsI, hlast]
          have eT : (((brk l width).length : Int) - 1).toNat = (brk l width).length - 1 := by omega
          simp (disch := omega) only [spar, List.foldl, List.replicate, items, ints, eA, eO, hbl, eL, eT, go_sem, wrap64_id, Int.tdiv_eq_ediv_of_nonneg, Int.tmod_eq_emod_of_nonneg]
          repeat' first
            | ((first | refine fnQ_pure1 (by first | exact ⟨trivial, trivial⟩ | exact ⟨trivial, trivial, trivial⟩ | exact ⟨trivial, trivial, trivial, trivial⟩ | simp [go_sem]) ?_ | refine fnQ_pure0 (by first | exact ⟨trivial, trivial⟩ | exact ⟨trivial, trivial, trivial⟩ | exact ⟨trivial, trivial, trivial, trivial⟩ | simp [go_sem]) ?_); simp only [go_sem]; (first | exact VLe.refl _ | refine VLe_int ?_ | refine VLe_bool ?_ | refine VLe_str ?_ | skip))
            | (with_reducible refine And.intro ?_ ?_)
            | with_reducible intro _
          all_goals first
            | omega
            | skip
          rw [if_pos (by rw [hbl]; exact Nat.le_refl _)]
          unfold breakAV
          rw [if_pos hw, if_neg hneg]
          exact VLe_tup (VLes2 (ints_of (by rw [List.length_map])) (VLes2 (VLe.refl _) (VLes2 (VLe.refl _) VLes.nil)))
  · refine acalls_of fn13 (by simp) ?_
    simp only [List.length_cons, List.length_nil, Nat.reduceAdd, Nat.reduceSub, List.replicate, List.cons_append, List.nil_append, List.append_nil]
    simp (disch := omega) only [c13, go_sem, wrap64_id, Int.tdiv_eq_ediv_of_nonneg, Int.tmod_eq_emod_of_nonneg]
    repeat' first
      | (refine callA_pure (t38 l width _ (by omega)) (by first | exact ⟨rfl, trivial⟩ | exact ⟨rfl, rfl, trivial⟩ | exact ⟨rfl, rfl, rfl, trivial⟩ | exact ⟨rfl, rfl, rfl, rfl, trivial⟩ | simp only [go_sem]) ?_; simp (disch := omega) only [hw, go_sem, wrap64_id, Int.tdiv_eq_ediv_of_nonneg, Int.tmod_eq_emod_of_nonneg])
      | (refine callG_pure (fun e => ⟨by first | exact ⟨rfl, trivial⟩ | exact ⟨e, trivial⟩ | exact ⟨e, e, trivial⟩ | exact ⟨rfl, rfl, trivial⟩ | exact ⟨e, e, e, trivial⟩ | simp_all only [go_sem], t38 l width _ (by omega)⟩) ?_; simp (disch := omega) only [hw, go_sem, wrap64_id, Int.tdiv_eq_ediv_of_nonneg, Int.tmod_eq_emod_of_nonneg])
      | ((first | refine fnQ_pure1 (by first | exact ⟨trivial, trivial⟩ | exact ⟨trivial, trivial, trivial⟩ | exact ⟨trivial, trivial, trivial, trivial⟩ | simp [go_sem]) ?_ | refine fnQ_pure0 (by first | exact ⟨trivial, trivial⟩ | exact ⟨trivial, trivial, trivial⟩ | exact ⟨trivial, trivial, trivial, trivial⟩ | simp [go_sem]) ?_); simp only [go_sem]; (first | exact VLe.refl _ | refine VLe_int ?_ | refine VLe_bool ?_ | refine VLe_str ?_ | skip))
      | (with_reducible refine And.intro ?_ ?_)
      | with_reducible intro _
    all_goals first
      | omega
      | skip
    simp only [breakAV, hw, if_false]
    exact VLe_tup (VLes2 ints_nl (VLes2 (VLe.refl _) (VLes2 (VLe.refl _) VLes.nil)))

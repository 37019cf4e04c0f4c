import Derived.Test.YtbccfgnihmfgmaaG5
import Derived.Test.YtbccfgnihmfgmaaG2
import Derived.Test.YtbccfgnihmfgmaaG3
set_option linter.all false
set_option linter.unusedSimpArgs false
set_option linter.unusedVariables false
set_option linter.unusedSectionVars false
section
/-! the text W5 -/
open Go Go.Proofs AF P48
set_option maxRecDepth 100000

theorem getO_mid {hh tl : List AObj} {o : AObj} {k : Nat} (h : hh.length = k) : getO k (hh ++ o :: tl) = some o := by subst h; exact getO_app0
theorem setO_mid {hh tl : List AObj} {o o' : AObj} {k : Nat} (h : hh.length = k) : setO k (hh ++ o :: tl) o' = hh ++ o' :: tl := by subst h; exact setO_app0

section
variable {l : List It} {width : Int} {frm : Nat} (hv : Valid l) (w0 : 0 ≤ width) (w1 : width ≤ 1073741824) (hf : frm ≤ l.length)
  {h : List AObj} {ts : List AV} {b : Nat} {x y : C} {Q : Ex → Nx} {p1 p2 : Nat} (S : Nat → List AObj → Prop) (E : Ex → List AObj → Prop)
  (hS : ∀ i hh, S i hh → Low h hh) (hE : ∀ s hh, E s hh → Low h hh)
  (skip : ∀ to hh, frm ≤ to → to ≤ l.length → arc l width frm to = none → S to hh → S (to + 1) hh)
  (start : S frm h) (hts : ∀ c ∈ ts, lowV (h.length + 1) c = true)
  (body : ∀ to c hh tl L, frm ≤ to → to ≤ l.length → arc l width frm to = some c → S to hh → hh.length = h.length →
    codeA Try.prog b x (fun e t2 h2 => e = .normal ∧ h2 = hh ++ .lp .ready ts L :: tl ∧
      codeA Try.prog b y (fun e t3 h3 => ∃ hh', h3 = hh' ++ .lp .busy ts L :: tl ∧ hh'.length = h.length ∧ match e with
        | .normal => S (to + 1) hh'
        | e => E e hh') t2 (hh ++ .lp .busy ts L :: tl)) (setsA ts [p1, p2] [.int .i64 to, .int .i64 c]) (hh ++ .lp .ready ts L :: tl))
  (done : ∀ hh, S (l.length + 1) hh → Q .normal ts hh) (doneE : ∀ e hh, E e hh → match e with
    | .normal => False
    | e => Q e ts hh)
include hv w0 w1 hf hS hE skip start hts body done doneE

theorem range_lines : rangeA Try.prog (linesF l width frm) [p1, p2] (codeA Try.prog b x) (codeA Try.prog b y) Q ts h := by
  intro L hy
  show ACallsQ _ _ _ _ _
  have key := t74 (S := S) (E := fun s hh => match s with
    | .ret => E .ret hh
    | .exit id => E (.exit id) hh
    | _ => False) hv w0 w1 hf (h := h) (ts := ts) (L := L) hS
    (by
      intro s hh hs
      cases s with
      | ret => exact hE _ _ hs
      | exit id => exact hE _ _ hs
      | ready => exact hs.elim
      | busy => exact hs.elim)
    (by
      intro to c hh tl i1 i2 i3 i4
      have hlen := (hS _ _ i4).1
      refine hy h.length ts _ _ _ (getO_mid hlen) rfl ?_
      have hb := body to c hh tl L i1 i2 i3 i4 hlen
      refine codeA_mono ?_ hb
      rintro e t2 h2 ⟨rfl, rfl, h3⟩
      refine ⟨rfl, ⟨ts, getO_mid hlen⟩, fun ts' hts' => ?_⟩
      rw [getO_mid hlen] at hts'
      cases hts'
      rw [setO_mid hlen]
      refine codeA_mono ?_ h3
      rintro e t3 h3' ⟨hh', rfl, g1, g2⟩
      refine ⟨ts, getO_mid g1, ?_⟩
      cases e with
      | normal => exact ⟨hh', .inl ⟨rfl, g2, setO_mid g1⟩⟩
      | ret => exact ⟨hh', .inr ⟨.ret, rfl, g2, setO_mid g1⟩⟩
      | exit id => exact ⟨hh', .inr ⟨.exit id, rfl, g2, setO_mid g1⟩⟩)
    skip start hts
  refine key.le (VLes.refl _) ?_
  rintro v h' ⟨hh, ⟨g1, rfl⟩ | ⟨s, g1, rfl⟩⟩
  · have hl := hS _ _ g1
    exact ⟨v, VLe.refl _, hh, .ready, ts, L, rfl, hl.1, fun o ho => (hl.2 o ho).imp (fun h => h) And.left, done hh g1⟩
  · cases s with
    | ready => exact g1.elim
    | busy => exact g1.elim
    | ret =>
      have hl := hE _ _ g1
      exact ⟨v, VLe.refl _, hh, .ret, ts, L, rfl, hl.1, fun o ho => (hl.2 o ho).imp (fun h => h) And.left, doneE _ _ g1⟩
    | exit id =>
      have hl := hE _ _ g1
      exact ⟨v, VLe.refl _, hh, .exit id, ts, L, rfl, hl.1, fun o ho => (hl.2 o ho).imp (fun h => h) And.left, doneE _ _ g1⟩
end

def cellsI (p : List Int) : List AV := p.map (AV.int .i64)
theorem cellsI_len (p : List Int) : (cellsI p).length = p.length := by simp [cellsI]
theorem ints_of {p : List Int} {fz : Nat → Bool} {h : List AObj} {n m : Nat} (e : p.length = m) : VLe (.sl m (fun i => ((List.drop i (cellsI p)).take 1).map (rei fz h (n + 1)))) (ints p) := by
  subst e
  refine VLe_sl rfl (fun i hi => ?_)
  unfold cellsI
  rw [List.drop_eq_getElem_cons (by simpa using hi)]
  simp [rei, hi]
theorem t41b (n : Nat) (p : List Int) (i k v : Nat) (ty : TypeId) (h : List AObj) (hk : getO k h = some (.mem v ty (cellsI p))) (hp : p.length = n + 1) (hi : i ≤ n) (hn : n ≤ 1000000) :
    ACalls Try.prog 41 [.osl k v 1 0 (n + 1), .int .i64 i] h (.int .i64 (behind n p i)) h := by
  refine ACalls.borrow ?_ rfl
  refine ACalls.le (t41 n p i [] hp hi hn) ?_ (VLe.refl _)
  simp only [List.map_cons, List.map_nil, rei_int, rei_osl, if_true, hk, slOf]
  rw [if_pos ⟨by trivial, by rw [cellsI_len]; omega⟩]
  simp only [Nat.zero_add, Nat.mul_one]
  exact VLes2 (ints_of hp) (VLes2 (VLe.refl _) VLes.nil)
theorem cells_set (p : List Int) (i : Nat) (v : Int) (hi : i < p.length) : (cellsI p).take i ++ [.int .i64 v] ++ (cellsI p).drop (i + 1) = cellsI (p.set i v) := by
  unfold cellsI
  rw [List.set_eq_take_append_cons_drop, if_pos hi]
  simp [List.map_take, List.map_drop]
theorem madeA_int (n : Nat) : madeA [.int .i64 0] n = cellsI (List.replicate n 0) := by
  induction n with
  | zero => rfl
  | succ n ih => simp [madeA, ih, cellsI, List.replicate_succ]

theorem Low.last {g : List AObj} {o : AObj} {v : Nat} {ty : TypeId} {cs : List AV} (hc : ∀ n, ∀ c ∈ cs, lowV n c = true) : Low (g ++ [o]) (g ++ [.mem v ty cs]) := by
  refine ⟨by simp, fun x hx => ?_⟩
  rcases List.mem_append.1 hx with hx | hx
  · exact .inl (List.mem_append_left _ hx)
  · rw [List.mem_singleton] at hx
    subst hx
    exact .inr ⟨hc _, hc _⟩

def arcsTo (l : List It) (width : Int) (frm to : Nat) : List (Nat × Int) := (List.range' frm (to - frm)).filterMap fun to => (arc l width frm to).map fun c => (to, c)
theorem arcsTo_self (l : List It) (width : Int) (frm : Nat) : arcsTo l width frm frm = [] := by simp [arcsTo]
theorem arcsTo_all (l : List It) (width : Int) (frm : Nat) : arcsTo l width frm (l.length + 1) = arcs l width frm := rfl
theorem arcsTo_succ (l : List It) (width : Int) {frm to : Nat} (h : frm ≤ to) : arcsTo l width frm (to + 1) = arcsTo l width frm to ++ (match arc l width frm to with
    | some c => [(to, c)]
    | none => []) := by
  unfold arcsTo
  rw [show to + 1 - frm = to - frm + 1 by omega, List.range'_1_concat, List.filterMap_append, show frm + (to - frm) = to by omega]
  simp only [List.filterMap_cons, List.filterMap_nil]
  cases arc l width frm to <;> rfl
theorem least_snoc (n : Nat) (p : List Int) (a : List (Nat × Int)) (x : Nat × Int) : least n p (a ++ [x]) = if 0 ≤ behind n p x.1 ∧ (least n p a < 0 ∨ x.2 + behind n p x.1 < least n p a) then x.2 + behind n p x.1 else least n p a := by
  unfold least
  rw [List.foldl_append]
  rfl

theorem t39 (l : List It) (width : Int) (hv : Valid l) (w0 : 0 ≤ width) (w1 : width ≤ 1073741824) (h : List AObj) : ACalls Try.prog 39 [items l, .int .i64 width] h (ints (pots l width)) h := by
  have hl := hv.len
  refine acalls_of fn39 (by simp) ?_
  simp only [List.length_cons, List.length_nil, Nat.reduceAdd, Nat.reduceSub, List.replicate, List.cons_append, List.nil_append, List.append_nil]
  simp (disch := omega) only [c39, items, go_sem, wrap64_id, Int.tdiv_eq_ediv_of_nonneg, Int.tmod_eq_emod_of_nonneg]
  repeat' first
    | ((first | refine fnQ_pure1 ?_ ?_ | refine fnQ_pure0 ?_ ?_); (next => repeat' first | exact rvs_n | refine rvs_t ?_ | (simp [go_sem]; done)); simp only [go_sem]; (first | exact VLe.refl _ | refine VLe_int ?_ | refine VLe_bool ?_ | refine VLe_str ?_ | skip))
    | (with_reducible refine And.intro ?_ ?_)
    | with_reducible intro _
  all_goals first
    | omega
    | skip
  simp only [show ((l.length : Int) + 1).toNat = l.length + 1 by omega, madeA_int]
  refine loop_of (T := fun i : Nat × AObj => spar 51 [(0, items l), (1, .int .i64 width), (5, .op (h.length + 2) 1 0), (6, .int .i64 ((l.length : Int) - i.1))])
    (H := fun i => h ++ [.emp 1, .mem 1 3 (cellsI (potsGo l width i.1)), .mem 1 29 [.osl (h.length + 1) 1 1 0 (l.length + 1)], i.2])
    (inv := fun i => i.1 ≤ l.length + 1 ∧ site [i.2] 0 = true) (m := fun i => l.length + 1 - i.1) (0, .emp 0) ⟨by simp only; omega, rfl⟩ (Wk.temps ?_) ?_
  · simp only [items, spar, List.foldl, List.replicate, go_sem, VLes_nil, VLes_cons, VLe_undef_iff, VLe_self]
    try (repeat' first | (with_reducible refine And.intro ?_ ?_) | (refine VLe_int ?_; omega) | (refine VLe_bool ?_; rfl))
  · rintro ⟨k, O⟩ ⟨i1, i2⟩ K hK
    simp only at i1 i2 hK
    by_cases hk : k ≤ l.length
    · have plen := potsGo_len l width k
      obtain ⟨i, hi⟩ : ∃ i, i = l.length - k := ⟨_, rfl⟩
      have hik : (l.length : Int) - k = i := by omega
      obtain ⟨V, hV⟩ : ∃ V, V = verOf (some O) + 1 := ⟨_, rfl⟩
      obtain ⟨p, hp⟩ : ∃ p, p = potsGo l width k := ⟨_, rfl⟩
      simp only [hik, ← hp] at plen ⊢
      simp (disch := omega) only [spar, items, List.foldl, List.replicate, i2, go_sem, wrap64_id, Int.tdiv_eq_ediv_of_nonneg, Int.tmod_eq_emod_of_nonneg]
      rw [← hV]
      repeat' first
        | ((first | refine callA_pure (t40 _ _ _ _) ?_ ?_); (next => repeat' first | exact flags_n | refine flags_c (by first | rfl | assumption) ?_); simp (disch := omega) only [items, go_sem, wrap64_id, Int.tdiv_eq_ediv_of_nonneg, Int.tmod_eq_emod_of_nonneg])
        | ((first | refine callG_pure (fun e => ⟨?_, t40 _ _ _ _⟩) ?_); (next => repeat' first | exact flags_n | refine flags_c (by first | rfl | assumption) ?_); simp (disch := omega) only [items, go_sem, wrap64_id, Int.tdiv_eq_ediv_of_nonneg, Int.tmod_eq_emod_of_nonneg])
        | ((first | refine fnQ_pure1 ?_ ?_ | refine fnQ_pure0 ?_ ?_); (next => repeat' first | exact rvs_n | refine rvs_t ?_ | (simp [go_sem]; done)); simp only [go_sem]; (first | exact VLe.refl _ | refine VLe_int ?_ | refine VLe_bool ?_ | refine VLe_str ?_ | skip))
        | (with_reducible refine And.intro ?_ ?_)
        | with_reducible intro _
      all_goals first
        | omega
        | skip
      have eh : ∀ o : AObj, h ++ [.emp 1, .mem 1 3 (cellsI p), .mem 1 29 [.osl (h.length + 1) 1 1 0 (l.length + 1)], o] = (h ++ [.emp 1, .mem 1 3 (cellsI p), .mem 1 29 [.osl (h.length + 1) 1 1 0 (l.length + 1)]]) ++ [o] := by intro o; simp
      refine range_lines hv w0 w1 (by omega) (S := fun to hh => hh = h ++ [.emp 1, .mem 1 3 (cellsI p), .mem 1 29 [.osl (h.length + 1) 1 1 0 (l.length + 1)], .mem V 3 [.int .i64 (least l.length p (arcsTo l width i to))]]) (E := fun _ _ => False) ?_ (fun _ _ h => h.elim) ?_ ?_ ?_ ?_ ?_ (fun _ _ h => h.elim)
      · rintro to hh rfl
        rw [eh, eh]
        exact Low.last (by intro n c hc; simp at hc; subst hc; rfl)
      · rintro to hh h1 h2 h3 rfl
        rw [arcsTo_succ l width h1, h3, List.append_nil]
      · rw [arcsTo_self]; rfl
      · simp [lowV, lowV.lowVs, linesF, items]
      · rintro to c hh tl L h1 h2 h3 rfl hlen
        simp only [setsA]
        have hc := arc_bound hv.ok h3
        have hbd := behind_bound (n := l.length) (hp ▸ potsGo_bound hv.ok width k) (by omega) to
        simp (disch := omega) only [items, List.append_assoc, eq_self, go_sem, wrap64_id, Int.tdiv_eq_ediv_of_nonneg, Int.tmod_eq_emod_of_nonneg]
        repeat' first
          | ((first | refine callA_pure (t41b l.length p to _ 1 3 _ (by simp only [go_sem, List.append_assoc]) (by omega) h2 (by omega)) ?_ ?_); (next => repeat' first | exact flags_n | refine flags_c (by first | rfl | assumption) ?_); simp (disch := omega) only [List.append_assoc, go_sem, wrap64_id, Int.tdiv_eq_ediv_of_nonneg, Int.tmod_eq_emod_of_nonneg])
          | ((first | refine callG_pure (fun e => ⟨?_, t41b l.length p to _ 1 3 _ (by simp only [go_sem, List.append_assoc]) (by omega) h2 (by omega)⟩) ?_); (next => repeat' first | exact flags_n | refine flags_c (by first | rfl | assumption) ?_); simp (disch := omega) only [List.append_assoc, go_sem, wrap64_id, Int.tdiv_eq_ediv_of_nonneg, Int.tmod_eq_emod_of_nonneg])
          | ((first | refine fnQ_pure1 ?_ ?_ | refine fnQ_pure0 ?_ ?_); (next => repeat' first | exact rvs_n | refine rvs_t ?_ | (simp [go_sem]; done)); simp only [go_sem]; (first | exact VLe.refl _ | refine VLe_int ?_ | refine VLe_bool ?_ | refine VLe_str ?_ | skip))
          | (with_reducible refine And.intro ?_ ?_)
          | with_reducible intro _
        all_goals first
          | omega
          | skip
        · rename_i hh1
          refine ⟨h ++ [.emp 1, .mem 1 3 (cellsI p), .mem 1 29 [.osl (h.length + 1) 1 1 0 (l.length + 1)], .mem V 3 [.int .i64 (c + behind l.length p to)]], by simp, by simp, ?_⟩
          rw [arcsTo_succ l width h1, h3, least_snoc, if_pos hh1]
        · rename_i hh1
          refine ⟨h ++ [.emp 1, .mem 1 3 (cellsI p), .mem 1 29 [.osl (h.length + 1) 1 1 0 (l.length + 1)], .mem V 3 [.int .i64 (least l.length p (arcsTo l width i to))]], by simp, by simp, ?_⟩
          rw [arcsTo_succ l width h1, h3, least_snoc, if_neg (by rintro ⟨g1, g2⟩; simp only at g1 g2; have := hh1 g1; omega)]
      · rintro hh rfl
        rw [arcsTo_all]
        simp (disch := omega) only [cells_set, go_sem, wrap64_id, Int.tdiv_eq_ediv_of_nonneg, Int.tmod_eq_emod_of_nonneg]
        repeat' first
          | (with_reducible refine And.intro ?_ ?_)
          | (with_reducible intro _)
        all_goals first
          | omega
          | (rw [cellsI_len]; omega)
          | skip
        refine hK _ _ (k + 1, .mem V 3 [.int .i64 (least l.length p (arcs l width i))]) ⟨by simp only; omega, rfl⟩ (by simp only; omega) ?_
        have e : potsGo l width (k + 1) = p.set i (least l.length p (arcs l width i)) := by rw [hp, hi]; rfl
        simp only [e]
        refine Wk.temps ?_
        simp only [items, spar, List.foldl, List.replicate, go_sem, VLes_nil, VLes_cons, VLe_undef_iff, VLe_self]
        try (repeat' first | (with_reducible refine And.intro ?_ ?_) | (refine VLe_int ?_; omega) | (refine VLe_bool ?_; rfl))
    · have e : k = l.length + 1 := by omega
      subst e
      have plen := potsGo_len l width (l.length + 1)
      simp (disch := omega) only [spar, items, List.foldl, List.replicate, go_sem, wrap64_id, Int.tdiv_eq_ediv_of_nonneg, Int.tmod_eq_emod_of_nonneg]
      repeat' first
        | (with_reducible refine And.intro ?_ ?_)
        | (with_reducible intro _)
      all_goals first
        | omega
        | skip
      refine fnQ_pure1 ⟨trivial, trivial⟩ ?_
      simp only [go_sem]
      simp only [Nat.zero_add, cellsI_len, plen, Nat.mul_one, Nat.le_refl, and_true, if_true, eq_self]
      exact ints_of (p := pots l width) plen
end

section
/-! the text W6 -/
open Go Go.Proofs AF P48
set_option maxRecDepth 100000

theorem t73 (x : It) (h : List AObj) : ACalls Try.prog 73 [.agg (itemC x)] h (.int .i64 (checkItem x)) h := by
  refine acalls_of fn73 (by simp) ?_
  simp only [List.length_cons, List.length_nil, Nat.reduceAdd, Nat.reduceSub, List.replicate, List.cons_append, List.nil_append, List.append_nil]
  simp (disch := omega) only [c73, itemC, go_sem, wrap64_id, Int.tdiv_eq_ediv_of_nonneg, Int.tmod_eq_emod_of_nonneg]
  repeat' first
    | ((first | refine callA_pure (t68 _ _) ?_ ?_); (next => repeat' first | exact flags_n | refine flags_c (by first | rfl | assumption) ?_); simp (disch := omega) only [go_sem, wrap64_id, Int.tdiv_eq_ediv_of_nonneg, Int.tmod_eq_emod_of_nonneg])
    | ((first | refine callG_pure (fun e => ⟨?_, t68 _ _⟩) ?_); (next => repeat' first | exact flags_n | refine flags_c (by first | rfl | assumption) ?_); simp (disch := omega) only [go_sem, wrap64_id, Int.tdiv_eq_ediv_of_nonneg, Int.tmod_eq_emod_of_nonneg])
    | ((first | refine fnQ_pure1 ?_ ?_ | refine fnQ_pure0 ?_ ?_); (next => repeat' first | exact rvs_n | refine rvs_t ?_ | (simp [go_sem]; done)); simp only [go_sem]; (first | exact VLe.refl _ | refine VLe_int ?_ | refine VLe_bool ?_ | refine VLe_str ?_ | skip))
    | (with_reducible refine And.intro ?_ ?_)
    | with_reducible intro _
  all_goals first
    | omega
    | grind [checkItem]

theorem t35 (l : List It) (h : List AObj) (hl : l.length ≤ 9223372036854775807) : ACalls Try.prog 35 [items l] h (.int .i64 (check l)) h := by
  refine acalls_of fn35 (by simp) ?_
  simp only [List.length_cons, List.length_nil, Nat.reduceAdd, Nat.reduceSub, List.replicate, List.cons_append, List.nil_append, List.append_nil]
  simp (disch := omega) only [c35, items, itemC, go_sem, wrap64_id, Int.tdiv_eq_ediv_of_nonneg, Int.tmod_eq_emod_of_nonneg]
  repeat' first
    | (with_reducible refine And.intro ?_ ?_)
    | (with_reducible intro _)
  all_goals first
    | omega
    | skip
  · repeat' first
      | ((first | refine fnQ_pure1 ?_ ?_ | refine fnQ_pure0 ?_ ?_); (next => repeat' first | exact rvs_n | refine rvs_t ?_ | (simp [go_sem]; done)); simp only [go_sem]; (first | exact VLe.refl _ | refine VLe_int ?_ | refine VLe_bool ?_ | refine VLe_str ?_ | skip))
      | (with_reducible refine And.intro ?_ ?_)
      | with_reducible intro _
    simp [check]; omega
  · rename_i hlen
    refine loop_of (T := fun i : Nat × Int × AObj => spar 34 [(3, .int .i64 i.2.1), (10, items l), (11, .int .i64 l.length), (12, .int .i64 i.1)]) (H := fun i => h ++ [i.2.2])
      (inv := fun i => i.1 ≤ l.length ∧ site [i.2.2] 0 = true ∧ checkGo (l.drop i.1) i.2.1 = check l ∧ 0 ≤ i.2.1 ∧ i.2.1 ≤ 4000000000 * i.1) (m := fun i => l.length - i.1) (0, 0, .emp 0)
      ⟨by simp only; omega, rfl, by simp only [check, List.drop_zero]; rw [if_neg (by omega)], by simp only; omega, by simp only; omega⟩ (Wk.temps ?_) ?_
    · simp only [items, itemC, spar, List.foldl, List.replicate, go_sem, VLes_nil, VLes_cons, VLe_undef_iff, VLe_self]
      try (repeat' first | (with_reducible refine And.intro ?_ ?_) | (refine VLe_int ?_; omega) | (refine VLe_bool ?_; rfl))
    · rintro ⟨i, s, O⟩ ⟨i1, i2, i3, i4, i5⟩ K hK
      simp only at i1 i2 i3 i4 i5 hK
      by_cases hi : i < l.length
      · rw [drop_it hi, checkGo] at i3
        by_cases hx : checkItem (it l i) = 0
        · rw [if_pos hx] at i3
          obtain ⟨a1, a2, a3, a4, a5, a6, a7, a8, a9, b1, b2, b3⟩ := checkItem_iff.1 hx
          simp (disch := omega) only [spar, items, itemC, List.foldl, List.replicate, i2, go_sem, wrap64_id, Int.tdiv_eq_ediv_of_nonneg, Int.tmod_eq_emod_of_nonneg]
          repeat' first
            | ((first | refine callA_pure (t72 (it l i) _) ?_ ?_); (next => repeat' first | exact flags_n | refine flags_c (by first | rfl | assumption) ?_); simp (disch := omega) only [go_sem, wrap64_id, Int.tdiv_eq_ediv_of_nonneg, Int.tmod_eq_emod_of_nonneg])
            | ((first | refine callG_pure (fun e => ⟨?_, t72 (it l i) _⟩) ?_); (next => repeat' first | exact flags_n | refine flags_c (by first | rfl | assumption) ?_); simp (disch := omega) only [go_sem, wrap64_id, Int.tdiv_eq_ediv_of_nonneg, Int.tmod_eq_emod_of_nonneg])
            | ((first | refine fnQ_pure1 ?_ ?_ | refine fnQ_pure0 ?_ ?_); (next => repeat' first | exact rvs_n | refine rvs_t ?_ | (simp [go_sem]; done)); simp only [go_sem]; (first | exact VLe.refl _ | refine VLe_int ?_ | refine VLe_bool ?_ | refine VLe_str ?_ | skip))
            | (with_reducible refine And.intro ?_ ?_)
            | with_reducible intro _
          all_goals first
            | omega
            | skip
          refine hK _ _ (i + 1, s + (it l i).width + (it l i).stretch + (it l i).shrink, .mem (verOf (some O) + 1) 28 (itemC (it l i))) ⟨by simp only; omega, rfl, i3, by simp only; omega, by simp only; omega⟩ (by simp only; omega) (Wk.temps ?_)
          simp only [items, itemC, spar, List.foldl, List.replicate, go_sem, VLes_nil, VLes_cons, VLe_undef_iff, VLe_self]
          try (repeat' first | (with_reducible refine And.intro ?_ ?_) | (refine VLe_int ?_; omega) | (refine VLe_bool ?_; rfl))
        · rw [if_neg hx] at i3
          simp (disch := omega) only [spar, items, itemC, List.foldl, List.replicate, i2, go_sem, wrap64_id, Int.tdiv_eq_ediv_of_nonneg, Int.tmod_eq_emod_of_nonneg]
          repeat' first
            | ((first | refine callA_pure (t72 (it l i) _) ?_ ?_); (next => repeat' first | exact flags_n | refine flags_c (by first | rfl | assumption) ?_); simp (disch := omega) only [go_sem, wrap64_id, Int.tdiv_eq_ediv_of_nonneg, Int.tmod_eq_emod_of_nonneg])
            | ((first | refine callG_pure (fun e => ⟨?_, t72 (it l i) _⟩) ?_); (next => repeat' first | exact flags_n | refine flags_c (by first | rfl | assumption) ?_); simp (disch := omega) only [go_sem, wrap64_id, Int.tdiv_eq_ediv_of_nonneg, Int.tmod_eq_emod_of_nonneg])
            | ((first | refine fnQ_pure1 ?_ ?_ | refine fnQ_pure0 ?_ ?_); (next => repeat' first | exact rvs_n | refine rvs_t ?_ | (simp [go_sem]; done)); simp only [go_sem]; (first | exact VLe.refl _ | refine VLe_int ?_ | refine VLe_bool ?_ | refine VLe_str ?_ | skip))
            | (with_reducible refine And.intro ?_ ?_)
            | with_reducible intro _
          all_goals first
            | omega
            | exact i3
      · have e : i = l.length := by omega
        subst e
        rw [List.drop_length, checkGo] at i3
        simp (disch := omega) only [spar, items, itemC, List.foldl, List.replicate, i2, go_sem, wrap64_id, Int.tdiv_eq_ediv_of_nonneg, Int.tmod_eq_emod_of_nonneg]
        repeat' first
          | ((first | refine fnQ_pure1 ?_ ?_ | refine fnQ_pure0 ?_ ?_); (next => repeat' first | exact rvs_n | refine rvs_t ?_ | (simp [go_sem]; done)); simp only [go_sem]; (first | exact VLe.refl _ | refine VLe_int ?_ | refine VLe_bool ?_ | refine VLe_str ?_ | skip))
          | (with_reducible refine And.intro ?_ ?_)
          | with_reducible intro _
        all_goals first
          | omega
          | grind

theorem check_first {l : List It} (i : Nat) (hi : i < l.length) (h : ∀ j, j < i → checkItem (it l j) = 0) (hx : ¬ checkItem (it l i) = 0) : checkGo l 0 = checkItem (it l i) := by
  generalize (0 : Int) = s
  induction l generalizing i s with
  | nil => simp at hi
  | cons x l ih =>
    cases i with
    | zero => simp only [checkGo]; rw [if_neg (by simpa [it] using hx)]; rfl
    | succ i =>
      have h0 := h 0 (by omega)
      simp only [checkGo]
      rw [if_pos (by simpa [it] using h0)]
      have := ih i (by simpa using hi) (fun j hj => by have := h (j + 1) (by omega); simpa [it] using this) (by simpa [it] using hx) (s + x.width + x.stretch + x.shrink)
      simpa [it] using this
theorem checkGo_big : ∀ (l : List It) (s : Int), (∀ x ∈ l, checkItem x = 0) → 1073741824 < s → checkGo l s = 4 := by
  intro l
  induction l with
  | nil => intro s _ h; simp [checkGo, h]
  | cons x l ih =>
    intro s hx h
    have := checkItem_iff.1 (hx x (by simp))
    obtain ⟨a1, a2, a3, a4, a5, a6, a7, a8, a9, b1, b2, b3⟩ := this
    simp only [checkGo]
    rw [if_pos (hx x (by simp))]
    exact ih _ (fun y hy => hx y (by simp [hy])) (by omega)
theorem i2' {l : List It} (h : ∀ j, j < l.length → checkItem (it l j) = 0) : ∀ x ∈ l, checkItem x = 0 := by
  intro x hx
  obtain ⟨j, hj, rfl⟩ := List.getElem_of_mem hx
  rw [← it_eq hj]
  exact h j hj
theorem t38 (l : List It) (width : Int) (h : List AObj) (hl : l.length ≤ 9223372036854775807) : ACalls Try.prog 38 [items l, .int .i64 width] h (.int .i64 (checkW l width)) h := by
  refine acalls_of fn38 (by simp) ?_
  simp only [List.length_cons, List.length_nil, Nat.reduceAdd, Nat.reduceSub, List.replicate, List.cons_append, List.nil_append, List.append_nil]
  simp (disch := omega) only [c38, go_sem, wrap64_id, Int.tdiv_eq_ediv_of_nonneg, Int.tmod_eq_emod_of_nonneg]
  repeat' first
    | ((first | refine callA_pure (t35 l _ hl) ?_ ?_ | refine callA_pure (t63 _ _) ?_ ?_); (next => repeat' first | exact flags_n | refine flags_c (by first | rfl | assumption) ?_); simp (disch := omega) only [go_sem, wrap64_id, Int.tdiv_eq_ediv_of_nonneg, Int.tmod_eq_emod_of_nonneg])
    | ((first | refine callG_pure (fun e => ⟨?_, t35 l _ hl⟩) ?_ | refine callG_pure (fun e => ⟨?_, t63 _ _⟩) ?_); (next => repeat' first | exact flags_n | refine flags_c (by first | rfl | assumption) ?_); simp (disch := omega) only [go_sem, wrap64_id, Int.tdiv_eq_ediv_of_nonneg, Int.tmod_eq_emod_of_nonneg])
    | ((first | refine fnQ_pure1 ?_ ?_ | refine fnQ_pure0 ?_ ?_); (next => repeat' first | exact rvs_n | refine rvs_t ?_ | (simp [go_sem]; done)); simp only [go_sem]; (first | exact VLe.refl _ | refine VLe_int ?_ | refine VLe_bool ?_ | refine VLe_str ?_ | skip))
    | (with_reducible refine And.intro ?_ ?_)
    | with_reducible intro _
  all_goals first
    | omega
    | grind [checkW]
theorem t22 (l : List It) (h : List AObj) (hl : l.length ≤ 9223372036854775807) : ACalls Try.prog 22 [items l] h (.bool (great l)) h := by
  refine acalls_of fn22 (by simp) ?_
  simp only [List.length_cons, List.length_nil, Nat.reduceAdd, Nat.reduceSub, List.replicate, List.cons_append, List.nil_append, List.append_nil]
  simp (disch := omega) only [c22, items, itemC, go_sem, wrap64_id, Int.tdiv_eq_ediv_of_nonneg, Int.tmod_eq_emod_of_nonneg]
  refine loop_of (T := fun i : Nat => spar 20 [(0, items l), (3, .int .i64 i)]) (H := fun _ => h)
      (inv := fun i => i ≤ l.length ∧ ((l.drop i).any (fun x => decide (20 < x.text.length)) || decide (14 < l.length)) = great l) (m := fun i => l.length - i) 0
      ⟨by omega, rfl⟩ (Wk.temps ?_) ?_
  · simp only [items, itemC, spar, List.foldl, List.replicate, go_sem, VLes_nil, VLes_cons, VLe_undef_iff, VLe_self]
    try (repeat' first | (with_reducible refine And.intro ?_ ?_) | (refine VLe_int ?_; omega) | (refine VLe_bool ?_; rfl))
  · rintro i ⟨i1, i2⟩ K hK
    by_cases hi : i < l.length
    · rw [drop_it hi, List.any_cons] at i2
      simp (disch := omega) only [spar, items, itemC, List.foldl, List.replicate, go_sem, wrap64_id, Int.tdiv_eq_ediv_of_nonneg, Int.tmod_eq_emod_of_nonneg]
      repeat' first
        | ((first | refine fnQ_pure1 ?_ ?_ | refine fnQ_pure0 ?_ ?_); (next => repeat' first | exact rvs_n | refine rvs_t ?_ | (simp [go_sem]; done)); simp only [go_sem]; (first | exact VLe.refl _ | refine VLe_int ?_ | refine VLe_bool ?_ | refine VLe_str ?_ | skip))
        | (with_reducible refine And.intro ?_ ?_)
        | with_reducible intro _
      all_goals first
        | omega
        | skip
      · rename_i h1 h2
        simpa [show 20 < (it l i).text.length by omega] using i2
      · rename_i h1 h2
        refine hK _ _ (i + 1) ⟨by omega, ?_⟩ (by omega) (Wk.temps ?_)
        · simpa [show ¬ 20 < (it l i).text.length by omega] using i2
        · simp only [items, itemC, spar, List.foldl, List.replicate, go_sem, VLes_nil, VLes_cons, VLe_undef_iff, VLe_self]
          try (repeat' first | (with_reducible refine And.intro ?_ ?_) | (refine VLe_int ?_; omega) | (refine VLe_bool ?_; rfl))
    · have e : i = l.length := by omega
      subst e
      simp (disch := omega) only [spar, items, itemC, List.foldl, List.replicate, go_sem, wrap64_id, Int.tdiv_eq_ediv_of_nonneg, Int.tmod_eq_emod_of_nonneg]
      repeat' first
        | ((first | refine fnQ_pure1 ?_ ?_ | refine fnQ_pure0 ?_ ?_); (next => repeat' first | exact rvs_n | refine rvs_t ?_ | (simp [go_sem]; done)); simp only [go_sem]; (first | exact VLe.refl _ | refine VLe_int ?_ | refine VLe_bool ?_ | refine VLe_str ?_ | skip))
        | (with_reducible refine And.intro ?_ ?_)
        | with_reducible intro _
      all_goals first
        | omega
        | skip
      rw [← i2, List.drop_length]
      simp
      omega
theorem t36 (l : List It) (h : List AObj) (hl : l.length ≤ 9223372036854775807) : ACalls Try.prog 36 [items l] h (.int .i64 (check l)) h := by
  refine acalls_of fn36 (by simp) ?_
  simp only [List.length_cons, List.length_nil, Nat.reduceAdd, Nat.reduceSub, List.replicate, List.cons_append, List.nil_append, List.append_nil]
  simp (disch := omega) only [c36, items, itemC, go_sem, wrap64_id, Int.tdiv_eq_ediv_of_nonneg, Int.tmod_eq_emod_of_nonneg]
  repeat' first
    | (with_reducible refine And.intro ?_ ?_)
    | (with_reducible intro _)
  all_goals first
    | omega
    | skip
  · repeat' first
      | ((first | refine fnQ_pure1 ?_ ?_ | refine fnQ_pure0 ?_ ?_); (next => repeat' first | exact rvs_n | refine rvs_t ?_ | (simp [go_sem]; done)); simp only [go_sem]; (first | exact VLe.refl _ | refine VLe_int ?_ | refine VLe_bool ?_ | refine VLe_str ?_ | skip))
      | (with_reducible refine And.intro ?_ ?_)
      | with_reducible intro _
    simp [check]; omega
  · rename_i hlen
    have ec : check l = checkGo l 0 := by unfold check; rw [if_neg (by omega)]
    rw [ec]
    refine loop_of (T := fun i : Nat => spar 51 [(0, items l), (3, .int .i64 i)]) (H := fun _ => h)
      (inv := fun i => i ≤ l.length ∧ (∀ j, j < i → checkItem (it l j) = 0)) (m := fun i => l.length - i) 0
      ⟨by omega, by omega⟩ (Wk.temps ?_) ?_
    · simp only [items, itemC, spar, List.foldl, List.replicate, go_sem, VLes_nil, VLes_cons, VLe_undef_iff, VLe_self]
      try (repeat' first | (with_reducible refine And.intro ?_ ?_) | (refine VLe_int ?_; omega) | (refine VLe_bool ?_; rfl))
    · rintro i ⟨i1, i2⟩ K hK
      by_cases hi : i < l.length
      · simp (disch := omega) only [spar, items, itemC, List.foldl, List.replicate, go_sem, wrap64_id, Int.tdiv_eq_ediv_of_nonneg, Int.tmod_eq_emod_of_nonneg]
        repeat' first
          | ((first | refine callA_pure (t73 (it l i) _) ?_ ?_); (next => repeat' first | exact flags_n | refine flags_c (by first | rfl | assumption) ?_); simp (disch := omega) only [go_sem, wrap64_id, Int.tdiv_eq_ediv_of_nonneg, Int.tmod_eq_emod_of_nonneg])
          | ((first | refine callG_pure (fun e => ⟨?_, t73 (it l i) _⟩) ?_); (next => repeat' first | exact flags_n | refine flags_c (by first | rfl | assumption) ?_); simp (disch := omega) only [go_sem, wrap64_id, Int.tdiv_eq_ediv_of_nonneg, Int.tmod_eq_emod_of_nonneg])
          | ((first | refine fnQ_pure1 ?_ ?_ | refine fnQ_pure0 ?_ ?_); (next => repeat' first | exact rvs_n | refine rvs_t ?_ | (simp [go_sem]; done)); simp only [go_sem]; (first | exact VLe.refl _ | refine VLe_int ?_ | refine VLe_bool ?_ | refine VLe_str ?_ | skip))
          | (with_reducible refine And.intro ?_ ?_)
          | with_reducible intro _
        all_goals first
          | omega
          | skip
        · rename_i h1 h2
          exact (check_first i hi i2 h2).symm
        · rename_i h1 h2
          refine hK _ _ (i + 1) ⟨by omega, fun j hj => ?_⟩ (by omega) (Wk.temps ?_)
          · rcases Nat.lt_succ_iff_lt_or_eq.1 hj with h3 | rfl
            · exact i2 j h3
            · exact h2
          · simp only [items, itemC, spar, List.foldl, List.replicate, go_sem, VLes_nil, VLes_cons, VLe_undef_iff, VLe_self]
            try (repeat' first | (with_reducible refine And.intro ?_ ?_) | (refine VLe_int ?_; omega) | (refine VLe_bool ?_; rfl))
      · have e : i = l.length := by omega
        subst e
        simp (disch := omega) only [spar, items, itemC, List.foldl, List.replicate, go_sem, wrap64_id, Int.tdiv_eq_ediv_of_nonneg, Int.tmod_eq_emod_of_nonneg]
        refine ⟨fun hc => absurd hc (by omega), fun _ => ?_⟩
        refine loop_of (T := fun i : Nat × Int => spar 51 [(0, items l), (5, .int .i64 i.2), (6, .int .i64 i.1)]) (H := fun _ => h)
          (inv := fun i => i.1 ≤ l.length ∧ checkGo (l.drop i.1) i.2 = checkGo l 0 ∧ 0 ≤ i.2 ∧ i.2 ≤ 1073741824) (m := fun i => l.length - i.1) (0, 0)
          ⟨by simp only; omega, rfl, by simp only; omega, by simp only; omega⟩ (Wk.temps ?_) ?_
        · simp only [items, itemC, spar, List.foldl, List.replicate, go_sem, VLes_nil, VLes_cons, VLe_undef_iff, VLe_self]
          try (repeat' first | (with_reducible refine And.intro ?_ ?_) | (refine VLe_int ?_; omega) | (refine VLe_bool ?_; rfl))
        · rintro ⟨i, s⟩ ⟨j1, j2, j3, j4⟩ K hK
          simp only at j1 j2 j3 j4 hK
          by_cases hi : i < l.length
          · rw [drop_it hi, checkGo, if_pos (i2 i hi)] at j2
            obtain ⟨a1, a2, a3, a4, a5, a6, a7, a8, a9, b1, b2, b3⟩ := checkItem_iff.1 (i2 i hi)
            simp (disch := omega) only [spar, items, itemC, List.foldl, List.replicate, go_sem, wrap64_id, Int.tdiv_eq_ediv_of_nonneg, Int.tmod_eq_emod_of_nonneg]
            repeat' first
              | ((first | refine fnQ_pure1 ?_ ?_ | refine fnQ_pure0 ?_ ?_); (next => repeat' first | exact rvs_n | refine rvs_t ?_ | (simp [go_sem]; done)); simp only [go_sem]; (first | exact VLe.refl _ | refine VLe_int ?_ | refine VLe_bool ?_ | refine VLe_str ?_ | skip))
              | (with_reducible refine And.intro ?_ ?_)
              | with_reducible intro _
            all_goals first
              | omega
              | skip
            · rename_i h1 h2
              rw [← j2]
              exact (checkGo_big _ _ (fun x hx => i2' i2 x (List.mem_of_mem_drop hx)) h2).symm
            · rename_i h1 h2
              refine hK _ _ (i + 1, s + (it l i).width + (it l i).stretch + (it l i).shrink) ⟨by simp only; omega, j2, by simp only; omega, by simp only; omega⟩ (by simp only; omega) (Wk.temps ?_)
              simp only [items, itemC, spar, List.foldl, List.replicate, go_sem, VLes_nil, VLes_cons, VLe_undef_iff, VLe_self]
              try (repeat' first | (with_reducible refine And.intro ?_ ?_) | (refine VLe_int ?_; omega) | (refine VLe_bool ?_; rfl))
          · have e : i = l.length := by omega
            subst e
            rw [List.drop_length, checkGo, if_neg (by omega)] at j2
            simp (disch := omega) only [spar, items, itemC, List.foldl, List.replicate, go_sem, wrap64_id, Int.tdiv_eq_ediv_of_nonneg, Int.tmod_eq_emod_of_nonneg]
            repeat' first
              | ((first | refine fnQ_pure1 ?_ ?_ | refine fnQ_pure0 ?_ ?_); (next => repeat' first | exact rvs_n | refine rvs_t ?_ | (simp [go_sem]; done)); simp only [go_sem]; (first | exact VLe.refl _ | refine VLe_int ?_ | refine VLe_bool ?_ | refine VLe_str ?_ | skip))
              | (with_reducible refine And.intro ?_ ?_)
              | with_reducible intro _
            all_goals first
              | omega
              | exact j2
theorem t10 (l : List It) (width : Int) (h : List AObj) (hl : l.length ≤ 9223372036854775807) : ACalls Try.prog 10 [items l, .int .i64 width] h (.bool (fine l width)) h := by
  refine acalls_of fn10 (by simp) ?_
  simp only [List.length_cons, List.length_nil, Nat.reduceAdd, Nat.reduceSub, List.replicate, List.cons_append, List.nil_append, List.append_nil]
  simp (disch := omega) only [c10, go_sem, wrap64_id, Int.tdiv_eq_ediv_of_nonneg, Int.tmod_eq_emod_of_nonneg]
  repeat' first
    | ((first | refine callA_pure (t22 l _ hl) ?_ ?_ | refine callA_pure (t36 l _ hl) ?_ ?_); (next => repeat' first | exact flags_n | refine flags_c (by first | rfl | assumption) ?_); simp (disch := omega) only [go_sem, wrap64_id, Int.tdiv_eq_ediv_of_nonneg, Int.tmod_eq_emod_of_nonneg])
    | ((first | refine callG_pure (fun e => ⟨?_, t22 l _ hl⟩) ?_ | refine callG_pure (fun e => ⟨?_, t36 l _ hl⟩) ?_); (next => repeat' first | exact flags_n | refine flags_c (by first | rfl | assumption) ?_); simp (disch := omega) only [go_sem, wrap64_id, Int.tdiv_eq_ediv_of_nonneg, Int.tmod_eq_emod_of_nonneg])
    | ((first | refine fnQ_pure1 ?_ ?_ | refine fnQ_pure0 ?_ ?_); (next => repeat' first | exact rvs_n | refine rvs_t ?_ | (simp [go_sem]; done)); simp only [go_sem]; (first | exact VLe.refl _ | refine VLe_int ?_ | refine VLe_bool ?_ | refine VLe_str ?_ | skip))
    | (with_reducible refine And.intro ?_ ?_)
    | with_reducible intro _
  all_goals first
    | omega
    | skip
  unfold fine isLen
  grind
end

section
/-! the text W7 -/
open Go Go.Proofs AF P48
set_option maxRecDepth 100000

theorem chunk {f : Nat → List AV} {sz : Nat} : ∀ {n i : Nat}, (∀ j, j < n → (f j).length = sz) → i < n → (((List.range n).flatMap f).drop (i * sz)).take sz = f i := by
  intro n
  induction n with
  | zero => intro i _ h; omega
  | succ n ih =>
    intro i h hi
    have hl : ∀ m, m ≤ n + 1 → ((List.range m).flatMap f).length = m * sz := by
      intro m
      induction m with
      | zero => simp
      | succ m ihm => intro hm; rw [List.range_succ, List.flatMap_append, List.length_append, ihm (by omega)]; simp [h m (by omega), Nat.succ_mul]
    rw [List.range_succ, List.flatMap_append]
    by_cases e : i = n
    · subst e
      rw [List.drop_append_of_le_length (by rw [hl i (by omega)]; exact Nat.le_refl _), ← hl i (by omega), List.drop_length]
      simp [List.take_of_length_le (Nat.le_of_eq (h i (by omega)))]
    · have hle : i * sz + sz ≤ ((List.range n).flatMap f).length := by
        rw [hl n (by omega), ← Nat.succ_mul]
        exact Nat.mul_le_mul_right sz (by omega)
      rw [List.drop_append_of_le_length (by omega), List.take_append_of_le_length (by rw [List.length_drop]; omega)]
      exact ih (fun j hj => h j (by omega)) (by omega)
def cellsIt (l : List It) : List AV := l.flatMap itemC
theorem cellsIt_range (l : List It) : (List.range l.length).flatMap (fun i => itemC (it l i)) = cellsIt l := by
  have : l = (List.range l.length).map (it l) := by
    apply List.ext_getElem
    · simp
    · intro i h1 h2; simp [it_eq h1]
  unfold cellsIt
  conv => rhs; rw [this]
  rw [List.flatMap_map]
theorem cellsIt_len (l : List It) : (cellsIt l).length = l.length * 6 := by
  induction l with
  | nil => rfl
  | cons x l ih => unfold cellsIt at *; rw [List.flatMap_cons, List.length_append, ih, len_itemC, List.length_cons]; omega
theorem cellsIt_low (l : List It) (n : Nat) : ∀ c ∈ cellsIt l, lowV n c = true := by
  intro c hc
  unfold cellsIt at hc
  rw [List.mem_flatMap] at hc
  obtain ⟨x, _, hx⟩ := hc
  unfold itemC at hx
  simp at hx
  rcases hx with rfl | rfl | rfl | rfl | rfl | rfl <;> rfl
theorem t12 (l : List It) (h : List AObj) (k : Nat) (hk : site h k = true) (h0 : l.length ≠ 0) (hl : l.length ≤ 1000000) :
    ACalls Try.prog 12 [items l] h (.osl k (verOf (getO k h) + 1) 6 0 l.length) (setO k h (.mem (verOf (getO k h) + 1) 28 (cellsIt l))) := by
  refine acallsM fn12 k (by simp) ?_
  simp only [List.length_cons, List.length_nil, Nat.reduceAdd, Nat.reduceSub, List.replicate, List.cons_append, List.nil_append, List.append_nil]
  simp (disch := omega) only [c12, items, h0, madeA, cellsIt_range, cellsIt_len, go_sem, wrap64_id, Int.tdiv_eq_ediv_of_nonneg, Int.tmod_eq_emod_of_nonneg]
  exact ⟨by repeat' (first | rfl | omega | (with_reducible refine And.intro ?_ ?_)), h.length + 1, 2, 6, 0, l.length, 28, cellsIt l, [AObj.emp 1, AObj.mem 2 28 (cellsIt l), AObj.emp 0], ⟨trivial, trivial⟩, rfl, rfl, by omega, by simp only [go_sem], cellsIt_low l _, hk, rfl, rfl⟩
theorem items_nil {f : Nat → List AV} : VLe (.sl 0 f) (items []) := VLe_sl0
theorem t12e (h : List AObj) : ACalls Try.prog 12 [items []] h (items []) h := by
  refine acalls_of fn12 (by simp) ?_
  simp only [List.length_cons, List.length_nil, Nat.reduceAdd, Nat.reduceSub, List.replicate, List.cons_append, List.nil_append, List.append_nil]
  simp (disch := omega) only [c12, items, madeA, List.range_zero, List.flatMap_nil, go_sem, wrap64_id, Int.tdiv_eq_ediv_of_nonneg, Int.tmod_eq_emod_of_nonneg]
  repeat' first
    | (with_reducible refine And.intro ?_ ?_)
    | (with_reducible intro _)
  all_goals first
    | omega
    | rfl
    | skip
  · refine fnQ_pure1 ⟨trivial, trivial⟩ ?_
    simp only [go_sem]
    exact VLe_nl
  · refine fnQ_pure1 ⟨trivial, trivial⟩ ?_
    simp only [go_sem]
    exact VLe_sl0
theorem t28 (a b : List Int) (h : List AObj) (hl : a.length ≤ 1000000) : ACalls Try.prog 28 [ints a, ints b] h (.bool (decide (a = b))) h := by
  refine acalls_of fn28 (by simp) ?_
  simp only [List.length_cons, List.length_nil, Nat.reduceAdd, Nat.reduceSub, List.replicate, List.cons_append, List.nil_append, List.append_nil]
  simp (disch := omega) only [c28, ints, go_sem, wrap64_id, Int.tdiv_eq_ediv_of_nonneg, Int.tmod_eq_emod_of_nonneg]
  repeat' first
    | (with_reducible refine And.intro ?_ ?_)
    | (with_reducible intro _)
  all_goals first
    | omega
    | skip
  · rename_i h1
    repeat' first
      | ((first | refine fnQ_pure1 ?_ ?_ | refine fnQ_pure0 ?_ ?_); (next => repeat' first | exact rvs_n | refine rvs_t ?_ | (simp [go_sem]; done)); simp only [go_sem]; (first | exact VLe.refl _ | refine VLe_int ?_ | refine VLe_bool ?_ | refine VLe_str ?_ | skip))
      | (with_reducible refine And.intro ?_ ?_)
      | with_reducible intro _
    have : a ≠ b := by rintro rfl; exact h1 rfl
    simp [this]
  · rename_i h1
    refine loop_of (T := fun i : Nat => spar 26 [(0, ints a), (1, ints b), (12, .int .i64 a.length), (13, .int .i64 i)]) (H := fun _ => h)
      (inv := fun i => i ≤ a.length ∧ a.take i = b.take i) (m := fun i => a.length - i) 0 ⟨by omega, by simp⟩ (Wk.temps ?_) ?_
    · simp only [ints, spar, List.foldl, List.replicate, go_sem, VLes_nil, VLes_cons, VLe_undef_iff, VLe_self]
      try (repeat' first | (with_reducible refine And.intro ?_ ?_) | (refine VLe_int ?_; omega) | (refine VLe_bool ?_; rfl))
    · rintro i ⟨i1, i2⟩ K hK
      by_cases hi : i < a.length
      · simp (disch := omega) only [spar, ints, List.foldl, List.replicate, go_sem, wrap64_id, Int.tdiv_eq_ediv_of_nonneg, Int.tmod_eq_emod_of_nonneg]
        repeat' first
          | ((first | refine fnQ_pure1 ?_ ?_ | refine fnQ_pure0 ?_ ?_); (next => repeat' first | exact rvs_n | refine rvs_t ?_ | (simp [go_sem]; done)); simp only [go_sem]; (first | exact VLe.refl _ | refine VLe_int ?_ | refine VLe_bool ?_ | refine VLe_str ?_ | skip))
          | (with_reducible refine And.intro ?_ ?_)
          | with_reducible intro _
        all_goals first
          | omega
          | skip
        · rename_i h2 h3
          have : a ≠ b := by rintro rfl; exact h3 rfl
          simp [this]
        · rename_i h2 h3
          refine hK _ _ (i + 1) ⟨by omega, ?_⟩ (by omega) (Wk.temps ?_)
          · have e1 : a[i]? = b[i]? := by
              have hb : i < b.length := by omega
              simp [hi, hb] at h3
              simp [hi, hb, h3]
            rw [List.take_add_one, List.take_add_one, i2, e1]
          · simp only [ints, spar, List.foldl, List.replicate, go_sem, VLes_nil, VLes_cons, VLe_undef_iff, VLe_self]
            try (repeat' first | (with_reducible refine And.intro ?_ ?_) | (refine VLe_int ?_; omega) | (refine VLe_bool ?_; rfl))
      · have e : i = a.length := by omega
        subst e
        simp (disch := omega) only [spar, ints, List.foldl, List.replicate, go_sem, wrap64_id, Int.tdiv_eq_ediv_of_nonneg, Int.tmod_eq_emod_of_nonneg]
        repeat' first
          | ((first | refine fnQ_pure1 ?_ ?_ | refine fnQ_pure0 ?_ ?_); (next => repeat' first | exact rvs_n | refine rvs_t ?_ | (simp [go_sem]; done)); simp only [go_sem]; (first | exact VLe.refl _ | refine VLe_int ?_ | refine VLe_bool ?_ | refine VLe_str ?_ | skip))
          | (with_reducible refine And.intro ?_ ?_)
          | with_reducible intro _
        all_goals first
          | omega
          | skip
        rw [List.take_length, List.take_of_length_le (by omega)] at i2
        simp [i2]
def threeS : List It := [⟨1, 30, 0, 0, 0, [97, 98, 99]⟩, ⟨2, 10, 5, 3, 0, []⟩, ⟨1, 30, 0, 0, 0, [97, 98, 99]⟩, ⟨2, 10, 5, 3, 0, []⟩, ⟨1, 30, 0, 0, 0, [97, 98, 99]⟩]
theorem t37 (h : List AObj) : ACalls Try.prog 37 [] h (items threeS) h := by
  refine acalls_of fn37 (by simp) ?_
  simp only [List.length_cons, List.length_nil, Nat.reduceAdd, Nat.reduceSub, List.replicate, List.cons_append, List.nil_append, List.append_nil]
  simp (disch := omega) only [c37, madeA, go_sem, wrap64_id, Int.tdiv_eq_ediv_of_nonneg, Int.tmod_eq_emod_of_nonneg]
  repeat' first
    | (with_reducible refine And.intro ?_ ?_)
    | (with_reducible intro _)
  all_goals first
    | omega
    | rfl
    | skip
  refine fnQ_pure1 ⟨trivial, trivial⟩ ?_
  simp only [go_sem]
  refine VLe_sl rfl (fun i hi => ?_)
  have : i = 0 ∨ i = 1 ∨ i = 2 ∨ i = 3 ∨ i = 4 := by have : i < 5 := hi; omega
  rcases this with rfl | rfl | rfl | rfl | rfl <;> rfl
end

section
/-! the text W8 -/
open Go Go.Proofs AF P48
set_option maxRecDepth 100000
def hit (n : Nat) (p : List Int) (frm : Nat) (x : Nat × Int) : Bool := decide (0 ≤ behind n p x.1 ∧ x.2 + behind n p x.1 = p.getD frm 0)
theorem arcs_split (l : List It) (width : Int) {frm to : Nat} {c : Int} (h1 : frm ≤ to) (h2 : to ≤ l.length) (h3 : arc l width frm to = some c) : ∃ r, arcs l width frm = arcsTo l width frm to ++ (to, c) :: r := by
  refine ⟨(List.range' (to + 1) (l.length - to)).filterMap fun to => (arc l width frm to).map fun c => (to, c), ?_⟩
  unfold arcs arcsTo
  rw [show l.length + 1 - frm = (to - frm) + (1 + (l.length - to)) by omega, ← List.range'_append_1, ← List.range'_append_1, List.filterMap_append, List.filterMap_append]
  rw [show frm + (to - frm) = to by omega]
  congr 1
  simp [h3]
theorem pick_of (l : List It) (width : Int) (p : List Int) {frm to : Nat} {c : Int} (h1 : frm ≤ to) (h2 : to ≤ l.length) (h3 : arc l width frm to = some c) (h4 : (arcsTo l width frm to).find? (hit l.length p frm) = none) (h5 : hit l.length p frm (to, c) = true) :
    pick l p frm (arcs l width frm) = some to := by
  obtain ⟨r, hr⟩ := arcs_split l width h1 h2 h3
  unfold pick
  rw [hr]
  show ((arcsTo l width frm to ++ (to, c) :: r).find? (hit l.length p frm)).map _ = _
  rw [List.find?_append, h4, List.find?_cons_of_pos h5]
  rfl
theorem pick_ge {l : List It} {width : Int} {p : List Int} {frm to : Nat} (h : pick l p frm (arcs l width frm) = some to) : frm ≤ to ∧ to ≤ l.length := by
  unfold pick at h
  rw [Option.map_eq_some_iff] at h
  obtain ⟨⟨t, c⟩, h1, rfl⟩ := h
  have := mem_arcs.1 (List.mem_of_find?_eq_some h1)
  exact ⟨this.1, this.2.1⟩
theorem brkGo_fuel {l : List It} {width : Int} {p : List Int} : ∀ (k k' frm : Nat), l.length + 1 - frm ≤ k → l.length + 1 - frm ≤ k' → brkGo l width p k frm = brkGo l width p k' frm := by
  intro k
  induction k with
  | zero =>
    intro k' frm h1 h2
    cases k' with
    | zero => rfl
    | succ k' =>
      simp only [brkGo]
      cases hp : pick l p frm (arcs l width frm) with
      | none => rfl
      | some to => have := pick_ge hp; omega
  | succ k ih =>
    intro k' frm h1 h2
    cases k' with
    | zero =>
      simp only [brkGo]
      cases hp : pick l p frm (arcs l width frm) with
      | none => rfl
      | some to => have := pick_ge hp; omega
    | succ k' =>
      simp only [brkGo]
      cases hp : pick l p frm (arcs l width frm) with
      | none => rfl
      | some to =>
        have := pick_ge hp
        simp only
        split
        · rw [ih k' (to + 1) (by omega) (by omega)]
        · rfl
theorem brk_step {l : List It} {width : Int} {p : List Int} {frm to : Nat} (hf : frm ≤ l.length) (h : pick l p frm (arcs l width frm) = some to) :
    brkGo l width p (l.length + 1 - frm) frm = if to < l.length then to :: brkGo l width p (l.length + 1 - (to + 1)) (to + 1) else [to] := by
  have hg := pick_ge h
  rw [show l.length + 1 - frm = (l.length - frm) + 1 by omega]
  rw [brkGo, h]
  simp only
  split
  · rw [brkGo_fuel (l.length - frm) (l.length + 1 - (to + 1)) (to + 1) (by omega) (by omega)]
  · rfl
def outA (b v : Nat) (bs : List Nat) : AV := if bs = [] then .nl else .osl b v 1 0 bs.length
def outO (v : Nat) (bs : List Nat) : AObj := if bs = [] then .emp 0 else .mem v 3 (cellsI (bs.map Int.ofNat))
theorem Low.of {h a b : List AObj} (e : b.length = a.length) (hb : ∀ o ∈ b, o ∈ a ∨ (lowO (h.length + a.length) o ∧ lowO (h.length + a.length + 1) o)) : Low (h ++ a) (h ++ b) := by
  refine ⟨by simp [e], fun o ho => ?_⟩
  rw [List.length_append]
  rcases List.mem_append.1 ho with ho | ho
  · exact .inl (List.mem_append_left _ ho)
  · rcases hb o ho with h1 | h1
    · exact .inl (List.mem_append_right _ h1)
    · exact .inr h1
theorem low_cells {bs : List Nat} {to n : Nat} {c : AV} (h : c ∈ cellsI (bs.map Int.ofNat) ++ [.int .i64 to]) : lowV n c = true := by
  unfold cellsI at h
  simp at h
  rcases h with ⟨a, _, rfl⟩ | rfl <;> rfl
theorem outA_nil (b v : Nat) : outA b v [] = .nl := rfl
theorem outO_nil (v : Nat) : outO v [] = .emp 0 := rfl
theorem outA_ne {bs : List Nat} (h : bs ≠ []) (b v : Nat) : outA b v bs = .osl b v 1 0 bs.length := if_neg h
theorem outO_ne {bs : List Nat} (h : bs ≠ []) (v : Nat) : outO v bs = .mem v 3 (cellsI (bs.map Int.ofNat)) := if_neg h
def breakAV (l : List It) (width : Int) : AV :=
  if checkW l width = 0 then (if (pots l width).getD 0 0 < 0 then .tup [ints [], .int .i64 0, .int .i64 23] else .tup [ints ((brk l width).map Int.ofNat), .int .i64 ((pots l width).getD 0 0), .int .i64 0])
  else .tup [ints [], .int .i64 0, .int .i64 (checkW l width)]
theorem ints_nil {f : Nat → List AV} : VLe (.sl 0 f) (ints []) := VLe_sl0
theorem ints_nl : VLe .nl (ints []) := VLe_nl
theorem checkW_range (l : List It) (width : Int) (h : checkW l width = 0) : check l = 0 ∧ 0 ≤ width ∧ width ≤ 1073741824 := by
  unfold checkW isLen at h
  grind

set_option maxHeartbeats 4000000 in
theorem t13 (l : List It) (width : Int) (h : List AObj) (hl : l.length ≤ 300) : ACalls Try.prog 13 [items l, .int .i64 width] h (breakAV l width) h := by
  by_cases hw : checkW l width = 0
  · obtain ⟨hc, w0, w1⟩ := checkW_range l width hw
    have hv := Valid.of hl hc
    have plen := pots_len l width
    obtain ⟨p, hp⟩ : ∃ p, p = pots l width := ⟨_, rfl⟩
    by_cases hneg : (pots l width).getD 0 0 < 0
    · refine acalls_of fn13 (by simp) ?_
      simp only [List.length_cons, List.length_nil, Nat.reduceAdd, Nat.reduceSub, List.replicate, List.cons_append, List.nil_append, List.append_nil]
      simp (disch := omega) only [c13, go_sem, wrap64_id, Int.tdiv_eq_ediv_of_nonneg, Int.tmod_eq_emod_of_nonneg]
      repeat' first
        | ((first | refine callA_pure (t38 l width _ (by omega)) ?_ ?_ | refine callA_pure (t39 l width hv w0 w1 _) ?_ ?_); (next => repeat' first | exact flags_n | refine flags_c (by first | rfl | assumption) ?_); simp (disch := omega) only [ints, hw, hneg, go_sem, wrap64_id, Int.tdiv_eq_ediv_of_nonneg, Int.tmod_eq_emod_of_nonneg])
        | ((first | refine callG_pure (fun e => ⟨?_, t38 l width _ (by omega)⟩) ?_ | refine callG_pure (fun e => ⟨?_, t39 l width hv w0 w1 _⟩) ?_); (next => repeat' first | exact flags_n | refine flags_c (by first | rfl | assumption) ?_); simp (disch := omega) only [ints, hw, hneg, go_sem, wrap64_id, Int.tdiv_eq_ediv_of_nonneg, Int.tmod_eq_emod_of_nonneg])
        | ((first | refine fnQ_pure1 ?_ ?_ | refine fnQ_pure0 ?_ ?_); (next => repeat' first | exact rvs_n | refine rvs_t ?_ | (simp [go_sem]; done)); simp only [go_sem]; (first | exact VLe.refl _ | refine VLe_int ?_ | refine VLe_bool ?_ | refine VLe_str ?_ | skip))
        | (with_reducible refine And.intro ?_ ?_)
        | with_reducible intro _
      all_goals first
        | omega
        | skip
      simp only [breakAV, hw, hneg, if_true]
      exact VLe_tup (VLes2 ints_nl (VLes2 (VLe.refl _) (VLes2 (VLe.refl _) VLes.nil)))
    · have hfin := brk_path hc (width := width) (l.length + 1) 0 (by omega) (by omega) (by omega)
      refine acalls_of fn13 (by simp) ?_
      simp only [List.length_cons, List.length_nil, Nat.reduceAdd, Nat.reduceSub, List.replicate, List.cons_append, List.nil_append, List.append_nil]
      simp (disch := omega) only [c13, go_sem, wrap64_id, Int.tdiv_eq_ediv_of_nonneg, Int.tmod_eq_emod_of_nonneg]
      repeat' first
        | ((first | refine callA_pure (t38 l width _ (by omega)) ?_ ?_ | refine callA_pure (t39 l width hv w0 w1 _) ?_ ?_); (next => repeat' first | exact flags_n | refine flags_c (by first | rfl | assumption) ?_); simp (disch := omega) only [ints, hw, hneg, go_sem, wrap64_id, Int.tdiv_eq_ediv_of_nonneg, Int.tmod_eq_emod_of_nonneg])
        | ((first | refine callG_pure (fun e => ⟨?_, t38 l width _ (by omega)⟩) ?_ | refine callG_pure (fun e => ⟨?_, t39 l width hv w0 w1 _⟩) ?_); (next => repeat' first | exact flags_n | refine flags_c (by first | rfl | assumption) ?_); simp (disch := omega) only [ints, hw, hneg, go_sem, wrap64_id, Int.tdiv_eq_ediv_of_nonneg, Int.tmod_eq_emod_of_nonneg])
        | ((first | refine fnQ_pure1 ?_ ?_ | refine fnQ_pure0 ?_ ?_); (next => repeat' first | exact rvs_n | refine rvs_t ?_ | (simp [go_sem]; done)); simp only [go_sem]; (first | exact VLe.refl _ | refine VLe_int ?_ | refine VLe_bool ?_ | refine VLe_str ?_ | skip))
        | (with_reducible refine And.intro ?_ ?_)
        | with_reducible intro _
      all_goals first
        | omega
        | skip
      refine loop_of (T := fun i : List Nat × Nat × Nat × AObj × Nat => spar 73 [(0, items l), (1, .int .i64 width), (8, .op (h.length + 1) 1 0), (9, .op (h.length + 2) 1 0), (10, .op (h.length + 3) i.2.2.1 0)])
        (H := fun i => h ++ [.emp 1, .mem 1 29 [ints (pots l width)], .mem 1 29 [outA (h.length + 5) i.2.2.2.2 i.1], .mem i.2.2.1 3 [.int .i64 i.2.1], i.2.2.2.1, outO i.2.2.2.2 i.1])
        (inv := fun i => site [i.2.2.2.1] 0 = true ∧ ((i.2.1 ≤ l.length ∧ 0 ≤ (pots l width).getD i.2.1 0 ∧ i.1 ++ brkGo l width (pots l width) (l.length + 1 - i.2.1) i.2.1 = brk l width ∧ (i.1 = [] ∨ (i.1 ≠ [] ∧ i.1[i.1.length - 1]? = some (i.2.1 - 1) ∧ 0 < i.2.1 ∧ i.1.length ≤ i.2.1))) ∨
          (i.2.1 = l.length + 1 ∧ i.1 = brk l width ∧ i.1 ≠ [] ∧ i.1[i.1.length - 1]? = some l.length ∧ i.1.length ≤ i.2.1))) (m := fun i => l.length + 1 - i.2.1) ([], 0, 1, .emp 0, 0)
        ⟨rfl, .inl ⟨by simp only; omega, by simp only; omega, rfl, .inl rfl⟩⟩ (Wk.temps ?_) ?_
      · simp only [spar, List.foldl, List.replicate, go_sem, VLes_nil, VLes_cons, VLe_undef_iff, VLe_self]
        try (repeat' first | (with_reducible refine And.intro ?_ ?_) | (refine VLe_int ?_; omega) | (refine VLe_bool ?_; rfl))
      · rintro ⟨bs, frm, V, O, v⟩ ⟨i0, i1⟩ K hK
        simp only at i0 i1 hK
        rcases i1 with ⟨j1, j2, j3, rfl | ⟨hne, hlast, hpos, hlen⟩⟩ | ⟨rfl, rfl, hne, hlast, hlen⟩
        · have hpk := pick_some hc (width := width) j1 j2
          obtain ⟨p, hp⟩ : ∃ p, p = pots l width := ⟨_, rfl⟩
          rw [← hp] at hpk j2 j3 plen
          have hbp : ∀ j, -1 ≤ p.getD j 0 ∧ p.getD j 0 ≤ 20000 * (l.length + 1 : Nat) := by rw [hp]; exact potsGo_bound hv.ok width (l.length + 1)
          have hbf := hbp frm
          have i0' : ∀ m, site (O :: m) 0 = true := fun _ => i0
          simp only [← hp]
          simp (disch := omega) only [spar, List.foldl, List.replicate, items, ints, outA_nil, outO_nil, i0', go_sem, wrap64_id, Int.tdiv_eq_ediv_of_nonneg, Int.tmod_eq_emod_of_nonneg]
          repeat' first
            | ((first | refine callA_pure (t40 l width frm _) ?_ ?_); (next => repeat' first | exact flags_n | refine flags_c (by first | rfl | assumption) ?_); simp (disch := omega) only [ints, go_sem, wrap64_id, Int.tdiv_eq_ediv_of_nonneg, Int.tmod_eq_emod_of_nonneg])
            | ((first | refine callG_pure (fun e => ⟨?_, t40 l width frm _⟩) ?_); (next => repeat' first | exact flags_n | refine flags_c (by first | rfl | assumption) ?_); simp (disch := omega) only [ints, go_sem, wrap64_id, Int.tdiv_eq_ediv_of_nonneg, Int.tmod_eq_emod_of_nonneg])
            | ((first | refine fnQ_pure1 ?_ ?_ | refine fnQ_pure0 ?_ ?_); (next => repeat' first | exact rvs_n | refine rvs_t ?_ | (simp [go_sem]; done)); simp only [go_sem]; (first | exact VLe.refl _ | refine VLe_int ?_ | refine VLe_bool ?_ | refine VLe_str ?_ | skip))
            | (with_reducible refine And.intro ?_ ?_)
            | with_reducible intro _
          all_goals first
            | omega
            | skip
          refine range_lines hv w0 w1 j1 (S := fun to hh => hh = h ++ [.emp 1, .mem 1 29 [.sl p.length fun i => [.int .i64 (p.getD i 0)]], .mem 1 29 [.nl], .mem V 3 [.int .i64 frm], O, .emp 0] ∧ (arcsTo l width frm to).find? (hit l.length p frm) = none)
            (E := fun e hh => ∃ to c, e = .exit 2 ∧ frm ≤ to ∧ to ≤ l.length ∧ pick l p frm (arcs l width frm) = some to ∧ arc l width frm to = some c ∧ hit l.length p frm (to, c) = true ∧ hh = h ++ [.emp 1, .mem 1 29 [.sl p.length fun i => [.int .i64 (p.getD i 0)]], .mem 1 29 [.osl (h.length + 5) 1 1 0 1], .mem V 3 [.int .i64 ((to : Int) + 1)], .mem (verOf (some O) + 1) 3 [.int .i64 to], .mem 1 3 [.int .i64 to]]) ?_ ?_ ?_ ?_ ?_ ?_ ?_ ?_
          · rintro to hh ⟨rfl, _⟩
            exact ⟨rfl, fun o ho => .inl ho⟩
          · rintro e hh ⟨to, c, rfl, h1, h2, h3, h4, h5, rfl⟩
            refine Low.of rfl (fun o ho => ?_)
            simp only [List.mem_cons, List.not_mem_nil, or_false] at ho
            rcases ho with rfl | rfl | rfl | rfl | rfl | rfl <;> first | (left; simp; done) | (right; constructor <;> (intro c hc; simp at hc; subst hc; simp [lowV]))
          · rintro to hh h1 h2 h3 ⟨rfl, h4⟩
            refine ⟨rfl, ?_⟩
            rw [arcsTo_succ l width h1, h3, List.append_nil]
            exact h4
          · exact ⟨rfl, by rw [arcsTo_self]; rfl⟩
          · simp [lowV, lowV.lowVs, linesF, items]
          · rintro to c hh tl L h1 h2 h3 ⟨rfl, h4⟩ hlen
            simp only [setsA]
            have hcb := arc_bound hv.ok h3
            have hbd := behind_bound (n := l.length) hbp (by omega) to
            simp (disch := omega) only [List.append_assoc, eq_self, go_sem, wrap64_id, Int.tdiv_eq_ediv_of_nonneg, Int.tmod_eq_emod_of_nonneg]
            repeat' first
              | ((first | refine callA_pure (t41 l.length p to _ plen h2 (by omega)) ?_ ?_); (next => repeat' first | exact flags_n | refine flags_c (by first | rfl | assumption) ?_); simp (disch := omega) only [List.append_assoc, madeA, i0', go_sem, wrap64_id, Int.tdiv_eq_ediv_of_nonneg, Int.tmod_eq_emod_of_nonneg])
              | ((first | refine callG_pure (fun e => ⟨?_, t41 l.length p to _ plen h2 (by omega)⟩) ?_); (next => repeat' first | exact flags_n | refine flags_c (by first | rfl | assumption) ?_); simp (disch := omega) only [List.append_assoc, madeA, i0', go_sem, wrap64_id, Int.tdiv_eq_ediv_of_nonneg, Int.tmod_eq_emod_of_nonneg])
              | ((first | refine fnQ_pure1 ?_ ?_ | refine fnQ_pure0 ?_ ?_); (next => repeat' first | exact rvs_n | refine rvs_t ?_ | (simp [go_sem]; done)); simp only [go_sem]; (first | exact VLe.refl _ | refine VLe_int ?_ | refine VLe_bool ?_ | refine VLe_str ?_ | skip))
              | (with_reducible refine And.intro ?_ ?_)
              | with_reducible intro _
            all_goals first
              | omega
              | skip
            · rename_i h5
              refine ⟨h ++ [.emp 1, .mem 1 29 [.sl p.length fun i => [.int .i64 (p.getD i 0)]], .mem 1 29 [.osl (h.length + 5) 1 1 0 1], .mem V 3 [.int .i64 ((to : Int) + 1)], .mem (verOf (some O) + 1) 3 [.int .i64 to], .mem 1 3 [.int .i64 to]], by simp, by simp, ?_⟩
              have hh5 : hit l.length p frm (to, c) = true := by unfold hit; simpa using h5
              exact ⟨to, c, h1, h2, pick_of l width p h1 h2 h3 h4 hh5, h3, hh5, rfl⟩
            · rename_i h5
              refine ⟨h ++ [.emp 1, .mem 1 29 [.sl p.length fun i => [.int .i64 (p.getD i 0)]], .mem 1 29 [.nl], .mem V 3 [.int .i64 frm], O, .emp 0], by simp, by simp, rfl, ?_⟩
              have hh5 : hit l.length p frm (to, c) = false := by unfold hit; simpa using h5
              rw [arcsTo_succ l width h1, h3, List.find?_append, h4]
              simp [hh5]
          · rintro hh ⟨_, h4⟩
            obtain ⟨to, c, h5, _⟩ := hpk
            unfold pick at h5
            rw [arcsTo_all] at h4
            unfold hit at h4
            rw [h4] at h5
            cases h5
          · rintro e hh ⟨to, c, rfl, h1, h2, h3, h4, h5, rfl⟩
            show Ex.inBlock 2 _ (.exit 2) _ _
            simp (disch := omega) only [i0', go_sem, wrap64_id, Int.tdiv_eq_ediv_of_nonneg, Int.tmod_eq_emod_of_nonneg]
            repeat' first
              | (with_reducible refine And.intro ?_ ?_)
              | (with_reducible intro _)
            all_goals first
              | omega
              | skip
            have hst := brk_step (width := width) (p := p) j1 h3
            rw [hst] at j3
            unfold hit at h5
            simp only [decide_eq_true_eq] at h5
            refine hK _ _ ([to], to + 1, V + 1, .mem (verOf (some O) + 1) 3 [.int .i64 to], 1) ⟨rfl, ?_⟩ (by simp only; omega) ?_
            · simp only
              by_cases hlt : to < l.length
              · left
                rw [if_pos hlt] at j3
                refine ⟨hlt, ?_, by rw [← hp]; simpa using j3, .inr ⟨by simp, by simp, by omega, by simp⟩⟩
                have : behind l.length p to = p.getD (to + 1) 0 := by unfold behind; rw [if_neg (by omega)]
                rw [← hp]
                omega
              · right
                rw [if_neg hlt] at j3
                exact ⟨by omega, by simpa using j3, by simp, by simp; omega, by simp⟩
            · rw [outA_ne (by simp), outO_ne (by simp)]
              simp only [← hp]
              refine Wk.temps ?_
              simp only [items, ints, spar, List.foldl, List.replicate, go_sem, VLes_nil, VLes_cons, VLe_undef_iff, VLe_self]
              try (repeat' first | (with_reducible refine And.intro ?_ ?_) | (refine VLe_int ?_; omega) | (refine VLe_bool ?_; rfl))
        · have hpk := pick_some hc (width := width) j1 j2
          obtain ⟨p, hp⟩ : ∃ p, p = pots l width := ⟨_, rfl⟩
          rw [← hp] at hpk j2 j3 plen
          have hbp : ∀ j, -1 ≤ p.getD j 0 ∧ p.getD j 0 ≤ 20000 * (l.length + 1 : Nat) := by rw [hp]; exact potsGo_bound hv.ok width (l.length + 1)
          have hbf := hbp frm
          have eA := outA_ne hne (h.length + 5) v
          have eO := outO_ne hne v
          have hbl : (cellsI (bs.map Int.ofNat)).length = bs.length := by rw [cellsI_len, List.length_map]
          have hb0 : 0 < bs.length := List.length_pos_iff.2 hne
          have eL : (cellsI (bs.map Int.ofNat))[bs.length - 1]? = some (.int .i64 ((frm - 1 : Nat) : Int)) := by simp [cellsI, hlast]
          have eT : ((bs.length : Int) - 1).toNat = bs.length - 1 := by omega
          have i0' : ∀ m, site (O :: m) 0 = true := fun _ => i0
          simp only [← hp]
          simp (disch := omega) only [spar, List.foldl, List.replicate, items, ints, eA, eO, i0', hbl, eL, eT, go_sem, wrap64_id, Int.tdiv_eq_ediv_of_nonneg, Int.tmod_eq_emod_of_nonneg]
          repeat' first
            | ((first | refine callA_pure (t40 l width frm _) ?_ ?_); (next => repeat' first | exact flags_n | refine flags_c (by first | rfl | assumption) ?_); simp (disch := omega) only [ints, go_sem, wrap64_id, Int.tdiv_eq_ediv_of_nonneg, Int.tmod_eq_emod_of_nonneg])
            | ((first | refine callG_pure (fun e => ⟨?_, t40 l width frm _⟩) ?_); (next => repeat' first | exact flags_n | refine flags_c (by first | rfl | assumption) ?_); simp (disch := omega) only [ints, go_sem, wrap64_id, Int.tdiv_eq_ediv_of_nonneg, Int.tmod_eq_emod_of_nonneg])
            | ((first | refine fnQ_pure1 ?_ ?_ | refine fnQ_pure0 ?_ ?_); (next => repeat' first | exact rvs_n | refine rvs_t ?_ | (simp [go_sem]; done)); simp only [go_sem]; (first | exact VLe.refl _ | refine VLe_int ?_ | refine VLe_bool ?_ | refine VLe_str ?_ | skip))
            | (with_reducible refine And.intro ?_ ?_)
            | with_reducible intro _
          all_goals first
            | omega
            | skip
          refine range_lines hv w0 w1 j1 (S := fun to hh => hh = h ++ [.emp 1, .mem 1 29 [.sl p.length fun i => [.int .i64 (p.getD i 0)]], .mem 1 29 [.osl (h.length + 5) v 1 0 bs.length], .mem V 3 [.int .i64 frm], O, .mem v 3 (cellsI (bs.map Int.ofNat))] ∧ (arcsTo l width frm to).find? (hit l.length p frm) = none)
            (E := fun e hh => ∃ to c, e = .exit 2 ∧ frm ≤ to ∧ to ≤ l.length ∧ pick l p frm (arcs l width frm) = some to ∧ arc l width frm to = some c ∧ hit l.length p frm (to, c) = true ∧ hh = h ++ [.emp 1, .mem 1 29 [.sl p.length fun i => [.int .i64 (p.getD i 0)]], .mem 1 29 [.osl (h.length + 5) (v + 1) 1 0 (bs.length + 1)], .mem V 3 [.int .i64 ((to : Int) + 1)], .mem (verOf (some O) + 1) 3 [.int .i64 to], .mem (v + 1) 3 (cellsI (bs.map Int.ofNat) ++ [.int .i64 to])]) ?_ ?_ ?_ ?_ ?_ ?_ ?_ ?_
          · rintro to hh ⟨rfl, _⟩
            exact ⟨rfl, fun o ho => .inl ho⟩
          · rintro e hh ⟨to, c, rfl, h1, h2, h3, h4, h5, rfl⟩
            refine Low.of rfl (fun o ho => ?_)
            simp only [List.mem_cons, List.not_mem_nil, or_false] at ho
            rcases ho with rfl | rfl | rfl | rfl | rfl | rfl <;> first | (left; simp; done) | (right; constructor <;> (intro c hc; first | (simp at hc; subst hc; simp [lowV]; done) | exact low_cells hc))
          · rintro to hh h1 h2 h3 ⟨rfl, h4⟩
            refine ⟨rfl, ?_⟩
            rw [arcsTo_succ l width h1, h3, List.append_nil]
            exact h4
          · exact ⟨rfl, by rw [arcsTo_self]; rfl⟩
          · simp [lowV, lowV.lowVs, linesF, items]
          · rintro to c hh tl L h1 h2 h3 ⟨rfl, h4⟩ hlen
            simp only [setsA]
            have hcb := arc_bound hv.ok h3
            have hbd := behind_bound (n := l.length) hbp (by omega) to
            simp (disch := omega) only [List.append_assoc, eq_self, go_sem, wrap64_id, Int.tdiv_eq_ediv_of_nonneg, Int.tmod_eq_emod_of_nonneg]
            repeat' first
              | ((first | refine callA_pure (t41 l.length p to _ plen h2 (by omega)) ?_ ?_); (next => repeat' first | exact flags_n | refine flags_c (by first | rfl | assumption) ?_); simp (disch := omega) only [List.append_assoc, madeA, i0', hbl, go_sem, wrap64_id, Int.tdiv_eq_ediv_of_nonneg, Int.tmod_eq_emod_of_nonneg])
              | ((first | refine callG_pure (fun e => ⟨?_, t41 l.length p to _ plen h2 (by omega)⟩) ?_); (next => repeat' first | exact flags_n | refine flags_c (by first | rfl | assumption) ?_); simp (disch := omega) only [List.append_assoc, madeA, i0', hbl, go_sem, wrap64_id, Int.tdiv_eq_ediv_of_nonneg, Int.tmod_eq_emod_of_nonneg])
              | ((first | refine fnQ_pure1 ?_ ?_ | refine fnQ_pure0 ?_ ?_); (next => repeat' first | exact rvs_n | refine rvs_t ?_ | (simp [go_sem]; done)); simp only [go_sem]; (first | exact VLe.refl _ | refine VLe_int ?_ | refine VLe_bool ?_ | refine VLe_str ?_ | skip))
              | (with_reducible refine And.intro ?_ ?_)
              | with_reducible intro _
            all_goals first
              | omega
              | (rw [bne_iff_ne]; omega)
              | skip
            · rename_i h5
              refine ⟨h ++ [.emp 1, .mem 1 29 [.sl p.length fun i => [.int .i64 (p.getD i 0)]], .mem 1 29 [.osl (h.length + 5) (v + 1) 1 0 (bs.length + 1)], .mem V 3 [.int .i64 ((to : Int) + 1)], .mem (verOf (some O) + 1) 3 [.int .i64 to], .mem (v + 1) 3 (cellsI (bs.map Int.ofNat) ++ [.int .i64 to])], by simp [List.take_of_length_le (Nat.le_of_eq hbl)], by simp, ?_⟩
              have hh5 : hit l.length p frm (to, c) = true := by unfold hit; simpa using h5
              exact ⟨to, c, h1, h2, pick_of l width p h1 h2 h3 h4 hh5, h3, hh5, rfl⟩
            · rename_i h5
              refine ⟨h ++ [.emp 1, .mem 1 29 [.sl p.length fun i => [.int .i64 (p.getD i 0)]], .mem 1 29 [.osl (h.length + 5) v 1 0 bs.length], .mem V 3 [.int .i64 frm], O, .mem v 3 (cellsI (bs.map Int.ofNat))], by simp, by simp, rfl, ?_⟩
              have hh5 : hit l.length p frm (to, c) = false := by unfold hit; simpa using h5
              rw [arcsTo_succ l width h1, h3, List.find?_append, h4]
              simp [hh5]
          · rintro hh ⟨_, h4⟩
            obtain ⟨to, c, h5, _⟩ := hpk
            unfold pick at h5
            rw [arcsTo_all] at h4
            unfold hit at h4
            rw [h4] at h5
            cases h5
          · rintro e hh ⟨to, c, rfl, h1, h2, h3, h4, h5, rfl⟩
            show Ex.inBlock 2 _ (.exit 2) _ _
            simp (disch := omega) only [i0', go_sem, wrap64_id, Int.tdiv_eq_ediv_of_nonneg, Int.tmod_eq_emod_of_nonneg]
            repeat' first
              | (with_reducible refine And.intro ?_ ?_)
              | (with_reducible intro _)
            all_goals first
              | omega
              | skip
            have hst := brk_step (width := width) (p := p) j1 h3
            rw [hst] at j3
            unfold hit at h5
            simp only [decide_eq_true_eq] at h5
            refine hK _ _ (bs ++ [to], to + 1, V + 1, .mem (verOf (some O) + 1) 3 [.int .i64 to], v + 1) ⟨rfl, ?_⟩ (by simp only; omega) ?_
            · simp only
              by_cases hlt : to < l.length
              · left
                rw [if_pos hlt] at j3
                refine ⟨hlt, ?_, by rw [← hp]; simpa using j3, .inr ⟨by simp, by simp, by omega, by simp; omega⟩⟩
                have : behind l.length p to = p.getD (to + 1) 0 := by unfold behind; rw [if_neg (by omega)]
                rw [← hp]
                omega
              · right
                rw [if_neg hlt] at j3
                exact ⟨by omega, by simpa using j3, by simp, by simp; omega, by simp; omega⟩
            · rw [outA_ne (by simp), outO_ne (by simp)]
              have e1 : cellsI ((bs ++ [to]).map Int.ofNat) = cellsI (bs.map Int.ofNat) ++ [.int .i64 to] := by simp [cellsI]
              simp only [← hp, e1, List.length_append, List.length_singleton]
              refine Wk.temps ?_
              simp only [items, ints, spar, List.foldl, List.replicate, go_sem, VLes_nil, VLes_cons, VLe_undef_iff, VLe_self]
              try (repeat' first | (with_reducible refine And.intro ?_ ?_) | (refine VLe_int ?_; omega) | (refine VLe_bool ?_; rfl))
        · have hbl : (cellsI ((brk l width).map Int.ofNat)).length = (brk l width).length := by rw [cellsI_len, List.length_map]
          have eA := outA_ne hne (h.length + 5) v
          have eO := outO_ne hne v
          have hb0 : 0 < (brk l width).length := List.length_pos_iff.2 hne
          have eL : (cellsI ((brk l width).map Int.ofNat))[(brk l width).length - 1]? = some (.int .i64 (l.length : Int)) := by simp [cellsI, hlast]
          have eT : (((brk l width).length : Int) - 1).toNat = (brk l width).length - 1 := by omega
          simp (disch := omega) only [spar, List.foldl, List.replicate, items, ints, eA, eO, hbl, eL, eT, go_sem, wrap64_id, Int.tdiv_eq_ediv_of_nonneg, Int.tmod_eq_emod_of_nonneg]
          repeat' first
            | ((first | refine fnQ_pure1 ?_ ?_ | refine fnQ_pure0 ?_ ?_); (next => repeat' first | exact rvs_n | refine rvs_t ?_ | (simp [go_sem]; done)); simp only [go_sem]; (first | exact VLe.refl _ | refine VLe_int ?_ | refine VLe_bool ?_ | refine VLe_str ?_ | skip))
            | (with_reducible refine And.intro ?_ ?_)
            | with_reducible intro _
          all_goals first
            | omega
            | skip
          rw [if_pos (by rw [hbl]; exact Nat.le_refl _)]
          unfold breakAV
          rw [if_pos hw, if_neg hneg]
          exact VLe_tup (VLes2 (ints_of (by rw [List.length_map])) (VLes2 (VLe.refl _) (VLes2 (VLe.refl _) VLes.nil)))
  · refine acalls_of fn13 (by simp) ?_
    simp only [List.length_cons, List.length_nil, Nat.reduceAdd, Nat.reduceSub, List.replicate, List.cons_append, List.nil_append, List.append_nil]
    simp (disch := omega) only [c13, go_sem, wrap64_id, Int.tdiv_eq_ediv_of_nonneg, Int.tmod_eq_emod_of_nonneg]
    repeat' first
      | ((first | refine callA_pure (t38 l width _ (by omega)) ?_ ?_); (next => repeat' first | exact flags_n | refine flags_c (by first | rfl | assumption) ?_); simp (disch := omega) only [hw, go_sem, wrap64_id, Int.tdiv_eq_ediv_of_nonneg, Int.tmod_eq_emod_of_nonneg])
      | ((first | refine callG_pure (fun e => ⟨?_, t38 l width _ (by omega)⟩) ?_); (next => repeat' first | exact flags_n | refine flags_c (by first | rfl | assumption) ?_); simp (disch := omega) only [hw, go_sem, wrap64_id, Int.tdiv_eq_ediv_of_nonneg, Int.tmod_eq_emod_of_nonneg])
      | ((first | refine fnQ_pure1 ?_ ?_ | refine fnQ_pure0 ?_ ?_); (next => repeat' first | exact rvs_n | refine rvs_t ?_ | (simp [go_sem]; done)); simp only [go_sem]; (first | exact VLe.refl _ | refine VLe_int ?_ | refine VLe_bool ?_ | refine VLe_str ?_ | skip))
      | (with_reducible refine And.intro ?_ ?_)
      | with_reducible intro _
    all_goals first
      | omega
      | skip
    simp only [breakAV, hw, if_false]
    exact VLe_tup (VLes2 ints_nl (VLes2 (VLe.refl _) (VLes2 (VLe.refl _) VLes.nil)))
end

section
/-! the text W9 -/
open Go Go.Proofs AF P48
set_option maxRecDepth 100000
def tri (a : List Int) (n e : Int) : AV := .tup [ints a, .int .i64 n, .int .i64 e]
theorem b70 : breakAV threeS 70 = tri [3, 5] 0 0 := by
  have e1 : checkW threeS 70 = 0 := by decide +kernel
  have e2 : (pots threeS 70).getD 0 0 = 0 := by decide +kernel
  have e3 : brk threeS 70 = [3, 5] := by decide +kernel
  unfold breakAV tri
  rw [if_pos e1, e2, if_neg (by omega), e3]
  rfl
theorem b72 : breakAV threeS 72 = tri [3, 5] 6 0 := by
  have e1 : checkW threeS 72 = 0 := by decide +kernel
  have e2 : (pots threeS 72).getD 0 0 = 6 := by decide +kernel
  have e3 : brk threeS 72 = [3, 5] := by decide +kernel
  unfold breakAV tri
  rw [if_pos e1, e2, if_neg (by omega), e3]
  rfl
theorem b5 : breakAV [] 5 = tri [0] 0 0 := by
  have e1 : checkW [] 5 = 0 := by decide +kernel
  have e2 : (pots [] 5).getD 0 0 = 0 := by decide +kernel
  have e3 : brk [] 5 = [0] := by decide +kernel
  unfold breakAV tri
  rw [if_pos e1, e2, if_neg (by omega), e3]
  rfl
theorem t13a (h : List AObj) : ACalls Try.prog 13 [items threeS, .int .i64 70] h (tri [3, 5] 0 0) h := by rw [← b70]; exact t13 _ _ _ (by decide)
theorem t13b (h : List AObj) : ACalls Try.prog 13 [items threeS, .int .i64 72] h (tri [3, 5] 6 0) h := by rw [← b72]; exact t13 _ _ _ (by decide)
theorem t13c (h : List AObj) : ACalls Try.prog 13 [.nl, .int .i64 5] h (tri [0] 0 0) h := by
  rw [← b5]
  exact (t13 [] 5 h (by decide)).le (VLes2 VLe_nl (VLes.refl _)) (VLe.refl _)
theorem t28b (a b : List Int) (k v : Nat) (ty : TypeId) (n : Nat) (h : List AObj) (hk : getO k h = some (.mem v ty (cellsI b))) (hn : b.length = n) (ha : a.length ≤ 1000000) :
    ACalls Try.prog 28 [ints a, .osl k v 1 0 n] h (.bool (decide (a = b))) h := by
  refine ACalls.borrow ?_ rfl
  refine ACalls.le (t28 a b [] ha) ?_ (VLe.refl _)
  simp only [List.map_cons, List.map_nil, rei_osl, if_true, hk, slOf]
  rw [if_pos ⟨by trivial, by rw [cellsI_len]; omega⟩]
  simp only [Nat.zero_add, Nat.mul_one]
  exact VLes2 (VLe.refl _) (VLes2 (ints_of hn) VLes.nil)
theorem t11 (h : List AObj) : ACalls Try.prog 11 [] h (.bool true) h := by
  have c35 : ([AV.int .i64 3, .int .i64 5] : List AV) = cellsI [3, 5] := rfl
  have c0 : ([AV.int .i64 0] : List AV) = cellsI [0] := rfl
  have hm : max (max (0 : Int) 0) 0 = 0 := by decide
  refine acalls_of fn11 (by simp) ?_
  simp only [List.length_cons, List.length_nil, Nat.reduceAdd, Nat.reduceSub, List.replicate, List.cons_append, List.nil_append, List.append_nil]
  simp (disch := omega) only [c11, tri, madeA, hm, go_sem, wrap64_id, Int.tdiv_eq_ediv_of_nonneg, Int.tmod_eq_emod_of_nonneg]
  repeat' first
    | ((first | refine callA_pure (t37 _) ?_ ?_ | refine callA_pure (t13a _) ?_ ?_ | refine callA_pure (t13b _) ?_ ?_ | refine callA_pure (t13c _) ?_ ?_ | refine callA_pure (t28b [3, 5] [3, 5] _ 1 3 2 _ (by simp only [go_sem]; rfl) rfl (by decide)) ?_ ?_ | refine callA_pure (t28b [0] [0] _ 1 3 1 _ (by simp only [go_sem]; rfl) rfl (by decide)) ?_ ?_); (next => repeat' first | exact flags_n | refine flags_c (by first | rfl | assumption) ?_); simp (disch := omega) only [tri, madeA, hm, eq_self, go_sem, wrap64_id, Int.tdiv_eq_ediv_of_nonneg, Int.tmod_eq_emod_of_nonneg])
    | ((first | refine callG_pure (fun e => ⟨?_, t37 _⟩) ?_ | refine callG_pure (fun e => ⟨?_, t13a _⟩) ?_ | refine callG_pure (fun e => ⟨?_, t13b _⟩) ?_ | refine callG_pure (fun e => ⟨?_, t13c _⟩) ?_ | refine callG_pure (fun e => ⟨?_, t28b [3, 5] [3, 5] _ 1 3 2 _ (by simp only [go_sem]; rfl) rfl (by decide)⟩) ?_ | refine callG_pure (fun e => ⟨?_, t28b [0] [0] _ 1 3 1 _ (by simp only [go_sem]; rfl) rfl (by decide)⟩) ?_); (next => repeat' first | exact flags_n | refine flags_c (by first | rfl | assumption) ?_); simp (disch := omega) only [tri, madeA, hm, eq_self, go_sem, wrap64_id, Int.tdiv_eq_ediv_of_nonneg, Int.tmod_eq_emod_of_nonneg])
    | ((first | refine fnQ_pure1 ?_ ?_ | refine fnQ_pure0 ?_ ?_); (next => repeat' first | exact rvs_n | refine rvs_t ?_ | (simp [go_sem]; done)); simp only [go_sem]; (first | exact VLe.refl _ | refine VLe_int ?_ | refine VLe_bool ?_ | refine VLe_str ?_ | skip))
    | (with_reducible refine And.intro ?_ ?_)
    | with_reducible intro _
  all_goals first
    | omega
    | trace_state
end

section
/-! the text W10 -/
open Go Go.Proofs AF P48
set_option maxRecDepth 100000

theorem cellsIt_drop (l : List It) (i : Nat) (hi : i < l.length) (j : Nat) (hj : j < 6) : (cellsIt l)[i * 6 + j]? = (itemC (it l i))[j]? := by
  induction l generalizing i with
  | nil => simp at hi
  | cons x l ih =>
    unfold cellsIt at ih ⊢
    rw [List.flatMap_cons]
    cases i with
    | zero =>
      rw [List.getElem?_append_left (by rw [len_itemC]; omega)]
      simp [it]
    | succ i =>
      rw [List.getElem?_append_right (by rw [len_itemC]; omega), len_itemC, show (i + 1) * 6 + j - 6 = i * 6 + j by omega, ih i (by simpa using hi)]
      simp [it]
theorem cellsIt_set (l : List It) (i : Nat) (hi : i < l.length) (p : Int) : (cellsIt l).take (i * 6 + 4) ++ [.int .i64 p] ++ (cellsIt l).drop (i * 6 + 4 + 1) = cellsIt (l.set i { it l i with penalty := p }) := by
  induction l generalizing i with
  | nil => simp at hi
  | cons x l ih =>
    unfold cellsIt at ih ⊢
    cases i with
    | zero => simp [it, itemC]
    | succ i =>
      rw [List.flatMap_cons, List.set_cons_succ, List.flatMap_cons]
      have := ih i (by simpa using hi)
      rw [List.take_append, List.drop_append, len_itemC, List.take_of_length_le (by rw [len_itemC]; omega), List.drop_eq_nil_of_le (by rw [len_itemC]; omega), List.nil_append,
        show (i + 1) * 6 + 4 - 6 = i * 6 + 4 by omega, show (i + 1) * 6 + 4 + 1 - 6 = i * 6 + 4 + 1 by omega]
      have e : it (x :: l) (i + 1) = it l i := by simp [it]
      rw [e, ← this]
      simp
def mix (d : Int) (l : List It) (i : Nat) : List It := (l.take i).map (dear1 d) ++ l.drop i
theorem mix_zero (d : Int) (l : List It) : mix d l 0 = l := by simp [mix]
theorem mix_all (d : Int) (l : List It) : mix d l l.length = dear d l := by simp [mix, dear]
theorem mix_len (d : Int) (l : List It) (i : Nat) : (mix d l i).length = l.length := by simp [mix]; omega
theorem mix_it (d : Int) {l : List It} {i : Nat} (h : i < l.length) : it (mix d l i) i = it l i := by
  unfold mix it
  rw [List.getD_eq_getElem?_getD, List.getD_eq_getElem?_getD, List.getElem?_append_right (by simp; omega)]
  simp [Nat.min_eq_left (Nat.le_of_lt h)]
theorem mix_succ (d : Int) {l : List It} {i : Nat} (h : i < l.length) : mix d l (i + 1) = (mix d l i).set i (dear1 d (it l i)) := by
  unfold mix
  rw [List.set_append_right _ _ (by simp; omega), drop_it h]
  simp only [List.length_map, List.length_take, Nat.min_eq_left (Nat.le_of_lt h), Nat.sub_self, List.set_cons_zero]
  rw [List.take_add_one]
  simp only [List.getElem?_eq_getElem h, Option.toList_some, List.map_append, List.map_cons, List.map_nil, List.append_assoc, List.cons_append, List.nil_append, it_eq h]

theorem its_of {L : List It} {n m : Nat} {fz : Nat → Bool} {h : List AObj} (e : L.length = m) : VLe (.sl m fun i => (((cellsIt L).drop (i * 6)).take 6).map (rei fz h (n + 1))) (items L) := by
  subst e
  refine VLe_sl rfl (fun i hi => ?_)
  rw [← cellsIt_range, chunk (fun j _ => len_itemC _) hi]
  rfl
theorem fine_spec {l : List It} {width : Int} (h : fine l width = true) : l.length ≤ 14 ∧ check l = 0 ∧ 0 ≤ width ∧ width ≤ 1073741824 := by
  unfold fine great isLen at h
  simp at h
  omega
theorem cntT_succ (d : Int) {l : List It} {i : Nat} (h : i < l.length) : (((l.take (i + 1)).filter (dearer d)).length : Int) = ((l.take i).filter (dearer d)).length + (if dearer d (it l i) then 1 else 0) := by
  rw [List.take_add_one]
  simp only [h, List.getElem?_eq_getElem, Option.toList_some, List.filter_append, List.length_append, it_eq h]
  simp only [List.filter_cons, List.filter_nil]
  split <;> simp

theorem law3 (l : List It) (width more : Int) (h : List AObj) (hl : l.length ≤ 9223372036854775807) (m0 : 0 ≤ more) (m1 : more ≤ 65535) : ACalls Try.prog 3 [items l, .int .i64 width, .int .u16 more] h (.bool true) h := by
  cases hf : fine l width with
  | false =>
    refine acalls_of fn3m (by simp) ?_
    simp only [List.length_cons, List.length_nil, Nat.reduceAdd, Nat.reduceSub, List.replicate, List.cons_append, List.nil_append, List.append_nil]
    simp (disch := omega) only [c3m, hf, go_sem, wrap64_id, Int.tdiv_eq_ediv_of_nonneg, Int.tmod_eq_emod_of_nonneg]
    repeat' first
      | ((first | refine callA_pure (t10 l width _ hl) ?_ ?_ | refine callA_pure (t11 _) ?_ ?_); (next => repeat' first | exact flags_n | refine flags_c (by first | rfl | assumption) ?_); simp (disch := omega) only [hf, go_sem, wrap64_id, Int.tdiv_eq_ediv_of_nonneg, Int.tmod_eq_emod_of_nonneg])
      | ((first | refine callG_pure (fun e => ⟨?_, t10 l width _ hl⟩) ?_ | refine callG_pure (fun e => ⟨?_, t11 _⟩) ?_); (next => repeat' first | exact flags_n | refine flags_c (by first | rfl | assumption) ?_); simp (disch := omega) only [hf, go_sem, wrap64_id, Int.tdiv_eq_ediv_of_nonneg, Int.tmod_eq_emod_of_nonneg])
      | ((first | refine fnQ_pure1 ?_ ?_ | refine fnQ_pure0 ?_ ?_); (next => repeat' first | exact rvs_n | refine rvs_t ?_ | (simp [go_sem]; done)); simp only [go_sem]; (first | exact VLe.refl _ | refine VLe_int ?_ | refine VLe_bool ?_ | refine VLe_str ?_ | skip))
      | (with_reducible refine And.intro ?_ ?_)
      | with_reducible intro _
  | true =>
    obtain ⟨l14, hc, w0, w1⟩ := fine_spec hf
    have hv := Valid.of (by omega) hc
    refine acalls_of fn3m (by simp) ?_
    simp only [List.length_cons, List.length_nil, Nat.reduceAdd, Nat.reduceSub, List.replicate, List.cons_append, List.nil_append, List.append_nil]
    simp (disch := omega) only [c3m, hf, go_sem, wrap64_id, Int.tdiv_eq_ediv_of_nonneg, Int.tmod_eq_emod_of_nonneg]
    repeat' first
      | ((first | refine callA_pure (t10 l width _ hl) ?_ ?_); (next => repeat' first | exact flags_n | refine flags_c (by first | rfl | assumption) ?_); simp (disch := omega) only [hf, go_sem, wrap64_id, Int.tdiv_eq_ediv_of_nonneg, Int.tmod_eq_emod_of_nonneg])
      | ((first | refine callG_pure (fun e => ⟨?_, t10 l width _ hl⟩) ?_); (next => repeat' first | exact flags_n | refine flags_c (by first | rfl | assumption) ?_); simp (disch := omega) only [hf, go_sem, wrap64_id, Int.tdiv_eq_ediv_of_nonneg, Int.tmod_eq_emod_of_nonneg])
      | ((first | refine fnQ_pure1 ?_ ?_ | refine fnQ_pure0 ?_ ?_); (next => repeat' first | exact rvs_n | refine rvs_t ?_ | (simp [go_sem]; done)); simp only [go_sem]; (first | exact VLe.refl _ | refine VLe_int ?_ | refine VLe_bool ?_ | refine VLe_str ?_ | skip))
      | (with_reducible refine And.intro ?_ ?_)
      | with_reducible intro _
    all_goals first
      | omega
      | skip
    obtain ⟨D, hD⟩ : ∃ D, D = more % 1001 := ⟨_, rfl⟩
    have hD1 : 0 ≤ D ∧ D ≤ 1000 := by omega
    rw [← hD]
    by_cases h0 : l.length = 0
    · have e : l = [] := List.eq_nil_of_length_eq_zero h0
      subst e
      refine callA_pure (t12e _) ⟨rfl, trivial⟩ ?_
      simp (disch := omega) only [items, go_sem, wrap64_id, Int.tdiv_eq_ediv_of_nonneg, Int.tmod_eq_emod_of_nonneg]
      refine loop_of (T := fun _ : Unit => spar 96 [(0, items []), (1, .int .i64 width), (7, .int .i64 D), (8, items []), (9, .int .i64 0), (28, items []), (29, .int .i64 0), (30, .int .i64 0)])
        (H := fun _ => h ++ [.emp 0, .emp 0]) (inv := fun _ => True) (m := fun _ => 0) () trivial (Wk.temps ?_) ?_
      · simp only [items, spar, List.foldl, List.replicate, go_sem, VLes_nil, VLes_cons, VLe_undef_iff, VLe_self]
        try (repeat' first | (with_reducible refine And.intro ?_ ?_) | (refine VLe_int ?_; omega) | (refine VLe_bool ?_; rfl))
      · rintro _ _ K hK
        simp (disch := omega) only [spar, items, itemC, List.foldl, List.replicate, go_sem, wrap64_id, Int.tdiv_eq_ediv_of_nonneg, Int.tmod_eq_emod_of_nonneg]
        refine ⟨fun hc => absurd hc (by simp), fun _ => ?_⟩
        show ∃ t' h', Wk _ _ t' h' ∧ _
        refine ⟨spar 96 [(0, items []), (1, .int .i64 width), (7, .int .i64 D), (8, items []), (9, .int .i64 0)], _, Wk.temps ?_, ?_⟩
        · simp only [items, itemC, spar, List.foldl, List.replicate, go_sem, VLes_nil, VLes_cons, VLe_undef_iff, VLe_self]
          try (repeat' first | (with_reducible refine And.intro ?_ ?_) | (refine VLe_int ?_; omega) | (refine VLe_bool ?_; rfl))
        · have hb1 := potsGo_bound hv.ok width 1 0
          have cA : ∃ A a e, breakAV [] width = tri A a e ∧ -1 ≤ a ∧ a ≤ 10000000 := by
            unfold breakAV; split
            · split
              · exact ⟨_, _, _, rfl, by omega, by omega⟩
              · exact ⟨_, _, _, rfl, hb1.1, Int.le_trans hb1.2 (by omega)⟩
            · exact ⟨_, _, _, rfl, by omega, by omega⟩
          obtain ⟨A, a, e, k1, k2, k3⟩ := cA
          have cA : ∀ h, ACalls Try.prog 13 [items [], .int .i64 width] h (tri A a e) h := fun h => by rw [← k1]; exact t13 _ _ _ (by simp)
          simp (disch := omega) only [spar, List.foldl, List.replicate, go_sem, wrap64_id, Int.tdiv_eq_ediv_of_nonneg, Int.tmod_eq_emod_of_nonneg]
          repeat' first
            | ((first | refine callA_pure (cA _) ?_ ?_ | refine callA_pure (t11 _) ?_ ?_); (next => repeat' first | exact flags_n | refine flags_c (by first | rfl | assumption) ?_); simp (disch := omega) only [tri, go_sem, wrap64_id, Int.tdiv_eq_ediv_of_nonneg, Int.tmod_eq_emod_of_nonneg])
            | ((first | refine callG_pure (fun e => ⟨?_, cA _⟩) ?_ | refine callG_pure (fun e => ⟨?_, t11 _⟩) ?_); (next => repeat' first | exact flags_n | refine flags_c (by first | rfl | assumption) ?_); simp (disch := omega) only [tri, go_sem, wrap64_id, Int.tdiv_eq_ediv_of_nonneg, Int.tmod_eq_emod_of_nonneg])
            | ((first | refine fnQ_pure1 ?_ ?_ | refine fnQ_pure0 ?_ ?_); (next => repeat' first | exact rvs_n | refine rvs_t ?_ | (simp [go_sem]; done)); simp only [go_sem]; (first | exact VLe.refl _ | refine VLe_int ?_ | refine VLe_bool ?_ | refine VLe_str ?_ | skip))
            | (with_reducible refine And.intro ?_ ?_)
            | with_reducible intro _
          all_goals first
            | omega
            | skip
          simp (disch := omega) only [Int.mul_zero, Int.add_zero, wrap64_id, Bool.and_eq_true, decide_eq_true_eq]
          omega
    · refine callA_eff (t12 l _ (h.length + 1) (by simp only [go_sem]) h0 (by omega)) ⟨rfl, trivial⟩ ?_
      simp (disch := omega) only [items, go_sem, wrap64_id, Int.tdiv_eq_ediv_of_nonneg, Int.tmod_eq_emod_of_nonneg]
      refine loop_of (T := fun i : Nat × AObj => spar 96 [(0, items l), (1, .int .i64 width), (7, .int .i64 D), (8, .osl (h.length + 1) 1 6 0 l.length), (9, .int .i64 ((l.take i.1).filter (dearer D)).length), (28, items l), (29, .int .i64 l.length), (30, .int .i64 i.1)])
        (H := fun i => h ++ [i.2, .mem 1 28 (cellsIt (mix D l i.1))])
        (inv := fun i => i.1 ≤ l.length ∧ site [i.2] 0 = true) (m := fun i => l.length - i.1) (0, .emp 0) ⟨by simp only; omega, rfl⟩ ?_ ?_
      · simp only [mix_zero]
        refine Wk.temps ?_
        simp only [items, spar, List.foldl, List.replicate, go_sem, VLes_nil, VLes_cons, VLe_undef_iff, VLe_self]
        try (repeat' first | (with_reducible refine And.intro ?_ ?_) | (refine VLe_int ?_; omega) | (refine VLe_bool ?_; rfl))
        exact VLe_int rfl
      · rintro ⟨i, O⟩ ⟨i1, i2⟩ K hK
        simp only at i1 i2 hK
        have i2' : ∀ m, site (O :: m) 0 = true := fun _ => i2
        by_cases hi : i < l.length
        · have ml := mix_len D l i
          have e4 := cellsIt_drop (mix D l i) i (by omega) 4 (by omega)
          rw [mix_it D hi] at e4
          have eS := cellsIt_set (mix D l i) i (by omega)
          rw [mix_it D hi] at eS
          have eL : (cellsIt (mix D l i)).length = l.length * 6 := by rw [cellsIt_len, ml]
          have e5 : (itemC (it l i))[4]? = some (.int .i64 (it l i).penalty) := rfl
          rw [e5] at e4
          have hpn := (hv.num i).2.2.2
          have hct : ((l.take i).filter (dearer D)).length ≤ 300 := Nat.le_trans (List.length_filter_le _ _) (Nat.le_trans (List.length_take_le _ _) (by omega))
          simp (disch := omega) only [spar, items, itemC, List.foldl, List.replicate, i2', e4, eS, eL, go_sem, wrap64_id, Int.tdiv_eq_ediv_of_nonneg, Int.tmod_eq_emod_of_nonneg]
          repeat' first
            | (with_reducible refine And.intro ?_ ?_)
            | (with_reducible intro _)
          all_goals first
            | omega
            | skip
          · rename_i hcd
            have hde : dearer D (it l i) = true := by unfold dearer; simp only [Bool.and_eq_true, decide_eq_true_eq]; omega
            have ecn := cntT_succ D hi
            rw [hde, if_pos rfl] at ecn
            refine hK _ _ (i + 1, .mem (verOf (some O) + 1) 28 (itemC (it l i))) ⟨hi, rfl⟩ (by simp only; omega) ?_
            simp only [mix_succ D hi, dear1, hde, if_true, ecn]
            refine Wk.temps ?_
            simp only [items, itemC, spar, List.foldl, List.replicate, go_sem, VLes_nil, VLes_cons, VLe_undef_iff, VLe_self]
            try (repeat' first | (with_reducible refine And.intro ?_ ?_) | (refine VLe_int ?_; omega) | (refine VLe_bool ?_; rfl))
          · rename_i hcd
            have hde : dearer D (it l i) = false := by
              cases hx : dearer D (it l i) with
              | false => rfl
              | true => unfold dearer at hx; simp only [Bool.and_eq_true, decide_eq_true_eq] at hx; omega
            have ecn := cntT_succ D hi
            rw [hde] at ecn
            simp only [Bool.false_eq_true, if_false, Int.add_zero] at ecn
            refine hK _ _ (i + 1, .mem (verOf (some O) + 1) 28 (itemC (it l i))) ⟨hi, rfl⟩ (by simp only; omega) ?_
            have es : (mix D l i).set i (it l i) = mix D l i := by
              rw [← mix_it D hi, it_eq (by omega)]; exact List.set_getElem_self _
            simp only [mix_succ D hi, dear1, hde, Bool.false_eq_true, if_false, ecn, es]
            refine Wk.temps ?_
            simp only [items, itemC, spar, List.foldl, List.replicate, go_sem, VLes_nil, VLes_cons, VLe_undef_iff, VLe_self]
            try (repeat' first | (with_reducible refine And.intro ?_ ?_) | (refine VLe_int ?_; omega) | (refine VLe_bool ?_; rfl))
        · have e : i = l.length := by omega
          subst e
          have eL : (cellsIt (mix D l l.length)).length = l.length * 6 := by rw [cellsIt_len, mix_len]
          simp (disch := omega) only [spar, items, itemC, List.foldl, List.replicate, i2', go_sem, wrap64_id, Int.tdiv_eq_ediv_of_nonneg, Int.tmod_eq_emod_of_nonneg]
          refine ⟨fun hc => absurd hc (by omega), fun _ => ?_⟩
          show ∃ t' h', Wk _ _ t' h' ∧ _
          refine ⟨spar 96 [(0, items l), (1, .int .i64 width), (7, .int .i64 D), (8, items (dear D l)), (9, .int .i64 (cnt D l 0))], h ++ [O, .emp 2], ?_, ?_⟩
          · refine Wk.trans (Wk.temps (t' := spar 96 [(0, items l), (1, .int .i64 width), (7, .int .i64 D), (8, .osl (h.length + 1) 1 6 0 l.length), (9, .int .i64 (cnt D l 0))]) ?_) (Wk.trans (Wk.freeze [h.length + 1] ?_) ?_)
            · simp only [items, itemC, spar, List.foldl, List.replicate, go_sem, VLes_nil, VLes_cons, VLe_undef_iff, VLe_self]
              try (repeat' first | (with_reducible refine And.intro ?_ ?_) | (refine VLe_int ?_; omega) | (refine VLe_bool ?_; rfl))
              exact VLe_int (by simp [cnt])
            · simp only [sitesOk, go_sem]
            · simp only [killO, go_sem]
              refine Wk.temps ?_
              simp only [items, itemC, spar, List.foldl, List.replicate, go_sem, VLes_nil, VLes_cons, VLe_undef_iff, VLe_self]
              try (repeat' first | (with_reducible refine And.intro ?_ ?_) | (refine VLe_int ?_; omega) | (refine VLe_bool ?_; rfl))
              simp only [List.contains_cons, beq_self_eq_true, Bool.true_or, if_true, mix_all, cellsIt_len, dear_len, Nat.le_refl]
              have hits := @its_of (dear D l) 6 l.length (fun k => k == h.length + 1 || [].contains k) (h ++ [O, AObj.mem 1 28 (cellsIt (dear D l))]) (dear_len D l)
              unfold items at hits
              rw [dear_len] at hits
              exact hits
          · have hcd := dear_check (d := D) hD1.1 hc
            have hdp := dear_pots hD1.1 (width := width) hc l.length 0 (by omega) (by omega)
            simp only at hdp
            have hcw : checkW l width = 0 := by unfold checkW isLen; simp [hc, w0, w1]
            have hcw' : checkW (dear D l) width = 0 := by unfold checkW isLen; simp [hcd, w0, w1]
            have hcn0 := cnt_nonneg D l 0
            have hcn : cnt D l 0 ≤ 14 := by unfold cnt; have := List.length_filter_le (dearer D) (l.drop 0); simp at this ⊢; omega
            have hmul0 := Int.mul_nonneg hD1.1 hcn0
            have hmul := Int.mul_le_mul hD1.2 hcn hcn0 (by omega)
            have hb1 := potsGo_bound hv.ok width (l.length + 1) 0
            have hb2 := potsGo_bound (Valid.of (by rw [dear_len]; omega) hcd).ok width ((dear D l).length + 1) 0
            rw [dear_len] at hb2
            have key : ∃ A B a b e, breakAV l width = tri A a e ∧ breakAV (dear D l) width = tri B b e ∧ 0 ≤ a ∧ a ≤ b ∧ b ≤ a + D * cnt D l 0 ∧ b ≤ 10000000 := by
              rcases hdp with ⟨h1, h2⟩ | ⟨h1, h2, h3⟩
              · refine ⟨[], [], 0, 0, 23, ?_, ?_, by omega, by omega, by omega, by omega⟩
                · unfold breakAV; rw [if_pos hcw, if_pos (by omega)]; rfl
                · unfold breakAV; rw [if_pos hcw', if_pos (by omega)]; rfl
              · refine ⟨(brk l width).map Int.ofNat, (brk (dear D l) width).map Int.ofNat, _, _, 0, ?_, ?_, h1, h2, h3, ?_⟩
                · unfold breakAV; rw [if_pos hcw, if_neg (by omega)]; rfl
                · unfold breakAV; rw [if_pos hcw', if_neg (by omega)]; rfl
                · unfold pots; rw [dear_len]; omega
            obtain ⟨A, B, a, b, e, k1, k2, k3, k4, k5, k6⟩ := key
            have cA : ∀ h, ACalls Try.prog 13 [items l, .int .i64 width] h (tri A a e) h := fun h => by rw [← k1]; exact t13 _ _ _ (by omega)
            have cB : ∀ h, ACalls Try.prog 13 [items (dear D l), .int .i64 width] h (tri B b e) h := fun h => by rw [← k2]; exact t13 _ _ _ (by rw [dear_len]; omega)
            simp (disch := omega) only [spar, List.foldl, List.replicate, go_sem, wrap64_id, Int.tdiv_eq_ediv_of_nonneg, Int.tmod_eq_emod_of_nonneg]
            repeat' first
              | ((first | refine callA_pure (cA _) ?_ ?_ | refine callA_pure (cB _) ?_ ?_ | refine callA_pure (t11 _) ?_ ?_); (next => repeat' first | exact flags_n | refine flags_c (by first | rfl | assumption) ?_); simp (disch := omega) only [tri, go_sem, wrap64_id, Int.tdiv_eq_ediv_of_nonneg, Int.tmod_eq_emod_of_nonneg])
              | ((first | refine callG_pure (fun e => ⟨?_, cA _⟩) ?_ | refine callG_pure (fun e => ⟨?_, cB _⟩) ?_ | refine callG_pure (fun e => ⟨?_, t11 _⟩) ?_); (next => repeat' first | exact flags_n | refine flags_c (by first | rfl | assumption) ?_); simp (disch := omega) only [tri, go_sem, wrap64_id, Int.tdiv_eq_ediv_of_nonneg, Int.tmod_eq_emod_of_nonneg])
              | ((first | refine fnQ_pure1 ?_ ?_ | refine fnQ_pure0 ?_ ?_); (next => repeat' first | exact rvs_n | refine rvs_t ?_ | (simp [go_sem]; done)); simp only [go_sem]; (first | exact VLe.refl _ | refine VLe_int ?_ | refine VLe_bool ?_ | refine VLe_str ?_ | skip))
              | (with_reducible refine And.intro ?_ ?_)
              | with_reducible intro _
            all_goals first
              | omega
              | skip
            simp only [Bool.and_eq_true, decide_eq_true_eq]
            omega
end

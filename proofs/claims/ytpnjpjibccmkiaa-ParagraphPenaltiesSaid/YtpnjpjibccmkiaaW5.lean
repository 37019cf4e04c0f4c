import Derived.Test.YtpnjpjibccmkiaaW4
import Derived.Test.YtpnjpjibccmkiaaAfL
set_option linter.all false
set_option linter.unusedSimpArgs false
set_option linter.unusedVariables false
set_option linter.unusedSectionVars false
open Go Go.Proofs AF P48
set_option maxRecDepth 100000

theorem getO_mid {hh tl : List AObj} {o : AObj} {k : Nat} (h : hh.length = k) : getO k (hh ++ o :: tl) = some o := by subst h; exact getO_app0
theorem setO_mid {hh tl : List AObj} {o o' : AObj} {k : Nat} (h : hh.length = k) : setO k (hh ++ o :: tl) o' = hh ++ o' :: tl := by subst h; exact setO_app0

section
variable {l : List It} {width : Int} {frm : Nat} (hv : Valid l) (w0 : 0 ≤ width) (w1 : width ≤ 1073741824) (hf : frm ≤ l.length)
  {h : List AObj} {ts : List AV} {b : Nat} {x y : C} {Q : Ex → Nx} {p1 p2 : Nat} (S : Nat → List AObj → Prop) (E : Ex → List AObj → Prop)
  (hS : ∀ i hh, S i hh → Low h hh) (hE : ∀ s hh, E s hh → Low h hh)
  (skip : ∀ to hh, frm ≤ to → to ≤ l.length → arc l width frm to = none → S to hh → S (to + 1) hh)
  (start : S frm h) (hts : ∀ c ∈ ts, lowV (h.length + 1) c = true)
  (body : ∀ to c hh tl L, frm ≤ to → to ≤ l.length → arc l width frm to = some c → S to hh → hh.length = h.length →
    codeA Try.prog b x (fun e t2 h2 => e = .normal ∧ h2 = hh ++ .lp .ready ts L :: tl ∧
      codeA Try.prog b y (fun e t3 h3 => ∃ hh', h3 = hh' ++ .lp .busy ts L :: tl ∧ hh'.length = h.length ∧ match e with
        | .normal => S (to + 1) hh'
        | e => E e hh') t2 (hh ++ .lp .busy ts L :: tl)) (setsA ts [p1, p2] [.int .i64 to, .int .i64 c]) (hh ++ .lp .ready ts L :: tl))
  (done : ∀ hh, S (l.length + 1) hh → Q .normal ts hh) (doneE : ∀ e hh, E e hh → match e with
    | .normal => False
    | e => Q e ts hh)
include hv w0 w1 hf hS hE skip start hts body done doneE

theorem range_lines : rangeA Try.prog (linesF l width frm) [p1, p2] (codeA Try.prog b x) (codeA Try.prog b y) Q ts h := by
  intro L hy
  show ACallsQ _ _ _ _ _
  have key := t74 (S := S) (E := fun s hh => match s with
    | .ret => E .ret hh
    | .exit id => E (.exit id) hh
    | _ => False) hv w0 w1 hf (h := h) (ts := ts) (L := L) hS
    (by
      intro s hh hs
      cases s with
      | ret => exact hE _ _ hs
      | exit id => exact hE _ _ hs
      | ready => exact hs.elim
      | busy => exact hs.elim)
    (by
      intro to c hh tl i1 i2 i3 i4
      have hlen := (hS _ _ i4).1
      refine hy h.length ts _ _ _ (getO_mid hlen) rfl ?_
      have hb := body to c hh tl L i1 i2 i3 i4 hlen
      refine codeA_mono ?_ hb
      rintro e t2 h2 ⟨rfl, rfl, h3⟩
      refine ⟨rfl, ⟨ts, getO_mid hlen⟩, fun ts' hts' => ?_⟩
      rw [getO_mid hlen] at hts'
      cases hts'
      rw [setO_mid hlen]
      refine codeA_mono ?_ h3
      rintro e t3 h3' ⟨hh', rfl, g1, g2⟩
      refine ⟨ts, getO_mid g1, ?_⟩
      cases e with
      | normal => exact ⟨hh', .inl ⟨rfl, g2, setO_mid g1⟩⟩
      | ret => exact ⟨hh', .inr ⟨.ret, rfl, g2, setO_mid g1⟩⟩
      | exit id => exact ⟨hh', .inr ⟨.exit id, rfl, g2, setO_mid g1⟩⟩)
    skip start hts
  refine key.le (VLes.refl _) ?_
  rintro v h' ⟨hh, ⟨g1, rfl⟩ | ⟨s, g1, rfl⟩⟩
  · have hl := hS _ _ g1
    exact ⟨v, VLe.refl _, hh, .ready, ts, L, rfl, hl.1, fun o ho => (hl.2 o ho).imp (fun h => h) And.left, done hh g1⟩
  · cases s with
    | ready => exact g1.elim
    | busy => exact g1.elim
    | ret =>
      have hl := hE _ _ g1
      exact ⟨v, VLe.refl _, hh, .ret, ts, L, rfl, hl.1, fun o ho => (hl.2 o ho).imp (fun h => h) And.left, doneE _ _ g1⟩
    | exit id =>
      have hl := hE _ _ g1
      exact ⟨v, VLe.refl _, hh, .exit id, ts, L, rfl, hl.1, fun o ho => (hl.2 o ho).imp (fun h => h) And.left, doneE _ _ g1⟩
end

def cellsI (p : List Int) : List AV := p.map (AV.int .i64)
theorem cellsI_len (p : List Int) : (cellsI p).length = p.length := by simp [cellsI]
theorem ints_of {p : List Int} {fz : Nat → Bool} {h : List AObj} {n m : Nat} (e : p.length = m) : VLe (.sl m (fun i => ((List.drop i (cellsI p)).take 1).map (rei fz h (n + 1)))) (ints p) := by
  subst e
  refine VLe_sl rfl (fun i hi => ?_)
  unfold cellsI
  rw [List.drop_eq_getElem_cons (by simpa using hi)]
  simp [rei, hi]
theorem t41b (n : Nat) (p : List Int) (i k v : Nat) (ty : TypeId) (h : List AObj) (hk : getO k h = some (.mem v ty (cellsI p))) (hp : p.length = n + 1) (hi : i ≤ n) (hn : n ≤ 1000000) :
    ACalls Try.prog 41 [.osl k v 1 0 (n + 1), .int .i64 i] h (.int .i64 (behind n p i)) h := by
  refine ACalls.borrow ?_ rfl
  refine ACalls.le (t41 n p i [] hp hi hn) ?_ (VLe.refl _)
  simp only [List.map_cons, List.map_nil, rei_int, rei_osl, if_true, hk, slOf]
  rw [if_pos ⟨by trivial, by rw [cellsI_len]; omega⟩]
  simp only [Nat.zero_add, Nat.mul_one]
  exact VLes2 (ints_of hp) (VLes2 (VLe.refl _) VLes.nil)
theorem cells_set (p : List Int) (i : Nat) (v : Int) (hi : i < p.length) : (cellsI p).take i ++ [.int .i64 v] ++ (cellsI p).drop (i + 1) = cellsI (p.set i v) := by
  unfold cellsI
  rw [List.set_eq_take_append_cons_drop, if_pos hi]
  simp [List.map_take, List.map_drop]
theorem madeA_int (n : Nat) : madeA [.int .i64 0] n = cellsI (List.replicate n 0) := by
  induction n with
  | zero => rfl
  | succ n ih => simp [madeA, ih, cellsI, List.replicate_succ]

theorem Low.last {g : List AObj} {o : AObj} {v : Nat} {ty : TypeId} {cs : List AV} (hc : ∀ n, ∀ c ∈ cs, lowV n c = true) : Low (g ++ [o]) (g ++ [.mem v ty cs]) := by
  refine ⟨by simp, fun x hx => ?_⟩
  rcases List.mem_append.1 hx with hx | hx
  · exact .inl (List.mem_append_left _ hx)
  · rw [List.mem_singleton] at hx
    subst hx
    exact .inr ⟨hc _, hc _⟩

def arcsTo (l : List It) (width : Int) (frm to : Nat) : List (Nat × Int) := (List.range' frm (to - frm)).filterMap fun to => (arc l width frm to).map fun c => (to, c)
theorem arcsTo_self (l : List It) (width : Int) (frm : Nat) : arcsTo l width frm frm = [] := by simp [arcsTo]
theorem arcsTo_all (l : List It) (width : Int) (frm : Nat) : arcsTo l width frm (l.length + 1) = arcs l width frm := rfl
theorem arcsTo_succ (l : List It) (width : Int) {frm to : Nat} (h : frm ≤ to) : arcsTo l width frm (to + 1) = arcsTo l width frm to ++ (match arc l width frm to with
    | some c => [(to, c)]
    | none => []) := by
  unfold arcsTo
  rw [show to + 1 - frm = to - frm + 1 by omega, List.range'_1_concat, List.filterMap_append, show frm + (to - frm) = to by omega]
  simp only [List.filterMap_cons, List.filterMap_nil]
  cases arc l width frm to <;> rfl
theorem least_snoc (n : Nat) (p : List Int) (a : List (Nat × Int)) (x : Nat × Int) : least n p (a ++ [x]) = if 0 ≤ behind n p x.1 ∧ (least n p a < 0 ∨ x.2 + behind n p x.1 < least n p a) then x.2 + behind n p x.1 else least n p a := by
  unfold least
  rw [List.foldl_append]
  rfl

theorem t39 (l : List It) (width : Int) (hv : Valid l) (w0 : 0 ≤ width) (w1 : width ≤ 1073741824) (h : List AObj) : ACalls Try.prog 39 [items l, .int .i64 width] h (ints (pots l width)) h := by
  have hl := hv.len
  refine acalls_of fn39 (by simp) ?_
  simp only [List.length_cons, List.length_nil, Nat.reduceAdd, Nat.reduceSub, List.replicate, List.cons_append, List.nil_append, List.append_nil]
  simp (disch := omega) only [c39, items, go_sem, wrap64_id, Int.tdiv_eq_ediv_of_nonneg, Int.tmod_eq_emod_of_nonneg]
  repeat' first
    | ((first | refine fnQ_pure1 (by first | exact ⟨trivial, trivial⟩ | exact ⟨trivial, trivial, trivial⟩ | exact ⟨trivial, trivial, trivial, trivial⟩ | simp [go_sem]) ?_ | refine fnQ_pure0 (by first | exact ⟨trivial, trivial⟩ | exact ⟨trivial, trivial, trivial⟩ | exact ⟨trivial, trivial, trivial, trivial⟩ | simp [go_sem]) ?_); simp only [go_sem]; (first | exact VLe.refl _ | refine VLe_int ?_ | refine VLe_bool ?_ | refine VLe_str ?_ | skip))
    | (with_reducible refine And.intro ?_ ?_)
    | with_reducible intro _
  all_goals first
    | omega
    | skip
  simp only [show ((l.length : Int) + 1).toNat = l.length + 1 by omega, madeA_int]
  refine loop_of (T := fun i : Nat × AObj => spar 51 [(0, items l), (1, .int .i64 width), (5, .op (h.length + 2) 1 0), (6, .int .i64 ((l.length : Int) - i.1))])
    (H := fun i => h ++ [.emp 1, .mem 1 3 (cellsI (potsGo l width i.1)), .mem 1 29 [.osl (h.length + 1) 1 1 0 (l.length + 1)], i.2])
    (inv := fun i => i.1 ≤ l.length + 1 ∧ site [i.2] 0 = true) (m := fun i => l.length + 1 - i.1) (0, .emp 0) ⟨by simp only; omega, rfl⟩ (Wk.temps ?_) ?_
  · simp only [items, spar, List.foldl, List.replicate, go_sem, VLes_nil, VLes_cons, VLe_undef_iff, VLe_self]
    try (repeat' first | (with_reducible refine And.intro ?_ ?_) | (refine VLe_int ?_; omega) | (refine VLe_bool ?_; rfl))
  · rintro ⟨k, O⟩ ⟨i1, i2⟩ K hK
    simp only at i1 i2 hK
    by_cases hk : k ≤ l.length
    · have plen := potsGo_len l width k
      obtain ⟨i, hi⟩ : ∃ i, i = l.length - k := ⟨_, rfl⟩
      have hik : (l.length : Int) - k = i := by omega
      obtain ⟨V, hV⟩ : ∃ V, V = verOf (some O) + 1 := ⟨_, rfl⟩
      obtain ⟨p, hp⟩ : ∃ p, p = potsGo l width k := ⟨_, rfl⟩
      simp only [hik, ← hp] at plen ⊢
      simp (disch := omega) only [spar, items, List.foldl, List.replicate, i2, go_sem, wrap64_id, Int.tdiv_eq_ediv_of_nonneg, Int.tmod_eq_emod_of_nonneg]
      rw [← hV]
      repeat' first
        | (refine callA_pure (t40 _ _ _ _) (by first | exact ⟨rfl, trivial⟩ | exact ⟨rfl, rfl, trivial⟩ | exact ⟨rfl, rfl, rfl, trivial⟩ | exact ⟨rfl, rfl, rfl, rfl, trivial⟩ | simp only [go_sem]) ?_; simp (disch := omega) only [items, go_sem, wrap64_id, Int.tdiv_eq_ediv_of_nonneg, Int.tmod_eq_emod_of_nonneg])
        | (refine callG_pure (fun e => ⟨by first | exact ⟨rfl, trivial⟩ | exact ⟨e, trivial⟩ | exact ⟨e, e, trivial⟩ | exact ⟨rfl, rfl, trivial⟩ | exact ⟨e, e, e, trivial⟩ | simp_all only [go_sem], t40 _ _ _ _⟩) ?_; simp (disch := omega) only [items, go_sem, wrap64_id, Int.tdiv_eq_ediv_of_nonneg, Int.tmod_eq_emod_of_nonneg])
        | ((first | refine fnQ_pure1 (by first | exact ⟨trivial, trivial⟩ | exact ⟨trivial, trivial, trivial⟩ | exact ⟨trivial, trivial, trivial, trivial⟩ | simp [go_sem]) ?_ | refine fnQ_pure0 (by first | exact ⟨trivial, trivial⟩ | exact ⟨trivial, trivial, trivial⟩ | exact ⟨trivial, trivial, trivial, trivial⟩ | simp [go_sem]) ?_); simp only [go_sem]; (first | exact VLe.refl _ | refine VLe_int ?_ | refine VLe_bool ?_ | refine VLe_str ?_ | skip))
        | (with_reducible refine And.intro ?_ ?_)
        | with_reducible intro _
      all_goals first
        | omega
        | skip
      have eh : ∀ o : AObj, h ++ [.emp 1, .mem 1 3 (cellsI p), .mem 1 29 [.osl (h.length + 1) 1 1 0 (l.length + 1)], o] = (h ++ [.emp 1, .mem 1 3 (cellsI p), .mem 1 29 [.osl (h.length + 1) 1 1 0 (l.length + 1)]]) ++ [o] := by intro o; simp
      refine range_lines hv w0 w1 (by omega) (S := fun to hh => hh = h ++ [.emp 1, .mem 1 3 (cellsI p), .mem 1 29 [.osl (h.length + 1) 1 1 0 (l.length + 1)], .mem V 3 [.int .i64 (least l.length p (arcsTo l width i to))]]) (E := fun _ _ => False) ?_ (fun _ _ h => h.elim) ?_ ?_ ?_ ?_ ?_ (fun _ _ h => h.elim)
      · rintro to hh rfl
        rw [eh, eh]
        exact Low.last (by intro n c hc; simp at hc; subst hc; rfl)
      · rintro to hh h1 h2 h3 rfl
        rw [arcsTo_succ l width h1, h3, List.append_nil]
      · rw [arcsTo_self]; rfl
      · simp [lowV, lowV.lowVs, linesF, items]
      · rintro to c hh tl L h1 h2 h3 rfl hlen
        simp only [setsA]
        have hc := arc_bound hv.ok h3
        have hbd := behind_bound (n := l.length) (hp ▸ potsGo_bound hv.ok width k) (by omega) to
        simp (disch := omega) only [items, List.append_assoc, eq_self, go_sem, wrap64_id, Int.tdiv_eq_ediv_of_nonneg, Int.tmod_eq_emod_of_nonneg]
        repeat' first
          | (refine callA_pure (t41b l.length p to _ 1 3 _ (by simp only [go_sem, List.append_assoc]) (by omega) h2 (by omega)) (by first | exact ⟨rfl, trivial⟩ | exact ⟨rfl, rfl, trivial⟩ | exact ⟨rfl, rfl, rfl, trivial⟩ | exact ⟨rfl, rfl, rfl, rfl, trivial⟩ | simp only [go_sem]) ?_; simp (disch := omega) only [List.append_assoc, go_sem, wrap64_id, Int.tdiv_eq_ediv_of_nonneg, Int.tmod_eq_emod_of_nonneg])
          | (refine callG_pure (fun e => ⟨by first | exact ⟨rfl, trivial⟩ | exact ⟨e, trivial⟩ | exact ⟨e, e, trivial⟩ | exact ⟨rfl, rfl, trivial⟩ | exact ⟨e, e, e, trivial⟩ | simp_all only [go_sem], t41b l.length p to _ 1 3 _ (by simp only [go_sem, List.append_assoc]) (by omega) h2 (by omega)⟩) ?_; simp (disch := omega) only [List.append_assoc, go_sem, wrap64_id, Int.tdiv_eq_ediv_of_nonneg, Int.tmod_eq_emod_of_nonneg])
          | ((first | refine fnQ_pure1 (by first | exact ⟨trivial, trivial⟩ | exact ⟨trivial, trivial, trivial⟩ | exact ⟨trivial, trivial, trivial, trivial⟩ | simp [go_sem]) ?_ | refine fnQ_pure0 (by first | exact ⟨trivial, trivial⟩ | exact ⟨trivial, trivial, trivial⟩ | exact ⟨trivial, trivial, trivial, trivial⟩ | simp [go_sem]) ?_); simp only [go_sem]; (first | exact VLe.refl _ | refine VLe_int ?_ | refine VLe_bool ?_ | refine VLe_str ?_ | skip))
          | (with_reducible refine And.intro ?_ ?_)
          | with_reducible intro _
        all_goals first
          | omega
          | skip
        · rename_i hh1
          refine ⟨h ++ [.emp 1, .mem 1 3 (cellsI p), .mem 1 29 [.osl (h.length + 1) 1 1 0 (l.length + 1)], .mem V 3 [.int .i64 (c + behind l.length p to)]], by simp, by simp, ?_⟩
          rw [arcsTo_succ l width h1, h3, least_snoc, if_pos hh1]
        · rename_i hh1
          refine ⟨h ++ [.emp 1, .mem 1 3 (cellsI p), .mem 1 29 [.osl (h.length + 1) 1 1 0 (l.length + 1)], .mem V 3 [.int .i64 (least l.length p (arcsTo l width i to))]], by simp, by simp, ?_⟩
          rw [arcsTo_succ l width h1, h3, least_snoc, if_neg (by rintro ⟨g1, g2⟩; simp only at g1 g2; have := hh1 g1; omega)]
      · rintro hh rfl
        rw [arcsTo_all]
        simp (disch := omega) only [cells_set, go_sem, wrap64_id, Int.tdiv_eq_ediv_of_nonneg, Int.tmod_eq_emod_of_nonneg]
        repeat' first
          | (with_reducible refine And.intro ?_ ?_)
          | (with_reducible intro _)
        all_goals first
          | omega
          | (rw [cellsI_len]; omega)
          | skip
        refine hK _ _ (k + 1, .mem V 3 [.int .i64 (least l.length p (arcs l width i))]) ⟨by simp only; omega, rfl⟩ (by simp only; omega) ?_
        have e : potsGo l width (k + 1) = p.set i (least l.length p (arcs l width i)) := by rw [hp, hi]; rfl
        simp only [e]
        refine Wk.temps ?_
        simp only [items, spar, List.foldl, List.replicate, go_sem, VLes_nil, VLes_cons, VLe_undef_iff, VLe_self]
        try (repeat' first | (with_reducible refine And.intro ?_ ?_) | (refine VLe_int ?_; omega) | (refine VLe_bool ?_; rfl))
    · have e : k = l.length + 1 := by omega
      subst e
      have plen := potsGo_len l width (l.length + 1)
      simp (disch := omega) only [spar, items, List.foldl, List.replicate, go_sem, wrap64_id, Int.tdiv_eq_ediv_of_nonneg, Int.tmod_eq_emod_of_nonneg]
      repeat' first
        | (with_reducible refine And.intro ?_ ?_)
        | (with_reducible intro _)
      all_goals first
        | omega
        | skip
      refine fnQ_pure1 ⟨trivial, trivial⟩ ?_
      simp only [go_sem]
      simp only [Nat.zero_add, cellsI_len, plen, Nat.mul_one, Nat.le_refl, and_true, if_true, eq_self]
      exact ints_of (p := pots l width) plen

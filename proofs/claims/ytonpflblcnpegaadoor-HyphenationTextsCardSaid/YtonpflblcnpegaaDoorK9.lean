import Derived.Test.YtonpflblcnpegaaDoorK8
set_option linter.all false
set_option linter.unusedSimpArgs false
set_option linter.unusedVariables false
set_option linter.unusedSectionVars false
section
/-! the text E46 -/
open Go Go.Proofs AF HY
namespace HY
set_option maxRecDepth 100000
/-! Parts: strings whose digits stand right are their units with levels between them. -/
def nb : List UInt8 → Prop
  | [] => True
  | b :: r => (dg b = true → b ≠ 48 ∧ ∀ c ∈ r.head?, dg c = false ∧ kind c ≠ 2) ∧ nb r
theorem badD_zero (b : UInt8) (r : List UInt8) : badD (b :: r) 0 = false ↔ (dg b = true → b ≠ 48 ∧ ∀ c ∈ r.head?, dg c = false ∧ kind c ≠ 2) := by
  unfold badD
  have e0 : (b :: r).getD 0 0 = b := rfl
  rw [e0]
  cases r with
  | nil => cases hb : dg b <;> simp
  | cons c r =>
    have e1 : (b :: c :: r).getD (0 + 1) 0 = c := rfl
    rw [e1]
    cases hb : dg b
    · simp
    · simp only [Bool.true_and, Bool.or_eq_false_iff, decide_eq_false_iff_not, List.head?_cons, Option.mem_def, Option.some.injEq, true_implies]
      constructor
      · rintro ⟨h1, h2⟩
        refine ⟨h1, fun d hd => ?_⟩
        subst hd
        simp only [Bool.and_eq_false_imp, decide_eq_true_eq, Bool.or_eq_false_iff, decide_eq_false_iff_not] at h2
        exact h2 (by simp)
      · rintro ⟨h1, h2⟩
        refine ⟨h1, ?_⟩
        obtain ⟨g1, g2⟩ := h2 c rfl
        simp only [Bool.and_eq_false_imp, decide_eq_true_eq, Bool.or_eq_false_iff, decide_eq_false_iff_not]
        exact fun _ => ⟨g1, g2⟩
theorem badD_succ (b : UInt8) (r : List UInt8) (i : Nat) : badD (b :: r) (i + 1) = badD r i := by
  unfold badD
  have e0 : (b :: r).getD (i + 1) 0 = r.getD i 0 := rfl
  have e1 : (b :: r).getD (i + 1 + 1) 0 = r.getD (i + 1) 0 := rfl
  rw [e0, e1]
  have e2 : decide (i + 1 + 1 < (b :: r).length) = decide (i + 1 < r.length) := by simp
  rw [e2]
theorem nb_iff (s : List UInt8) : nb s ↔ ∀ i, i < s.length → badD s i = false := by
  induction s with
  | nil => simp [nb]
  | cons b r ih =>
    unfold nb
    rw [ih]
    constructor
    · rintro ⟨h1, h2⟩ i hi
      cases i with
      | zero => exact (badD_zero b r).2 h1
      | succ i => rw [badD_succ]; exact h2 i (by simpa using hi)
    · intro h
      refine ⟨(badD_zero b r).1 (h 0 (by simp)), fun i hi => ?_⟩
      rw [← badD_succ b r i]
      exact h (i + 1) (by simpa using hi)
theorem letB_cons_t {b : UInt8} {r : List UInt8} (h : dg b = true) : letB (b :: r) = letB r := by unfold letB; rw [List.filter_cons]; simp [h]
theorem letB_cons_f {b : UInt8} {r : List UInt8} (h : dg b = false) : letB (b :: r) = b :: letB r := by unfold letB; rw [List.filter_cons]; simp [h]
/-- Marks are not parted from what stands before them. -/
theorem marks_eat : ∀ (m : List UInt8) (t rest : List UInt8), nb t → (∀ x ∈ m, kind x = 2) → letB t = m ++ rest → ∃ t', t = m ++ t' ∧ letB t' = rest ∧ nb t' := by
  intro m
  induction m with
  | nil => intro t rest h _ e; exact ⟨t, rfl, by simpa using e, h⟩
  | cons x m ih =>
    intro t rest h hm e
    cases t with
    | nil => simp [letB] at e
    | cons b r =>
      cases hb : dg b with
      | true =>
        exfalso
        rw [letB_cons_t hb] at e
        obtain ⟨h1, _⟩ := h
        cases r with
        | nil => simp [letB] at e
        | cons c r =>
          obtain ⟨g1, g2⟩ := (h1 hb).2 c rfl
          rw [letB_cons_f g1] at e
          simp at e
          exact g2 (by rw [e.1]; exact hm x (by simp))
      | false =>
        rw [letB_cons_f hb, List.cons_append] at e
        injection e with e1 e2
        subst e1
        obtain ⟨t', q1, q2, q3⟩ := ih r rest h.2 (fun y hy => hm y (by simp [hy])) e2
        exact ⟨t', by rw [q1]; rfl, q2, q3⟩
/-- One unit, with the level before it. -/
def eatL (t : List UInt8) : Int := if dg (t.getD 0 0) = true then ((t.getD 0 0).toNat : Int) - 48 else 0
def eatT (t u : List UInt8) : List UInt8 := (if dg (t.getD 0 0) = true then t.drop 1 else t).drop u.length
theorem dig_of {b : UInt8} (h : dg b = true) (h0 : b ≠ 48) : 0 < (b.toNat : Int) - 48 ∧ (b.toNat : Int) - 48 ≤ 9 ∧ digB ((b.toNat : Int) - 48) = b := by
  have h1 := (dg_iff b).1 h
  have h2 : b.toNat ≠ 48 := fun e => h0 (UInt8.toNat_inj.1 e)
  refine ⟨by omega, by omega, ?_⟩
  have key : ∀ n : Fin 256, 48 ≤ n.val → n.val ≤ 57 → digB ((n.val : Int) - 48) = UInt8.ofNat n.val := by decide +kernel
  have := key ⟨b.toNat, b.toNat_lt⟩ h1.1 h1.2
  rw [this]
  exact UInt8.toNat_inj.1 (by simp)
theorem unit_eat {t u rest : List UInt8} (h : nb t) (hu : okU u) (e : letB t = u ++ rest) :
    t = (if 0 < eatL t then [digB (eatL t)] else []) ++ (u ++ eatT t u) ∧ letB (eatT t u) = rest ∧ nb (eatT t u) ∧ 0 ≤ eatL t ∧ eatL t ≤ 9 ∧ t ≠ [] := by
  obtain ⟨c, m, rfl, h1, h2⟩ := hu
  cases t with
  | nil => simp [letB] at e
  | cons b r =>
    have e0 : (b :: r).getD 0 0 = b := rfl
    unfold eatL eatT
    rw [e0]
    cases hb : dg b with
    | true =>
      rw [letB_cons_t hb] at e
      obtain ⟨g1, g2⟩ := h
      obtain ⟨k1, k2⟩ := g1 hb
      obtain ⟨d1, d2, d3⟩ := dig_of hb k1
      rw [if_pos rfl, if_pos rfl, if_pos d1, d3]
      cases r with
      | nil => simp [letB] at e
      | cons y r =>
        obtain ⟨y1, y2⟩ := k2 y rfl
        rw [letB_cons_f y1, List.cons_append] at e
        injection e with e1 e2
        subst e1
        obtain ⟨t', q1, q2, q3⟩ := marks_eat m r rest g2.2 h1 e2
        have ed : List.drop (y :: m).length (List.drop 1 (b :: y :: r)) = t' := by rw [q1]; simp
        rw [ed]
        exact ⟨by rw [q1]; simp, q2, q3, by omega, by omega, by simp⟩
    | false =>
      rw [letB_cons_f hb, List.cons_append] at e
      injection e with e1 e2
      subst e1
      obtain ⟨t', q1, q2, q3⟩ := marks_eat m r rest h.2 h1 e2
      simp only [Bool.false_eq_true, if_false]
      have ed : List.drop (b :: m).length (b :: r) = t' := by rw [q1]; simp
      rw [ed]
      refine ⟨by rw [q1]; simp, q2, q3, by omega, by omega, by simp⟩
theorem chn_get {us : List (List UInt8)} (h : Chn us) : ∀ u ∈ us, okU u := by
  induction us with
  | nil => intro u hu; simp at hu
  | cons v r ih =>
    intro u hu
    rcases List.mem_cons.1 hu with rfl | hu
    · exact h.1
    · exact ih h.2.2 u hu
theorem patGo_congr {us : List (List UInt8)} {lv lv' : List Int} : ∀ k, (∀ j, j < k → lv.getD j 0 = lv'.getD j 0) → patGo us lv k = patGo us lv' k := by
  intro k
  induction k with
  | zero => intro _; rfl
  | succ k ih =>
    intro h
    show patGo us lv k ++ tokS us lv k = patGo us lv' k ++ tokS us lv' k
    rw [ih (fun j hj => h j (by omega))]
    unfold tokS
    rw [h k (by omega)]
theorem getD_app1 {l m : List Int} {j : Nat} (h : j < l.length) : (l ++ m).getD j 0 = l.getD j 0 := by
  rw [List.getD_eq_getElem?_getD, List.getElem?_append_left h, List.getD_eq_getElem?_getD]
structure Form (s : List UInt8) (us : List (List UInt8)) (k : Nat) : Prop where
  cut : s = patGo us (lvAll s (us.take k)).2 k ++ s.drop (lvAll s (us.take k)).1
  len : (lvAll s (us.take k)).1 = (patGo us (lvAll s (us.take k)).2 k).length
  rest : letB (s.drop (lvAll s (us.take k)).1) = (us.drop k).flatten
  right : nb (s.drop (lvAll s (us.take k)).1)
  levs : ∀ j, j < k → 0 ≤ (lvAll s (us.take k)).2.getD j 0 ∧ (lvAll s (us.take k)).2.getD j 0 ≤ 9
theorem form_all {s : List UInt8} (h : nb s) (us : List (List UInt8)) (hus : us = clus (letB s)) : ∀ k, k ≤ us.length → Form s us k := by
  intro k
  induction k with
  | zero =>
    intro _
    have e : lvAll s (us.take 0) = (0, []) := rfl
    refine ⟨by rw [e]; simp [patGo], by rw [e]; rfl, ?_, by rw [e]; exact h, fun j hj => by omega⟩
    rw [e, hus]
    simp [clus_join]
  | succ k ih =>
    intro hk
    obtain ⟨f1, f2, f3, f4, f5⟩ := ih (by omega)
    have hl := lvAll_len s (us.take k)
    rw [List.length_take, Nat.min_eq_left (by omega)] at hl
    have hsu := lvAll_succ s us (show k < us.length by omega)
    obtain ⟨st, hst⟩ : ∃ st, st = lvAll s (us.take k) := ⟨_, rfl⟩
    rw [← hst] at f1 f2 f3 f4 f5 hl hsu
    obtain ⟨a, lv⟩ := st
    simp only at f1 f2 f3 f4 f5 hl
    obtain ⟨t, ht⟩ : ∃ t, t = s.drop a := ⟨_, rfl⟩
    rw [← ht] at f1 f3 f4
    obtain ⟨u, hu⟩ : ∃ u, u = us.getD k [] := ⟨_, rfl⟩
    have hum : u ∈ us := by rw [hu, List.getD_eq_getElem?_getD, List.getElem?_eq_getElem (show k < us.length by omega)]; exact List.getElem_mem _
    have hok : okU u := chn_get (by rw [hus]; exact chn_clus _) u hum
    have hdr : us.drop k = u :: us.drop (k + 1) := by
      rw [List.drop_eq_getElem_cons (show k < us.length by omega), hu, List.getD_eq_getElem?_getD, List.getElem?_eq_getElem (show k < us.length by omega)]
      rfl
    rw [hdr, List.flatten_cons] at f3
    obtain ⟨e1, e2, e3, e4, e5, e6⟩ := unit_eat f4 hok f3
    have hta : t.getD 0 0 = s.getD a 0 := by rw [ht, List.getD_eq_getElem?_getD, List.getElem?_drop, List.getD_eq_getElem?_getD, Nat.add_zero]
    have hs2 : lvAll s (us.take (k + 1)) = (a + ((if dg (t.getD 0 0) = true then 1 else 0) + u.length), lv ++ [eatL t]) := by
      rw [hsu]
      unfold lvStep eatL
      simp only
      rw [hta, ← hu]
      split
      · rw [Nat.add_assoc]
      · rw [Nat.zero_add]
    have hdrop : s.drop (a + ((if dg (t.getD 0 0) = true then 1 else 0) + u.length)) = eatT t u := by
      unfold eatT
      rw [← List.drop_drop, ← ht]
      split
      · rw [← List.drop_drop]
      · rw [Nat.zero_add]
    have hpg : patGo us (lv ++ [eatL t]) k = patGo us lv k := patGo_congr k (fun j hj => getD_app1 (by omega))
    have hlast : (lv ++ [eatL t]).getD k 0 = eatL t := by rw [← hl]; exact getD_snoc lv (eatL t)
    have htok : tokS us (lv ++ [eatL t]) k = (if 0 < eatL t then [digB (eatL t)] else []) ++ u := by unfold tokS; rw [hlast, ← hu]
    have hpg1 : patGo us (lv ++ [eatL t]) (k + 1) = patGo us lv k ++ ((if 0 < eatL t then [digB (eatL t)] else []) ++ u) := by
      show patGo us (lv ++ [eatL t]) k ++ tokS us (lv ++ [eatL t]) k = _
      rw [hpg, htok]
    have hcut : s = patGo us (lv ++ [eatL t]) (k + 1) ++ eatT t u := by
      rw [hpg1, List.append_assoc, List.append_assoc, ← e1]
      exact f1
    refine ⟨?_, ?_, ?_, ?_, ?_⟩
    · rw [hs2]
      simp only
      rw [hdrop]
      exact hcut
    · rw [hs2]
      simp only
      have h1 := congrArg List.length hcut
      have h2 := congrArg List.length hdrop
      rw [List.length_append] at h1
      rw [List.length_drop] at h2
      have h3 := congrArg List.length e1
      rw [List.length_append, List.length_append] at h3
      have h4 : t.length = s.length - a := by rw [ht, List.length_drop]
      have h5 := congrArg List.length hpg1
      rw [List.length_append, List.length_append] at h5
      have h6 : ((if 0 < eatL t then [digB (eatL t)] else []) : List UInt8).length = if dg (t.getD 0 0) = true then 1 else 0 := by
        cases hd : dg (t.getD 0 0) with
        | true =>
          have hb : eatL t = ((t.getD 0 0).toNat : Int) - 48 := by unfold eatL; rw [if_pos hd]
          have ht0 : t = t.getD 0 0 :: t.drop 1 := by
            cases t with
            | nil => exact absurd rfl e6
            | cons b r => rfl
          have h48 : t.getD 0 0 ≠ 48 := by
            rw [ht0] at f4
            exact (f4.1 hd).1
          obtain ⟨d1, _, _⟩ := dig_of hd h48
          rw [hb, if_pos d1]
          rfl
        | false =>
          have hb : eatL t = 0 := by unfold eatL; rw [hd]; rfl
          rw [hb]
          rfl
      omega
    · rw [hs2]
      simp only
      rw [hdrop]
      exact e2
    · rw [hs2]
      simp only
      rw [hdrop]
      exact e3
    · intro j hj
      rw [hs2]
      simp only
      by_cases e : j = k
      · rw [e, hlast]; exact ⟨e4, e5⟩
      · rw [getD_app1 (by omega)]
        exact f5 j (by omega)
end HY
end

section
/-! the text E47 -/
open Go Go.Proofs AF HY
namespace HY
set_option maxRecDepth 100000
theorem form_end {s : List UInt8} (h : nb s) : Form s (clus (letB s)) (clus (letB s)).length := form_all h _ rfl _ (Nat.le_refl _)
theorem letB_nil_dg {t : List UInt8} (h : letB t = []) {b : UInt8} {r : List UInt8} (e : t = b :: r) : dg b = true := by
  subst e
  cases hb : dg b with
  | true => rfl
  | false => rw [letB_cons_f hb] at h; cases h
/-- Behind the last unit stands a digit at most. -/
theorem tail_one {t : List UInt8} (h : nb t) (e : letB t = []) : t = [] ∨ ∃ b, t = [b] ∧ dg b = true ∧ b ≠ 48 := by
  cases t with
  | nil => exact .inl rfl
  | cons b r =>
    have hb := letB_nil_dg e rfl
    obtain ⟨h1, h2⟩ := h
    obtain ⟨k1, k2⟩ := h1 hb
    cases r with
    | nil => exact .inr ⟨b, rfl, hb, k1⟩
    | cons c r =>
      rw [letB_cons_t hb] at e
      have hc := letB_nil_dg e rfl
      rw [(k2 c rfl).1] at hc
      cases hc
theorem okPart_nb {s : List UInt8} (h0 : s ≠ []) (h : nb s) : okPart s := by
  refine ⟨h0, (nb_iff s).1 h, fun i hi => ?_, fun hlt => ?_⟩
  · obtain ⟨f1, f2, f3, f4, f5⟩ := form_all h _ rfl i (Nat.le_of_lt hi)
    apply Classical.byContradiction
    intro hn
    rw [List.drop_eq_nil_of_le (by omega)] at f3
    have e : (clus (letB s)).drop i = (clus (letB s))[i] :: (clus (letB s)).drop (i + 1) := List.drop_eq_getElem_cons hi
    rw [e, List.flatten_cons] at f3
    have hne := clus_ne _ (List.getElem_mem hi)
    have := congrArg List.length f3
    rw [List.length_append] at this
    have h2 := List.length_pos_iff.2 hne
    have e0 : (letB []).length = 0 := rfl
    rw [e0] at this
    omega
  · obtain ⟨f1, f2, f3, f4, f5⟩ := form_end h
    rw [List.take_length] at f1 f2 f3 f4 f5
    rw [List.drop_length] at f3
    have e : s.drop (lvAll s (clus (letB s))).1 = s[(lvAll s (clus (letB s))).1] :: s.drop ((lvAll s (clus (letB s))).1 + 1) := List.drop_eq_getElem_cons hlt
    have := letB_nil_dg f3 e
    rwa [List.getD_eq_getElem?_getD, List.getElem?_eq_getElem hlt]
theorem tokS_last (us : List (List UInt8)) (lv : List Int) : tokS us lv us.length = if 0 < lv.getD us.length 0 then [digB (lv.getD us.length 0)] else [] := by
  unfold tokS
  rw [getD_none (us := us) (k := us.length) (by omega), List.append_nil]
/-- What stands right is the text of its pattern. -/
theorem patT_patB {s : List UInt8} (h : nb s) : patT (patB s) = s := by
  obtain ⟨f1, f2, f3, f4, f5⟩ := form_end h
  unfold patT patB levB
  simp only
  rw [List.take_length] at f1 f2 f3 f4 f5
  rw [List.drop_length] at f3
  obtain ⟨us, hus⟩ : ∃ us, us = clus (letB s) := ⟨_, rfl⟩
  rw [← hus] at f1 f2 f3 f4 f5 ⊢
  have hl := lvAll_len s us
  obtain ⟨st, hst⟩ : ∃ st, st = lvAll s us := ⟨_, rfl⟩
  rw [← hst] at f1 f2 f3 f4 f5 hl ⊢
  obtain ⟨a, lv⟩ := st
  simp only at f1 f2 f3 f4 f5 hl ⊢
  rw [List.length_append, List.length_singleton, hl]
  show patGo us (lv ++ [lastLv s a]) us.length ++ tokS us (lv ++ [lastLv s a]) us.length = s
  rw [patGo_congr (lv' := lv) us.length (fun j hj => getD_app1 (by omega)), tokS_last]
  have hlast : (lv ++ [lastLv s a]).getD us.length 0 = lastLv s a := by rw [← hl]; exact getD_snoc lv _
  rw [hlast]
  have key : (if 0 < lastLv s a then [digB (lastLv s a)] else []) = s.drop a := by
    rcases tail_one f4 f3 with e | ⟨b, e, h1, h2⟩
    · have hle : s.length ≤ a := by
        have := congrArg List.length e
        rw [List.length_drop, List.length_nil] at this
        omega
      rw [e]
      unfold lastLv
      rw [if_neg (by omega)]
      try rfl
    · have hlt : a < s.length := by
        have := congrArg List.length e
        rw [List.length_drop] at this
        simp at this
        omega
      have hg : s.getD a 0 = b := by
        have e2 : s.drop a = s[a] :: s.drop (a + 1) := List.drop_eq_getElem_cons hlt
        rw [e] at e2
        injection e2 with e3 e4
        rw [List.getD_eq_getElem?_getD, List.getElem?_eq_getElem hlt]
        exact e3.symm
      obtain ⟨d1, d2, d3⟩ := dig_of h1 h2
      unfold lastLv
      rw [if_pos hlt, hg, if_pos d1, d3, e]
  rw [key]
  exact f1.symm
/-! The reference reads a part from left to right. -/
def rdStep (st : List Int × Int) (b : UInt8) : List Int × Int := if dg b = true then (st.1, (b.toNat : Int) - 48) else (if kind b ≠ 2 ∨ st.1 = [] then st.1 ++ [st.2] else st.1, 0)
def rdAll (s : List UInt8) : List Int × Int := s.foldl rdStep ([], 0)
def readB (s : List UInt8) : Pat := ⟨letB s, (rdAll s).1 ++ [(rdAll s).2]⟩
theorem dg_mark {b : UInt8} (h : kind b = 2) : dg b = false := by
  unfold dg
  have : kindI (b.toNat : Int) = 2 := h
  rw [this]
  rfl
theorem rd_marks {L : List Int} (hL : L ≠ []) : ∀ (m : List UInt8), (∀ x ∈ m, kind x = 2) → m.foldl rdStep (L, 0) = (L, 0) := by
  intro m
  induction m with
  | nil => intro _; rfl
  | cons x m ih =>
    intro h
    have hx := h x (by simp)
    rw [List.foldl_cons]
    have e : rdStep (L, 0) x = (L, 0) := by
      unfold rdStep
      rw [dg_mark hx]
      simp [hx, hL]
    rw [e]
    exact ih (fun y hy => h y (by simp [hy]))
theorem digB_of {n : Int} (h0 : 0 ≤ n) (h1 : n ≤ 9) : dg (digB n) = true ∧ ((digB n).toNat : Int) - 48 = n := by
  have key : ∀ k : Fin 10, dg (digB ((k.val : Nat) : Int)) = true ∧ ((digB ((k.val : Nat) : Int)).toNat : Int) - 48 = ((k.val : Nat) : Int) := by decide +kernel
  have := key ⟨n.toNat, by omega⟩
  simp only at this
  rwa [Int.toNat_of_nonneg h0] at this
/-- One unit with its level, read. -/
theorem rd_tok {L : List Int} {n : Int} {u : List UInt8} (h0 : 0 ≤ n) (h1 : n ≤ 9) (hu : okU u) (hd : ∀ x ∈ u, dg x = false) (hk : L = [] ∨ kind (ch u 0) ≠ 2) :
    ((if 0 < n then [digB n] else []) ++ u).foldl rdStep (L, 0) = (L ++ [n], 0) := by
  obtain ⟨c, m, rfl, m1, m2⟩ := hu
  have hc := hd c (by simp)
  have e2 : ∀ l : Int, rdStep (L, l) c = (L ++ [l], 0) := by
    intro l
    unfold rdStep
    rw [hc]
    have : kind c ≠ 2 ∨ L = [] := by
      rcases hk with h | h
      · exact .inr h
      · exact .inl h
    simp [this]
  have e1 : (if 0 < n then [digB n] else []).foldl rdStep (L, 0) = (L, n) := by
    by_cases hp : 0 < n
    · rw [if_pos hp]
      obtain ⟨g1, g2⟩ := digB_of h0 h1
      show rdStep (L, 0) (digB n) = _
      unfold rdStep
      rw [if_pos g1, g2]
    · rw [if_neg hp]
      have : n = 0 := by omega
      rw [this]
      rfl
  rw [List.foldl_append, e1, List.foldl_cons, e2]
  exact rd_marks (by simp) m m1
theorem rd_go {us : List (List UInt8)} {lv : List Int} (hc : ∀ u ∈ us, okU u) (hd : ∀ u ∈ us, ∀ x ∈ u, dg x = false) (hk : ∀ k, 0 < k → k < us.length → kind (ch (us.getD k []) 0) ≠ 2)
    (hl : us.length ≤ lv.length) (hv : ∀ k, k < lv.length → 0 ≤ lv.getD k 0 ∧ lv.getD k 0 ≤ 9) : ∀ k, k ≤ us.length → (patGo us lv k).foldl rdStep ([], 0) = (lv.take k, 0) := by
  intro k
  induction k with
  | zero => intro _; rfl
  | succ k ih =>
    intro h
    have ih := ih (by omega)
    show (patGo us lv k ++ tokS us lv k).foldl rdStep ([], 0) = _
    rw [List.foldl_append, ih]
    have hm : us.getD k [] ∈ us := by rw [List.getD_eq_getElem?_getD, List.getElem?_eq_getElem (show k < us.length by omega)]; exact List.getElem_mem _
    obtain ⟨v0, v1⟩ := hv k (by omega)
    unfold tokS
    rw [rd_tok v0 v1 (hc _ hm) (hd _ hm) (by
      by_cases e : k = 0
      · left; rw [e]; rfl
      · right; exact hk k (by omega) (by omega))]
    have : lv.take (k + 1) = lv.take k ++ [lv.getD k 0] := by
      rw [List.take_add_one, List.getElem?_eq_getElem (show k < lv.length by omega), List.getD_eq_getElem?_getD, List.getElem?_eq_getElem (show k < lv.length by omega)]
      rfl
    rw [this]
theorem rd_patT {us : List (List UInt8)} {lv : List Int} (hc : ∀ u ∈ us, okU u) (hd : ∀ u ∈ us, ∀ x ∈ u, dg x = false) (hk : ∀ k, 0 < k → k < us.length → kind (ch (us.getD k []) 0) ≠ 2)
    (hl : lv.length = us.length + 1) (hv : ∀ k, k < lv.length → 0 ≤ lv.getD k 0 ∧ lv.getD k 0 ≤ 9) : rdAll (patGo us lv lv.length) = (lv.take us.length, lv.getD us.length 0) := by
  unfold rdAll
  rw [hl]
  show (patGo us lv us.length ++ tokS us lv us.length).foldl rdStep ([], 0) = _
  rw [List.foldl_append, rd_go hc hd hk (by omega) hv _ (Nat.le_refl _), tokS_last]
  obtain ⟨v0, v1⟩ := hv us.length (by omega)
  by_cases hp : 0 < lv.getD us.length 0
  · rw [if_pos hp]
    obtain ⟨g1, g2⟩ := digB_of v0 v1
    show rdStep _ (digB _) = _
    unfold rdStep
    rw [if_pos g1, g2]
  · rw [if_neg hp]
    have : lv.getD us.length 0 = 0 := by omega
    rw [this]
    rfl
theorem levB_vals {s : List UInt8} (h : nb s) : (levB s).length = (clus (letB s)).length + 1 ∧ ∀ k, k < (levB s).length → 0 ≤ (levB s).getD k 0 ∧ (levB s).getD k 0 ≤ 9 := by
  obtain ⟨f1, f2, f3, f4, f5⟩ := form_end h
  rw [List.take_length] at f1 f2 f3 f4 f5
  rw [List.drop_length] at f3
  have hl := lvAll_len s (clus (letB s))
  have hlen : (levB s).length = (clus (letB s)).length + 1 := by unfold levB; rw [List.length_append, hl]; rfl
  refine ⟨hlen, fun k hk => ?_⟩
  unfold levB
  by_cases hk2 : k < (clus (letB s)).length
  · rw [getD_app1 (by omega)]
    exact f5 k hk2
  · have e : k = (lvAll s (clus (letB s))).2.length := by omega
    rw [e, getD_snoc]
    unfold lastLv
    split
    · rename_i hlt
      have e2 : s.drop (lvAll s (clus (letB s))).1 = s[(lvAll s (clus (letB s))).1] :: s.drop ((lvAll s (clus (letB s))).1 + 1) := List.drop_eq_getElem_cons hlt
      have hd := letB_nil_dg f3 e2
      have := (dg_iff _).1 hd
      rw [List.getD_eq_getElem?_getD, List.getElem?_eq_getElem hlt]
      simp only [Option.getD_some]
      omega
    · omega
theorem letB_no {s : List UInt8} : ∀ x ∈ letB s, dg x = false := by
  intro x hx
  unfold letB at hx
  have := (List.mem_filter.1 hx).2
  simpa using this
theorem mem_clus {s u : List UInt8} (h : u ∈ clus s) : ∀ x ∈ u, x ∈ s := by
  intro x hx
  have := clus_join s
  rw [← this]
  exact List.mem_flatten.2 ⟨u, h, hx⟩
/-- Where no mark stands wrong, the reference reads the same levels. -/
theorem readB_patB {s : List UInt8} (h : nb s) (hk : ∀ k, 0 < k → k < (clus (letB s)).length → kind (ch ((clus (letB s)).getD k []) 0) ≠ 2) : readB s = patB s := by
  obtain ⟨hl, hv⟩ := levB_vals h
  have hp := patT_patB h
  unfold patT patB at hp
  simp only at hp
  have := rd_patT (fun u hu => chn_get (chn_clus _) u hu) (fun u hu x hx => letB_no x (mem_clus hu x hx)) hk hl hv
  rw [hp] at this
  unfold readB patB
  rw [this]
  congr 1
  simp only
  have e : levB s = (levB s).take (clus (letB s)).length ++ (levB s).drop (clus (letB s)).length := (List.take_append_drop _ _).symm
  conv => rhs; rw [e]
  rw [List.drop_eq_getElem_cons (by omega), List.drop_eq_nil_of_le (by omega), List.getD_eq_getElem?_getD, List.getElem?_eq_getElem (by omega)]
  rfl
/-- A mark that stands wrong is told ahead of the levels. -/
theorem checkPat_bad {l : List UInt8} (h : (clus l).any badHead = true) (L M : List Int) : checkPat ⟨l, L⟩ = checkPat ⟨l, M⟩ ∧ checkPat ⟨l, L⟩ ≠ 0 := by
  rw [clus_bad, ← bad_inner] at h
  unfold checkPat
  simp only
  split
  · exact ⟨rfl, by decide⟩
  · split
    · exact ⟨rfl, by decide⟩
    · have : checkC (inner l) ≠ 0 := by rw [checkC_eq, if_pos h]; split <;> decide
      rw [if_pos this, if_pos this]
      exact ⟨rfl, by decide⟩
theorem check_read {s : List UInt8} (h : nb s) : checkPat (readB s) = checkPat (patB s) ∧ (checkPat (patB s) = 0 → readB s = patB s) := by
  by_cases hb : (clus (letB s)).any badHead = true
  · have := checkPat_bad hb ((rdAll s).1 ++ [(rdAll s).2]) (levB s)
    have h2 := checkPat_bad hb (levB s) (levB s)
    exact ⟨this.1, fun e => absurd e h2.2⟩
  · have hk : ∀ k, 0 < k → k < (clus (letB s)).length → kind (ch ((clus (letB s)).getD k []) 0) ≠ 2 := by
      intro k _ hk2 hc
      apply hb
      rw [List.any_eq_true]
      refine ⟨(clus (letB s))[k], List.getElem_mem hk2, ?_⟩
      rw [List.getD_eq_getElem?_getD, List.getElem?_eq_getElem hk2] at hc
      unfold badHead
      simp at hc
      simp [hc]
    have := readB_patB h hk
    rw [this]
    exact ⟨rfl, fun _ => rfl⟩
end HY
end

section
/-! the text E48 -/
open Go Go.Proofs AF HY
namespace HY
set_option maxRecDepth 100000
theorem v64 (b : UInt8) (h : List AObj) : ACalls Tryd.prog 64 [.int .u8 (b.toNat : Int)] h (.bool (dg b)) h := by
  have hb : b.toNat < 256 := b.toNat_lt
  have hi := dg_iff b
  cases hd : dg b with
  | true =>
    have := hi.1 hd
    have k1 : (48 ≤ (b.toNat : Int)) = True := eq_true (by omega)
    have k2 : ((b.toNat : Int) ≤ 57) = True := eq_true (by omega)
    refine acalls_of fn64d (by simp) ?_
    simp only [List.length_cons, List.length_nil, Nat.reduceAdd, Nat.reduceSub, List.replicate, List.cons_append, List.nil_append, List.append_nil]
    simp (disch := omega) only [c64d, k1, k2, go_sem, wrap64_id, Int.tdiv_eq_ediv_of_nonneg, Int.tmod_eq_emod_of_nonneg]
    repeat' first
      | ((first | refine fnQ_pure1 ?_ ?_ | refine fnQ_pure0 ?_ ?_); (next => repeat' first | exact rvs_n | refine rvs_t ?_ | (simp [go_sem]; done)); simp only [go_sem]; (first | exact VLe.refl _ | refine VLe_int ?_ | refine VLe_bool ?_ | refine VLe_str ?_ | skip))
      | (with_reducible refine And.intro ?_ ?_)
      | with_reducible intro _
    all_goals first
      | omega
      | (rename_i hx; revert hx; simp; done)
      | (simp; done)
      | skip
  | false =>
    have hn : ¬ (48 ≤ b.toNat ∧ b.toNat ≤ 57) := fun hc => by rw [hi.2 hc] at hd; cases hd
    by_cases h1 : 48 ≤ b.toNat
    · have k1 : (48 ≤ (b.toNat : Int)) = True := eq_true (by omega)
      have k2 : ((b.toNat : Int) ≤ 57) = False := eq_false (by omega)
      refine acalls_of fn64d (by simp) ?_
      simp only [List.length_cons, List.length_nil, Nat.reduceAdd, Nat.reduceSub, List.replicate, List.cons_append, List.nil_append, List.append_nil]
      simp (disch := omega) only [c64d, k1, k2, go_sem, wrap64_id, Int.tdiv_eq_ediv_of_nonneg, Int.tmod_eq_emod_of_nonneg]
      repeat' first
        | ((first | refine fnQ_pure1 ?_ ?_ | refine fnQ_pure0 ?_ ?_); (next => repeat' first | exact rvs_n | refine rvs_t ?_ | (simp [go_sem]; done)); simp only [go_sem]; (first | exact VLe.refl _ | refine VLe_int ?_ | refine VLe_bool ?_ | refine VLe_str ?_ | skip))
        | (with_reducible refine And.intro ?_ ?_)
        | with_reducible intro _
      all_goals first
        | omega
        | (rename_i hx; revert hx; simp; done)
        | (simp; done)
        | skip
    · have k1 : (48 ≤ (b.toNat : Int)) = False := eq_false (by omega)
      refine acalls_of fn64d (by simp) ?_
      simp only [List.length_cons, List.length_nil, Nat.reduceAdd, Nat.reduceSub, List.replicate, List.cons_append, List.nil_append, List.append_nil]
      simp (disch := omega) only [c64d, k1, go_sem, wrap64_id, Int.tdiv_eq_ediv_of_nonneg, Int.tmod_eq_emod_of_nonneg]
      repeat' first
        | ((first | refine fnQ_pure1 ?_ ?_ | refine fnQ_pure0 ?_ ?_); (next => repeat' first | exact rvs_n | refine rvs_t ?_ | (simp [go_sem]; done)); simp only [go_sem]; (first | exact VLe.refl _ | refine VLe_int ?_ | refine VLe_bool ?_ | refine VLe_str ?_ | skip))
        | (with_reducible refine And.intro ?_ ?_)
        | with_reducible intro _
      all_goals first
        | omega
        | (rename_i hx; revert hx; simp; done)
        | (simp; done)
        | skip
theorem rdAll_succ (s : List UInt8) {i : Nat} (hi : i < s.length) : rdAll (s.take (i + 1)) = rdStep (rdAll (s.take i)) (s.getD i 0) := by
  unfold rdAll
  rw [List.take_add_one, List.getElem?_eq_getElem hi, List.foldl_append, List.getD_eq_getElem?_getD, List.getElem?_eq_getElem hi]
  rfl
theorem rdAll_len (s : List UInt8) : ∀ i, i ≤ s.length → (rdAll (s.take i)).1.length ≤ i := by
  intro i
  induction i with
  | zero => intro _; exact Nat.le_refl _
  | succ i ih =>
    intro h
    rw [rdAll_succ s (by omega)]
    have := ih (by omega)
    unfold rdStep
    split
    · simp only; omega
    · simp only
      split
      · rw [List.length_append, List.length_singleton]; omega
      · omega
set_option maxHeartbeats 4000000 in
theorem v47b (s : List UInt8) (h : List AObj) (hs : s.length ≤ 1000000000) (i0 : Nat) (hi0 : i0 < s.length) (hb0 : badD s i0 = true) (o1 : ∀ i, i < i0 → badD s i = false) : ACalls Tryd.prog 47 [.str s] h (.tup [.agg [.str [], .nl], .bool false]) h := by
  have o0 : s ≠ [] := by rintro rfl; simp at hi0
  have k0 : (s = []) = False := eq_false o0
  refine acalls_of fn47d (by simp) ?_
  simp only [List.length_cons, List.length_nil, Nat.reduceAdd, Nat.reduceSub, List.replicate, List.cons_append, List.nil_append, List.append_nil]
  simp (disch := omega) only [c47d, k0, go_sem, wrap64_id, Int.tdiv_eq_ediv_of_nonneg, Int.tmod_eq_emod_of_nonneg]
  repeat' first
    | ((first | refine fnQ_pure1 ?_ ?_ | refine fnQ_pure0 ?_ ?_); (next => repeat' first | exact rvs_n | refine rvs_t ?_ | (simp [go_sem]; done)); simp only [go_sem]; (first | exact VLe.refl _ | refine VLe_int ?_ | refine VLe_bool ?_ | refine VLe_str ?_ | skip))
    | (with_reducible refine And.intro ?_ ?_)
    | with_reducible intro _
  all_goals first
    | omega
    | (rename_i hx; revert hx; simp; done)
    | (simp; done)
    | skip
  refine loop_of (T := fun i : Nat => spar 97 [(0, .str s), (2, .op h.length 1 0), (4, .op (h.length + 1) 1 0), (5, .int .i64 i)])
    (H := fun i => h ++ [.mem 1 32 [.str [], .nl], .mem 1 32 [.str (letB (s.take i)), .nl], .emp 0, .emp 0, .emp 0, .emp 0])
    (inv := fun i => i ≤ i0) (m := fun i => i0 - i) 0 (by omega) (Wk.temps ?_) ?_
  · (simp only [spar, List.foldl, List.replicate, go_sem, VLes_nil, VLes_cons, VLe_undef_iff, VLe_self]; try (repeat' first | (with_reducible refine And.intro ?_ ?_) | (refine VLe_int ?_; omega) | (refine VLe_bool ?_; rfl) | exact VLe.refl _))
  rintro i i1 K hK
  by_cases hii : i < i0
  · have hi : i < s.length := by omega
    have c79 := fun h => v64 (s.getD i 0) h
    have hlb := letB_le s i
    have hbad := o1 i hii
    unfold badD at hbad
    cases hd : dg (s.getD i 0) with
    | false =>
      rw [hd] at c79
      simp (disch := omega) only [spar, List.foldl, List.replicate, go_sem, wrap64_id, Int.tdiv_eq_ediv_of_nonneg, Int.tmod_eq_emod_of_nonneg]
      repeat' first
        | ((first | refine callA_pure (c79 _) ?_ ?_); (next => repeat' first | exact flags_n | refine flags_c (by first | rfl | assumption) ?_); simp (disch := omega) only [spar, go_sem, wrap64_id, Int.tdiv_eq_ediv_of_nonneg, Int.tmod_eq_emod_of_nonneg])
        | ((first | refine callG_pure (fun e => ⟨?_, c79 _⟩) ?_); (next => repeat' first | exact flags_n | refine flags_c (by first | rfl | assumption) ?_); simp (disch := omega) only [spar, go_sem, wrap64_id, Int.tdiv_eq_ediv_of_nonneg, Int.tmod_eq_emod_of_nonneg])
        | ((first | refine fnQ_pure1 ?_ ?_ | refine fnQ_pure0 ?_ ?_); (next => repeat' first | exact rvs_n | refine rvs_t ?_ | (simp [go_sem]; done)); simp only [go_sem]; (first | exact VLe.refl _ | refine VLe_int ?_ | refine VLe_bool ?_ | refine VLe_str ?_ | skip))
        | (with_reducible refine And.intro ?_ ?_)
        | with_reducible intro _
      all_goals first
        | omega
        | (rename_i hx; revert hx; simp; done)
        | (simp; done)
        | skip
      · rw [List.length_take, List.length_drop]; omega
      · have f1 : ((i : Int) + 1).toNat - i = 1 := by omega
        rw [f1, ← letB_f hi hd]
        refine hK _ _ (i + 1) (by omega) (by omega) (Wk.temps ?_)
        (simp only [spar, List.foldl, List.replicate, go_sem, VLes_nil, VLes_cons, VLe_undef_iff, VLe_self]; try (repeat' first | (with_reducible refine And.intro ?_ ?_) | (refine VLe_int ?_; omega) | (refine VLe_bool ?_; rfl) | exact VLe.refl _))
    | true =>
      rw [hd] at c79 hbad
      simp only [Bool.true_and, Bool.or_eq_false_iff, decide_eq_false_iff_not, Bool.and_eq_false_imp, decide_eq_true_eq] at hbad
      obtain ⟨b1, b2⟩ := hbad
      have k2 : (((s.getD i 0).toNat : Int) = 48) = False := eq_false (fun e => b1 (UInt8.toNat_inj.1 (by simpa using (show (s.getD i 0).toNat = 48 by omega))))
      have k2' : (((s[i]?.getD 0).toNat : Int) = 48) = False := k2
      by_cases hn : i + 1 < s.length
      · obtain ⟨b3, b4⟩ := b2 hn
        have k3 : ((i : Int) + 1 < s.length) = True := eq_true (by omega)
        have c79b := fun h => v64 (s.getD (i + 1) 0) h
        rw [b3] at c79b
        have hlt := (s.getD (i + 1) 0).toNat_lt
        have c71 := fun h => t117 ((s.getD (i + 1) 0).toNat : Int) h
        have k4 : (kindI ((s.getD (i + 1) 0).toNat : Int) = 2) = False := eq_false b4
        have k4' : (kindI ((s[i + 1]?.getD 0).toNat : Int) = 2) = False := k4
        have f0 : ((i : Int) + 1).toNat = i + 1 := by omega
        simp (disch := omega) only [spar, List.foldl, List.replicate, k2, k2', k3, k4, k4', go_sem, wrap64_id, Int.tdiv_eq_ediv_of_nonneg, Int.tmod_eq_emod_of_nonneg]
        repeat' first
          | ((first | refine callA_pure (c79 _) ?_ ?_ | refine callA_pure (c79b _) ?_ ?_ | refine callA_pure (c71 _) ?_ ?_); (next => repeat' first | exact flags_n | refine flags_c (by first | rfl | assumption) ?_); simp (disch := omega) only [spar, k2, k2', k3, k4, k4', go_sem, wrap64_id, Int.tdiv_eq_ediv_of_nonneg, Int.tmod_eq_emod_of_nonneg])
          | ((first | refine callG_pure (fun e => ⟨?_, c79 _⟩) ?_ | refine callG_pure (fun e => ⟨?_, c79b _⟩) ?_ | refine callG_pure (fun e => ⟨?_, c71 _⟩) ?_); (next => repeat' first | exact flags_n | refine flags_c (by first | rfl | assumption) ?_); simp (disch := omega) only [spar, k2, k2', k3, k4, k4', go_sem, wrap64_id, Int.tdiv_eq_ediv_of_nonneg, Int.tmod_eq_emod_of_nonneg])
          | ((first | refine fnQ_pure1 ?_ ?_ | refine fnQ_pure0 ?_ ?_); (next => repeat' first | exact rvs_n | refine rvs_t ?_ | (simp [go_sem]; done)); simp only [go_sem]; (first | exact VLe.refl _ | refine VLe_int ?_ | refine VLe_bool ?_ | refine VLe_str ?_ | skip))
          | (with_reducible refine And.intro ?_ ?_)
          | with_reducible intro _
        all_goals first
          | omega
          | (rename_i hx; revert hx; simp; done)
          | (simp; done)
          | skip
        rw [← letB_t hi hd]
        refine hK _ _ (i + 1) (by omega) (by omega) (Wk.temps ?_)
        (simp only [spar, List.foldl, List.replicate, go_sem, VLes_nil, VLes_cons, VLe_undef_iff, VLe_self]; try (repeat' first | (with_reducible refine And.intro ?_ ?_) | (refine VLe_int ?_; omega) | (refine VLe_bool ?_; rfl) | exact VLe.refl _))
      · omega
  have e : i = i0 := by omega
  subst e
  have c79 := fun h => v64 (s.getD i 0) h
  unfold badD at hb0
  simp only [Bool.and_eq_true, Bool.or_eq_true, decide_eq_true_eq] at hb0
  obtain ⟨hd, hb1⟩ := hb0
  rw [hd] at c79
  by_cases h48 : s.getD i 0 = 48
  · have k2 : (((s.getD i 0).toNat : Int) = 48) = True := eq_true (by rw [h48]; rfl)
    have k2' : (((s[i]?.getD 0).toNat : Int) = 48) = True := k2
    obtain ⟨d, hd3⟩ : ∃ d : Bool, d = decide ((i : Int) + 1 < s.length) := ⟨_, rfl⟩
    cases d with
    | true =>
      have k3 : ((i : Int) + 1 < s.length) = True := eq_true (by simpa using hd3.symm)
      simp (disch := omega) only [spar, List.foldl, List.replicate, k2, k2', k3, go_sem, wrap64_id, Int.tdiv_eq_ediv_of_nonneg, Int.tmod_eq_emod_of_nonneg]
      repeat' first
        | ((first | refine callA_pure (c79 _) ?_ ?_); (next => repeat' first | exact flags_n | refine flags_c (by first | rfl | assumption) ?_); simp (disch := omega) only [spar, k2, k2', k3, go_sem, wrap64_id, Int.tdiv_eq_ediv_of_nonneg, Int.tmod_eq_emod_of_nonneg])
        | ((first | refine callG_pure (fun e => ⟨?_, c79 _⟩) ?_); (next => repeat' first | exact flags_n | refine flags_c (by first | rfl | assumption) ?_); simp (disch := omega) only [spar, k2, k2', k3, go_sem, wrap64_id, Int.tdiv_eq_ediv_of_nonneg, Int.tmod_eq_emod_of_nonneg])
        | ((first | refine fnQ_pure1 ?_ ?_ | refine fnQ_pure0 ?_ ?_); (next => repeat' first | exact rvs_n | refine rvs_t ?_ | (simp [go_sem]; done)); simp only [go_sem]; (first | exact VLe.refl _ | refine VLe_int ?_ | refine VLe_bool ?_ | refine VLe_str ?_ | skip))
        | (with_reducible refine And.intro ?_ ?_)
        | with_reducible intro _
      all_goals first
        | omega
        | (rename_i hx; revert hx; simp; done)
        | (simp; done)
        | skip
      refine callG_false (.bool false) ?_
      simp (disch := omega) only [spar, k2, k2', k3, go_sem, wrap64_id, Int.tdiv_eq_ediv_of_nonneg, Int.tmod_eq_emod_of_nonneg]
      refine callG_false (.int .i64 0) ?_
      simp (disch := omega) only [spar, k2, k2', k3, go_sem, wrap64_id, Int.tdiv_eq_ediv_of_nonneg, Int.tmod_eq_emod_of_nonneg]
      repeat' first
        | ((first | refine fnQ_pure1 ?_ ?_ | refine fnQ_pure0 ?_ ?_); (next => repeat' first | exact rvs_n | refine rvs_t ?_ | (simp [go_sem]; done)); simp only [go_sem]; (first | exact VLe.refl _ | refine VLe_int ?_ | refine VLe_bool ?_ | refine VLe_str ?_ | skip))
        | (with_reducible refine And.intro ?_ ?_)
        | with_reducible intro _
      all_goals first
        | omega
        | (rename_i hx; revert hx; simp; done)
        | (simp; done)
        | skip
    | false =>
      have k3 : ((i : Int) + 1 < s.length) = False := eq_false (by simpa using hd3.symm)
      simp (disch := omega) only [spar, List.foldl, List.replicate, k2, k2', k3, go_sem, wrap64_id, Int.tdiv_eq_ediv_of_nonneg, Int.tmod_eq_emod_of_nonneg]
      repeat' first
        | ((first | refine callA_pure (c79 _) ?_ ?_); (next => repeat' first | exact flags_n | refine flags_c (by first | rfl | assumption) ?_); simp (disch := omega) only [spar, k2, k2', k3, go_sem, wrap64_id, Int.tdiv_eq_ediv_of_nonneg, Int.tmod_eq_emod_of_nonneg])
        | ((first | refine callG_pure (fun e => ⟨?_, c79 _⟩) ?_); (next => repeat' first | exact flags_n | refine flags_c (by first | rfl | assumption) ?_); simp (disch := omega) only [spar, k2, k2', k3, go_sem, wrap64_id, Int.tdiv_eq_ediv_of_nonneg, Int.tmod_eq_emod_of_nonneg])
        | ((first | refine fnQ_pure1 ?_ ?_ | refine fnQ_pure0 ?_ ?_); (next => repeat' first | exact rvs_n | refine rvs_t ?_ | (simp [go_sem]; done)); simp only [go_sem]; (first | exact VLe.refl _ | refine VLe_int ?_ | refine VLe_bool ?_ | refine VLe_str ?_ | skip))
        | (with_reducible refine And.intro ?_ ?_)
        | with_reducible intro _
      all_goals first
        | omega
        | (rename_i hx; revert hx; simp; done)
        | (simp; done)
        | skip
      refine callG_false (.bool false) ?_
      simp (disch := omega) only [spar, k2, k2', k3, go_sem, wrap64_id, Int.tdiv_eq_ediv_of_nonneg, Int.tmod_eq_emod_of_nonneg]
      refine callG_false (.int .i64 0) ?_
      simp (disch := omega) only [spar, k2, k2', k3, go_sem, wrap64_id, Int.tdiv_eq_ediv_of_nonneg, Int.tmod_eq_emod_of_nonneg]
      repeat' first
        | ((first | refine fnQ_pure1 ?_ ?_ | refine fnQ_pure0 ?_ ?_); (next => repeat' first | exact rvs_n | refine rvs_t ?_ | (simp [go_sem]; done)); simp only [go_sem]; (first | exact VLe.refl _ | refine VLe_int ?_ | refine VLe_bool ?_ | refine VLe_str ?_ | skip))
        | (with_reducible refine And.intro ?_ ?_)
        | with_reducible intro _
      all_goals first
        | omega
        | (rename_i hx; revert hx; simp; done)
        | (simp; done)
        | skip
  · obtain ⟨hn, hb2⟩ := hb1.resolve_left h48
    have k2 : (((s.getD i 0).toNat : Int) = 48) = False := eq_false (fun e => h48 (UInt8.toNat_inj.1 (by simpa using (show (s.getD i 0).toNat = 48 by omega))))
    have k2' : (((s[i]?.getD 0).toNat : Int) = 48) = False := k2
    have k3 : ((i : Int) + 1 < s.length) = True := eq_true (by omega)
    have c79b := fun h => v64 (s.getD (i + 1) 0) h
    have hlt := (s.getD (i + 1) 0).toNat_lt
    cases hd2 : dg (s.getD (i + 1) 0) with
    | true =>
      rw [hd2] at c79b
      simp (disch := omega) only [spar, List.foldl, List.replicate, k2, k2', k3, go_sem, wrap64_id, Int.tdiv_eq_ediv_of_nonneg, Int.tmod_eq_emod_of_nonneg]
      repeat' first
        | (refine callG_false ((.int .i64 0)) ?_; simp (disch := omega) only [spar, k2, k2', k3, go_sem, wrap64_id, Int.tdiv_eq_ediv_of_nonneg, Int.tmod_eq_emod_of_nonneg])
        | ((first | refine callA_pure (c79 _) ?_ ?_ | refine callA_pure (c79b _) ?_ ?_); (next => repeat' first | exact flags_n | refine flags_c (by first | rfl | assumption) ?_); simp (disch := omega) only [spar, k2, k2', k3, go_sem, wrap64_id, Int.tdiv_eq_ediv_of_nonneg, Int.tmod_eq_emod_of_nonneg])
        | ((first | refine callG_pure (fun e => ⟨?_, c79 _⟩) ?_ | refine callG_pure (fun e => ⟨?_, c79b _⟩) ?_); (next => repeat' first | exact flags_n | refine flags_c (by first | rfl | assumption) ?_); simp (disch := omega) only [spar, k2, k2', k3, go_sem, wrap64_id, Int.tdiv_eq_ediv_of_nonneg, Int.tmod_eq_emod_of_nonneg])
        | ((first | refine fnQ_pure1 ?_ ?_ | refine fnQ_pure0 ?_ ?_); (next => repeat' first | exact rvs_n | refine rvs_t ?_ | (simp [go_sem]; done)); simp only [go_sem]; (first | exact VLe.refl _ | refine VLe_int ?_ | refine VLe_bool ?_ | refine VLe_str ?_ | skip))
        | (with_reducible refine And.intro ?_ ?_)
        | with_reducible intro _
      all_goals first
        | omega
        | (rename_i hx; revert hx; simp; done)
        | (simp; done)
        | skip
    | false =>
      rw [hd2] at c79b hb2
      have c71 := fun h => t117 ((s.getD (i + 1) 0).toNat : Int) h
      have k4 : (kindI ((s.getD (i + 1) 0).toNat : Int) = 2) = True := eq_true (by simpa using hb2)
      have k4' : (kindI ((s[i + 1]?.getD 0).toNat : Int) = 2) = True := k4
      simp (disch := omega) only [spar, List.foldl, List.replicate, k2, k2', k3, k4, k4', go_sem, wrap64_id, Int.tdiv_eq_ediv_of_nonneg, Int.tmod_eq_emod_of_nonneg]
      repeat' first
        | ((first | refine callA_pure (c79 _) ?_ ?_ | refine callA_pure (c79b _) ?_ ?_ | refine callA_pure (c71 _) ?_ ?_); (next => repeat' first | exact flags_n | refine flags_c (by first | rfl | assumption) ?_); simp (disch := omega) only [spar, k2, k2', k3, k4, k4', go_sem, wrap64_id, Int.tdiv_eq_ediv_of_nonneg, Int.tmod_eq_emod_of_nonneg])
        | ((first | refine callG_pure (fun e => ⟨?_, c79 _⟩) ?_ | refine callG_pure (fun e => ⟨?_, c79b _⟩) ?_ | refine callG_pure (fun e => ⟨?_, c71 _⟩) ?_); (next => repeat' first | exact flags_n | refine flags_c (by first | rfl | assumption) ?_); simp (disch := omega) only [spar, k2, k2', k3, k4, k4', go_sem, wrap64_id, Int.tdiv_eq_ediv_of_nonneg, Int.tmod_eq_emod_of_nonneg])
        | ((first | refine fnQ_pure1 ?_ ?_ | refine fnQ_pure0 ?_ ?_); (next => repeat' first | exact rvs_n | refine rvs_t ?_ | (simp [go_sem]; done)); simp only [go_sem]; (first | exact VLe.refl _ | refine VLe_int ?_ | refine VLe_bool ?_ | refine VLe_str ?_ | skip))
        | (with_reducible refine And.intro ?_ ?_)
        | with_reducible intro _
      all_goals first
        | omega
        | (rename_i hx; revert hx; simp; done)
        | (simp; done)
        | skip
theorem v47n (h : List AObj) : ACalls Tryd.prog 47 [.str []] h (.tup [.agg [.str [], .nl], .bool false]) h := by
  have k0 : (([] : List UInt8) = []) = True := eq_true rfl
  refine acalls_of fn47d (by simp) ?_
  simp only [List.length_cons, List.length_nil, Nat.reduceAdd, Nat.reduceSub, List.replicate, List.cons_append, List.nil_append, List.append_nil]
  simp (disch := omega) only [c47d, k0, go_sem, wrap64_id, Int.tdiv_eq_ediv_of_nonneg, Int.tmod_eq_emod_of_nonneg]
  repeat' first
    | ((first | refine fnQ_pure1 ?_ ?_ | refine fnQ_pure0 ?_ ?_); (next => repeat' first | exact rvs_n | refine rvs_t ?_ | (simp [go_sem]; done)); simp only [go_sem]; (first | exact VLe.refl _ | refine VLe_int ?_ | refine VLe_bool ?_ | refine VLe_str ?_ | skip))
    | (with_reducible refine And.intro ?_ ?_)
    | with_reducible intro _
  all_goals first
    | omega
    | (rename_i hx; revert hx; simp; done)
    | (simp; done)
    | skip
end HY
end

section
/-! the text E49 -/
open Go Go.Proofs AF HY
namespace HY
set_option maxRecDepth 100000
theorem take_app1 {L : List Int} {n : Nat} (h : n = L.length) : List.take n (intsC L) = intsC L := List.take_of_length_le (by rw [intsC_len]; omega)
set_option maxHeartbeats 8000000 in
theorem v47 (s : List UInt8) (h : List AObj) (hs : s.length ≤ 1000000000) (h0 : s ≠ []) (hnb : nb s) : ACalls Tryd.prog 47 [.str s] h (.tup [.agg [.str (letB s), intsV ((rdAll s).1 ++ [(rdAll s).2])], .bool true]) h := by
  have o1 := (nb_iff s).1 hnb
  have k0 : (s = []) = False := eq_false h0
  refine acalls_of fn47d (by simp) ?_
  simp only [List.length_cons, List.length_nil, Nat.reduceAdd, Nat.reduceSub, List.replicate, List.cons_append, List.nil_append, List.append_nil]
  simp (disch := omega) only [c47d, k0, go_sem, wrap64_id, Int.tdiv_eq_ediv_of_nonneg, Int.tmod_eq_emod_of_nonneg]
  repeat' first
    | ((first | refine fnQ_pure1 ?_ ?_ | refine fnQ_pure0 ?_ ?_); (next => repeat' first | exact rvs_n | refine rvs_t ?_ | (simp [go_sem]; done)); simp only [go_sem]; (first | exact VLe.refl _ | refine VLe_int ?_ | refine VLe_bool ?_ | refine VLe_str ?_ | skip))
    | (with_reducible refine And.intro ?_ ?_)
    | with_reducible intro _
  all_goals first
    | omega
    | (rename_i hx; revert hx; simp; done)
    | (simp; done)
    | skip
  refine loop_of (T := fun i : Nat => spar 97 [(0, .str s), (2, .op h.length 1 0), (4, .op (h.length + 1) 1 0), (5, .int .i64 i)])
    (H := fun i => h ++ [.mem 1 32 [.str [], .nl], .mem 1 32 [.str (letB (s.take i)), .nl], .emp 0, .emp 0, .emp 0, .emp 0])
    (inv := fun i => i ≤ s.length) (m := fun i => s.length - i) 0 (by omega) (Wk.temps ?_) ?_
  · (simp only [spar, List.foldl, List.replicate, go_sem, VLes_nil, VLes_cons, VLe_undef_iff, VLe_self]; try (repeat' first | (with_reducible refine And.intro ?_ ?_) | (refine VLe_int ?_; omega) | (refine VLe_bool ?_; rfl) | exact VLe.refl _))
  rintro i i1 K hK
  by_cases hi : i < s.length
  · have c79 := fun h => v64 (s.getD i 0) h
    have hlb := letB_le s i
    have hbad := o1 i hi
    unfold badD at hbad
    cases hd : dg (s.getD i 0) with
    | false =>
      rw [hd] at c79
      simp (disch := omega) only [spar, List.foldl, List.replicate, go_sem, wrap64_id, Int.tdiv_eq_ediv_of_nonneg, Int.tmod_eq_emod_of_nonneg]
      repeat' first
        | ((first | refine callA_pure (c79 _) ?_ ?_); (next => repeat' first | exact flags_n | refine flags_c (by first | rfl | assumption) ?_); simp (disch := omega) only [spar, go_sem, wrap64_id, Int.tdiv_eq_ediv_of_nonneg, Int.tmod_eq_emod_of_nonneg])
        | ((first | refine callG_pure (fun e => ⟨?_, c79 _⟩) ?_); (next => repeat' first | exact flags_n | refine flags_c (by first | rfl | assumption) ?_); simp (disch := omega) only [spar, go_sem, wrap64_id, Int.tdiv_eq_ediv_of_nonneg, Int.tmod_eq_emod_of_nonneg])
        | ((first | refine fnQ_pure1 ?_ ?_ | refine fnQ_pure0 ?_ ?_); (next => repeat' first | exact rvs_n | refine rvs_t ?_ | (simp [go_sem]; done)); simp only [go_sem]; (first | exact VLe.refl _ | refine VLe_int ?_ | refine VLe_bool ?_ | refine VLe_str ?_ | skip))
        | (with_reducible refine And.intro ?_ ?_)
        | with_reducible intro _
      all_goals first
        | omega
        | (rename_i hx; revert hx; simp; done)
        | (simp; done)
        | skip
      · rw [List.length_take, List.length_drop]; omega
      · have f1 : ((i : Int) + 1).toNat - i = 1 := by omega
        rw [f1, ← letB_f hi hd]
        refine hK _ _ (i + 1) (by omega) (by omega) (Wk.temps ?_)
        (simp only [spar, List.foldl, List.replicate, go_sem, VLes_nil, VLes_cons, VLe_undef_iff, VLe_self]; try (repeat' first | (with_reducible refine And.intro ?_ ?_) | (refine VLe_int ?_; omega) | (refine VLe_bool ?_; rfl) | exact VLe.refl _))
    | true =>
      rw [hd] at c79 hbad
      simp only [Bool.true_and, Bool.or_eq_false_iff, decide_eq_false_iff_not, Bool.and_eq_false_imp, decide_eq_true_eq] at hbad
      obtain ⟨b1, b2⟩ := hbad
      have k2 : (((s.getD i 0).toNat : Int) = 48) = False := eq_false (fun e => b1 (UInt8.toNat_inj.1 (by simpa using (show (s.getD i 0).toNat = 48 by omega))))
      have k2' : (((s[i]?.getD 0).toNat : Int) = 48) = False := k2
      by_cases hn : i + 1 < s.length
      · obtain ⟨b3, b4⟩ := b2 hn
        have k3 : ((i : Int) + 1 < s.length) = True := eq_true (by omega)
        have c79b := fun h => v64 (s.getD (i + 1) 0) h
        rw [b3] at c79b
        have hlt := (s.getD (i + 1) 0).toNat_lt
        have c71 := fun h => t117 ((s.getD (i + 1) 0).toNat : Int) h
        have k4 : (kindI ((s.getD (i + 1) 0).toNat : Int) = 2) = False := eq_false b4
        have k4' : (kindI ((s[i + 1]?.getD 0).toNat : Int) = 2) = False := k4
        have f0 : ((i : Int) + 1).toNat = i + 1 := by omega
        simp (disch := omega) only [spar, List.foldl, List.replicate, k2, k2', k3, k4, k4', go_sem, wrap64_id, Int.tdiv_eq_ediv_of_nonneg, Int.tmod_eq_emod_of_nonneg]
        repeat' first
          | ((first | refine callA_pure (c79 _) ?_ ?_ | refine callA_pure (c79b _) ?_ ?_ | refine callA_pure (c71 _) ?_ ?_); (next => repeat' first | exact flags_n | refine flags_c (by first | rfl | assumption) ?_); simp (disch := omega) only [spar, k2, k2', k3, k4, k4', go_sem, wrap64_id, Int.tdiv_eq_ediv_of_nonneg, Int.tmod_eq_emod_of_nonneg])
          | ((first | refine callG_pure (fun e => ⟨?_, c79 _⟩) ?_ | refine callG_pure (fun e => ⟨?_, c79b _⟩) ?_ | refine callG_pure (fun e => ⟨?_, c71 _⟩) ?_); (next => repeat' first | exact flags_n | refine flags_c (by first | rfl | assumption) ?_); simp (disch := omega) only [spar, k2, k2', k3, k4, k4', go_sem, wrap64_id, Int.tdiv_eq_ediv_of_nonneg, Int.tmod_eq_emod_of_nonneg])
          | ((first | refine fnQ_pure1 ?_ ?_ | refine fnQ_pure0 ?_ ?_); (next => repeat' first | exact rvs_n | refine rvs_t ?_ | (simp [go_sem]; done)); simp only [go_sem]; (first | exact VLe.refl _ | refine VLe_int ?_ | refine VLe_bool ?_ | refine VLe_str ?_ | skip))
          | (with_reducible refine And.intro ?_ ?_)
          | with_reducible intro _
        all_goals first
          | omega
          | (rename_i hx; revert hx; simp; done)
          | (simp; done)
          | skip
        rw [← letB_t hi hd]
        refine hK _ _ (i + 1) (by omega) (by omega) (Wk.temps ?_)
        (simp only [spar, List.foldl, List.replicate, go_sem, VLes_nil, VLes_cons, VLe_undef_iff, VLe_self]; try (repeat' first | (with_reducible refine And.intro ?_ ?_) | (refine VLe_int ?_; omega) | (refine VLe_bool ?_; rfl) | exact VLe.refl _))
      · have k3 : ((i : Int) + 1 < s.length) = False := eq_false (by omega)
        simp (disch := omega) only [spar, List.foldl, List.replicate, k2, k2', k3, go_sem, wrap64_id, Int.tdiv_eq_ediv_of_nonneg, Int.tmod_eq_emod_of_nonneg]
        repeat' first
          | ((first | refine callA_pure (c79 _) ?_ ?_); (next => repeat' first | exact flags_n | refine flags_c (by first | rfl | assumption) ?_); simp (disch := omega) only [spar, k2, k2', k3, go_sem, wrap64_id, Int.tdiv_eq_ediv_of_nonneg, Int.tmod_eq_emod_of_nonneg])
          | ((first | refine callG_pure (fun e => ⟨?_, c79 _⟩) ?_); (next => repeat' first | exact flags_n | refine flags_c (by first | rfl | assumption) ?_); simp (disch := omega) only [spar, k2, k2', k3, go_sem, wrap64_id, Int.tdiv_eq_ediv_of_nonneg, Int.tmod_eq_emod_of_nonneg])
          | ((first | refine fnQ_pure1 ?_ ?_ | refine fnQ_pure0 ?_ ?_); (next => repeat' first | exact rvs_n | refine rvs_t ?_ | (simp [go_sem]; done)); simp only [go_sem]; (first | exact VLe.refl _ | refine VLe_int ?_ | refine VLe_bool ?_ | refine VLe_str ?_ | skip))
          | (with_reducible refine And.intro ?_ ?_)
          | with_reducible intro _
        all_goals first
          | omega
          | (rename_i hx; revert hx; simp; done)
          | (simp; done)
          | skip
        refine callG_false (.bool false) ?_
        simp (disch := omega) only [spar, k2, k2', k3, go_sem, wrap64_id, Int.tdiv_eq_ediv_of_nonneg, Int.tmod_eq_emod_of_nonneg]
        refine callG_false (.int .i64 0) ?_
        simp (disch := omega) only [spar, k2, k2', k3, go_sem, wrap64_id, Int.tdiv_eq_ediv_of_nonneg, Int.tmod_eq_emod_of_nonneg]
        repeat' first
          | ((first | refine fnQ_pure1 ?_ ?_ | refine fnQ_pure0 ?_ ?_); (next => repeat' first | exact rvs_n | refine rvs_t ?_ | (simp [go_sem]; done)); simp only [go_sem]; (first | exact VLe.refl _ | refine VLe_int ?_ | refine VLe_bool ?_ | refine VLe_str ?_ | skip))
          | (with_reducible refine And.intro ?_ ?_)
          | with_reducible intro _
        all_goals first
          | omega
          | (rename_i hx; revert hx; simp; done)
          | (simp; done)
          | skip
        rw [← letB_t hi hd]
        refine hK _ _ (i + 1) (by omega) (by omega) (Wk.temps ?_)
        (simp only [spar, List.foldl, List.replicate, go_sem, VLes_nil, VLes_cons, VLe_undef_iff, VLe_self]; try (repeat' first | (with_reducible refine And.intro ?_ ?_) | (refine VLe_int ?_; omega) | (refine VLe_bool ?_; rfl) | exact VLe.refl _))
  have e : i = s.length := by omega
  subst e
  rw [List.take_length]
  clear hK
  obtain ⟨LB, hLB⟩ : ∃ LB, LB = letB s := ⟨_, rfl⟩
  rw [← hLB]
  simp (disch := omega) only [spar, List.foldl, List.replicate, go_sem, wrap64_id, Int.tdiv_eq_ediv_of_nonneg, Int.tmod_eq_emod_of_nonneg]
  repeat' first
    | ((first | refine fnQ_pure1 ?_ ?_ | refine fnQ_pure0 ?_ ?_); (next => repeat' first | exact rvs_n | refine rvs_t ?_ | (simp [go_sem]; done)); simp only [go_sem]; (first | exact VLe.refl _ | refine VLe_int ?_ | refine VLe_bool ?_ | refine VLe_str ?_ | skip))
    | (with_reducible refine And.intro ?_ ?_)
    | with_reducible intro _
  all_goals first
    | omega
    | (rename_i hx; revert hx; simp; done)
    | (simp; done)
    | skip
  refine loop_of (T := fun i : Nat => spar 97 [(0, .str s), (2, .op h.length 1 0), (4, .op (h.length + 1) 1 0), (6, .int .i64 (rdAll (s.take i)).2), (7, .int .i64 i)])
    (H := fun i => h ++ [.mem 1 32 [.str [], .nl], .mem 1 32 [.str LB, lvV (h.length + 3) (rdAll (s.take i)).1.length], lvT (rdAll (s.take i)).1.length ((rdAll (s.take i)).1.getD ((rdAll (s.take i)).1.length - 1) 0), lvO (rdAll (s.take i)).1.length (rdAll (s.take i)).1, .emp 0, .emp 0])
    (inv := fun i => i ≤ s.length) (m := fun i => s.length - i) 0 (by omega) (Wk.temps ?_) ?_
  · (simp only [spar, List.foldl, List.replicate, go_sem, VLes_nil, VLes_cons, VLe_undef_iff, VLe_self]; try (repeat' first | (with_reducible refine And.intro ?_ ?_) | (refine VLe_int ?_; omega) | (refine VLe_bool ?_; rfl) | exact VLe.refl _))
  rintro i q1 K2 hK2
  have hlen := rdAll_len s i q1
  by_cases hi : i < s.length
  · have hsu := rdAll_succ s hi
    obtain ⟨st, hst⟩ : ∃ st, st = rdAll (s.take i) := ⟨_, rfl⟩
    rw [← hst] at hsu hlen ⊢
    obtain ⟨L, l⟩ := st
    simp only at hlen ⊢
    have c64 := fun h => v64 (s.getD i 0) h
    have hlt := (s.getD i 0).toNat_lt
    cases hd : dg (s.getD i 0) with
    | true =>
      have hd2 := (dg_iff _).1 hd
      rw [hd] at c64
      unfold rdStep at hsu
      rw [if_pos hd] at hsu
      simp only at hsu
      have e6 : IntKind.i64.wrap (IntKind.u8.wrap (((s[i]?.getD 0).toNat : Int) - 48)) = ((s.getD i 0).toNat : Int) - 48 := by
        show IntKind.i64.wrap (IntKind.u8.wrap (((s.getD i 0).toNat : Int) - 48)) = _
        rw [wrap8_id (by omega) (by omega), wrap64_id (by omega) (by omega)]
      simp (disch := omega) only [spar, List.foldl, List.replicate, go_sem, wrap64_id, Int.tdiv_eq_ediv_of_nonneg, Int.tmod_eq_emod_of_nonneg]
      repeat' first
        | ((first | refine callA_pure (c64 _) ?_ ?_); (next => repeat' first | exact flags_n | refine flags_c (by first | rfl | assumption) ?_); simp (disch := omega) only [spar, go_sem, wrap64_id, Int.tdiv_eq_ediv_of_nonneg, Int.tmod_eq_emod_of_nonneg])
        | ((first | refine callG_pure (fun e => ⟨?_, c64 _⟩) ?_); (next => repeat' first | exact flags_n | refine flags_c (by first | rfl | assumption) ?_); simp (disch := omega) only [spar, go_sem, wrap64_id, Int.tdiv_eq_ediv_of_nonneg, Int.tmod_eq_emod_of_nonneg])
        | ((first | refine fnQ_pure1 ?_ ?_ | refine fnQ_pure0 ?_ ?_); (next => repeat' first | exact rvs_n | refine rvs_t ?_ | (simp [go_sem]; done)); simp only [go_sem]; (first | exact VLe.refl _ | refine VLe_int ?_ | refine VLe_bool ?_ | refine VLe_str ?_ | skip))
        | (with_reducible refine And.intro ?_ ?_)
        | with_reducible intro _
      all_goals first
        | omega
        | (rename_i hx; revert hx; simp; done)
        | (simp; done)
        | skip
      rw [e6]
      have := hK2
      refine Eq.mp (congrArg (K2 _) ?_) (hK2 _ _ (i + 1) (by omega) (by omega) (Wk.temps ?_))
      · rw [hsu]
      · rw [hsu]
        (simp only [spar, List.foldl, List.replicate, go_sem, VLes_nil, VLes_cons, VLe_undef_iff, VLe_self]; try (repeat' first | (with_reducible refine And.intro ?_ ?_) | (refine VLe_int ?_; omega) | (refine VLe_bool ?_; rfl) | exact VLe.refl _))
    | false =>
      rw [hd] at c64
      unfold rdStep at hsu
      rw [if_neg (by rw [hd]; simp)] at hsu
      simp only at hsu
      have c80 := fun h => t117 ((s.getD i 0).toNat : Int) h
      have hkk : kind (s.getD i 0) = kindI ((s.getD i 0).toNat : Int) := rfl
      have hkk' : kindI ((s[i]?.getD 0).toNat : Int) = kindI ((s.getD i 0).toNat : Int) := rfl
      by_cases hm : kindI ((s.getD i 0).toNat : Int) = 2
      · have k1 : (kindI ((s.getD i 0).toNat : Int) = 2) = True := eq_true hm
        have k1' : (kindI ((s[i]?.getD 0).toNat : Int) = 2) = True := k1
        by_cases hL : L = []
        · subst hL
          rw [if_pos (.inr rfl)] at hsu
          simp only [List.length_nil, lvV0, lvO0, lvT0]
          simp (disch := omega) only [spar, List.foldl, List.replicate, k1, k1', madeA1, go_sem, wrap64_id, Int.tdiv_eq_ediv_of_nonneg, Int.tmod_eq_emod_of_nonneg]
          repeat' first
            | ((first | refine callA_pure (c64 _) ?_ ?_ | refine callA_pure (c80 _) ?_ ?_); (next => repeat' first | exact flags_n | refine flags_c (by first | rfl | assumption) ?_); simp (disch := omega) only [spar, k1, k1', madeA1, go_sem, wrap64_id, Int.tdiv_eq_ediv_of_nonneg, Int.tmod_eq_emod_of_nonneg])
            | ((first | refine callG_pure (fun e => ⟨?_, c64 _⟩) ?_ | refine callG_pure (fun e => ⟨?_, c80 _⟩) ?_); (next => repeat' first | exact flags_n | refine flags_c (by first | rfl | assumption) ?_); simp (disch := omega) only [spar, k1, k1', madeA1, go_sem, wrap64_id, Int.tdiv_eq_ediv_of_nonneg, Int.tmod_eq_emod_of_nonneg])
            | ((first | refine fnQ_pure1 ?_ ?_ | refine fnQ_pure0 ?_ ?_); (next => repeat' first | exact rvs_n | refine rvs_t ?_ | (simp [go_sem]; done)); simp only [go_sem]; (first | exact VLe.refl _ | refine VLe_int ?_ | refine VLe_bool ?_ | refine VLe_str ?_ | skip))
            | (with_reducible refine And.intro ?_ ?_)
            | with_reducible intro _
          all_goals first
            | omega
            | (rename_i hx; revert hx; simp; done)
            | (simp; done)
            | skip
          refine Eq.mp (congrArg (K2 _) ?_) (hK2 _ _ (i + 1) (by omega) (by omega) (Wk.temps ?_))
          · rw [hsu]; rfl
          · rw [hsu]
            (simp only [spar, List.foldl, List.replicate, go_sem, VLes_nil, VLes_cons, VLe_undef_iff, VLe_self]; try (repeat' first | (with_reducible refine And.intro ?_ ?_) | (refine VLe_int ?_; omega) | (refine VLe_bool ?_; rfl) | exact VLe.refl _))
        · rw [if_neg (by rw [hkk]; rintro (hc | hc); exact hc hm; exact hL hc)] at hsu
          obtain ⟨n, hn⟩ : ∃ n, L.length = n + 1 := ⟨L.length - 1, by have := List.length_pos_iff.2 hL; omega⟩
          rw [hn]
          simp only [lvV1, lvO1, lvT1]
          have eI := intsC_len L
          simp (disch := omega) only [spar, List.foldl, List.replicate, k1, k1', madeA1, eI, hn, go_sem, wrap64_id, Int.tdiv_eq_ediv_of_nonneg, Int.tmod_eq_emod_of_nonneg]
          repeat' first
            | ((first | refine callA_pure (c64 _) ?_ ?_ | refine callA_pure (c80 _) ?_ ?_); (next => repeat' first | exact flags_n | refine flags_c (by first | rfl | assumption) ?_); simp (disch := omega) only [spar, k1, k1', madeA1, eI, hn, go_sem, wrap64_id, Int.tdiv_eq_ediv_of_nonneg, Int.tmod_eq_emod_of_nonneg])
            | ((first | refine callG_pure (fun e => ⟨?_, c64 _⟩) ?_ | refine callG_pure (fun e => ⟨?_, c80 _⟩) ?_); (next => repeat' first | exact flags_n | refine flags_c (by first | rfl | assumption) ?_); simp (disch := omega) only [spar, k1, k1', madeA1, eI, hn, go_sem, wrap64_id, Int.tdiv_eq_ediv_of_nonneg, Int.tmod_eq_emod_of_nonneg])
            | ((first | refine fnQ_pure1 ?_ ?_ | refine fnQ_pure0 ?_ ?_); (next => repeat' first | exact rvs_n | refine rvs_t ?_ | (simp [go_sem]; done)); simp only [go_sem]; (first | exact VLe.refl _ | refine VLe_int ?_ | refine VLe_bool ?_ | refine VLe_str ?_ | skip))
            | (with_reducible refine And.intro ?_ ?_)
            | with_reducible intro _
          all_goals first
            | omega
            | (rename_i hx; revert hx; simp; done)
            | (simp; done)
            | skip
          refine Eq.mp (congrArg (K2 _) ?_) (hK2 _ _ (i + 1) (by omega) (by omega) (Wk.temps ?_))
          · rw [hsu]; simp only [hn, lvV1, lvO1, lvT1]
          · rw [hsu]
            (simp only [spar, List.foldl, List.replicate, go_sem, VLes_nil, VLes_cons, VLe_undef_iff, VLe_self]; try (repeat' first | (with_reducible refine And.intro ?_ ?_) | (refine VLe_int ?_; omega) | (refine VLe_bool ?_; rfl) | exact VLe.refl _))
      · have k1 : (kindI ((s.getD i 0).toNat : Int) = 2) = False := eq_false hm
        have k1' : (kindI ((s[i]?.getD 0).toNat : Int) = 2) = False := k1
        rw [if_pos (.inl (by rw [hkk]; exact hm))] at hsu
        by_cases hL : L = []
        · subst hL
          simp only [List.length_nil, lvV0, lvO0, lvT0]
          simp (disch := omega) only [spar, List.foldl, List.replicate, k1, k1', madeA1, go_sem, wrap64_id, Int.tdiv_eq_ediv_of_nonneg, Int.tmod_eq_emod_of_nonneg]
          repeat' first
            | ((first | refine callA_pure (c64 _) ?_ ?_ | refine callA_pure (c80 _) ?_ ?_); (next => repeat' first | exact flags_n | refine flags_c (by first | rfl | assumption) ?_); simp (disch := omega) only [spar, k1, k1', madeA1, go_sem, wrap64_id, Int.tdiv_eq_ediv_of_nonneg, Int.tmod_eq_emod_of_nonneg])
            | ((first | refine callG_pure (fun e => ⟨?_, c64 _⟩) ?_ | refine callG_pure (fun e => ⟨?_, c80 _⟩) ?_); (next => repeat' first | exact flags_n | refine flags_c (by first | rfl | assumption) ?_); simp (disch := omega) only [spar, k1, k1', madeA1, go_sem, wrap64_id, Int.tdiv_eq_ediv_of_nonneg, Int.tmod_eq_emod_of_nonneg])
            | ((first | refine fnQ_pure1 ?_ ?_ | refine fnQ_pure0 ?_ ?_); (next => repeat' first | exact rvs_n | refine rvs_t ?_ | (simp [go_sem]; done)); simp only [go_sem]; (first | exact VLe.refl _ | refine VLe_int ?_ | refine VLe_bool ?_ | refine VLe_str ?_ | skip))
            | (with_reducible refine And.intro ?_ ?_)
            | with_reducible intro _
          all_goals first
            | omega
            | (rename_i hx; revert hx; simp; done)
            | (simp; done)
            | skip
          refine Eq.mp (congrArg (K2 _) ?_) (hK2 _ _ (i + 1) (by omega) (by omega) (Wk.temps ?_))
          · rw [hsu]; rfl
          · rw [hsu]
            (simp only [spar, List.foldl, List.replicate, go_sem, VLes_nil, VLes_cons, VLe_undef_iff, VLe_self]; try (repeat' first | (with_reducible refine And.intro ?_ ?_) | (refine VLe_int ?_; omega) | (refine VLe_bool ?_; rfl) | exact VLe.refl _))
        · obtain ⟨n, hn⟩ : ∃ n, L.length = n + 1 := ⟨L.length - 1, by have := List.length_pos_iff.2 hL; omega⟩
          rw [hn]
          simp only [lvV1, lvO1, lvT1]
          have eI := intsC_len L
          rw [hn] at eI
          have eT : List.take (n + 1) (intsC L) = intsC L := take_app1 hn.symm
          simp (disch := omega) only [spar, List.foldl, List.replicate, k1, k1', madeA1, eI, eT, go_sem, wrap64_id, Int.tdiv_eq_ediv_of_nonneg, Int.tmod_eq_emod_of_nonneg]
          repeat' first
            | ((first | refine callA_pure (c64 _) ?_ ?_ | refine callA_pure (c80 _) ?_ ?_); (next => repeat' first | exact flags_n | refine flags_c (by first | rfl | assumption) ?_); simp (disch := omega) only [spar, k1, k1', madeA1, eI, eT, go_sem, wrap64_id, Int.tdiv_eq_ediv_of_nonneg, Int.tmod_eq_emod_of_nonneg])
            | ((first | refine callG_pure (fun e => ⟨?_, c64 _⟩) ?_ | refine callG_pure (fun e => ⟨?_, c80 _⟩) ?_); (next => repeat' first | exact flags_n | refine flags_c (by first | rfl | assumption) ?_); simp (disch := omega) only [spar, k1, k1', madeA1, eI, eT, go_sem, wrap64_id, Int.tdiv_eq_ediv_of_nonneg, Int.tmod_eq_emod_of_nonneg])
            | ((first | refine fnQ_pure1 ?_ ?_ | refine fnQ_pure0 ?_ ?_); (next => repeat' first | exact rvs_n | refine rvs_t ?_ | (simp [go_sem]; done)); simp only [go_sem]; (first | exact VLe.refl _ | refine VLe_int ?_ | refine VLe_bool ?_ | refine VLe_str ?_ | skip))
            | (with_reducible refine And.intro ?_ ?_)
            | with_reducible intro _
          all_goals first
            | omega
            | (rename_i hx; revert hx; simp; done)
            | (simp; done)
            | skip
          refine Eq.mp (congrArg (K2 _) ?_) (hK2 _ _ (i + 1) (by omega) (by omega) (Wk.temps ?_))
          · rw [hsu]
            have e1 : (L ++ [l]).length = n + 1 + 1 := by rw [List.length_append, hn]; rfl
            have e2 : (L ++ [l]).getD (n + 1) 0 = l := by rw [← hn]; exact getD_snoc L l
            simp only [e1, lvV1, lvO1, lvT1, Nat.add_sub_cancel, e2, intsC_snoc]
          · rw [hsu]
            (simp only [spar, List.foldl, List.replicate, go_sem, VLes_nil, VLes_cons, VLe_undef_iff, VLe_self]; try (repeat' first | (with_reducible refine And.intro ?_ ?_) | (refine VLe_int ?_; omega) | (refine VLe_bool ?_; rfl) | exact VLe.refl _))
  · have e : i = s.length := by omega
    subst e
    rw [List.take_length] at hlen ⊢
    clear hK2
    obtain ⟨st, hst⟩ : ∃ st, st = rdAll s := ⟨_, rfl⟩
    rw [← hst] at hlen ⊢
    obtain ⟨L, l⟩ := st
    simp only at hlen ⊢
    by_cases hL : L = []
    · subst hL
      simp only [List.length_nil, lvV0, lvO0, lvT0]
      simp (disch := omega) only [spar, List.foldl, List.replicate, madeA1, go_sem, wrap64_id, Int.tdiv_eq_ediv_of_nonneg, Int.tmod_eq_emod_of_nonneg]
      repeat' first
        | ((first | refine fnQ_pure1 ?_ ?_ | refine fnQ_pure0 ?_ ?_); (next => repeat' first | exact rvs_n | refine rvs_t ?_ | (simp [go_sem]; done)); simp only [go_sem]; (first | exact VLe.refl _ | refine VLe_int ?_ | refine VLe_bool ?_ | refine VLe_str ?_ | skip))
        | (with_reducible refine And.intro ?_ ?_)
        | with_reducible intro _
      all_goals first
        | omega
        | (rename_i hx; revert hx; simp; done)
        | (simp; done)
        | skip
      exact VLe_tup ⟨VLe_agg ⟨VLe.refl _, intsV_of (p := [l]) rfl, trivial⟩, VLe.refl _, trivial⟩
    · obtain ⟨n, hn⟩ : ∃ n, L.length = n + 1 := ⟨L.length - 1, by have := List.length_pos_iff.2 hL; omega⟩
      rw [hn]
      simp only [lvV1, lvO1, lvT1]
      have eI := intsC_len L
      rw [hn] at eI
      have eT : List.take (n + 1) (intsC L) = intsC L := take_app1 hn.symm
      simp (disch := omega) only [spar, List.foldl, List.replicate, madeA1, eI, eT, go_sem, wrap64_id, Int.tdiv_eq_ediv_of_nonneg, Int.tmod_eq_emod_of_nonneg]
      repeat' first
        | ((first | refine fnQ_pure1 ?_ ?_ | refine fnQ_pure0 ?_ ?_); (next => repeat' first | exact rvs_n | refine rvs_t ?_ | (simp [go_sem]; done)); simp only [go_sem]; (first | exact VLe.refl _ | refine VLe_int ?_ | refine VLe_bool ?_ | refine VLe_str ?_ | skip))
        | (with_reducible refine And.intro ?_ ?_)
        | with_reducible intro _
      all_goals first
        | omega
        | (rename_i hx; revert hx; simp; done)
        | (simp; done)
        | skip
      rw [← intsC_snoc, if_pos (by rw [intsC_len, List.length_append, hn]; simp)]
      exact VLe_tup ⟨VLe_agg ⟨VLe.refl _, intsV_of (by rw [List.length_append, hn]; rfl), trivial⟩, VLe.refl _, trivial⟩
end HY
end

section
/-! the text E50 -/
open Go Go.Proofs AF HY
namespace HY
set_option maxRecDepth 100000
/-! Texts of patterns, read. -/
def badP (x : List UInt8) : Bool := x.isEmpty || (List.range x.length).any (badD x)
theorem badP_false {x : List UInt8} : badP x = false ↔ x ≠ [] ∧ nb x := by
  unfold badP
  rw [Bool.or_eq_false_iff, nb_iff]
  constructor
  · rintro ⟨h1, h2⟩
    refine ⟨fun e => (by subst e; simp at h1), fun i hi => ?_⟩
    rw [List.any_eq_false] at h2
    simpa using h2 i (by simpa using hi)
  · rintro ⟨h1, h2⟩
    refine ⟨by simpa using h1, ?_⟩
    rw [List.any_eq_false]
    intro i hi
    simpa using h2 i (by simpa using hi)
theorem least_bad {x : List UInt8} : ∀ n, (∃ i, i < n ∧ badD x i = true) → ∃ i, i < n ∧ badD x i = true ∧ ∀ j, j < i → badD x j = false := by
  intro n
  induction n with
  | zero => rintro ⟨i, h, _⟩; omega
  | succ n ih =>
    rintro ⟨i, h1, h2⟩
    by_cases hc : ∃ i, i < n ∧ badD x i = true
    · obtain ⟨k, k1, k2, k3⟩ := ih hc
      exact ⟨k, by omega, k2, k3⟩
    · have e : i = n := by
        apply Classical.byContradiction
        intro hne
        exact hc ⟨i, by omega, h2⟩
      subst e
      refine ⟨i, by omega, h2, fun j hj => ?_⟩
      cases hb : badD x j with
      | false => rfl
      | true => exact absurd ⟨j, hj, hb⟩ hc
theorem badP_true {x : List UInt8} (h : badP x = true) : x = [] ∨ ∃ i, i < x.length ∧ badD x i = true ∧ ∀ j, j < i → badD x j = false := by
  unfold badP at h
  rw [Bool.or_eq_true] at h
  rcases h with h | h
  · left; simpa using h
  · right
    rw [List.any_eq_true] at h
    obtain ⟨i, hi, hb⟩ := h
    exact least_bad _ ⟨i, by simpa using hi, hb⟩
theorem c46b {x : List UInt8} (hx : badP x = true) (hl : x.length ≤ 1000000000) : ∃ l, ∀ h, ACalls Tryd.prog 46 [.str x] h (.tup [.agg [.str l, .nl], .bool false]) h := by
  rcases badP_true hx with rfl | ⟨i, h1, h2, h3⟩
  · exact ⟨[], fun h => u46n h⟩
  · exact ⟨_, fun h => u46b x h hl i h1 h2 h3⟩
theorem c47b {x : List UInt8} (hx : badP x = true) (hl : x.length ≤ 1000000000) (h : List AObj) : ACalls Tryd.prog 47 [.str x] h (.tup [.agg [.str [], .nl], .bool false]) h := by
  rcases badP_true hx with rfl | ⟨i, h1, h2, h3⟩
  · exact v47n h
  · exact v47b x h hl i h1 h2 h3
theorem c46g {x : List UInt8} (hx : badP x = false) (hl : x.length ≤ 1000000000) (h : List AObj) : ACalls Tryd.prog 46 [.str x] h (.tup [.agg [.str (letB x), intsV (levB x)], .bool true]) h := by
  obtain ⟨h1, h2⟩ := badP_false.1 hx
  exact u46 x h hl (okPart_nb h1 h2)
theorem c47g {x : List UInt8} (hx : badP x = false) (hl : x.length ≤ 1000000000) (h : List AObj) : ACalls Tryd.prog 47 [.str x] h (.tup [.agg [.str (readB x).letters, intsV (readB x).levels], .bool true]) h := by
  obtain ⟨h1, h2⟩ := badP_false.1 hx
  exact v47 x h hl h1 h2
def parseE (s : List UInt8) : Int := if 65536 < s.length then 4 else if s = [] then 0 else if (splitL 32 s).any badP = true then 3 else checkPats (parseB s)
def parseR (s : List UInt8) : List Pat := if s ≠ [] ∧ parseE s = 0 then parseB s else []
theorem any_bad {us : List (List UInt8)} {i : Nat} (hi : i < us.length) (h : badP (us.getD i []) = true) : us.any badP = true := by
  rw [List.any_eq_true]
  refine ⟨us[i], List.getElem_mem hi, ?_⟩
  rwa [List.getD_eq_getElem?_getD, List.getElem?_eq_getElem hi] at h
theorem none_bad {us : List (List UInt8)} (h : ∀ i, i < us.length → badP (us.getD i []) = false) : us.any badP = false := by
  rw [List.any_eq_false]
  intro x hx
  obtain ⟨i, hi, rfl⟩ := List.mem_iff_getElem.1 hx
  have := h i hi
  rw [List.getD_eq_getElem?_getD, List.getElem?_eq_getElem hi] at this
  simpa using this
set_option maxHeartbeats 4000000 in
theorem v21 (s : List UInt8) (h : List AObj) : ACalls Tryd.prog 21 [.str s] h (.tup [patsV (parseR s), .int .i64 (parseE s)]) h := by
  unfold parseR parseE
  by_cases hs : 65536 < s.length
  · have k1 : (65536 < (s.length : Int)) = True := eq_true (by omega)
    rw [if_pos hs, if_neg (by omega)]
    refine acalls_of fn21d (by simp) ?_
    simp only [List.length_cons, List.length_nil, Nat.reduceAdd, Nat.reduceSub, List.replicate, List.cons_append, List.nil_append, List.append_nil]
    simp (disch := omega) only [c21d, k1, go_sem, wrap64_id, Int.tdiv_eq_ediv_of_nonneg, Int.tmod_eq_emod_of_nonneg]
    repeat' first
      | ((first | refine fnQ_pure1 ?_ ?_ | refine fnQ_pure0 ?_ ?_); (next => repeat' first | exact rvs_n | refine rvs_t ?_ | (simp [go_sem]; done)); simp only [go_sem]; (first | exact VLe.refl _ | refine VLe_int ?_ | refine VLe_bool ?_ | refine VLe_str ?_ | skip))
      | (with_reducible refine And.intro ?_ ?_)
      | with_reducible intro _
    all_goals first
      | omega
      | (rename_i hx; revert hx; simp; done)
      | (simp; done)
      | skip
    exact VLe_tup ⟨VLe_nl, VLe.refl _, trivial⟩
  have k1 : (65536 < (s.length : Int)) = False := eq_false (by omega)
  rw [if_neg hs]
  by_cases h0 : s = []
  · have k0 : (s = []) = True := eq_true h0
    rw [if_pos h0, if_neg (fun hc => hc.1 h0)]
    refine acalls_of fn21d (by simp) ?_
    simp only [List.length_cons, List.length_nil, Nat.reduceAdd, Nat.reduceSub, List.replicate, List.cons_append, List.nil_append, List.append_nil]
    simp (disch := omega) only [c21d, k0, k1, go_sem, wrap64_id, Int.tdiv_eq_ediv_of_nonneg, Int.tmod_eq_emod_of_nonneg]
    repeat' first
      | ((first | refine fnQ_pure1 ?_ ?_ | refine fnQ_pure0 ?_ ?_); (next => repeat' first | exact rvs_n | refine rvs_t ?_ | (simp [go_sem]; done)); simp only [go_sem]; (first | exact VLe.refl _ | refine VLe_int ?_ | refine VLe_bool ?_ | refine VLe_str ?_ | skip))
      | (with_reducible refine And.intro ?_ ?_)
      | with_reducible intro _
    all_goals first
      | omega
      | (rename_i hx; revert hx; simp; done)
      | (simp; done)
      | skip
    exact VLe_tup ⟨VLe_nl, VLe.refl _, trivial⟩
  have k0 : (s = []) = False := eq_false h0
  rw [if_neg h0]
  have c45 := fun h => u45 s 32 h (by omega)
  have hct : s.count 32 ≤ s.length := List.count_le_length
  have hll := splitL_len 32 s
  have hpl : ∀ i, i < (splitL 32 s).length → ((splitL 32 s).getD i []).length ≤ 65536 := fun i hi => by rw [splitL_get 32 s hi]; have := splitP_len 32 s i; omega
  have hok := parseB_ok s (by omega)
  unfold parseB at hok ⊢
  obtain ⟨us, hus⟩ : ∃ us, us = splitL 32 s := ⟨_, rfl⟩
  rw [← hus] at c45 hll hpl hok ⊢
  refine acalls_of fn21d (by simp) ?_
  simp only [List.length_cons, List.length_nil, Nat.reduceAdd, Nat.reduceSub, List.replicate, List.cons_append, List.nil_append, List.append_nil]
  simp (disch := omega) only [c21d, k0, k1, go_sem, wrap64_id, Int.tdiv_eq_ediv_of_nonneg, Int.tmod_eq_emod_of_nonneg]
  repeat' first
    | ((first | refine callA_pure (c45 _) ?_ ?_); (next => repeat' first | exact flags_n | refine flags_c (by first | rfl | assumption) ?_); simp (disch := omega) only [k0, k1, strs, go_sem, wrap64_id, Int.tdiv_eq_ediv_of_nonneg, Int.tmod_eq_emod_of_nonneg])
    | ((first | refine callG_pure (fun e => ⟨?_, c45 _⟩) ?_); (next => repeat' first | exact flags_n | refine flags_c (by first | rfl | assumption) ?_); simp (disch := omega) only [k0, k1, strs, go_sem, wrap64_id, Int.tdiv_eq_ediv_of_nonneg, Int.tmod_eq_emod_of_nonneg])
    | ((first | refine fnQ_pure1 ?_ ?_ | refine fnQ_pure0 ?_ ?_); (next => repeat' first | exact rvs_n | refine rvs_t ?_ | (simp [go_sem]; done)); simp only [go_sem]; (first | exact VLe.refl _ | refine VLe_int ?_ | refine VLe_bool ?_ | refine VLe_str ?_ | skip))
    | (with_reducible refine And.intro ?_ ?_)
    | with_reducible intro _
  all_goals first
    | omega
    | (rename_i hx; revert hx; simp; done)
    | (simp; done)
    | skip
  refine loop_of (T := fun i : Nat × Nat × AObj × AObj => spar 40 [(4, .osl (h.length + 1) i.2.1 2 0 i.1), (16, strs us), (17, .int .i64 us.length), (18, .int .i64 i.1)])
    (H := fun i => h ++ [.emp 1, ownO i.2.1 32 (patsC ((us.take i.1).map patB)), i.2.2.1, i.2.2.2, .emp 0])
    (inv := fun i => i.1 ≤ us.length ∧ (∀ j, j < i.1 → badP (us.getD j []) = false) ∧ site [i.2.2.1] 0 = true ∧ site [i.2.2.2] 0 = true) (m := fun i => us.length - i.1) (0, 1, .emp 0, .emp 0) ⟨by simp, by simp, rfl, rfl⟩ (Wk.temps ?_) ?_
  · (simp only [strs, spar, List.foldl, List.replicate, go_sem, VLes_nil, VLes_cons, VLe_undef_iff, VLe_self]; try (repeat' first | (with_reducible refine And.intro ?_ ?_) | (refine VLe_int ?_; omega) | (refine VLe_bool ?_; rfl) | exact VLe.refl _))
  rintro ⟨i, v, O1, O2⟩ ⟨i1, ib, i2, i3⟩ K hK
  simp only at i1 ib i2 i3 hK
  have i2' : ∀ m, site (O1 :: m) 0 = true := fun _ => i2
  have i3' : ∀ m, site (O2 :: m) 0 = true := fun _ => i3
  have eP := patsC_len ((us.take i).map patB)
  rw [List.length_map, List.length_take, Nat.min_eq_left i1] at eP
  have eT : List.take (i * 2) (patsC ((us.take i).map patB)) = patsC ((us.take i).map patB) := List.take_of_length_le (by omega)
  by_cases hi : i < us.length
  · obtain ⟨x, hx⟩ : ∃ x, x = us.getD i [] := ⟨_, rfl⟩
    have ex := hx.symm
    have hxl : x.length ≤ 1000000000 := by have := hpl i hi; rw [ex] at this; omega
    cases hb : badP x with
    | false =>
      have c46 := fun h => c46g hb hxl h
      simp (disch := omega) only [spar, List.foldl, List.replicate, strs, i2', i3', ex, eP, eT, madeA1, go_sem, wrap64_id, Int.tdiv_eq_ediv_of_nonneg, Int.tmod_eq_emod_of_nonneg]
      repeat' first
        | ((first | refine callA_pure (c46 _) ?_ ?_); (next => repeat' first | exact flags_n | refine flags_c (by first | rfl | assumption) ?_); simp (disch := omega) only [strs, i2', i3', ex, eP, eT, madeA1, go_sem, wrap64_id, Int.tdiv_eq_ediv_of_nonneg, Int.tmod_eq_emod_of_nonneg])
        | ((first | refine callG_pure (fun e => ⟨?_, c46 _⟩) ?_); (next => repeat' first | exact flags_n | refine flags_c (by first | rfl | assumption) ?_); simp (disch := omega) only [strs, i2', i3', ex, eP, eT, madeA1, go_sem, wrap64_id, Int.tdiv_eq_ediv_of_nonneg, Int.tmod_eq_emod_of_nonneg])
        | ((first | refine fnQ_pure1 ?_ ?_ | refine fnQ_pure0 ?_ ?_); (next => repeat' first | exact rvs_n | refine rvs_t ?_ | (simp [go_sem]; done)); simp only [go_sem]; (first | exact VLe.refl _ | refine VLe_int ?_ | refine VLe_bool ?_ | refine VLe_str ?_ | skip))
        | (with_reducible refine And.intro ?_ ?_)
        | with_reducible intro _
      all_goals first
        | omega
        | (rename_i hx; revert hx; simp; done)
        | (simp; done)
        | skip
      have hn : patsC ((us.take i).map patB) ++ [.str (letB x), intsV (levB x)] = patsC ((us.take (i + 1)).map patB) := by
        have e1 : us[i] = x := by rw [hx, List.getD_eq_getElem?_getD, List.getElem?_eq_getElem hi]; rfl
        rw [List.take_add_one, List.getElem?_eq_getElem hi, List.map_append, patsC_app, e1]
        rfl
      rw [hn]
      refine hK _ _ (i + 1, v + 1, .mem (verOf (some O1) + 1) 32 [.str (letB x), intsV (levB x)], .mem (verOf (some O2) + 1) 32 [.str (letB x), intsV (levB x)]) ⟨by simp only; omega, fun j hj => ?_, rfl, rfl⟩ (by simp only; omega) (Wk.temps ?_)
      · by_cases e : j = i
        · subst e; rw [ex]; exact hb
        · exact ib j (by simp only at hj; omega)
      · (simp only [strs, spar, List.foldl, List.replicate, go_sem, VLes_nil, VLes_cons, VLe_undef_iff, VLe_self]; try (repeat' first | (with_reducible refine And.intro ?_ ?_) | (refine VLe_int ?_; omega) | (refine VLe_bool ?_; rfl) | exact VLe.refl _))
    | true =>
      obtain ⟨l, c46⟩ := c46b hb hxl
      rw [if_pos (any_bad hi (by rw [ex]; exact hb)), if_neg (by omega)]
      simp (disch := omega) only [spar, List.foldl, List.replicate, strs, i2', i3', ex, go_sem, wrap64_id, Int.tdiv_eq_ediv_of_nonneg, Int.tmod_eq_emod_of_nonneg]
      repeat' first
        | ((first | refine callA_pure (c46 _) ?_ ?_); (next => repeat' first | exact flags_n | refine flags_c (by first | rfl | assumption) ?_); simp (disch := omega) only [strs, i2', i3', ex, go_sem, wrap64_id, Int.tdiv_eq_ediv_of_nonneg, Int.tmod_eq_emod_of_nonneg])
        | ((first | refine callG_pure (fun e => ⟨?_, c46 _⟩) ?_); (next => repeat' first | exact flags_n | refine flags_c (by first | rfl | assumption) ?_); simp (disch := omega) only [strs, i2', i3', ex, go_sem, wrap64_id, Int.tdiv_eq_ediv_of_nonneg, Int.tmod_eq_emod_of_nonneg])
        | ((first | refine fnQ_pure1 ?_ ?_ | refine fnQ_pure0 ?_ ?_); (next => repeat' first | exact rvs_n | refine rvs_t ?_ | (simp [go_sem]; done)); simp only [go_sem]; (first | exact VLe.refl _ | refine VLe_int ?_ | refine VLe_bool ?_ | refine VLe_str ?_ | skip))
        | (with_reducible refine And.intro ?_ ?_)
        | with_reducible intro _
      all_goals first
        | omega
        | (rename_i hx; revert hx; simp; done)
        | (simp; done)
        | skip
      exact VLe_tup ⟨VLe_nl, VLe.refl _, trivial⟩
  · have e : i = us.length := by omega
    subst e
    rw [List.take_length]
    simp only [none_bad ib, Bool.false_eq_true, if_false]
    have c64 := t64o (us.map patB) (h.length + 1) v (h ++ [.emp 1, ownO v 32 (patsC (us.map patB)), O1, O2, .emp 0]) (by simp only [go_sem]) hok
    rw [List.length_map] at c64
    by_cases hc : checkPats (us.map patB) = 0
    · rw [hc] at c64 ⊢
      rw [if_pos ⟨h0, rfl⟩]
      simp (disch := omega) only [spar, List.foldl, List.replicate, strs, i2', i3', go_sem, wrap64_id, Int.tdiv_eq_ediv_of_nonneg, Int.tmod_eq_emod_of_nonneg]
      repeat' first
        | ((first | refine callA_pure (c64) ?_ ?_); (next => repeat' first | exact flags_n | refine flags_c (by first | rfl | assumption) ?_); simp (disch := omega) only [strs, i2', i3', go_sem, wrap64_id, Int.tdiv_eq_ediv_of_nonneg, Int.tmod_eq_emod_of_nonneg])
        | ((first | refine callG_pure (fun e => ⟨?_, c64⟩) ?_); (next => repeat' first | exact flags_n | refine flags_c (by first | rfl | assumption) ?_); simp (disch := omega) only [strs, i2', i3', go_sem, wrap64_id, Int.tdiv_eq_ediv_of_nonneg, Int.tmod_eq_emod_of_nonneg])
        | ((first | refine fnQ_pure1 ?_ ?_ | refine fnQ_pure0 ?_ ?_); (next => repeat' first | exact rvs_n | refine rvs_t ?_ | (simp [go_sem]; done)); simp only [go_sem]; (first | exact VLe.refl _ | refine VLe_int ?_ | refine VLe_bool ?_ | refine VLe_str ?_ | skip))
        | (with_reducible refine And.intro ?_ ?_)
        | with_reducible intro _
      all_goals first
        | omega
        | (rename_i hx; revert hx; simp; done)
        | (simp; done)
        | skip
      have hsl := fun h => slOf_pats (v := v) (n := 5) (L := us.map patB) (fz := fun k => decide (h.length ≤ k)) (h := h ++ [AObj.emp 1, ownO v 32 (patsC (us.map patB)), O1, O2, AObj.emp 0])
      rw [List.length_map] at hsl
      exact VLe_tup ⟨hsl h, VLe.refl _, trivial⟩
    · have k2 : (checkPats (us.map patB) = 0) = False := eq_false hc
      rw [if_neg (fun hx => hc hx.2)]
      simp (disch := omega) only [spar, List.foldl, List.replicate, strs, i2', i3', go_sem, wrap64_id, Int.tdiv_eq_ediv_of_nonneg, Int.tmod_eq_emod_of_nonneg]
      repeat' first
        | ((first | refine callA_pure (c64) ?_ ?_); (next => repeat' first | exact flags_n | refine flags_c (by first | rfl | assumption) ?_); simp (disch := omega) only [strs, i2', i3', k2, go_sem, wrap64_id, Int.tdiv_eq_ediv_of_nonneg, Int.tmod_eq_emod_of_nonneg])
        | ((first | refine callG_pure (fun e => ⟨?_, c64⟩) ?_); (next => repeat' first | exact flags_n | refine flags_c (by first | rfl | assumption) ?_); simp (disch := omega) only [strs, i2', i3', k2, go_sem, wrap64_id, Int.tdiv_eq_ediv_of_nonneg, Int.tmod_eq_emod_of_nonneg])
        | ((first | refine fnQ_pure1 ?_ ?_ | refine fnQ_pure0 ?_ ?_); (next => repeat' first | exact rvs_n | refine rvs_t ?_ | (simp [go_sem]; done)); simp only [go_sem]; (first | exact VLe.refl _ | refine VLe_int ?_ | refine VLe_bool ?_ | refine VLe_str ?_ | skip))
        | (with_reducible refine And.intro ?_ ?_)
        | with_reducible intro _
      all_goals first
        | omega
        | (rename_i hx; revert hx; simp; done)
        | (simp; done)
        | skip
      exact VLe_tup ⟨VLe_nl, VLe.refl _, trivial⟩
end HY
end

section
/-! the text E51 -/
open Go Go.Proofs AF HY
namespace HY
set_option maxRecDepth 100000
/-! The parts between spaces, from left to right. -/
def spl (cur : List UInt8) : List UInt8 → List (List UInt8)
  | [] => [cur]
  | c :: r => if c = 32 then cur :: spl [] r else spl (cur ++ [c]) r
theorem restS_succ (s : List UInt8) : ∀ i, restS 32 s (i + 1) = restS 32 (s.drop (cutAt 32 s + 1)) i := by
  intro i
  induction i with
  | zero => rfl
  | succ i ih =>
    show (restS 32 s (i + 1)).drop (cutAt 32 (restS 32 s (i + 1)) + 1) = _
    rw [ih]
    rfl
theorem splitL_cons {s : List UInt8} (h : 0 < s.count 32) : splitL 32 s = s.take (cutAt 32 s) :: splitL 32 (s.drop (cutAt 32 s + 1)) := by
  have hc := count_cut 32 s h
  unfold splitL
  rw [hc, List.range_succ_eq_map, List.map_cons, List.map_map]
  have e0 : splitP 32 s 0 = s.take (cutAt 32 s) := by unfold splitP; rw [if_pos h]; rfl
  rw [e0, show s.count 32 - 1 + 1 = s.count 32 by omega]
  congr 1
  refine List.map_congr_left (fun i _ => ?_)
  show splitP 32 s (i + 1) = _
  unfold splitP
  rw [restS_succ, hc]
  by_cases hi : i + 1 < s.count 32
  · rw [if_pos hi, if_pos (by omega)]
  · rw [if_neg hi, if_neg (by omega)]
theorem splitL_none {s : List UInt8} (h : s.count 32 = 0) : splitL 32 s = [s] := by
  unfold splitL
  rw [h]
  show [splitP 32 s 0] = [s]
  unfold splitP
  rw [if_neg (by omega)]
  rfl
theorem spl_none : ∀ (s cur : List UInt8), s.count 32 = 0 → spl cur s = [cur ++ s] := by
  intro s
  induction s with
  | nil => intro cur _; simp [spl]
  | cons c r ih =>
    intro cur h
    unfold spl
    by_cases e : c = 32
    · subst e; simp at h
    · rw [if_neg e]
      rw [List.count_cons, if_neg (by simpa using e)] at h
      rw [ih _ (by omega)]
      simp
theorem spl_some : ∀ (s cur : List UInt8), 0 < s.count 32 → spl cur s = (cur ++ s.take (cutAt 32 s)) :: spl [] (s.drop (cutAt 32 s + 1)) := by
  intro s
  induction s with
  | nil => intro cur h; simp at h
  | cons c r ih =>
    intro cur h
    conv => lhs; unfold spl
    rw [cutAt_cons]
    by_cases e : c = 32
    · subst e; simp
    · rw [if_neg e, if_neg e]
      rw [List.count_cons, if_neg (by simpa using e)] at h
      rw [ih _ (by omega)]
      simp
theorem spl_splitL : ∀ (n : Nat) (s : List UInt8), s.length ≤ n → spl [] s = splitL 32 s := by
  intro n
  induction n with
  | zero =>
    intro s h
    have : s = [] := List.eq_nil_of_length_eq_zero (by omega)
    subst this
    rfl
  | succ n ih =>
    intro s h
    by_cases hc : 0 < s.count 32
    · rw [spl_some s [] hc, splitL_cons hc, ih _ (by rw [List.length_drop]; omega)]
      rfl
    · rw [spl_none s [] (by omega), splitL_none (by omega)]
      rfl
theorem parts_step {us : List (List UInt8)} {s cur : List UInt8} {j : Nat} {c : UInt8} {r : List UInt8} (h : us.drop j = spl cur (c :: r)) :
    (c ≠ 32 → us.drop j = spl (cur ++ [c]) r) ∧ (c = 32 → j < us.length ∧ us.getD j [] = cur ∧ us.drop (j + 1) = spl [] r) := by
  constructor
  · intro hc
    rw [h]
    conv => lhs; unfold spl
    rw [if_neg hc]
  · intro hc
    unfold spl at h
    rw [if_pos hc] at h
    have hj : j < us.length := by
      apply Classical.byContradiction
      intro hn
      rw [List.drop_eq_nil_of_le (by omega)] at h
      cases h
    rw [List.drop_eq_getElem_cons hj] at h
    injection h with h1 h2
    refine ⟨hj, ?_, h2⟩
    rw [List.getD_eq_getElem?_getD, List.getElem?_eq_getElem hj]
    exact h1
theorem parts_last {us : List (List UInt8)} {cur : List UInt8} {j : Nat} (h : us.drop j = spl cur []) : j + 1 = us.length ∧ us.getD j [] = cur := by
  have h2 : us.drop j = [cur] := h
  have hl := congrArg List.length h2
  rw [List.length_drop, List.length_singleton] at hl
  have hj : j < us.length := by omega
  rw [List.drop_eq_getElem_cons hj] at h2
  injection h2 with h3 h4
  refine ⟨by omega, ?_⟩
  rw [List.getD_eq_getElem?_getD, List.getElem?_eq_getElem hj]
  exact h3
theorem readB_ok {us : List (List UInt8)} (hl : us.length ≤ 1000000) (hp : ∀ i, i < us.length → (us.getD i []).length ≤ 65536) : okPats (us.map readB) := by
  refine ⟨by rw [List.length_map]; omega, fun i hi => ?_⟩
  rw [List.length_map] at hi
  have e : (us.map readB).getD i default = readB (us.getD i []) := by
    rw [List.getD_eq_getElem?_getD, List.getElem?_map, List.getElem?_eq_getElem hi, List.getD_eq_getElem?_getD, List.getElem?_eq_getElem hi]
    rfl
  rw [e]
  have h1 := letB_len (us.getD i [])
  have h2 := rdAll_len (us.getD i []) (us.getD i []).length (Nat.le_refl _)
  rw [List.take_length] at h2
  have h3 := hp i hi
  unfold readB
  simp only [List.length_append, List.length_singleton]
  omega
/-- Read by the reference: the same errors, and the same patterns. -/
theorem check_reads : ∀ {us : List (List UInt8)}, (∀ x ∈ us, nb x) → firstE (us.map readB) = firstE (us.map patB) ∧ (firstE (us.map patB) = 0 → us.map readB = us.map patB) := by
  intro us
  induction us with
  | nil => intro _; exact ⟨rfl, fun _ => rfl⟩
  | cons x us ih =>
    intro h
    obtain ⟨h1, h2⟩ := ih (fun y hy => h y (by simp [hy]))
    obtain ⟨g1, g2⟩ := check_read (h x (by simp))
    rw [List.map_cons, List.map_cons]
    unfold firstE
    rw [g1, h1]
    refine ⟨rfl, fun e => ?_⟩
    split at e
    · rename_i e0
      rw [g2 e0, h2 e]
    · rename_i e0
      exact absurd e e0
theorem checks_read {us : List (List UInt8)} (h : us.any badP = false) : checkPats (us.map readB) = checkPats (us.map patB) ∧ (checkPats (us.map patB) = 0 → us.map readB = us.map patB) := by
  have hn : ∀ x ∈ us, nb x := fun x hx => by
    rw [List.any_eq_false] at h
    exact (badP_false.1 (by simpa using h x hx)).2
  obtain ⟨h1, h2⟩ := check_reads hn
  unfold checkPats
  rw [List.length_map, List.length_map]
  split
  · exact ⟨rfl, fun e => by cases e⟩
  · exact ⟨h1, h2⟩
theorem t69o (ps : List Pat) (k v : Nat) (h : List AObj) (hk : getO k h = some (ownO v 32 (patsC ps))) (hok : okPats ps) : ACalls Tryd.prog 26 [.osl k v 2 0 ps.length] h (.int .i64 (checkPats ps)) h := by
  refine ACalls.borrow ?_ rfl
  refine ACalls.le (t69 ps [] hok) ?_ (VLe.refl _)
  simp only [List.map_cons, List.map_nil, rei_osl, if_true, hk]
  exact VLes2 slOf_pats VLes.nil
theorem cur_snoc (s : List UInt8) {f i : Nat} (h1 : f ≤ i) (h2 : i < s.length) : (s.drop f).take (i - f) ++ [s.getD i 0] = (s.drop f).take (i + 1 - f) := by
  rw [show i + 1 - f = i - f + 1 by omega, List.take_add_one, List.getElem?_drop, show f + (i - f) = i by omega, List.getElem?_eq_getElem h2, List.getD_eq_getElem?_getD, List.getElem?_eq_getElem h2]
  rfl
theorem drop_getD (s : List UInt8) {i : Nat} (h : i < s.length) : s.drop i = s.getD i 0 :: s.drop (i + 1) := by
  rw [List.drop_eq_getElem_cons h, List.getD_eq_getElem?_getD, List.getElem?_eq_getElem h]
  rfl
set_option maxHeartbeats 8000000 in
theorem v22 (s : List UInt8) (h : List AObj) : ACalls Tryd.prog 22 [.str s] h (.tup [patsV (parseR s), .int .i64 (parseE s)]) h := by
  unfold parseR parseE
  by_cases hs : 65536 < s.length
  · have k1 : (65536 < (s.length : Int)) = True := eq_true (by omega)
    rw [if_pos hs, if_neg (by omega)]
    refine acalls_of fn22d (by simp) ?_
    simp only [List.length_cons, List.length_nil, Nat.reduceAdd, Nat.reduceSub, List.replicate, List.cons_append, List.nil_append, List.append_nil]
    simp (disch := omega) only [c22d, k1, go_sem, wrap64_id, Int.tdiv_eq_ediv_of_nonneg, Int.tmod_eq_emod_of_nonneg]
    repeat' first
      | ((first | refine fnQ_pure1 ?_ ?_ | refine fnQ_pure0 ?_ ?_); (next => repeat' first | exact rvs_n | refine rvs_t ?_ | (simp [go_sem]; done)); simp only [go_sem]; (first | exact VLe.refl _ | refine VLe_int ?_ | refine VLe_bool ?_ | refine VLe_str ?_ | skip))
      | (with_reducible refine And.intro ?_ ?_)
      | with_reducible intro _
    all_goals first
      | omega
      | (rename_i hx; revert hx; simp; done)
      | (simp; done)
      | skip
    exact VLe_tup ⟨VLe_nl, VLe.refl _, trivial⟩
  have k1 : (65536 < (s.length : Int)) = False := eq_false (by omega)
  rw [if_neg hs]
  by_cases h0 : s = []
  · have k0 : (s = []) = True := eq_true h0
    rw [if_pos h0, if_neg (fun hc => hc.1 h0)]
    refine acalls_of fn22d (by simp) ?_
    simp only [List.length_cons, List.length_nil, Nat.reduceAdd, Nat.reduceSub, List.replicate, List.cons_append, List.nil_append, List.append_nil]
    simp (disch := omega) only [c22d, k0, k1, go_sem, wrap64_id, Int.tdiv_eq_ediv_of_nonneg, Int.tmod_eq_emod_of_nonneg]
    repeat' first
      | ((first | refine fnQ_pure1 ?_ ?_ | refine fnQ_pure0 ?_ ?_); (next => repeat' first | exact rvs_n | refine rvs_t ?_ | (simp [go_sem]; done)); simp only [go_sem]; (first | exact VLe.refl _ | refine VLe_int ?_ | refine VLe_bool ?_ | refine VLe_str ?_ | skip))
      | (with_reducible refine And.intro ?_ ?_)
      | with_reducible intro _
    all_goals first
      | omega
      | (rename_i hx; revert hx; simp; done)
      | (simp; done)
      | skip
    exact VLe_tup ⟨VLe_nl, VLe.refl _, trivial⟩
  have k0 : (s = []) = False := eq_false h0
  rw [if_neg h0]
  have hct : s.count 32 ≤ s.length := List.count_le_length
  have hll := splitL_len 32 s
  have hpl : ∀ i, i < (splitL 32 s).length → ((splitL 32 s).getD i []).length ≤ 65536 := fun i hi => by rw [splitL_get 32 s hi]; have := splitP_len 32 s i; omega
  have hok := readB_ok (us := splitL 32 s) (by omega) hpl
  have hsp := spl_splitL s.length s (Nat.le_refl _)
  unfold parseB
  obtain ⟨us, hus⟩ : ∃ us, us = splitL 32 s := ⟨_, rfl⟩
  rw [← hus] at hsp hll hpl hok ⊢
  refine acalls_of fn22d (by simp) ?_
  simp only [List.length_cons, List.length_nil, Nat.reduceAdd, Nat.reduceSub, List.replicate, List.cons_append, List.nil_append, List.append_nil]
  simp (disch := omega) only [c22d, k0, k1, go_sem, wrap64_id, Int.tdiv_eq_ediv_of_nonneg, Int.tmod_eq_emod_of_nonneg]
  repeat' first
    | ((first | refine fnQ_pure1 ?_ ?_ | refine fnQ_pure0 ?_ ?_); (next => repeat' first | exact rvs_n | refine rvs_t ?_ | (simp [go_sem]; done)); simp only [go_sem]; (first | exact VLe.refl _ | refine VLe_int ?_ | refine VLe_bool ?_ | refine VLe_str ?_ | skip))
    | (with_reducible refine And.intro ?_ ?_)
    | with_reducible intro _
  all_goals first
    | omega
    | (rename_i hx; revert hx; simp; done)
    | (simp; done)
    | skip
  refine loop_of (T := fun i : Nat × Nat × Nat × Nat × AObj × AObj => spar 53 [(0, .str s), (4, .osl (h.length + 1) i.2.2.2.1 2 0 i.2.2.1), (5, .int .i64 i.2.1), (6, .int .i64 i.1)])
    (H := fun i => h ++ [.emp 1, ownO i.2.2.2.1 32 (patsC ((us.take i.2.2.1).map readB)), i.2.2.2.2.1, i.2.2.2.2.2, .emp 0])
    (inv := fun i => i.1 ≤ s.length + 1 ∧ i.2.2.1 ≤ us.length ∧ (i.1 ≤ s.length → i.2.1 ≤ i.1 ∧ us.drop i.2.2.1 = spl ((s.drop i.2.1).take (i.1 - i.2.1)) (s.drop i.1)) ∧ (s.length < i.1 → i.2.2.1 = us.length) ∧ (∀ j, j < i.2.2.1 → badP (us.getD j []) = false) ∧ site [i.2.2.2.2.1] 0 = true ∧ site [i.2.2.2.2.2] 0 = true)
    (m := fun i => s.length + 1 - i.1) (0, 0, 0, 1, .emp 0, .emp 0) ⟨by simp, by simp, fun _ => ⟨by simp, by simp [hsp]⟩, fun hc => absurd hc (by simp), by simp, rfl, rfl⟩ (Wk.temps ?_) ?_
  · (simp only [spar, List.foldl, List.replicate, go_sem, VLes_nil, VLes_cons, VLe_undef_iff, VLe_self]; try (repeat' first | (with_reducible refine And.intro ?_ ?_) | (refine VLe_int ?_; omega) | (refine VLe_bool ?_; rfl) | exact VLe.refl _))
  rintro ⟨i, f, j, v, O1, O2⟩ ⟨i1, j1, p1, p2, ib, i2, i3⟩ K hK
  simp only at i1 j1 p1 p2 ib i2 i3 hK
  have i2' : ∀ m, site (O1 :: m) 0 = true := fun _ => i2
  have i3' : ∀ m, site (O2 :: m) 0 = true := fun _ => i3
  have eP := patsC_len ((us.take j).map readB)
  rw [List.length_map, List.length_take, Nat.min_eq_left j1] at eP
  have eT : List.take (j * 2) (patsC ((us.take j).map readB)) = patsC ((us.take j).map readB) := List.take_of_length_le (by omega)
  by_cases hi : i ≤ s.length
  · obtain ⟨q1, q2⟩ := p1 hi
    have g1 : ((i : Int) ≤ (s.length : Int)) = True := eq_true (by omega)
    -- what is done at the end of a part
    have part : ∀ (hj : j < us.length) (x : List UInt8), x = us.getD j [] → badP x = false → patsC ((us.take j).map readB) ++ [.str (readB x).letters, intsV (readB x).levels] = patsC ((us.take (j + 1)).map readB) := by
      intro hj x hx hb
      have e1 : us[j] = x := by rw [hx, List.getD_eq_getElem?_getD, List.getElem?_eq_getElem hj]; rfl
      rw [List.take_add_one, List.getElem?_eq_getElem hj, List.map_append, patsC_app, e1]
      rfl
    by_cases hie : i < s.length
    · have g2 : ((i : Int) < (s.length : Int)) = True := eq_true (by omega)
      rw [drop_getD s hie] at q2
      obtain ⟨r1, r2⟩ := parts_step (s := s) q2
      by_cases hc : s.getD i 0 = 32
      · have g3 : (((s.getD i 0).toNat : Int) = 32) = True := eq_true (by rw [hc]; rfl)
        have g3' : (((s[i]?.getD 0).toNat : Int) = 32) = True := g3
        obtain ⟨hj, hx, hn⟩ := r2 hc
        obtain ⟨x, hxx⟩ : ∃ x, x = List.take (i - f) (List.drop f s) := ⟨_, rfl⟩
        have exx := hxx.symm
        rw [exx] at hx
        have hxl : x.length ≤ 1000000000 := by have := hpl j hj; rw [hx] at this; omega
        cases hb : badP x with
        | false =>
          have c47 := fun h => c47g hb hxl h
          have hpt := part hj x hx.symm hb
          simp (disch := omega) only [spar, List.foldl, List.replicate, i2', i3', g1, g2, g3, g3', exx, eP, eT, madeA1, go_sem, wrap64_id, Int.tdiv_eq_ediv_of_nonneg, Int.tmod_eq_emod_of_nonneg]
          repeat' first
            | ((first | refine callA_pure (c47 _) ?_ ?_); (next => repeat' first | exact flags_n | refine flags_c (by first | rfl | assumption) ?_); simp (disch := omega) only [i2', i3', g1, g2, g3, g3', exx, eP, eT, madeA1, go_sem, wrap64_id, Int.tdiv_eq_ediv_of_nonneg, Int.tmod_eq_emod_of_nonneg])
            | ((first | refine callG_pure (fun e => ⟨?_, c47 _⟩) ?_); (next => repeat' first | exact flags_n | refine flags_c (by first | rfl | assumption) ?_); simp (disch := omega) only [i2', i3', g1, g2, g3, g3', exx, eP, eT, madeA1, go_sem, wrap64_id, Int.tdiv_eq_ediv_of_nonneg, Int.tmod_eq_emod_of_nonneg])
            | ((first | refine fnQ_pure1 ?_ ?_ | refine fnQ_pure0 ?_ ?_); (next => repeat' first | exact rvs_n | refine rvs_t ?_ | (simp [go_sem]; done)); simp only [go_sem]; (first | exact VLe.refl _ | refine VLe_int ?_ | refine VLe_bool ?_ | refine VLe_str ?_ | skip))
            | (with_reducible refine And.intro ?_ ?_)
            | with_reducible intro _
          all_goals first
            | omega
            | contradiction
            | (simp; done)
            | skip
          rw [hpt]
          refine hK _ _ (i + 1, i + 1, j + 1, v + 1, .mem (verOf (some O1) + 1) 32 [.str (readB x).letters, intsV (readB x).levels], .mem (verOf (some O2) + 1) 32 [.str (readB x).letters, intsV (readB x).levels]) ⟨by simp only; omega, by simp only; omega, fun _ => ⟨by simp only; omega, by simp only [Nat.sub_self, List.take_zero]; exact hn⟩, fun hc => absurd hc (by simp only; omega), fun l hl => ?_, rfl, rfl⟩ (by simp only; omega) (Wk.temps ?_)
          · by_cases e : l = j
            · subst e; rw [hx]; exact hb
            · exact ib l (by simp only at hl; omega)
          · (simp only [spar, List.foldl, List.replicate, go_sem, VLes_nil, VLes_cons, VLe_undef_iff, VLe_self]; try (repeat' first | (with_reducible refine And.intro ?_ ?_) | (refine VLe_int ?_; omega) | (refine VLe_bool ?_; rfl) | exact VLe.refl _))
        | true =>
          have c47 := fun h => c47b hb hxl h
          rw [if_pos (any_bad hj (by rw [hx]; exact hb)), if_neg (by omega)]
          simp (disch := omega) only [spar, List.foldl, List.replicate, i2', i3', g1, g2, g3, g3', exx, go_sem, wrap64_id, Int.tdiv_eq_ediv_of_nonneg, Int.tmod_eq_emod_of_nonneg]
          repeat' first
            | ((first | refine callA_pure (c47 _) ?_ ?_); (next => repeat' first | exact flags_n | refine flags_c (by first | rfl | assumption) ?_); simp (disch := omega) only [i2', i3', g1, g2, g3, g3', exx, go_sem, wrap64_id, Int.tdiv_eq_ediv_of_nonneg, Int.tmod_eq_emod_of_nonneg])
            | ((first | refine callG_pure (fun e => ⟨?_, c47 _⟩) ?_); (next => repeat' first | exact flags_n | refine flags_c (by first | rfl | assumption) ?_); simp (disch := omega) only [i2', i3', g1, g2, g3, g3', exx, go_sem, wrap64_id, Int.tdiv_eq_ediv_of_nonneg, Int.tmod_eq_emod_of_nonneg])
            | ((first | refine fnQ_pure1 ?_ ?_ | refine fnQ_pure0 ?_ ?_); (next => repeat' first | exact rvs_n | refine rvs_t ?_ | (simp [go_sem]; done)); simp only [go_sem]; (first | exact VLe.refl _ | refine VLe_int ?_ | refine VLe_bool ?_ | refine VLe_str ?_ | skip))
            | (with_reducible refine And.intro ?_ ?_)
            | with_reducible intro _
          all_goals first
            | omega
            | (rename_i hx; revert hx; simp; done)
            | (simp; done)
            | skip
          exact VLe_tup ⟨VLe_nl, VLe.refl _, trivial⟩
      · have g3 : (((s.getD i 0).toNat : Int) = 32) = False := eq_false (fun e => hc (UInt8.toNat_inj.1 (by simpa using (show (s.getD i 0).toNat = 32 by omega))))
        have g3' : (((s[i]?.getD 0).toNat : Int) = 32) = False := g3
        have hn := r1 hc
        rw [cur_snoc s q1 hie] at hn
        simp (disch := omega) only [spar, List.foldl, List.replicate, g1, g2, g3, g3', go_sem, wrap64_id, Int.tdiv_eq_ediv_of_nonneg, Int.tmod_eq_emod_of_nonneg]
        repeat' first
          | ((first | refine fnQ_pure1 ?_ ?_ | refine fnQ_pure0 ?_ ?_); (next => repeat' first | exact rvs_n | refine rvs_t ?_ | (simp [go_sem]; done)); simp only [go_sem]; (first | exact VLe.refl _ | refine VLe_int ?_ | refine VLe_bool ?_ | refine VLe_str ?_ | skip))
          | (with_reducible refine And.intro ?_ ?_)
          | with_reducible intro _
        all_goals first
          | omega
          | (rename_i hx; revert hx; simp; done)
          | (simp; done)
          | skip
        refine hK _ _ (i + 1, f, j, v, O1, O2) ⟨by simp only; omega, j1, fun _ => ⟨by simp only; omega, hn⟩, fun hc => absurd hc (by simp only; omega), ib, i2, i3⟩ (by simp only; omega) (Wk.temps ?_)
        (simp only [spar, List.foldl, List.replicate, go_sem, VLes_nil, VLes_cons, VLe_undef_iff, VLe_self]; try (repeat' first | (with_reducible refine And.intro ?_ ?_) | (refine VLe_int ?_; omega) | (refine VLe_bool ?_; rfl) | exact VLe.refl _))
    · have e : i = s.length := by omega
      subst e
      rw [List.drop_length] at q2
      obtain ⟨hj, hx⟩ := parts_last q2
      have g2 : ((s.length : Int) < (s.length : Int)) = False := eq_false (by omega)
      obtain ⟨x, hxx⟩ : ∃ x, x = List.take (s.length - f) (List.drop f s) := ⟨_, rfl⟩
      have exx := hxx.symm
      rw [exx] at hx
      have hxl : x.length ≤ 1000000000 := by have := hpl j (by omega); rw [hx] at this; omega
      cases hb : badP x with
      | false =>
        have c47 := fun h => c47g hb hxl h
        have hpt := part (by omega) x hx.symm hb
        simp (disch := omega) only [spar, List.foldl, List.replicate, i2', i3', g1, g2, exx, eP, eT, madeA1, Bool.false_and, go_sem, wrap64_id, Int.tdiv_eq_ediv_of_nonneg, Int.tmod_eq_emod_of_nonneg]
        repeat' first
          | ((first | refine callA_pure (c47 _) ?_ ?_); (next => repeat' first | exact flags_n | refine flags_c (by first | rfl | assumption) ?_); simp (disch := omega) only [i2', i3', g1, g2, exx, eP, eT, madeA1, Bool.false_and, go_sem, wrap64_id, Int.tdiv_eq_ediv_of_nonneg, Int.tmod_eq_emod_of_nonneg])
          | ((first | refine callG_pure (fun e => ⟨?_, c47 _⟩) ?_); (next => repeat' first | exact flags_n | refine flags_c (by first | rfl | assumption) ?_); simp (disch := omega) only [i2', i3', g1, g2, exx, eP, eT, madeA1, Bool.false_and, go_sem, wrap64_id, Int.tdiv_eq_ediv_of_nonneg, Int.tmod_eq_emod_of_nonneg])
          | ((first | refine fnQ_pure1 ?_ ?_ | refine fnQ_pure0 ?_ ?_); (next => repeat' first | exact rvs_n | refine rvs_t ?_ | (simp [go_sem]; done)); simp only [go_sem]; (first | exact VLe.refl _ | refine VLe_int ?_ | refine VLe_bool ?_ | refine VLe_str ?_ | skip))
          | (with_reducible refine And.intro ?_ ?_)
          | with_reducible intro _
        all_goals first
          | omega
          | contradiction
          | (simp; done)
          | skip
        rw [hpt]
        refine hK _ _ (s.length + 1, s.length + 1, j + 1, v + 1, .mem (verOf (some O1) + 1) 32 [.str (readB x).letters, intsV (readB x).levels], .mem (verOf (some O2) + 1) 32 [.str (readB x).letters, intsV (readB x).levels]) ⟨by simp only; omega, by simp only; omega, fun hc => absurd hc (by simp only; omega), fun _ => hj, fun l hl => ?_, rfl, rfl⟩ (by simp only; omega) (Wk.temps ?_)
        · by_cases e : l = j
          · subst e; rw [hx]; exact hb
          · exact ib l (by simp only at hl; omega)
        · (simp only [spar, List.foldl, List.replicate, go_sem, VLes_nil, VLes_cons, VLe_undef_iff, VLe_self]; try (repeat' first | (with_reducible refine And.intro ?_ ?_) | (refine VLe_int ?_; omega) | (refine VLe_bool ?_; rfl) | exact VLe.refl _))
      | true =>
        have c47 := fun h => c47b hb hxl h
        rw [if_pos (any_bad (show j < us.length by omega) (by rw [hx]; exact hb)), if_neg (by omega)]
        simp (disch := omega) only [spar, List.foldl, List.replicate, i2', i3', g1, g2, exx, Bool.false_and, go_sem, wrap64_id, Int.tdiv_eq_ediv_of_nonneg, Int.tmod_eq_emod_of_nonneg]
        repeat' first
          | ((first | refine callA_pure (c47 _) ?_ ?_); (next => repeat' first | exact flags_n | refine flags_c (by first | rfl | assumption) ?_); simp (disch := omega) only [i2', i3', g1, g2, exx, Bool.false_and, go_sem, wrap64_id, Int.tdiv_eq_ediv_of_nonneg, Int.tmod_eq_emod_of_nonneg])
          | ((first | refine callG_pure (fun e => ⟨?_, c47 _⟩) ?_); (next => repeat' first | exact flags_n | refine flags_c (by first | rfl | assumption) ?_); simp (disch := omega) only [i2', i3', g1, g2, exx, Bool.false_and, go_sem, wrap64_id, Int.tdiv_eq_ediv_of_nonneg, Int.tmod_eq_emod_of_nonneg])
          | ((first | refine fnQ_pure1 ?_ ?_ | refine fnQ_pure0 ?_ ?_); (next => repeat' first | exact rvs_n | refine rvs_t ?_ | (simp [go_sem]; done)); simp only [go_sem]; (first | exact VLe.refl _ | refine VLe_int ?_ | refine VLe_bool ?_ | refine VLe_str ?_ | skip))
          | (with_reducible refine And.intro ?_ ?_)
          | with_reducible intro _
        all_goals first
          | omega
          | (rename_i hx; revert hx; simp; done)
          | (simp; done)
          | skip
        exact VLe_tup ⟨VLe_nl, VLe.refl _, trivial⟩
  · have hj := p2 (by omega)
    subst hj
    have g1 : ((i : Int) ≤ (s.length : Int)) = False := eq_false (by omega)
    have hnb := none_bad ib
    obtain ⟨w1, w2⟩ := checks_read hnb
    rw [List.take_length]
    simp only [hnb, Bool.false_eq_true, if_false]
    have c26 := t69o (us.map readB) (h.length + 1) v (h ++ [.emp 1, ownO v 32 (patsC (us.map readB)), O1, O2, .emp 0]) (by simp only [go_sem]) hok
    rw [List.length_map, w1] at c26
    by_cases hc : checkPats (us.map patB) = 0
    · rw [hc] at c26 ⊢
      rw [if_pos ⟨h0, rfl⟩, ← w2 hc]
      simp (disch := omega) only [spar, List.foldl, List.replicate, i2', i3', g1, go_sem, wrap64_id, Int.tdiv_eq_ediv_of_nonneg, Int.tmod_eq_emod_of_nonneg]
      repeat' first
        | ((first | refine callA_pure (c26) ?_ ?_); (next => repeat' first | exact flags_n | refine flags_c (by first | rfl | assumption) ?_); simp (disch := omega) only [i2', i3', g1, go_sem, wrap64_id, Int.tdiv_eq_ediv_of_nonneg, Int.tmod_eq_emod_of_nonneg])
        | ((first | refine callG_pure (fun e => ⟨?_, c26⟩) ?_); (next => repeat' first | exact flags_n | refine flags_c (by first | rfl | assumption) ?_); simp (disch := omega) only [i2', i3', g1, go_sem, wrap64_id, Int.tdiv_eq_ediv_of_nonneg, Int.tmod_eq_emod_of_nonneg])
        | ((first | refine fnQ_pure1 ?_ ?_ | refine fnQ_pure0 ?_ ?_); (next => repeat' first | exact rvs_n | refine rvs_t ?_ | (simp [go_sem]; done)); simp only [go_sem]; (first | exact VLe.refl _ | refine VLe_int ?_ | refine VLe_bool ?_ | refine VLe_str ?_ | skip))
        | (with_reducible refine And.intro ?_ ?_)
        | with_reducible intro _
      all_goals first
        | omega
        | (rename_i hx; revert hx; simp; done)
        | (simp; done)
        | skip
      have hsl := fun h => slOf_pats (v := v) (n := 5) (L := us.map readB) (fz := fun k => decide (h.length ≤ k)) (h := h ++ [AObj.emp 1, ownO v 32 (patsC (us.map readB)), O1, O2, AObj.emp 0])
      rw [List.length_map] at hsl
      exact VLe_tup ⟨hsl h, VLe.refl _, trivial⟩
    · have k2 : (checkPats (us.map patB) = 0) = False := eq_false hc
      rw [if_neg (fun hx => hc hx.2)]
      simp (disch := omega) only [spar, List.foldl, List.replicate, i2', i3', g1, go_sem, wrap64_id, Int.tdiv_eq_ediv_of_nonneg, Int.tmod_eq_emod_of_nonneg]
      repeat' first
        | ((first | refine callA_pure (c26) ?_ ?_); (next => repeat' first | exact flags_n | refine flags_c (by first | rfl | assumption) ?_); simp (disch := omega) only [i2', i3', g1, k2, go_sem, wrap64_id, Int.tdiv_eq_ediv_of_nonneg, Int.tmod_eq_emod_of_nonneg])
        | ((first | refine callG_pure (fun e => ⟨?_, c26⟩) ?_); (next => repeat' first | exact flags_n | refine flags_c (by first | rfl | assumption) ?_); simp (disch := omega) only [i2', i3', g1, k2, go_sem, wrap64_id, Int.tdiv_eq_ediv_of_nonneg, Int.tmod_eq_emod_of_nonneg])
        | ((first | refine fnQ_pure1 ?_ ?_ | refine fnQ_pure0 ?_ ?_); (next => repeat' first | exact rvs_n | refine rvs_t ?_ | (simp [go_sem]; done)); simp only [go_sem]; (first | exact VLe.refl _ | refine VLe_int ?_ | refine VLe_bool ?_ | refine VLe_str ?_ | skip))
        | (with_reducible refine And.intro ?_ ?_)
        | with_reducible intro _
      all_goals first
        | omega
        | (rename_i hx; revert hx; simp; done)
        | (simp; done)
        | skip
      exact VLe_tup ⟨VLe_nl, VLe.refl _, trivial⟩
end HY
end

section
/-! the text E52 -/
open Go Go.Proofs AF HY
namespace HY
set_option maxRecDepth 100000
theorem levs_len {ps : List Pat} (h : checkPats ps = 0) {i : Nat} (hi : i < ps.length) : (ps.getD i default).levels.length = (clus (ps.getD i default).letters).length + 1 := by
  have hm : ps.getD i default ∈ ps := by rw [List.getD_eq_getElem?_getD, List.getElem?_eq_getElem hi]; exact List.getElem_mem hi
  have := check_all h _ hm
  unfold checkPat at this
  repeat' (split at this; · cases this)
  rename_i h5 _
  omega
theorem dig_byte {l : Int} (h0 : 0 ≤ l) (h1 : l ≤ 9) : IntKind.u8.wrap (48 + IntKind.u8.wrap l) = 48 + l := by
  rw [wrap8_id (n := l) (by omega) (by omega), wrap8_id (by omega) (by omega)]
theorem digB_byte {l : Int} (h0 : 0 ≤ l) (h1 : l ≤ 9) : byteOf (.int .u8 (48 + l)) = digB l := by
  have key : ∀ k : Fin 10, byteOf (.int .u8 (48 + ((k.val : Nat) : Int))) = digB ((k.val : Nat) : Int) := by decide +kernel
  have := key ⟨l.toNat, by omega⟩
  simp only at this
  rwa [Int.toNat_of_nonneg h0] at this
theorem madeB1 : madeA [AV.int .u8 0] 1 = [.int .u8 0] := rfl
set_option maxHeartbeats 8000000 in
theorem v24 (ps : List Pat) (h : List AObj) (hok : okPats ps) (hB : checkPats ps = 0 → (printT ps).length ≤ 65536) : ACalls Tryd.prog 24 [patsV ps] h (.tup [.str (printR ps), .int .i64 (printE ps)]) h := by
  have c26 := fun h => t69 ps h hok
  unfold printR printE
  by_cases g : checkPats ps = 0
  case neg =>
    rw [if_neg g, if_neg (show ¬ ((1 : Int) = 0) by omega)]
    have k0 : (checkPats ps = 0) = False := eq_false g
    refine acalls_of fn24d (by simp) ?_
    simp only [List.length_cons, List.length_nil, Nat.reduceAdd, Nat.reduceSub, List.replicate, List.cons_append, List.nil_append, List.append_nil]
    simp (disch := omega) only [c24d, k0, go_sem, wrap64_id, Int.tdiv_eq_ediv_of_nonneg, Int.tmod_eq_emod_of_nonneg]
    repeat' first
      | ((first | refine callA_pure (c26 _) ?_ ?_); (next => repeat' first | exact flags_n | refine flags_c (by first | rfl | assumption) ?_); simp (disch := omega) only [k0, go_sem, wrap64_id, Int.tdiv_eq_ediv_of_nonneg, Int.tmod_eq_emod_of_nonneg])
      | ((first | refine callG_pure (fun e => ⟨?_, c26 _⟩) ?_); (next => repeat' first | exact flags_n | refine flags_c (by first | rfl | assumption) ?_); simp (disch := omega) only [k0, go_sem, wrap64_id, Int.tdiv_eq_ediv_of_nonneg, Int.tmod_eq_emod_of_nonneg])
      | ((first | refine fnQ_pure1 ?_ ?_ | refine fnQ_pure0 ?_ ?_); (next => repeat' first | exact rvs_n | refine rvs_t ?_ | (simp [go_sem]; done)); simp only [go_sem]; (first | exact VLe.refl _ | refine VLe_int ?_ | refine VLe_bool ?_ | refine VLe_str ?_ | skip))
      | (with_reducible refine And.intro ?_ ?_)
      | with_reducible intro _
    all_goals first
      | omega
      | (rename_i hx; revert hx; simp; done)
      | (simp; done)
      | skip
  have hB := hB g
  rw [if_pos g, if_neg (show ¬ 65536 < (printT ps).length by omega), if_pos rfl]
  rw [g] at c26
  obtain ⟨hok1, hok2⟩ := hok
  have hlev := fun i (hi : i < ps.length) k hk => okLev_all g hi (k := k) hk
  have hlen := fun i (hi : i < ps.length) => levs_len g hi
  refine acalls_of fn24d (by simp) ?_
  simp only [List.length_cons, List.length_nil, Nat.reduceAdd, Nat.reduceSub, List.replicate, List.cons_append, List.nil_append, List.append_nil]
  simp (disch := omega) only [c24d, go_sem, wrap64_id, Int.tdiv_eq_ediv_of_nonneg, Int.tmod_eq_emod_of_nonneg]
  repeat' first
    | ((first | refine callA_pure (c26 _) ?_ ?_); (next => repeat' first | exact flags_n | refine flags_c (by first | rfl | assumption) ?_); simp (disch := omega) only [go_sem, wrap64_id, Int.tdiv_eq_ediv_of_nonneg, Int.tmod_eq_emod_of_nonneg])
    | ((first | refine callG_pure (fun e => ⟨?_, c26 _⟩) ?_); (next => repeat' first | exact flags_n | refine flags_c (by first | rfl | assumption) ?_); simp (disch := omega) only [go_sem, wrap64_id, Int.tdiv_eq_ediv_of_nonneg, Int.tmod_eq_emod_of_nonneg])
    | ((first | refine fnQ_pure1 ?_ ?_ | refine fnQ_pure0 ?_ ?_); (next => repeat' first | exact rvs_n | refine rvs_t ?_ | (simp [go_sem]; done)); simp only [go_sem]; (first | exact VLe.refl _ | refine VLe_int ?_ | refine VLe_bool ?_ | refine VLe_str ?_ | skip))
    | (with_reducible refine And.intro ?_ ?_)
    | with_reducible intro _
  all_goals first
    | omega
    | (rename_i hx; revert hx; simp; done)
    | (simp; done)
    | skip
  refine loop_of (T := fun i : Nat × AObj => spar 70 [(0, patsV ps), (4, .str (printGo ps i.1)), (5, .int .i64 i.1)]) (H := fun i => h ++ [i.2])
    (inv := fun i => i.1 ≤ ps.length ∧ site [i.2] 0 = true) (m := fun i => ps.length - i.1) (0, .emp 0) ⟨Nat.zero_le _, rfl⟩ (Wk.temps ?_) ?_
  · (simp only [patsV, printGo, spar, List.foldl, List.replicate, go_sem, VLes_nil, VLes_cons, VLe_undef_iff, VLe_self]; try (repeat' first | (with_reducible refine And.intro ?_ ?_) | (refine VLe_int ?_; omega) | (refine VLe_bool ?_; rfl) | exact VLe.refl _))
  rintro ⟨i, O⟩ ⟨i1, i2⟩ K hK
  simp only at i1 i2 hK
  obtain ⟨s, hs⟩ : ∃ s, s = printGo ps i := ⟨_, rfl⟩
  have hsl := printGo_le (ps := ps) i1
  rw [← hs] at hsl
  have hsl : s.length ≤ (printT ps).length := hsl
  rw [← hs]
  by_cases hi : i < ps.length
  · have hnx : printGo ps (i + 1) = s ++ (sepT i ++ patT (ps.getD i default)) := by rw [hs]; rfl
    have hnl := printGo_le (ps := ps) (show i + 1 ≤ ps.length by omega)
    have hnl : (printGo ps (i + 1)).length ≤ (printT ps).length := hnl
    obtain ⟨q1, q2⟩ := hok2 i hi
    have hlv := hlev i hi
    have hln := hlen i hi
    obtain ⟨x, hx⟩ : ∃ x, x = ps.getD i default := ⟨_, rfl⟩
    have ex := hx.symm
    rw [ex] at hnx q1 q2 hlv hln
    have c53 := fun h => t71 x.letters h q1
    unfold patT at hnx
    have hcl := clus_len x.letters
    obtain ⟨us, hus⟩ : ∃ us, us = clus x.letters := ⟨_, rfl⟩
    rw [← hus] at c53 hnx hcl hln
    obtain ⟨lv, hlvv⟩ : ∃ lv, lv = x.levels := ⟨_, rfl⟩
    rw [← hlvv] at hnx q2 hlv hln
    have exC : patC x = [.str x.letters, intsV lv] := by rw [hlvv]; rfl
    obtain ⟨s0, hs0⟩ : ∃ s0, s0 = s ++ sepT i := ⟨_, rfl⟩
    rw [hnx] at hnl
    rw [List.length_append, List.length_append] at hnl
    have hs0l : s0.length + (patGo us lv lv.length).length ≤ 65536 := by rw [hs0, List.length_append]; omega
    by_cases h0 : i = 0
    · have g0 : (0 < (i : Int)) = False := eq_false (by omega)
      have hs1 : s0 = s := by rw [hs0, h0]; simp [sepT]
      simp (disch := omega) only [spar, List.foldl, List.replicate, patsV, ex, exC, g0, go_sem, wrap64_id, Int.tdiv_eq_ediv_of_nonneg, Int.tmod_eq_emod_of_nonneg]
      repeat' first
        | ((first | refine callA_pure (c53 _) ?_ ?_); (next => repeat' first | exact flags_n | refine flags_c (by first | rfl | assumption) ?_); simp (disch := omega) only [patsV, ex, exC, g0, go_sem, wrap64_id, Int.tdiv_eq_ediv_of_nonneg, Int.tmod_eq_emod_of_nonneg])
        | ((first | refine callG_pure (fun e => ⟨?_, c53 _⟩) ?_); (next => repeat' first | exact flags_n | refine flags_c (by first | rfl | assumption) ?_); simp (disch := omega) only [patsV, ex, exC, g0, go_sem, wrap64_id, Int.tdiv_eq_ediv_of_nonneg, Int.tmod_eq_emod_of_nonneg])
        | ((first | refine fnQ_pure1 ?_ ?_ | refine fnQ_pure0 ?_ ?_); (next => repeat' first | exact rvs_n | refine rvs_t ?_ | (simp [go_sem]; done)); simp only [go_sem]; (first | exact VLe.refl _ | refine VLe_int ?_ | refine VLe_bool ?_ | refine VLe_str ?_ | skip))
        | (with_reducible refine And.intro ?_ ?_)
        | with_reducible intro _
      all_goals first
        | omega
        | (rename_i hx; revert hx; simp; done)
        | (simp; done)
        | skip
      rw [← hs1]
      refine loop_of (T := fun k : Nat × AObj => spar 70 [(0, patsV ps), (4, .str (patA s0 us lv k.1)), (5, .int .i64 i), (6, strs us), (7, .int .i64 k.1)]) (H := fun k => h ++ [k.2])
        (inv := fun k => k.1 ≤ lv.length ∧ site [k.2] 0 = true) (m := fun k => lv.length - k.1) (0, O) ⟨Nat.zero_le _, i2⟩ (Wk.temps ?_) ?_
      · (simp only [strs, patsV, patA, spar, List.foldl, List.replicate, go_sem, VLes_nil, VLes_cons, VLe_undef_iff, VLe_self]; try (repeat' first | (with_reducible refine And.intro ?_ ?_) | (refine VLe_int ?_; omega) | (refine VLe_bool ?_; rfl) | exact VLe.refl _))
      rintro ⟨k, O1⟩ ⟨k1, k2⟩ K2 hK2
      simp only at k1 k2 hK2
      have k2' : ∀ m, site (O1 :: m) 0 = true := fun _ => k2
      by_cases hk : k < lv.length
      · have hb := patA_le (s0 := s0) (us := us) (lv := lv) (show k + 1 ≤ lv.length by omega)
        have hA : patA s0 us lv (k + 1) = patA s0 us lv k ++ tokS us lv k := rfl
        rw [hA, List.length_append] at hb
        have hl9 := hlv k hk
        have g3 : ((k : Int) ≤ us.length) = True := eq_true (by omega)
        obtain ⟨S, hS⟩ : ∃ S, S = patA s0 us lv k := ⟨_, rfl⟩
        rw [← hS] at hA hb ⊢
        obtain ⟨u, hu⟩ : ∃ u, u = us.getD k [] := ⟨_, rfl⟩
        have eu := hu.symm
        have step : ∀ (O' : AObj) (t' : List AV) (T' : List UInt8), site [O'] 0 = true → T' = S ++ tokS us lv k →
            VLes t' (spar 70 [(0, patsV ps), (4, .str T'), (5, .int .i64 i), (6, strs us), (7, .int .i64 ((k + 1 : Nat) : Int))]) → K2 t' (h ++ [O']) := by
          intro O' t' T' hO' hT' ht'
          refine hK2 t' _ (k + 1, O') ⟨by simp only; omega, hO'⟩ (by simp only; omega) ?_
          simp only
          rw [hA, ← hT']
          exact Wk.temps ht'
        have hlen : S.length + (tokS us lv k).length ≤ 65536 := by omega
        by_cases hp : 0 < lv.getD k 0
        · have g1 : (0 < lv.getD k 0) = True := eq_true hp
          have ht : tokS us lv k = [digB (lv.getD k 0)] ++ u := by unfold tokS; rw [if_pos hp, ← hu]
          rw [ht, List.length_append, List.length_singleton] at hlen
          have g4 := dig_byte hl9.1 hl9.2
          have g4' : IntKind.u8.wrap (48 + IntKind.u8.wrap (lv[k]?.getD 0)) = 48 + lv.getD k 0 := g4
          have g5 := digB_byte hl9.1 hl9.2
          have g5' : byteOf (.int .u8 (48 + lv[k]?.getD 0)) = digB (lv.getD k 0) := g5
          have g6 : isByte (.int .u8 (48 + lv.getD k 0)) := ⟨by omega, by omega⟩
          have g6' : isByte (.int .u8 (48 + lv[k]?.getD 0)) := g6
          by_cases hku : k < us.length
          · have g2 : ((k : Int) < us.length) = True := eq_true (by omega)
            simp (disch := omega) only [spar, List.foldl, List.replicate, patsV, ex, exC, intsV, strs, eu, g1, g2, g3, k2', madeB1, go_sem, wrap64_id, Int.tdiv_eq_ediv_of_nonneg, Int.tmod_eq_emod_of_nonneg]
            repeat' first
              | ((first | refine fnQ_pure1 ?_ ?_ | refine fnQ_pure0 ?_ ?_); (next => repeat' first | exact rvs_n | refine rvs_t ?_ | (simp [go_sem]; done)); simp only [go_sem]; (first | exact VLe.refl _ | refine VLe_int ?_ | refine VLe_bool ?_ | refine VLe_str ?_ | skip))
              | (with_reducible refine And.intro ?_ ?_)
              | with_reducible intro _
            all_goals first
              | omega
              | (rename_i hx; revert hx; simp; done)
              | (simp; done)
              | skip
            · rename_i hc
              simp at hc
              rw [hc]
              first | (rw [g4]; exact g6) | (rw [g4']; exact g6')
            · rw [g4, g5, List.length_append, List.length_singleton]; omega
            · rw [g4, g5]
              refine step _ _ (S ++ [digB (lv.getD k 0)] ++ u) rfl (by rw [ht, List.append_assoc]) ?_
              (simp only [strs, patsV, spar, List.foldl, List.replicate, go_sem, VLes_nil, VLes_cons, VLe_undef_iff, VLe_self]; try (repeat' first | (with_reducible refine And.intro ?_ ?_) | (refine VLe_int ?_; omega) | (refine VLe_bool ?_; rfl) | exact VLe.refl _))
          · have g2 : ((k : Int) < us.length) = False := eq_false (by omega)
            have hu0 : u = [] := by rw [hu]; exact getD_none hku
            simp (disch := omega) only [spar, List.foldl, List.replicate, patsV, ex, exC, intsV, strs, g1, g2, g3, k2', madeB1, go_sem, wrap64_id, Int.tdiv_eq_ediv_of_nonneg, Int.tmod_eq_emod_of_nonneg]
            repeat' first
              | ((first | refine fnQ_pure1 ?_ ?_ | refine fnQ_pure0 ?_ ?_); (next => repeat' first | exact rvs_n | refine rvs_t ?_ | (simp [go_sem]; done)); simp only [go_sem]; (first | exact VLe.refl _ | refine VLe_int ?_ | refine VLe_bool ?_ | refine VLe_str ?_ | skip))
              | (with_reducible refine And.intro ?_ ?_)
              | with_reducible intro _
            all_goals first
              | omega
              | (rename_i hx; revert hx; simp; done)
              | (simp; done)
              | skip
            · rename_i hc
              simp at hc
              rw [hc]
              first | (rw [g4]; exact g6) | (rw [g4']; exact g6')
            · rw [g4, g5]
              refine step _ _ (S ++ [digB (lv.getD k 0)]) rfl (by rw [ht, hu0, List.append_nil]) ?_
              (simp only [strs, patsV, spar, List.foldl, List.replicate, go_sem, VLes_nil, VLes_cons, VLe_undef_iff, VLe_self]; try (repeat' first | (with_reducible refine And.intro ?_ ?_) | (refine VLe_int ?_; omega) | (refine VLe_bool ?_; rfl) | exact VLe.refl _))
        · have g1 : (0 < lv.getD k 0) = False := eq_false hp
          have ht : tokS us lv k = u := by unfold tokS; rw [if_neg hp, ← hu]; rfl
          rw [ht] at hlen
          by_cases hku : k < us.length
          · have g2 : ((k : Int) < us.length) = True := eq_true (by omega)
            simp (disch := omega) only [spar, List.foldl, List.replicate, patsV, ex, exC, intsV, strs, eu, g1, g2, g3, k2', go_sem, wrap64_id, Int.tdiv_eq_ediv_of_nonneg, Int.tmod_eq_emod_of_nonneg]
            repeat' first
              | ((first | refine fnQ_pure1 ?_ ?_ | refine fnQ_pure0 ?_ ?_); (next => repeat' first | exact rvs_n | refine rvs_t ?_ | (simp [go_sem]; done)); simp only [go_sem]; (first | exact VLe.refl _ | refine VLe_int ?_ | refine VLe_bool ?_ | refine VLe_str ?_ | skip))
              | (with_reducible refine And.intro ?_ ?_)
              | with_reducible intro _
            all_goals first
              | omega
              | (rename_i hx; revert hx; simp; done)
              | (simp; done)
              | skip
            refine step _ _ (S ++ u) k2 (by rw [ht]) ?_
            (simp only [strs, patsV, spar, List.foldl, List.replicate, go_sem, VLes_nil, VLes_cons, VLe_undef_iff, VLe_self]; try (repeat' first | (with_reducible refine And.intro ?_ ?_) | (refine VLe_int ?_; omega) | (refine VLe_bool ?_; rfl) | exact VLe.refl _))
          · have g2 : ((k : Int) < us.length) = False := eq_false (by omega)
            have hu0 : u = [] := by rw [hu]; exact getD_none hku
            simp (disch := omega) only [spar, List.foldl, List.replicate, patsV, ex, exC, intsV, strs, g1, g2, g3, k2', go_sem, wrap64_id, Int.tdiv_eq_ediv_of_nonneg, Int.tmod_eq_emod_of_nonneg]
            repeat' first
              | ((first | refine fnQ_pure1 ?_ ?_ | refine fnQ_pure0 ?_ ?_); (next => repeat' first | exact rvs_n | refine rvs_t ?_ | (simp [go_sem]; done)); simp only [go_sem]; (first | exact VLe.refl _ | refine VLe_int ?_ | refine VLe_bool ?_ | refine VLe_str ?_ | skip))
              | (with_reducible refine And.intro ?_ ?_)
              | with_reducible intro _
            all_goals first
              | omega
              | (rename_i hx; revert hx; simp; done)
              | (simp; done)
              | skip
            refine step _ _ S k2 (by rw [ht, hu0, List.append_nil]) ?_
            (simp only [strs, patsV, spar, List.foldl, List.replicate, go_sem, VLes_nil, VLes_cons, VLe_undef_iff, VLe_self]; try (repeat' first | (with_reducible refine And.intro ?_ ?_) | (refine VLe_int ?_; omega) | (refine VLe_bool ?_; rfl) | exact VLe.refl _))
      · have e : k = lv.length := by omega
        subst e
        have g3 : ((lv.length : Int) ≤ us.length) = False := eq_false (by omega)
        have hfin : patA s0 us lv lv.length = printGo ps (i + 1) := by rw [patA_eq, hnx, hs0, List.append_assoc]
        have hfl : (printGo ps (i + 1)).length ≤ 65536 := by rw [← hfin, patA_eq, List.length_append]; exact hs0l
        have g6 : (65536 < ((printGo ps (i + 1)).length : Int)) = False := eq_false (by omega)
        rw [hfin]
        simp (disch := omega) only [spar, List.foldl, List.replicate, g3, strs, g6, go_sem, wrap64_id, Int.tdiv_eq_ediv_of_nonneg, Int.tmod_eq_emod_of_nonneg]
        repeat' first
          | ((first | refine fnQ_pure1 ?_ ?_ | refine fnQ_pure0 ?_ ?_); (next => repeat' first | exact rvs_n | refine rvs_t ?_ | (simp [go_sem]; done)); simp only [go_sem]; (first | exact VLe.refl _ | refine VLe_int ?_ | refine VLe_bool ?_ | refine VLe_str ?_ | skip))
          | (with_reducible refine And.intro ?_ ?_)
          | with_reducible intro _
        all_goals first
          | omega
          | (rename_i hx; revert hx; simp; done)
          | (simp; done)
          | skip
        refine hK _ _ (i + 1, O1) ⟨hi, k2⟩ (by simp only; omega) (Wk.temps ?_)
        (simp only [strs, patsV, spar, List.foldl, List.replicate, go_sem, VLes_nil, VLes_cons, VLe_undef_iff, VLe_self]; try (repeat' first | (with_reducible refine And.intro ?_ ?_) | (refine VLe_int ?_; omega) | (refine VLe_bool ?_; rfl) | exact VLe.refl _))
    · have g0 : (0 < (i : Int)) = True := eq_true (by omega)
      have hs1 : s0 = s ++ [32] := by rw [hs0]; unfold sepT; rw [if_neg h0]
      have hs1l : s0.length = s.length + 1 := by rw [hs1]; simp
      simp (disch := omega) only [spar, List.foldl, List.replicate, patsV, ex, exC, g0, go_sem, wrap64_id, Int.tdiv_eq_ediv_of_nonneg, Int.tmod_eq_emod_of_nonneg]
      repeat' first
        | ((first | refine callA_pure (c53 _) ?_ ?_); (next => repeat' first | exact flags_n | refine flags_c (by first | rfl | assumption) ?_); simp (disch := omega) only [patsV, ex, exC, g0, go_sem, wrap64_id, Int.tdiv_eq_ediv_of_nonneg, Int.tmod_eq_emod_of_nonneg])
        | ((first | refine callG_pure (fun e => ⟨?_, c53 _⟩) ?_); (next => repeat' first | exact flags_n | refine flags_c (by first | rfl | assumption) ?_); simp (disch := omega) only [patsV, ex, exC, g0, go_sem, wrap64_id, Int.tdiv_eq_ediv_of_nonneg, Int.tmod_eq_emod_of_nonneg])
        | ((first | refine fnQ_pure1 ?_ ?_ | refine fnQ_pure0 ?_ ?_); (next => repeat' first | exact rvs_n | refine rvs_t ?_ | (simp [go_sem]; done)); simp only [go_sem]; (first | exact VLe.refl _ | refine VLe_int ?_ | refine VLe_bool ?_ | refine VLe_str ?_ | skip))
        | (with_reducible refine And.intro ?_ ?_)
        | with_reducible intro _
      all_goals first
        | omega
        | (rename_i hx; revert hx; simp; done)
        | (simp; done)
        | skip
      rw [← hs1]
      refine loop_of (T := fun k : Nat × AObj => spar 70 [(0, patsV ps), (4, .str (patA s0 us lv k.1)), (5, .int .i64 i), (6, strs us), (7, .int .i64 k.1)]) (H := fun k => h ++ [k.2])
        (inv := fun k => k.1 ≤ lv.length ∧ site [k.2] 0 = true) (m := fun k => lv.length - k.1) (0, O) ⟨Nat.zero_le _, i2⟩ (Wk.temps ?_) ?_
      · (simp only [strs, patsV, patA, spar, List.foldl, List.replicate, go_sem, VLes_nil, VLes_cons, VLe_undef_iff, VLe_self]; try (repeat' first | (with_reducible refine And.intro ?_ ?_) | (refine VLe_int ?_; omega) | (refine VLe_bool ?_; rfl) | exact VLe.refl _))
      rintro ⟨k, O1⟩ ⟨k1, k2⟩ K2 hK2
      simp only at k1 k2 hK2
      have k2' : ∀ m, site (O1 :: m) 0 = true := fun _ => k2
      by_cases hk : k < lv.length
      · have hb := patA_le (s0 := s0) (us := us) (lv := lv) (show k + 1 ≤ lv.length by omega)
        have hA : patA s0 us lv (k + 1) = patA s0 us lv k ++ tokS us lv k := rfl
        rw [hA, List.length_append] at hb
        have hl9 := hlv k hk
        have g3 : ((k : Int) ≤ us.length) = True := eq_true (by omega)
        obtain ⟨S, hS⟩ : ∃ S, S = patA s0 us lv k := ⟨_, rfl⟩
        rw [← hS] at hA hb ⊢
        obtain ⟨u, hu⟩ : ∃ u, u = us.getD k [] := ⟨_, rfl⟩
        have eu := hu.symm
        have step : ∀ (O' : AObj) (t' : List AV) (T' : List UInt8), site [O'] 0 = true → T' = S ++ tokS us lv k →
            VLes t' (spar 70 [(0, patsV ps), (4, .str T'), (5, .int .i64 i), (6, strs us), (7, .int .i64 ((k + 1 : Nat) : Int))]) → K2 t' (h ++ [O']) := by
          intro O' t' T' hO' hT' ht'
          refine hK2 t' _ (k + 1, O') ⟨by simp only; omega, hO'⟩ (by simp only; omega) ?_
          simp only
          rw [hA, ← hT']
          exact Wk.temps ht'
        have hlen : S.length + (tokS us lv k).length ≤ 65536 := by omega
        by_cases hp : 0 < lv.getD k 0
        · have g1 : (0 < lv.getD k 0) = True := eq_true hp
          have ht : tokS us lv k = [digB (lv.getD k 0)] ++ u := by unfold tokS; rw [if_pos hp, ← hu]
          rw [ht, List.length_append, List.length_singleton] at hlen
          have g4 := dig_byte hl9.1 hl9.2
          have g4' : IntKind.u8.wrap (48 + IntKind.u8.wrap (lv[k]?.getD 0)) = 48 + lv.getD k 0 := g4
          have g5 := digB_byte hl9.1 hl9.2
          have g5' : byteOf (.int .u8 (48 + lv[k]?.getD 0)) = digB (lv.getD k 0) := g5
          have g6 : isByte (.int .u8 (48 + lv.getD k 0)) := ⟨by omega, by omega⟩
          have g6' : isByte (.int .u8 (48 + lv[k]?.getD 0)) := g6
          by_cases hku : k < us.length
          · have g2 : ((k : Int) < us.length) = True := eq_true (by omega)
            simp (disch := omega) only [spar, List.foldl, List.replicate, patsV, ex, exC, intsV, strs, eu, g1, g2, g3, k2', madeB1, go_sem, wrap64_id, Int.tdiv_eq_ediv_of_nonneg, Int.tmod_eq_emod_of_nonneg]
            repeat' first
              | ((first | refine fnQ_pure1 ?_ ?_ | refine fnQ_pure0 ?_ ?_); (next => repeat' first | exact rvs_n | refine rvs_t ?_ | (simp [go_sem]; done)); simp only [go_sem]; (first | exact VLe.refl _ | refine VLe_int ?_ | refine VLe_bool ?_ | refine VLe_str ?_ | skip))
              | (with_reducible refine And.intro ?_ ?_)
              | with_reducible intro _
            all_goals first
              | omega
              | (rename_i hx; revert hx; simp; done)
              | (simp; done)
              | skip
            · rename_i hc
              simp at hc
              rw [hc]
              first | (rw [g4]; exact g6) | (rw [g4']; exact g6')
            · rw [g4, g5, List.length_append, List.length_singleton]; omega
            · rw [g4, g5]
              refine step _ _ (S ++ [digB (lv.getD k 0)] ++ u) rfl (by rw [ht, List.append_assoc]) ?_
              (simp only [strs, patsV, spar, List.foldl, List.replicate, go_sem, VLes_nil, VLes_cons, VLe_undef_iff, VLe_self]; try (repeat' first | (with_reducible refine And.intro ?_ ?_) | (refine VLe_int ?_; omega) | (refine VLe_bool ?_; rfl) | exact VLe.refl _))
          · have g2 : ((k : Int) < us.length) = False := eq_false (by omega)
            have hu0 : u = [] := by rw [hu]; exact getD_none hku
            simp (disch := omega) only [spar, List.foldl, List.replicate, patsV, ex, exC, intsV, strs, g1, g2, g3, k2', madeB1, go_sem, wrap64_id, Int.tdiv_eq_ediv_of_nonneg, Int.tmod_eq_emod_of_nonneg]
            repeat' first
              | ((first | refine fnQ_pure1 ?_ ?_ | refine fnQ_pure0 ?_ ?_); (next => repeat' first | exact rvs_n | refine rvs_t ?_ | (simp [go_sem]; done)); simp only [go_sem]; (first | exact VLe.refl _ | refine VLe_int ?_ | refine VLe_bool ?_ | refine VLe_str ?_ | skip))
              | (with_reducible refine And.intro ?_ ?_)
              | with_reducible intro _
            all_goals first
              | omega
              | (rename_i hx; revert hx; simp; done)
              | (simp; done)
              | skip
            · rename_i hc
              simp at hc
              rw [hc]
              first | (rw [g4]; exact g6) | (rw [g4']; exact g6')
            · rw [g4, g5]
              refine step _ _ (S ++ [digB (lv.getD k 0)]) rfl (by rw [ht, hu0, List.append_nil]) ?_
              (simp only [strs, patsV, spar, List.foldl, List.replicate, go_sem, VLes_nil, VLes_cons, VLe_undef_iff, VLe_self]; try (repeat' first | (with_reducible refine And.intro ?_ ?_) | (refine VLe_int ?_; omega) | (refine VLe_bool ?_; rfl) | exact VLe.refl _))
        · have g1 : (0 < lv.getD k 0) = False := eq_false hp
          have ht : tokS us lv k = u := by unfold tokS; rw [if_neg hp, ← hu]; rfl
          rw [ht] at hlen
          by_cases hku : k < us.length
          · have g2 : ((k : Int) < us.length) = True := eq_true (by omega)
            simp (disch := omega) only [spar, List.foldl, List.replicate, patsV, ex, exC, intsV, strs, eu, g1, g2, g3, k2', go_sem, wrap64_id, Int.tdiv_eq_ediv_of_nonneg, Int.tmod_eq_emod_of_nonneg]
            repeat' first
              | ((first | refine fnQ_pure1 ?_ ?_ | refine fnQ_pure0 ?_ ?_); (next => repeat' first | exact rvs_n | refine rvs_t ?_ | (simp [go_sem]; done)); simp only [go_sem]; (first | exact VLe.refl _ | refine VLe_int ?_ | refine VLe_bool ?_ | refine VLe_str ?_ | skip))
              | (with_reducible refine And.intro ?_ ?_)
              | with_reducible intro _
            all_goals first
              | omega
              | (rename_i hx; revert hx; simp; done)
              | (simp; done)
              | skip
            refine step _ _ (S ++ u) k2 (by rw [ht]) ?_
            (simp only [strs, patsV, spar, List.foldl, List.replicate, go_sem, VLes_nil, VLes_cons, VLe_undef_iff, VLe_self]; try (repeat' first | (with_reducible refine And.intro ?_ ?_) | (refine VLe_int ?_; omega) | (refine VLe_bool ?_; rfl) | exact VLe.refl _))
          · have g2 : ((k : Int) < us.length) = False := eq_false (by omega)
            have hu0 : u = [] := by rw [hu]; exact getD_none hku
            simp (disch := omega) only [spar, List.foldl, List.replicate, patsV, ex, exC, intsV, strs, g1, g2, g3, k2', go_sem, wrap64_id, Int.tdiv_eq_ediv_of_nonneg, Int.tmod_eq_emod_of_nonneg]
            repeat' first
              | ((first | refine fnQ_pure1 ?_ ?_ | refine fnQ_pure0 ?_ ?_); (next => repeat' first | exact rvs_n | refine rvs_t ?_ | (simp [go_sem]; done)); simp only [go_sem]; (first | exact VLe.refl _ | refine VLe_int ?_ | refine VLe_bool ?_ | refine VLe_str ?_ | skip))
              | (with_reducible refine And.intro ?_ ?_)
              | with_reducible intro _
            all_goals first
              | omega
              | (rename_i hx; revert hx; simp; done)
              | (simp; done)
              | skip
            refine step _ _ S k2 (by rw [ht, hu0, List.append_nil]) ?_
            (simp only [strs, patsV, spar, List.foldl, List.replicate, go_sem, VLes_nil, VLes_cons, VLe_undef_iff, VLe_self]; try (repeat' first | (with_reducible refine And.intro ?_ ?_) | (refine VLe_int ?_; omega) | (refine VLe_bool ?_; rfl) | exact VLe.refl _))
      · have e : k = lv.length := by omega
        subst e
        have g3 : ((lv.length : Int) ≤ us.length) = False := eq_false (by omega)
        have hfin : patA s0 us lv lv.length = printGo ps (i + 1) := by rw [patA_eq, hnx, hs0, List.append_assoc]
        have hfl : (printGo ps (i + 1)).length ≤ 65536 := by rw [← hfin, patA_eq, List.length_append]; exact hs0l
        have g6 : (65536 < ((printGo ps (i + 1)).length : Int)) = False := eq_false (by omega)
        rw [hfin]
        simp (disch := omega) only [spar, List.foldl, List.replicate, g3, strs, g6, go_sem, wrap64_id, Int.tdiv_eq_ediv_of_nonneg, Int.tmod_eq_emod_of_nonneg]
        repeat' first
          | ((first | refine fnQ_pure1 ?_ ?_ | refine fnQ_pure0 ?_ ?_); (next => repeat' first | exact rvs_n | refine rvs_t ?_ | (simp [go_sem]; done)); simp only [go_sem]; (first | exact VLe.refl _ | refine VLe_int ?_ | refine VLe_bool ?_ | refine VLe_str ?_ | skip))
          | (with_reducible refine And.intro ?_ ?_)
          | with_reducible intro _
        all_goals first
          | omega
          | (rename_i hx; revert hx; simp; done)
          | (simp; done)
          | skip
        refine hK _ _ (i + 1, O1) ⟨hi, k2⟩ (by simp only; omega) (Wk.temps ?_)
        (simp only [strs, patsV, spar, List.foldl, List.replicate, go_sem, VLes_nil, VLes_cons, VLe_undef_iff, VLe_self]; try (repeat' first | (with_reducible refine And.intro ?_ ?_) | (refine VLe_int ?_; omega) | (refine VLe_bool ?_; rfl) | exact VLe.refl _))
  · have e : i = ps.length := by omega
    subst e
    have hs2 : printT ps = s := hs.symm
    rw [hs2]
    simp (disch := omega) only [spar, List.foldl, List.replicate, patsV, go_sem, wrap64_id, Int.tdiv_eq_ediv_of_nonneg, Int.tmod_eq_emod_of_nonneg]
    repeat' first
      | ((first | refine fnQ_pure1 ?_ ?_ | refine fnQ_pure0 ?_ ?_); (next => repeat' first | exact rvs_n | refine rvs_t ?_ | (simp [go_sem]; done)); simp only [go_sem]; (first | exact VLe.refl _ | refine VLe_int ?_ | refine VLe_bool ?_ | refine VLe_str ?_ | skip))
      | (with_reducible refine And.intro ?_ ?_)
      | with_reducible intro _
    all_goals first
      | omega
      | (rename_i hx; revert hx; simp; done)
      | (simp; done)
      | skip
end HY
end

section
/-! the text E53 -/
open Go Go.Proofs AF HY
namespace HY
set_option maxRecDepth 100000
/-! Printed patterns are read back, and what is read is printed so. -/
theorem tok_le (us : List (List UInt8)) (lv : List Int) (k : Nat) : (tokS us lv k).length ≤ 1 + (us.getD k []).length := by
  unfold tokS
  rw [List.length_append]
  split <;> simp
theorem take_flat_succ (us : List (List UInt8)) (k : Nat) : (us.take (k + 1)).flatten = (us.take k).flatten ++ us.getD k [] := by
  by_cases hk : k < us.length
  · rw [List.take_add_one, List.getElem?_eq_getElem hk, List.flatten_append, List.getD_eq_getElem?_getD, List.getElem?_eq_getElem hk]
    simp
  · rw [List.take_of_length_le (by omega), List.take_of_length_le (by omega), getD_none hk, List.append_nil]
theorem patGo_size (us : List (List UInt8)) (lv : List Int) : ∀ k, (patGo us lv k).length ≤ k + (us.take k).flatten.length := by
  intro k
  induction k with
  | zero => simp [patGo]
  | succ k ih =>
    show (patGo us lv k ++ tokS us lv k).length ≤ _
    rw [List.length_append, take_flat_succ, List.length_append]
    have := tok_le us lv k
    omega
theorem patT_size (p : Pat) : (patT p).length ≤ p.levels.length + p.letters.length := by
  unfold patT
  have h1 := patGo_size (clus p.letters) p.levels p.levels.length
  have h2 := flatten_take_le (clus p.letters) p.levels.length
  rw [clus_join] at h2
  omega
theorem printGo_size {ps : List Pat} {B : Nat} (h : ∀ i, i < ps.length → (patT (ps.getD i default)).length ≤ B) : ∀ i, i ≤ ps.length → (printGo ps i).length ≤ i * (B + 1) := by
  intro i
  induction i with
  | zero => intro _; simp [printGo]
  | succ i ih =>
    intro hi
    have h1 := ih (by omega)
    have h2 := h i (by omega)
    show (printGo ps i ++ (sepT i ++ patT (ps.getD i default))).length ≤ _
    rw [List.length_append, List.length_append, Nat.succ_mul]
    have h3 : (sepT i).length ≤ 1 := by unfold sepT; split <;> simp
    omega
theorem great_any {ps : List Pat} (h : greatH ps = false) : ¬((8 < ps.length ∧ ps.length ≤ 4096) ∨ 4098 < ps.length) ∧ ∀ i, i < ps.length → greatP (ps.getD i default) = false := by
  unfold greatH at h
  rw [Bool.or_eq_false_iff] at h
  obtain ⟨h1, h2⟩ := h
  refine ⟨fun hc => ?_, fun i hi => ?_⟩
  · have : ((decide (8 < ps.length) && decide (ps.length ≤ 4096)) || decide (4098 < ps.length)) = true := by simp only [Bool.or_eq_true, Bool.and_eq_true, decide_eq_true_eq]; exact hc
    rw [this] at h1
    cases h1
  · rw [List.any_eq_false] at h2
    have := h2 _ (List.getElem_mem hi)
    rw [List.getD_eq_getElem?_getD, List.getElem?_eq_getElem hi]
    simpa using this
theorem greatP_false {p : Pat} (h : greatP p = false) : ¬(12 < p.letters.length ∧ p.letters.length ≤ 64) ∧ p.letters.length ≤ 66 ∧ p.levels.length ≤ 16 := by
  unfold greatP at h
  simp only [Bool.or_eq_false_iff, Bool.and_eq_false_imp, decide_eq_true_eq, decide_eq_false_iff_not] at h
  omega
theorem ok_great {ps : List Pat} (h : greatH ps = false) : okPats ps := by
  obtain ⟨h1, h2⟩ := great_any h
  refine ⟨by omega, fun i hi => ?_⟩
  obtain ⟨g1, g2, g3⟩ := greatP_false (h2 i hi)
  exact ⟨by omega, by omega⟩
theorem small_print {ps : List Pat} (h : greatH ps = false) (hc : checkPats ps = 0) : (printT ps).length ≤ 65536 := by
  obtain ⟨h1, h2⟩ := great_any h
  have h3 : ps.length ≤ 8 := by
    unfold checkPats at hc
    split at hc
    · cases hc
    · omega
  have h4 := printGo_size (ps := ps) (B := 28) (fun i hi => by
    obtain ⟨g1, g2, g3⟩ := greatP_false (h2 i hi)
    have hm : ps.getD i default ∈ ps := by rw [List.getD_eq_getElem?_getD, List.getElem?_eq_getElem hi]; exact List.getElem_mem hi
    have hp := check_all hc _ hm
    have hl : (ps.getD i default).letters.length ≤ 64 := by
      unfold checkPat at hp
      split at hp
      · cases hp
      · omega
    have := patT_size (ps.getD i default)
    omega) ps.length (Nat.le_refl _)
  have h5 : ps.length * (28 + 1) ≤ 8 * 29 := Nat.mul_le_mul_right _ h3
  have h6 : (printT ps).length = (printGo ps ps.length).length := rfl
  omega
end HY
end

section
/-! the text E54 -/
open Go Go.Proofs AF HY
namespace HY
set_option maxRecDepth 100000
structure Valid (p : Pat) : Prop where
  chars : ∀ c ∈ p.letters, dg c = false ∧ c ≠ 32
  heads : ∀ u ∈ clus p.letters, kind (ch u 0) ≠ 2
  ne : p.letters ≠ []
  len : p.levels.length = (clus p.letters).length + 1
  lev : ∀ k, k < p.levels.length → 0 ≤ p.levels.getD k 0 ∧ p.levels.getD k 0 ≤ 9
end HY
end

import Derived.Test.YtonpflblcnpegaaDoorK8
set_option linter.all false
set_option linter.unusedSimpArgs false
set_option linter.unusedVariables false
set_option linter.unusedSectionVars false
section
/-! the text E46 -/
open Go Go.Proofs AF HY
namespace HY
set_option maxRecDepth 100000
/-! Parts: strings whose digits stand right are their units with levels between them. -/
def nb : List UInt8 → Prop
  | [] => True
  | b :: r => (dg b = true → b ≠ 48 ∧ ∀ c ∈ r.head?, dg c = false ∧ kind c ≠ 2) ∧ nb r
theorem badD_zero (b : UInt8) (r : List UInt8) : badD (b :: r) 0 = false ↔ (dg b = true → b ≠ 48 ∧ ∀ c ∈ r.head?, dg c = false ∧ kind c ≠ 2) := by
  unfold badD
  have e0 : (b :: r).getD 0 0 = b := rfl
  rw [e0]
  cases r with
  | nil => cases hb : dg b <;> simp
  | cons c r =>
    have e1 : (b :: c :: r).getD (0 + 1) 0 = c := rfl
    rw [e1]
    cases hb : dg b
    · simp
    · simp only [Bool.true_and, Bool.or_eq_false_iff, decide_eq_false_iff_not, List.head?_cons, Option.mem_def, Option.some.injEq, true_implies]
      constructor
      · rintro ⟨h1, h2⟩
        refine ⟨h1, fun d hd => ?_⟩
        subst hd
        simp only [Bool.and_eq_false_imp, decide_eq_true_eq, Bool.or_eq_false_iff, decide_eq_false_iff_not] at h2
        exact h2 (by simp)
      · rintro ⟨h1, h2⟩
        refine ⟨h1, ?_⟩
        obtain ⟨g1, g2⟩ := h2 c rfl
        simp only [Bool.and_eq_false_imp, decide_eq_true_eq, Bool.or_eq_false_iff, decide_eq_false_iff_not]
        exact fun _ => ⟨g1, g2⟩
theorem badD_succ (b : UInt8) (r : List UInt8) (i : Nat) : badD (b :: r) (i + 1) = badD r i := by
  unfold badD
  have e0 : (b :: r).getD (i + 1) 0 = r.getD i 0 := rfl
  have e1 : (b :: r).getD (i + 1 + 1) 0 = r.getD (i + 1) 0 := rfl
  rw [e0, e1]
  have e2 : decide (i + 1 + 1 < (b :: r).length) = decide (i + 1 < r.length) := by simp
  rw [e2]
theorem nb_iff (s : List UInt8) : nb s ↔ ∀ i, i < s.length → badD s i = false := by
  induction s with
  | nil => simp [nb]
  | cons b r ih =>
    unfold nb
    rw [ih]
    constructor
    · rintro ⟨h1, h2⟩ i hi
      cases i with
      | zero => exact (badD_zero b r).2 h1
      | succ i => rw [badD_succ]; exact h2 i (by simpa using hi)
    · intro h
      refine ⟨(badD_zero b r).1 (h 0 (by simp)), fun i hi => ?_⟩
      rw [← badD_succ b r i]
      exact h (i + 1) (by simpa using hi)
theorem letB_cons_t {b : UInt8} {r : List UInt8} (h : dg b = true) : letB (b :: r) = letB r := by unfold letB; rw [List.filter_cons]; simp [h]
theorem letB_cons_f {b : UInt8} {r : List UInt8} (h : dg b = false) : letB (b :: r) = b :: letB r := by unfold letB; rw [List.filter_cons]; simp [h]
theorem letB_app (a b : List UInt8) : letB (a ++ b) = letB a ++ letB b := by unfold letB; rw [List.filter_append]
/-- Marks are not parted from what stands before them. -/
theorem marks_eat : ∀ (m : List UInt8) (t rest : List UInt8), nb t → (∀ x ∈ m, kind x = 2) → letB t = m ++ rest → ∃ t', t = m ++ t' ∧ letB t' = rest ∧ nb t' := by
  intro m
  induction m with
  | nil => intro t rest h _ e; exact ⟨t, rfl, by simpa using e, h⟩
  | cons x m ih =>
    intro t rest h hm e
    cases t with
    | nil => simp [letB] at e
    | cons b r =>
      cases hb : dg b with
      | true =>
        exfalso
        rw [letB_cons_t hb] at e
        obtain ⟨h1, _⟩ := h
        cases r with
        | nil => simp [letB] at e
        | cons c r =>
          obtain ⟨g1, g2⟩ := (h1 hb).2 c rfl
          rw [letB_cons_f g1] at e
          simp at e
          exact g2 (by rw [e.1]; exact hm x (by simp))
      | false =>
        rw [letB_cons_f hb, List.cons_append] at e
        injection e with e1 e2
        subst e1
        obtain ⟨t', q1, q2, q3⟩ := ih r rest h.2 (fun y hy => hm y (by simp [hy])) e2
        exact ⟨t', by rw [q1]; rfl, q2, q3⟩
/-- One unit, with the level before it. -/
def eatL (t : List UInt8) : Int := if dg (t.getD 0 0) = true then ((t.getD 0 0).toNat : Int) - 48 else 0
def eatT (t u : List UInt8) : List UInt8 := (if dg (t.getD 0 0) = true then t.drop 1 else t).drop u.length
theorem dig_of {b : UInt8} (h : dg b = true) (h0 : b ≠ 48) : 0 < (b.toNat : Int) - 48 ∧ (b.toNat : Int) - 48 ≤ 9 ∧ digB ((b.toNat : Int) - 48) = b := by
  have h1 := (dg_iff b).1 h
  have h2 : b.toNat ≠ 48 := fun e => h0 (UInt8.toNat_inj.1 e)
  refine ⟨by omega, by omega, ?_⟩
  have key : ∀ n : Fin 256, 48 ≤ n.val → n.val ≤ 57 → digB ((n.val : Int) - 48) = UInt8.ofNat n.val := by decide +kernel
  have := key ⟨b.toNat, b.toNat_lt⟩ h1.1 h1.2
  rw [this]
  exact UInt8.toNat_inj.1 (by simp)
theorem unit_eat {t u rest : List UInt8} (h : nb t) (hu : okU u) (e : letB t = u ++ rest) :
    t = (if 0 < eatL t then [digB (eatL t)] else []) ++ (u ++ eatT t u) ∧ letB (eatT t u) = rest ∧ nb (eatT t u) ∧ 0 ≤ eatL t ∧ eatL t ≤ 9 ∧ t ≠ [] := by
  obtain ⟨c, m, rfl, h1, h2⟩ := hu
  cases t with
  | nil => simp [letB] at e
  | cons b r =>
    have e0 : (b :: r).getD 0 0 = b := rfl
    unfold eatL eatT
    rw [e0]
    cases hb : dg b with
    | true =>
      rw [letB_cons_t hb] at e
      obtain ⟨g1, g2⟩ := h
      obtain ⟨k1, k2⟩ := g1 hb
      obtain ⟨d1, d2, d3⟩ := dig_of hb k1
      rw [if_pos rfl, if_pos rfl, if_pos d1, d3]
      cases r with
      | nil => simp [letB] at e
      | cons y r =>
        obtain ⟨y1, y2⟩ := k2 y rfl
        rw [letB_cons_f y1, List.cons_append] at e
        injection e with e1 e2
        subst e1
        obtain ⟨t', q1, q2, q3⟩ := marks_eat m r rest g2.2 h1 e2
        have ed : List.drop (y :: m).length (List.drop 1 (b :: y :: r)) = t' := by rw [q1]; simp
        rw [ed]
        exact ⟨by rw [q1]; simp, q2, q3, by omega, by omega, by simp⟩
    | false =>
      rw [letB_cons_f hb, List.cons_append] at e
      injection e with e1 e2
      subst e1
      obtain ⟨t', q1, q2, q3⟩ := marks_eat m r rest h.2 h1 e2
      simp only [Bool.false_eq_true, if_false]
      have ed : List.drop (b :: m).length (b :: r) = t' := by rw [q1]; simp
      rw [ed]
      refine ⟨by rw [q1]; simp, q2, q3, by omega, by omega, by simp⟩
theorem chn_get {us : List (List UInt8)} (h : Chn us) : ∀ u ∈ us, okU u := by
  induction us with
  | nil => intro u hu; simp at hu
  | cons v r ih =>
    intro u hu
    rcases List.mem_cons.1 hu with rfl | hu
    · exact h.1
    · exact ih h.2.2 u hu
theorem patGo_congr {us : List (List UInt8)} {lv lv' : List Int} : ∀ k, (∀ j, j < k → lv.getD j 0 = lv'.getD j 0) → patGo us lv k = patGo us lv' k := by
  intro k
  induction k with
  | zero => intro _; rfl
  | succ k ih =>
    intro h
    show patGo us lv k ++ tokS us lv k = patGo us lv' k ++ tokS us lv' k
    rw [ih (fun j hj => h j (by omega))]
    unfold tokS
    rw [h k (by omega)]
theorem getD_app1 {l m : List Int} {j : Nat} (h : j < l.length) : (l ++ m).getD j 0 = l.getD j 0 := by
  rw [List.getD_eq_getElem?_getD, List.getElem?_append_left h, List.getD_eq_getElem?_getD]
structure Form (s : List UInt8) (us : List (List UInt8)) (k : Nat) : Prop where
  cut : s = patGo us (lvAll s (us.take k)).2 k ++ s.drop (lvAll s (us.take k)).1
  len : (lvAll s (us.take k)).1 = (patGo us (lvAll s (us.take k)).2 k).length
  rest : letB (s.drop (lvAll s (us.take k)).1) = (us.drop k).flatten
  right : nb (s.drop (lvAll s (us.take k)).1)
  levs : ∀ j, j < k → 0 ≤ (lvAll s (us.take k)).2.getD j 0 ∧ (lvAll s (us.take k)).2.getD j 0 ≤ 9
theorem form_all {s : List UInt8} (h : nb s) (us : List (List UInt8)) (hus : us = clus (letB s)) : ∀ k, k ≤ us.length → Form s us k := by
  intro k
  induction k with
  | zero =>
    intro _
    have e : lvAll s (us.take 0) = (0, []) := rfl
    refine ⟨by rw [e]; simp [patGo], by rw [e]; rfl, ?_, by rw [e]; exact h, fun j hj => by omega⟩
    rw [e, hus]
    simp [clus_join]
  | succ k ih =>
    intro hk
    obtain ⟨f1, f2, f3, f4, f5⟩ := ih (by omega)
    have hl := lvAll_len s (us.take k)
    rw [List.length_take, Nat.min_eq_left (by omega)] at hl
    have hsu := lvAll_succ s us (show k < us.length by omega)
    obtain ⟨st, hst⟩ : ∃ st, st = lvAll s (us.take k) := ⟨_, rfl⟩
    rw [← hst] at f1 f2 f3 f4 f5 hl hsu
    obtain ⟨a, lv⟩ := st
    simp only at f1 f2 f3 f4 f5 hl
    obtain ⟨t, ht⟩ : ∃ t, t = s.drop a := ⟨_, rfl⟩
    rw [← ht] at f1 f3 f4
    obtain ⟨u, hu⟩ : ∃ u, u = us.getD k [] := ⟨_, rfl⟩
    have hum : u ∈ us := by rw [hu, List.getD_eq_getElem?_getD, List.getElem?_eq_getElem (show k < us.length by omega)]; exact List.getElem_mem _
    have hok : okU u := chn_get (by rw [hus]; exact chn_clus _) u hum
    have hdr : us.drop k = u :: us.drop (k + 1) := by
      rw [List.drop_eq_getElem_cons (show k < us.length by omega), hu, List.getD_eq_getElem?_getD, List.getElem?_eq_getElem (show k < us.length by omega)]
      rfl
    rw [hdr, List.flatten_cons] at f3
    obtain ⟨e1, e2, e3, e4, e5, e6⟩ := unit_eat f4 hok f3
    have hta : t.getD 0 0 = s.getD a 0 := by rw [ht, List.getD_eq_getElem?_getD, List.getElem?_drop, List.getD_eq_getElem?_getD, Nat.add_zero]
    have hs2 : lvAll s (us.take (k + 1)) = (a + ((if dg (t.getD 0 0) = true then 1 else 0) + u.length), lv ++ [eatL t]) := by
      rw [hsu]
      unfold lvStep eatL
      simp only
      rw [hta, ← hu]
      split
      · rw [Nat.add_assoc]
      · rw [Nat.zero_add]
    have hdrop : s.drop (a + ((if dg (t.getD 0 0) = true then 1 else 0) + u.length)) = eatT t u := by
      unfold eatT
      rw [← List.drop_drop, ← ht]
      split
      · rw [← List.drop_drop]
      · rw [Nat.zero_add]
    have hpg : patGo us (lv ++ [eatL t]) k = patGo us lv k := patGo_congr k (fun j hj => getD_app1 (by omega))
    have hlast : (lv ++ [eatL t]).getD k 0 = eatL t := by rw [← hl]; exact getD_snoc lv (eatL t)
    have htok : tokS us (lv ++ [eatL t]) k = (if 0 < eatL t then [digB (eatL t)] else []) ++ u := by unfold tokS; rw [hlast, ← hu]
    have hpg1 : patGo us (lv ++ [eatL t]) (k + 1) = patGo us lv k ++ ((if 0 < eatL t then [digB (eatL t)] else []) ++ u) := by
      show patGo us (lv ++ [eatL t]) k ++ tokS us (lv ++ [eatL t]) k = _
      rw [hpg, htok]
    have hcut : s = patGo us (lv ++ [eatL t]) (k + 1) ++ eatT t u := by
      rw [hpg1, List.append_assoc, List.append_assoc, ← e1]
      exact f1
    refine ⟨?_, ?_, ?_, ?_, ?_⟩
    · rw [hs2]
      simp only
      rw [hdrop]
      exact hcut
    · rw [hs2]
      simp only
      have h1 := congrArg List.length hcut
      have h2 := congrArg List.length hdrop
      rw [List.length_append] at h1
      rw [List.length_drop] at h2
      have h3 := congrArg List.length e1
      rw [List.length_append, List.length_append] at h3
      have h4 : t.length = s.length - a := by rw [ht, List.length_drop]
      have h5 := congrArg List.length hpg1
      rw [List.length_append, List.length_append] at h5
      have h6 : ((if 0 < eatL t then [digB (eatL t)] else []) : List UInt8).length = if dg (t.getD 0 0) = true then 1 else 0 := by
        cases hd : dg (t.getD 0 0) with
        | true =>
          have hb : eatL t = ((t.getD 0 0).toNat : Int) - 48 := by unfold eatL; rw [if_pos hd]
          have ht0 : t = t.getD 0 0 :: t.drop 1 := by
            cases t with
            | nil => exact absurd rfl e6
            | cons b r => rfl
          have h48 : t.getD 0 0 ≠ 48 := by
            rw [ht0] at f4
            exact (f4.1 hd).1
          obtain ⟨d1, _, _⟩ := dig_of hd h48
          rw [hb, if_pos d1]
          rfl
        | false =>
          have hb : eatL t = 0 := by unfold eatL; rw [hd]; rfl
          rw [hb]
          rfl
      omega
    · rw [hs2]
      simp only
      rw [hdrop]
      exact e2
    · rw [hs2]
      simp only
      rw [hdrop]
      exact e3
    · intro j hj
      rw [hs2]
      simp only
      by_cases e : j = k
      · rw [e, hlast]; exact ⟨e4, e5⟩
      · rw [getD_app1 (by omega)]
        exact f5 j (by omega)
end HY
end

section
/-! the text E47 -/
open Go Go.Proofs AF HY
namespace HY
set_option maxRecDepth 100000
theorem form_end {s : List UInt8} (h : nb s) : Form s (clus (letB s)) (clus (letB s)).length := form_all h _ rfl _ (Nat.le_refl _)
theorem letB_nil_dg {t : List UInt8} (h : letB t = []) {b : UInt8} {r : List UInt8} (e : t = b :: r) : dg b = true := by
  subst e
  cases hb : dg b with
  | true => rfl
  | false => rw [letB_cons_f hb] at h; cases h
/-- Behind the last unit stands a digit at most. -/
theorem tail_one {t : List UInt8} (h : nb t) (e : letB t = []) : t = [] ∨ ∃ b, t = [b] ∧ dg b = true ∧ b ≠ 48 := by
  cases t with
  | nil => exact .inl rfl
  | cons b r =>
    have hb := letB_nil_dg e rfl
    obtain ⟨h1, h2⟩ := h
    obtain ⟨k1, k2⟩ := h1 hb
    cases r with
    | nil => exact .inr ⟨b, rfl, hb, k1⟩
    | cons c r =>
      rw [letB_cons_t hb] at e
      have hc := letB_nil_dg e rfl
      rw [(k2 c rfl).1] at hc
      cases hc
theorem okPart_nb {s : List UInt8} (h0 : s ≠ []) (h : nb s) : okPart s := by
  refine ⟨h0, (nb_iff s).1 h, fun i hi => ?_, fun hlt => ?_⟩
  · obtain ⟨f1, f2, f3, f4, f5⟩ := form_all h _ rfl i (Nat.le_of_lt hi)
    apply Classical.byContradiction
    intro hn
    rw [List.drop_eq_nil_of_le (by omega)] at f3
    have e : (clus (letB s)).drop i = (clus (letB s))[i] :: (clus (letB s)).drop (i + 1) := List.drop_eq_getElem_cons hi
    rw [e, List.flatten_cons] at f3
    have hne := clus_ne _ (List.getElem_mem hi)
    have := congrArg List.length f3
    rw [List.length_append] at this
    have h2 := List.length_pos_iff.2 hne
    have e0 : (letB []).length = 0 := rfl
    rw [e0] at this
    omega
  · obtain ⟨f1, f2, f3, f4, f5⟩ := form_end h
    rw [List.take_length] at f1 f2 f3 f4 f5
    rw [List.drop_length] at f3
    have e : s.drop (lvAll s (clus (letB s))).1 = s[(lvAll s (clus (letB s))).1] :: s.drop ((lvAll s (clus (letB s))).1 + 1) := List.drop_eq_getElem_cons hlt
    have := letB_nil_dg f3 e
    rwa [List.getD_eq_getElem?_getD, List.getElem?_eq_getElem hlt]
theorem tokS_last (us : List (List UInt8)) (lv : List Int) : tokS us lv us.length = if 0 < lv.getD us.length 0 then [digB (lv.getD us.length 0)] else [] := by
  unfold tokS
  rw [getD_none (us := us) (k := us.length) (by omega), List.append_nil]
/-- What stands right is the text of its pattern. -/
theorem patT_patB {s : List UInt8} (h : nb s) : patT (patB s) = s := by
  obtain ⟨f1, f2, f3, f4, f5⟩ := form_end h
  unfold patT patB levB
  simp only
  rw [List.take_length] at f1 f2 f3 f4 f5
  rw [List.drop_length] at f3
  obtain ⟨us, hus⟩ : ∃ us, us = clus (letB s) := ⟨_, rfl⟩
  rw [← hus] at f1 f2 f3 f4 f5 ⊢
  have hl := lvAll_len s us
  obtain ⟨st, hst⟩ : ∃ st, st = lvAll s us := ⟨_, rfl⟩
  rw [← hst] at f1 f2 f3 f4 f5 hl ⊢
  obtain ⟨a, lv⟩ := st
  simp only at f1 f2 f3 f4 f5 hl ⊢
  rw [List.length_append, List.length_singleton, hl]
  show patGo us (lv ++ [lastLv s a]) us.length ++ tokS us (lv ++ [lastLv s a]) us.length = s
  rw [patGo_congr (lv' := lv) us.length (fun j hj => getD_app1 (by omega)), tokS_last]
  have hlast : (lv ++ [lastLv s a]).getD us.length 0 = lastLv s a := by rw [← hl]; exact getD_snoc lv _
  rw [hlast]
  have key : (if 0 < lastLv s a then [digB (lastLv s a)] else []) = s.drop a := by
    rcases tail_one f4 f3 with e | ⟨b, e, h1, h2⟩
    · have hle : s.length ≤ a := by
        have := congrArg List.length e
        rw [List.length_drop, List.length_nil] at this
        omega
      rw [e]
      unfold lastLv
      rw [if_neg (by omega)]
      try rfl
    · have hlt : a < s.length := by
        have := congrArg List.length e
        rw [List.length_drop] at this
        simp at this
        omega
      have hg : s.getD a 0 = b := by
        have e2 : s.drop a = s[a] :: s.drop (a + 1) := List.drop_eq_getElem_cons hlt
        rw [e] at e2
        injection e2 with e3 e4
        rw [List.getD_eq_getElem?_getD, List.getElem?_eq_getElem hlt]
        exact e3.symm
      obtain ⟨d1, d2, d3⟩ := dig_of h1 h2
      unfold lastLv
      rw [if_pos hlt, hg, if_pos d1, d3, e]
  rw [key]
  exact f1.symm
/-! The reference reads a part from left to right. -/
def rdStep (st : List Int × Int) (b : UInt8) : List Int × Int := if dg b = true then (st.1, (b.toNat : Int) - 48) else (if kind b ≠ 2 ∨ st.1 = [] then st.1 ++ [st.2] else st.1, 0)
def rdAll (s : List UInt8) : List Int × Int := s.foldl rdStep ([], 0)
def readB (s : List UInt8) : Pat := ⟨letB s, (rdAll s).1 ++ [(rdAll s).2]⟩
theorem dg_mark {b : UInt8} (h : kind b = 2) : dg b = false := by
  unfold dg
  have : kindI (b.toNat : Int) = 2 := h
  rw [this]
  rfl
theorem rd_marks {L : List Int} (hL : L ≠ []) : ∀ (m : List UInt8), (∀ x ∈ m, kind x = 2) → m.foldl rdStep (L, 0) = (L, 0) := by
  intro m
  induction m with
  | nil => intro _; rfl
  | cons x m ih =>
    intro h
    have hx := h x (by simp)
    rw [List.foldl_cons]
    have e : rdStep (L, 0) x = (L, 0) := by
      unfold rdStep
      rw [dg_mark hx]
      simp [hx, hL]
    rw [e]
    exact ih (fun y hy => h y (by simp [hy]))
theorem digB_of {n : Int} (h0 : 0 ≤ n) (h1 : n ≤ 9) : dg (digB n) = true ∧ ((digB n).toNat : Int) - 48 = n := by
  have key : ∀ k : Fin 10, dg (digB ((k.val : Nat) : Int)) = true ∧ ((digB ((k.val : Nat) : Int)).toNat : Int) - 48 = ((k.val : Nat) : Int) := by decide +kernel
  have := key ⟨n.toNat, by omega⟩
  simp only at this
  rwa [Int.toNat_of_nonneg h0] at this
/-- One unit with its level, read. -/
theorem rd_tok {L : List Int} {n : Int} {u : List UInt8} (h0 : 0 ≤ n) (h1 : n ≤ 9) (hu : okU u) (hd : ∀ x ∈ u, dg x = false) (hk : L = [] ∨ kind (ch u 0) ≠ 2) :
    ((if 0 < n then [digB n] else []) ++ u).foldl rdStep (L, 0) = (L ++ [n], 0) := by
  obtain ⟨c, m, rfl, m1, m2⟩ := hu
  have hc := hd c (by simp)
  have e2 : ∀ l : Int, rdStep (L, l) c = (L ++ [l], 0) := by
    intro l
    unfold rdStep
    rw [hc]
    have : kind c ≠ 2 ∨ L = [] := by
      rcases hk with h | h
      · exact .inr h
      · exact .inl h
    simp [this]
  have e1 : (if 0 < n then [digB n] else []).foldl rdStep (L, 0) = (L, n) := by
    by_cases hp : 0 < n
    · rw [if_pos hp]
      obtain ⟨g1, g2⟩ := digB_of h0 h1
      show rdStep (L, 0) (digB n) = _
      unfold rdStep
      rw [if_pos g1, g2]
    · rw [if_neg hp]
      have : n = 0 := by omega
      rw [this]
      rfl
  rw [List.foldl_append, e1, List.foldl_cons, e2]
  exact rd_marks (by simp) m m1
theorem rd_go {us : List (List UInt8)} {lv : List Int} (hc : ∀ u ∈ us, okU u) (hd : ∀ u ∈ us, ∀ x ∈ u, dg x = false) (hk : ∀ k, 0 < k → k < us.length → kind (ch (us.getD k []) 0) ≠ 2)
    (hl : us.length ≤ lv.length) (hv : ∀ k, k < lv.length → 0 ≤ lv.getD k 0 ∧ lv.getD k 0 ≤ 9) : ∀ k, k ≤ us.length → (patGo us lv k).foldl rdStep ([], 0) = (lv.take k, 0) := by
  intro k
  induction k with
  | zero => intro _; rfl
  | succ k ih =>
    intro h
    have ih := ih (by omega)
    show (patGo us lv k ++ tokS us lv k).foldl rdStep ([], 0) = _
    rw [List.foldl_append, ih]
    have hm : us.getD k [] ∈ us := by rw [List.getD_eq_getElem?_getD, List.getElem?_eq_getElem (show k < us.length by omega)]; exact List.getElem_mem _
    obtain ⟨v0, v1⟩ := hv k (by omega)
    unfold tokS
    rw [rd_tok v0 v1 (hc _ hm) (hd _ hm) (by
      by_cases e : k = 0
      · left; rw [e]; rfl
      · right; exact hk k (by omega) (by omega))]
    have : lv.take (k + 1) = lv.take k ++ [lv.getD k 0] := by
      rw [List.take_add_one, List.getElem?_eq_getElem (show k < lv.length by omega), List.getD_eq_getElem?_getD, List.getElem?_eq_getElem (show k < lv.length by omega)]
      rfl
    rw [this]
theorem rd_patT {us : List (List UInt8)} {lv : List Int} (hc : ∀ u ∈ us, okU u) (hd : ∀ u ∈ us, ∀ x ∈ u, dg x = false) (hk : ∀ k, 0 < k → k < us.length → kind (ch (us.getD k []) 0) ≠ 2)
    (hl : lv.length = us.length + 1) (hv : ∀ k, k < lv.length → 0 ≤ lv.getD k 0 ∧ lv.getD k 0 ≤ 9) : rdAll (patGo us lv lv.length) = (lv.take us.length, lv.getD us.length 0) := by
  unfold rdAll
  rw [hl]
  show (patGo us lv us.length ++ tokS us lv us.length).foldl rdStep ([], 0) = _
  rw [List.foldl_append, rd_go hc hd hk (by omega) hv _ (Nat.le_refl _), tokS_last]
  obtain ⟨v0, v1⟩ := hv us.length (by omega)
  by_cases hp : 0 < lv.getD us.length 0
  · rw [if_pos hp]
    obtain ⟨g1, g2⟩ := digB_of v0 v1
    show rdStep _ (digB _) = _
    unfold rdStep
    rw [if_pos g1, g2]
  · rw [if_neg hp]
    have : lv.getD us.length 0 = 0 := by omega
    rw [this]
    rfl
theorem levB_vals {s : List UInt8} (h : nb s) : (levB s).length = (clus (letB s)).length + 1 ∧ ∀ k, k < (levB s).length → 0 ≤ (levB s).getD k 0 ∧ (levB s).getD k 0 ≤ 9 := by
  obtain ⟨f1, f2, f3, f4, f5⟩ := form_end h
  rw [List.take_length] at f1 f2 f3 f4 f5
  rw [List.drop_length] at f3
  have hl := lvAll_len s (clus (letB s))
  have hlen : (levB s).length = (clus (letB s)).length + 1 := by unfold levB; rw [List.length_append, hl]; rfl
  refine ⟨hlen, fun k hk => ?_⟩
  unfold levB
  by_cases hk2 : k < (clus (letB s)).length
  · rw [getD_app1 (by omega)]
    exact f5 k hk2
  · have e : k = (lvAll s (clus (letB s))).2.length := by omega
    rw [e, getD_snoc]
    unfold lastLv
    split
    · rename_i hlt
      have e2 : s.drop (lvAll s (clus (letB s))).1 = s[(lvAll s (clus (letB s))).1] :: s.drop ((lvAll s (clus (letB s))).1 + 1) := List.drop_eq_getElem_cons hlt
      have hd := letB_nil_dg f3 e2
      have := (dg_iff _).1 hd
      rw [List.getD_eq_getElem?_getD, List.getElem?_eq_getElem hlt]
      simp only [Option.getD_some]
      omega
    · omega
theorem letB_no {s : List UInt8} : ∀ x ∈ letB s, dg x = false := by
  intro x hx
  unfold letB at hx
  have := (List.mem_filter.1 hx).2
  simpa using this
theorem mem_clus {s u : List UInt8} (h : u ∈ clus s) : ∀ x ∈ u, x ∈ s := by
  intro x hx
  have := clus_join s
  rw [← this]
  exact List.mem_flatten.2 ⟨u, h, hx⟩
/-- Where no mark stands wrong, the reference reads the same levels. -/
theorem readB_patB {s : List UInt8} (h : nb s) (hk : ∀ k, 0 < k → k < (clus (letB s)).length → kind (ch ((clus (letB s)).getD k []) 0) ≠ 2) : readB s = patB s := by
  obtain ⟨hl, hv⟩ := levB_vals h
  have hp := patT_patB h
  unfold patT patB at hp
  simp only at hp
  have := rd_patT (fun u hu => chn_get (chn_clus _) u hu) (fun u hu x hx => letB_no x (mem_clus hu x hx)) hk hl hv
  rw [hp] at this
  unfold readB patB
  rw [this]
  congr 1
  simp only
  have e : levB s = (levB s).take (clus (letB s)).length ++ (levB s).drop (clus (letB s)).length := (List.take_append_drop _ _).symm
  conv => rhs; rw [e]
  rw [List.drop_eq_getElem_cons (by omega), List.drop_eq_nil_of_le (by omega), List.getD_eq_getElem?_getD, List.getElem?_eq_getElem (by omega)]
  rfl
end HY
end

section
/-! the text E48 -/
open Go Go.Proofs AF HY
namespace HY
set_option maxRecDepth 100000
end HY
end

section
/-! the text E49 -/
open Go Go.Proofs AF HY
namespace HY
set_option maxRecDepth 100000
end HY
end

section
/-! the text E50 -/
open Go Go.Proofs AF HY
namespace HY
set_option maxRecDepth 100000
/-! Texts of patterns, read. -/
def badP (x : List UInt8) : Bool := x.isEmpty || (List.range x.length).any (badD x)
theorem badP_false {x : List UInt8} : badP x = false ↔ x ≠ [] ∧ nb x := by
  unfold badP
  rw [Bool.or_eq_false_iff, nb_iff]
  constructor
  · rintro ⟨h1, h2⟩
    refine ⟨fun e => (by subst e; simp at h1), fun i hi => ?_⟩
    rw [List.any_eq_false] at h2
    simpa using h2 i (by simpa using hi)
  · rintro ⟨h1, h2⟩
    refine ⟨by simpa using h1, ?_⟩
    rw [List.any_eq_false]
    intro i hi
    simpa using h2 i (by simpa using hi)
theorem least_bad {x : List UInt8} : ∀ n, (∃ i, i < n ∧ badD x i = true) → ∃ i, i < n ∧ badD x i = true ∧ ∀ j, j < i → badD x j = false := by
  intro n
  induction n with
  | zero => rintro ⟨i, h, _⟩; omega
  | succ n ih =>
    rintro ⟨i, h1, h2⟩
    by_cases hc : ∃ i, i < n ∧ badD x i = true
    · obtain ⟨k, k1, k2, k3⟩ := ih hc
      exact ⟨k, by omega, k2, k3⟩
    · have e : i = n := by
        apply Classical.byContradiction
        intro hne
        exact hc ⟨i, by omega, h2⟩
      subst e
      refine ⟨i, by omega, h2, fun j hj => ?_⟩
      cases hb : badD x j with
      | false => rfl
      | true => exact absurd ⟨j, hj, hb⟩ hc
theorem badP_true {x : List UInt8} (h : badP x = true) : x = [] ∨ ∃ i, i < x.length ∧ badD x i = true ∧ ∀ j, j < i → badD x j = false := by
  unfold badP at h
  rw [Bool.or_eq_true] at h
  rcases h with h | h
  · left; simpa using h
  · right
    rw [List.any_eq_true] at h
    obtain ⟨i, hi, hb⟩ := h
    exact least_bad _ ⟨i, by simpa using hi, hb⟩
theorem c46b {x : List UInt8} (hx : badP x = true) (hl : x.length ≤ 1000000000) : ∃ l, ∀ h, ACalls Tryd.prog 46 [.str x] h (.tup [.agg [.str l, .nl], .bool false]) h := by
  rcases badP_true hx with rfl | ⟨i, h1, h2, h3⟩
  · exact ⟨[], fun h => u46n h⟩
  · exact ⟨_, fun h => u46b x h hl i h1 h2 h3⟩
theorem c46g {x : List UInt8} (hx : badP x = false) (hl : x.length ≤ 1000000000) (h : List AObj) : ACalls Tryd.prog 46 [.str x] h (.tup [.agg [.str (letB x), intsV (levB x)], .bool true]) h := by
  obtain ⟨h1, h2⟩ := badP_false.1 hx
  exact u46 x h hl (okPart_nb h1 h2)
def parseE (s : List UInt8) : Int := if 65536 < s.length then 4 else if s = [] then 0 else if (splitL 32 s).any badP = true then 3 else checkPats (parseB s)
def parseR (s : List UInt8) : List Pat := if s ≠ [] ∧ parseE s = 0 then parseB s else []
theorem any_bad {us : List (List UInt8)} {i : Nat} (hi : i < us.length) (h : badP (us.getD i []) = true) : us.any badP = true := by
  rw [List.any_eq_true]
  refine ⟨us[i], List.getElem_mem hi, ?_⟩
  rwa [List.getD_eq_getElem?_getD, List.getElem?_eq_getElem hi] at h
theorem none_bad {us : List (List UInt8)} (h : ∀ i, i < us.length → badP (us.getD i []) = false) : us.any badP = false := by
  rw [List.any_eq_false]
  intro x hx
  obtain ⟨i, hi, rfl⟩ := List.mem_iff_getElem.1 hx
  have := h i hi
  rw [List.getD_eq_getElem?_getD, List.getElem?_eq_getElem hi] at this
  simpa using this
set_option maxHeartbeats 4000000 in
theorem v21 (s : List UInt8) (h : List AObj) : ACalls Tryd.prog 21 [.str s] h (.tup [patsV (parseR s), .int .i64 (parseE s)]) h := by
  unfold parseR parseE
  by_cases hs : 65536 < s.length
  · have k1 : (65536 < (s.length : Int)) = True := eq_true (by omega)
    rw [if_pos hs, if_neg (by omega)]
    refine acalls_of fn21d (by simp) ?_
    simp only [List.length_cons, List.length_nil, Nat.reduceAdd, Nat.reduceSub, List.replicate, List.cons_append, List.nil_append, List.append_nil]
    simp (disch := omega) only [c21d, k1, go_sem, wrap64_id, Int.tdiv_eq_ediv_of_nonneg, Int.tmod_eq_emod_of_nonneg]
    repeat' first
      | ((first | refine fnQ_pure1 ?_ ?_ | refine fnQ_pure0 ?_ ?_); (next => repeat' first | exact rvs_n | refine rvs_t ?_ | (simp [go_sem]; done)); simp only [go_sem]; (first | exact VLe.refl _ | refine VLe_int ?_ | refine VLe_bool ?_ | refine VLe_str ?_ | skip))
      | (with_reducible refine And.intro ?_ ?_)
      | with_reducible intro _
    all_goals first
      | omega
      | (rename_i hx; revert hx; simp; done)
      | (simp; done)
      | skip
    exact VLe_tup ⟨VLe_nl, VLe.refl _, trivial⟩
  have k1 : (65536 < (s.length : Int)) = False := eq_false (by omega)
  rw [if_neg hs]
  by_cases h0 : s = []
  · have k0 : (s = []) = True := eq_true h0
    rw [if_pos h0, if_neg (fun hc => hc.1 h0)]
    refine acalls_of fn21d (by simp) ?_
    simp only [List.length_cons, List.length_nil, Nat.reduceAdd, Nat.reduceSub, List.replicate, List.cons_append, List.nil_append, List.append_nil]
    simp (disch := omega) only [c21d, k0, k1, go_sem, wrap64_id, Int.tdiv_eq_ediv_of_nonneg, Int.tmod_eq_emod_of_nonneg]
    repeat' first
      | ((first | refine fnQ_pure1 ?_ ?_ | refine fnQ_pure0 ?_ ?_); (next => repeat' first | exact rvs_n | refine rvs_t ?_ | (simp [go_sem]; done)); simp only [go_sem]; (first | exact VLe.refl _ | refine VLe_int ?_ | refine VLe_bool ?_ | refine VLe_str ?_ | skip))
      | (with_reducible refine And.intro ?_ ?_)
      | with_reducible intro _
    all_goals first
      | omega
      | (rename_i hx; revert hx; simp; done)
      | (simp; done)
      | skip
    exact VLe_tup ⟨VLe_nl, VLe.refl _, trivial⟩
  have k0 : (s = []) = False := eq_false h0
  rw [if_neg h0]
  have c45 := fun h => u45 s 32 h (by omega)
  have hct : s.count 32 ≤ s.length := List.count_le_length
  have hll := splitL_len 32 s
  have hpl : ∀ i, i < (splitL 32 s).length → ((splitL 32 s).getD i []).length ≤ 65536 := fun i hi => by rw [splitL_get 32 s hi]; have := splitP_len 32 s i; omega
  have hok := parseB_ok s (by omega)
  unfold parseB at hok ⊢
  obtain ⟨us, hus⟩ : ∃ us, us = splitL 32 s := ⟨_, rfl⟩
  rw [← hus] at c45 hll hpl hok ⊢
  refine acalls_of fn21d (by simp) ?_
  simp only [List.length_cons, List.length_nil, Nat.reduceAdd, Nat.reduceSub, List.replicate, List.cons_append, List.nil_append, List.append_nil]
  simp (disch := omega) only [c21d, k0, k1, go_sem, wrap64_id, Int.tdiv_eq_ediv_of_nonneg, Int.tmod_eq_emod_of_nonneg]
  repeat' first
    | ((first | refine callA_pure (c45 _) ?_ ?_); (next => repeat' first | exact flags_n | refine flags_c (by first | rfl | assumption) ?_); simp (disch := omega) only [k0, k1, strs, go_sem, wrap64_id, Int.tdiv_eq_ediv_of_nonneg, Int.tmod_eq_emod_of_nonneg])
    | ((first | refine callG_pure (fun e => ⟨?_, c45 _⟩) ?_); (next => repeat' first | exact flags_n | refine flags_c (by first | rfl | assumption) ?_); simp (disch := omega) only [k0, k1, strs, go_sem, wrap64_id, Int.tdiv_eq_ediv_of_nonneg, Int.tmod_eq_emod_of_nonneg])
    | ((first | refine fnQ_pure1 ?_ ?_ | refine fnQ_pure0 ?_ ?_); (next => repeat' first | exact rvs_n | refine rvs_t ?_ | (simp [go_sem]; done)); simp only [go_sem]; (first | exact VLe.refl _ | refine VLe_int ?_ | refine VLe_bool ?_ | refine VLe_str ?_ | skip))
    | (with_reducible refine And.intro ?_ ?_)
    | with_reducible intro _
  all_goals first
    | omega
    | (rename_i hx; revert hx; simp; done)
    | (simp; done)
    | skip
  refine loop_of (T := fun i : Nat × Nat × AObj × AObj => spar 40 [(4, .osl (h.length + 1) i.2.1 2 0 i.1), (16, strs us), (17, .int .i64 us.length), (18, .int .i64 i.1)])
    (H := fun i => h ++ [.emp 1, ownO i.2.1 32 (patsC ((us.take i.1).map patB)), i.2.2.1, i.2.2.2, .emp 0])
    (inv := fun i => i.1 ≤ us.length ∧ (∀ j, j < i.1 → badP (us.getD j []) = false) ∧ site [i.2.2.1] 0 = true ∧ site [i.2.2.2] 0 = true) (m := fun i => us.length - i.1) (0, 1, .emp 0, .emp 0) ⟨by simp, by simp, rfl, rfl⟩ (Wk.temps ?_) ?_
  · (simp only [strs, spar, List.foldl, List.replicate, go_sem, VLes_nil, VLes_cons, VLe_undef_iff, VLe_self]; try (repeat' first | (with_reducible refine And.intro ?_ ?_) | (refine VLe_int ?_; omega) | (refine VLe_bool ?_; rfl) | exact VLe.refl _))
  rintro ⟨i, v, O1, O2⟩ ⟨i1, ib, i2, i3⟩ K hK
  simp only at i1 ib i2 i3 hK
  have i2' : ∀ m, site (O1 :: m) 0 = true := fun _ => i2
  have i3' : ∀ m, site (O2 :: m) 0 = true := fun _ => i3
  have eP := patsC_len ((us.take i).map patB)
  rw [List.length_map, List.length_take, Nat.min_eq_left i1] at eP
  have eT : List.take (i * 2) (patsC ((us.take i).map patB)) = patsC ((us.take i).map patB) := List.take_of_length_le (by omega)
  by_cases hi : i < us.length
  · obtain ⟨x, hx⟩ : ∃ x, x = us.getD i [] := ⟨_, rfl⟩
    have ex := hx.symm
    have hxl : x.length ≤ 1000000000 := by have := hpl i hi; rw [ex] at this; omega
    cases hb : badP x with
    | false =>
      have c46 := fun h => c46g hb hxl h
      simp (disch := omega) only [spar, List.foldl, List.replicate, strs, i2', i3', ex, eP, eT, madeA1, go_sem, wrap64_id, Int.tdiv_eq_ediv_of_nonneg, Int.tmod_eq_emod_of_nonneg]
      repeat' first
        | ((first | refine callA_pure (c46 _) ?_ ?_); (next => repeat' first | exact flags_n | refine flags_c (by first | rfl | assumption) ?_); simp (disch := omega) only [strs, i2', i3', ex, eP, eT, madeA1, go_sem, wrap64_id, Int.tdiv_eq_ediv_of_nonneg, Int.tmod_eq_emod_of_nonneg])
        | ((first | refine callG_pure (fun e => ⟨?_, c46 _⟩) ?_); (next => repeat' first | exact flags_n | refine flags_c (by first | rfl | assumption) ?_); simp (disch := omega) only [strs, i2', i3', ex, eP, eT, madeA1, go_sem, wrap64_id, Int.tdiv_eq_ediv_of_nonneg, Int.tmod_eq_emod_of_nonneg])
        | ((first | refine fnQ_pure1 ?_ ?_ | refine fnQ_pure0 ?_ ?_); (next => repeat' first | exact rvs_n | refine rvs_t ?_ | (simp [go_sem]; done)); simp only [go_sem]; (first | exact VLe.refl _ | refine VLe_int ?_ | refine VLe_bool ?_ | refine VLe_str ?_ | skip))
        | (with_reducible refine And.intro ?_ ?_)
        | with_reducible intro _
      all_goals first
        | omega
        | (rename_i hx; revert hx; simp; done)
        | (simp; done)
        | skip
      have hn : patsC ((us.take i).map patB) ++ [.str (letB x), intsV (levB x)] = patsC ((us.take (i + 1)).map patB) := by
        have e1 : us[i] = x := by rw [hx, List.getD_eq_getElem?_getD, List.getElem?_eq_getElem hi]; rfl
        rw [List.take_add_one, List.getElem?_eq_getElem hi, List.map_append, patsC_app, e1]
        rfl
      rw [hn]
      refine hK _ _ (i + 1, v + 1, .mem (verOf (some O1) + 1) 32 [.str (letB x), intsV (levB x)], .mem (verOf (some O2) + 1) 32 [.str (letB x), intsV (levB x)]) ⟨by simp only; omega, fun j hj => ?_, rfl, rfl⟩ (by simp only; omega) (Wk.temps ?_)
      · by_cases e : j = i
        · subst e; rw [ex]; exact hb
        · exact ib j (by simp only at hj; omega)
      · (simp only [strs, spar, List.foldl, List.replicate, go_sem, VLes_nil, VLes_cons, VLe_undef_iff, VLe_self]; try (repeat' first | (with_reducible refine And.intro ?_ ?_) | (refine VLe_int ?_; omega) | (refine VLe_bool ?_; rfl) | exact VLe.refl _))
    | true =>
      obtain ⟨l, c46⟩ := c46b hb hxl
      rw [if_pos (any_bad hi (by rw [ex]; exact hb)), if_neg (by omega)]
      simp (disch := omega) only [spar, List.foldl, List.replicate, strs, i2', i3', ex, go_sem, wrap64_id, Int.tdiv_eq_ediv_of_nonneg, Int.tmod_eq_emod_of_nonneg]
      repeat' first
        | ((first | refine callA_pure (c46 _) ?_ ?_); (next => repeat' first | exact flags_n | refine flags_c (by first | rfl | assumption) ?_); simp (disch := omega) only [strs, i2', i3', ex, go_sem, wrap64_id, Int.tdiv_eq_ediv_of_nonneg, Int.tmod_eq_emod_of_nonneg])
        | ((first | refine callG_pure (fun e => ⟨?_, c46 _⟩) ?_); (next => repeat' first | exact flags_n | refine flags_c (by first | rfl | assumption) ?_); simp (disch := omega) only [strs, i2', i3', ex, go_sem, wrap64_id, Int.tdiv_eq_ediv_of_nonneg, Int.tmod_eq_emod_of_nonneg])
        | ((first | refine fnQ_pure1 ?_ ?_ | refine fnQ_pure0 ?_ ?_); (next => repeat' first | exact rvs_n | refine rvs_t ?_ | (simp [go_sem]; done)); simp only [go_sem]; (first | exact VLe.refl _ | refine VLe_int ?_ | refine VLe_bool ?_ | refine VLe_str ?_ | skip))
        | (with_reducible refine And.intro ?_ ?_)
        | with_reducible intro _
      all_goals first
        | omega
        | (rename_i hx; revert hx; simp; done)
        | (simp; done)
        | skip
      exact VLe_tup ⟨VLe_nl, VLe.refl _, trivial⟩
  · have e : i = us.length := by omega
    subst e
    rw [List.take_length]
    simp only [none_bad ib, Bool.false_eq_true, if_false]
    have c64 := t64o (us.map patB) (h.length + 1) v (h ++ [.emp 1, ownO v 32 (patsC (us.map patB)), O1, O2, .emp 0]) (by simp only [go_sem]) hok
    rw [List.length_map] at c64
    by_cases hc : checkPats (us.map patB) = 0
    · rw [hc] at c64 ⊢
      rw [if_pos ⟨h0, rfl⟩]
      simp (disch := omega) only [spar, List.foldl, List.replicate, strs, i2', i3', go_sem, wrap64_id, Int.tdiv_eq_ediv_of_nonneg, Int.tmod_eq_emod_of_nonneg]
      repeat' first
        | ((first | refine callA_pure (c64) ?_ ?_); (next => repeat' first | exact flags_n | refine flags_c (by first | rfl | assumption) ?_); simp (disch := omega) only [strs, i2', i3', go_sem, wrap64_id, Int.tdiv_eq_ediv_of_nonneg, Int.tmod_eq_emod_of_nonneg])
        | ((first | refine callG_pure (fun e => ⟨?_, c64⟩) ?_); (next => repeat' first | exact flags_n | refine flags_c (by first | rfl | assumption) ?_); simp (disch := omega) only [strs, i2', i3', go_sem, wrap64_id, Int.tdiv_eq_ediv_of_nonneg, Int.tmod_eq_emod_of_nonneg])
        | ((first | refine fnQ_pure1 ?_ ?_ | refine fnQ_pure0 ?_ ?_); (next => repeat' first | exact rvs_n | refine rvs_t ?_ | (simp [go_sem]; done)); simp only [go_sem]; (first | exact VLe.refl _ | refine VLe_int ?_ | refine VLe_bool ?_ | refine VLe_str ?_ | skip))
        | (with_reducible refine And.intro ?_ ?_)
        | with_reducible intro _
      all_goals first
        | omega
        | (rename_i hx; revert hx; simp; done)
        | (simp; done)
        | skip
      have hsl := fun h => slOf_pats (v := v) (n := 5) (L := us.map patB) (fz := fun k => decide (h.length ≤ k)) (h := h ++ [AObj.emp 1, ownO v 32 (patsC (us.map patB)), O1, O2, AObj.emp 0])
      rw [List.length_map] at hsl
      exact VLe_tup ⟨hsl h, VLe.refl _, trivial⟩
    · have k2 : (checkPats (us.map patB) = 0) = False := eq_false hc
      rw [if_neg (fun hx => hc hx.2)]
      simp (disch := omega) only [spar, List.foldl, List.replicate, strs, i2', i3', go_sem, wrap64_id, Int.tdiv_eq_ediv_of_nonneg, Int.tmod_eq_emod_of_nonneg]
      repeat' first
        | ((first | refine callA_pure (c64) ?_ ?_); (next => repeat' first | exact flags_n | refine flags_c (by first | rfl | assumption) ?_); simp (disch := omega) only [strs, i2', i3', k2, go_sem, wrap64_id, Int.tdiv_eq_ediv_of_nonneg, Int.tmod_eq_emod_of_nonneg])
        | ((first | refine callG_pure (fun e => ⟨?_, c64⟩) ?_); (next => repeat' first | exact flags_n | refine flags_c (by first | rfl | assumption) ?_); simp (disch := omega) only [strs, i2', i3', k2, go_sem, wrap64_id, Int.tdiv_eq_ediv_of_nonneg, Int.tmod_eq_emod_of_nonneg])
        | ((first | refine fnQ_pure1 ?_ ?_ | refine fnQ_pure0 ?_ ?_); (next => repeat' first | exact rvs_n | refine rvs_t ?_ | (simp [go_sem]; done)); simp only [go_sem]; (first | exact VLe.refl _ | refine VLe_int ?_ | refine VLe_bool ?_ | refine VLe_str ?_ | skip))
        | (with_reducible refine And.intro ?_ ?_)
        | with_reducible intro _
      all_goals first
        | omega
        | (rename_i hx; revert hx; simp; done)
        | (simp; done)
        | skip
      exact VLe_tup ⟨VLe_nl, VLe.refl _, trivial⟩
end HY
end

section
/-! the text E51 -/
open Go Go.Proofs AF HY
namespace HY
set_option maxRecDepth 100000
/-! The parts between spaces, from left to right. -/
def spl (cur : List UInt8) : List UInt8 → List (List UInt8)
  | [] => [cur]
  | c :: r => if c = 32 then cur :: spl [] r else spl (cur ++ [c]) r
theorem restS_succ (s : List UInt8) : ∀ i, restS 32 s (i + 1) = restS 32 (s.drop (cutAt 32 s + 1)) i := by
  intro i
  induction i with
  | zero => rfl
  | succ i ih =>
    show (restS 32 s (i + 1)).drop (cutAt 32 (restS 32 s (i + 1)) + 1) = _
    rw [ih]
    rfl
theorem splitL_cons {s : List UInt8} (h : 0 < s.count 32) : splitL 32 s = s.take (cutAt 32 s) :: splitL 32 (s.drop (cutAt 32 s + 1)) := by
  have hc := count_cut 32 s h
  unfold splitL
  rw [hc, List.range_succ_eq_map, List.map_cons, List.map_map]
  have e0 : splitP 32 s 0 = s.take (cutAt 32 s) := by unfold splitP; rw [if_pos h]; rfl
  rw [e0, show s.count 32 - 1 + 1 = s.count 32 by omega]
  congr 1
  refine List.map_congr_left (fun i _ => ?_)
  show splitP 32 s (i + 1) = _
  unfold splitP
  rw [restS_succ, hc]
  by_cases hi : i + 1 < s.count 32
  · rw [if_pos hi, if_pos (by omega)]
  · rw [if_neg hi, if_neg (by omega)]
theorem splitL_none {s : List UInt8} (h : s.count 32 = 0) : splitL 32 s = [s] := by
  unfold splitL
  rw [h]
  show [splitP 32 s 0] = [s]
  unfold splitP
  rw [if_neg (by omega)]
  rfl
theorem spl_none : ∀ (s cur : List UInt8), s.count 32 = 0 → spl cur s = [cur ++ s] := by
  intro s
  induction s with
  | nil => intro cur _; simp [spl]
  | cons c r ih =>
    intro cur h
    unfold spl
    by_cases e : c = 32
    · subst e; simp at h
    · rw [if_neg e]
      rw [List.count_cons, if_neg (by simpa using e)] at h
      rw [ih _ (by omega)]
      simp
theorem spl_some : ∀ (s cur : List UInt8), 0 < s.count 32 → spl cur s = (cur ++ s.take (cutAt 32 s)) :: spl [] (s.drop (cutAt 32 s + 1)) := by
  intro s
  induction s with
  | nil => intro cur h; simp at h
  | cons c r ih =>
    intro cur h
    conv => lhs; unfold spl
    rw [cutAt_cons]
    by_cases e : c = 32
    · subst e; simp
    · rw [if_neg e, if_neg e]
      rw [List.count_cons, if_neg (by simpa using e)] at h
      rw [ih _ (by omega)]
      simp
theorem spl_splitL : ∀ (n : Nat) (s : List UInt8), s.length ≤ n → spl [] s = splitL 32 s := by
  intro n
  induction n with
  | zero =>
    intro s h
    have : s = [] := List.eq_nil_of_length_eq_zero (by omega)
    subst this
    rfl
  | succ n ih =>
    intro s h
    by_cases hc : 0 < s.count 32
    · rw [spl_some s [] hc, splitL_cons hc, ih _ (by rw [List.length_drop]; omega)]
      rfl
    · rw [spl_none s [] (by omega), splitL_none (by omega)]
      rfl
end HY
end

section
/-! the text E52 -/
open Go Go.Proofs AF HY
namespace HY
set_option maxRecDepth 100000
end HY
end

section
/-! the text E53 -/
open Go Go.Proofs AF HY
namespace HY
set_option maxRecDepth 100000
/-! Printed patterns are read back, and what is read is printed so. -/
theorem tok_le (us : List (List UInt8)) (lv : List Int) (k : Nat) : (tokS us lv k).length ≤ 1 + (us.getD k []).length := by
  unfold tokS
  rw [List.length_append]
  split <;> simp
theorem take_flat_succ (us : List (List UInt8)) (k : Nat) : (us.take (k + 1)).flatten = (us.take k).flatten ++ us.getD k [] := by
  by_cases hk : k < us.length
  · rw [List.take_add_one, List.getElem?_eq_getElem hk, List.flatten_append, List.getD_eq_getElem?_getD, List.getElem?_eq_getElem hk]
    simp
  · rw [List.take_of_length_le (by omega), List.take_of_length_le (by omega), getD_none hk, List.append_nil]
theorem patGo_size (us : List (List UInt8)) (lv : List Int) : ∀ k, (patGo us lv k).length ≤ k + (us.take k).flatten.length := by
  intro k
  induction k with
  | zero => simp [patGo]
  | succ k ih =>
    show (patGo us lv k ++ tokS us lv k).length ≤ _
    rw [List.length_append, take_flat_succ, List.length_append]
    have := tok_le us lv k
    omega
theorem patT_size (p : Pat) : (patT p).length ≤ p.levels.length + p.letters.length := by
  unfold patT
  have h1 := patGo_size (clus p.letters) p.levels p.levels.length
  have h2 := flatten_take_le (clus p.letters) p.levels.length
  rw [clus_join] at h2
  omega
theorem printGo_size {ps : List Pat} {B : Nat} (h : ∀ i, i < ps.length → (patT (ps.getD i default)).length ≤ B) : ∀ i, i ≤ ps.length → (printGo ps i).length ≤ i * (B + 1) := by
  intro i
  induction i with
  | zero => intro _; simp [printGo]
  | succ i ih =>
    intro hi
    have h1 := ih (by omega)
    have h2 := h i (by omega)
    show (printGo ps i ++ (sepT i ++ patT (ps.getD i default))).length ≤ _
    rw [List.length_append, List.length_append, Nat.succ_mul]
    have h3 : (sepT i).length ≤ 1 := by unfold sepT; split <;> simp
    omega
theorem great_any {ps : List Pat} (h : greatH ps = false) : ¬((8 < ps.length ∧ ps.length ≤ 4096) ∨ 4098 < ps.length) ∧ ∀ i, i < ps.length → greatP (ps.getD i default) = false := by
  unfold greatH at h
  rw [Bool.or_eq_false_iff] at h
  obtain ⟨h1, h2⟩ := h
  refine ⟨fun hc => ?_, fun i hi => ?_⟩
  · have : ((decide (8 < ps.length) && decide (ps.length ≤ 4096)) || decide (4098 < ps.length)) = true := by simp only [Bool.or_eq_true, Bool.and_eq_true, decide_eq_true_eq]; exact hc
    rw [this] at h1
    cases h1
  · rw [List.any_eq_false] at h2
    have := h2 _ (List.getElem_mem hi)
    rw [List.getD_eq_getElem?_getD, List.getElem?_eq_getElem hi]
    simpa using this
theorem greatP_false {p : Pat} (h : greatP p = false) : ¬(12 < p.letters.length ∧ p.letters.length ≤ 64) ∧ p.letters.length ≤ 66 ∧ p.levels.length ≤ 16 := by
  unfold greatP at h
  simp only [Bool.or_eq_false_iff, Bool.and_eq_false_imp, decide_eq_true_eq, decide_eq_false_iff_not] at h
  omega
theorem small_print {ps : List Pat} (h : greatH ps = false) (hc : checkPats ps = 0) : (printT ps).length ≤ 65536 := by
  obtain ⟨h1, h2⟩ := great_any h
  have h3 : ps.length ≤ 8 := by
    unfold checkPats at hc
    split at hc
    · cases hc
    · omega
  have h4 := printGo_size (ps := ps) (B := 28) (fun i hi => by
    obtain ⟨g1, g2, g3⟩ := greatP_false (h2 i hi)
    have hm : ps.getD i default ∈ ps := by rw [List.getD_eq_getElem?_getD, List.getElem?_eq_getElem hi]; exact List.getElem_mem hi
    have hp := check_all hc _ hm
    have hl : (ps.getD i default).letters.length ≤ 64 := by
      unfold checkPat at hp
      split at hp
      · cases hp
      · omega
    have := patT_size (ps.getD i default)
    omega) ps.length (Nat.le_refl _)
  have h5 : ps.length * (28 + 1) ≤ 8 * 29 := Nat.mul_le_mul_right _ h3
  have h6 : (printT ps).length = (printGo ps ps.length).length := rfl
  omega
def tailL : List Pat → List UInt8
  | [] => []
  | x :: r => 32 :: (patT x ++ tailL r)
def printL : List Pat → List UInt8
  | [] => []
  | x :: r => patT x ++ tailL r
theorem tailL_snoc (l : List Pat) (x : Pat) : tailL (l ++ [x]) = tailL l ++ 32 :: patT x := by
  induction l with
  | nil => simp [tailL]
  | cons a l ih => simp [tailL, ih]
theorem printL_snoc (l : List Pat) (x : Pat) : printL (l ++ [x]) = printL l ++ ((if l = [] then [] else [32]) ++ patT x) := by
  cases l with
  | nil => simp [printL, tailL]
  | cons a l => simp [printL, tailL_snoc]
theorem printGo_L (ps : List Pat) : ∀ i, i ≤ ps.length → printGo ps i = printL (ps.take i) := by
  intro i
  induction i with
  | zero => intro _; rfl
  | succ i ih =>
    intro h
    have e : ps.take (i + 1) = ps.take i ++ [ps.getD i default] := by
      rw [List.take_add_one, List.getElem?_eq_getElem (show i < ps.length by omega), List.getD_eq_getElem?_getD, List.getElem?_eq_getElem (show i < ps.length by omega)]
      rfl
    rw [e, printL_snoc, ← ih (by omega)]
    show printGo ps i ++ (sepT i ++ _) = _
    congr 2
    unfold sepT
    by_cases h0 : i = 0
    · rw [if_pos h0, h0]; rfl
    · rw [if_neg h0, if_neg (fun hc => by
        have := congrArg List.length hc
        rw [List.length_take, List.length_nil] at this
        omega)]
theorem printT_L (ps : List Pat) : printT ps = printL ps := by
  unfold printT
  rw [printGo_L ps _ (Nat.le_refl _), List.take_length]
theorem cut_char : ∀ (s : List UInt8) (h : cutAt 32 s < s.length), s[cutAt 32 s] = 32 := by
  intro s
  induction s with
  | nil => intro h; simp at h
  | cons c r ih =>
    intro h
    have hc := cutAt_cons 32 c r
    by_cases e : c = 32
    · rw [if_pos e] at hc
      simp only [hc]
      simpa using e
    · rw [if_neg e] at hc
      simp only [hc] at h ⊢
      simp at h
      simpa using ih h
/-- The parts, one behind the other, are the string. -/
theorem print_split : ∀ (n : Nat) (s : List UInt8), s.length ≤ n → (∀ x ∈ splitL 32 s, nb x) → printL ((splitL 32 s).map patB) = s := by
  intro n
  induction n with
  | zero =>
    intro s hs _
    have : s = [] := List.eq_nil_of_length_eq_zero (by omega)
    subst this
    rfl
  | succ n ih =>
    intro s hs h
    by_cases hc : 0 < s.count 32
    · have hlt := cutAt_lt 32 s hc
      rw [splitL_cons hc] at h ⊢
      have ih := ih (s.drop (cutAt 32 s + 1)) (by rw [List.length_drop]; omega) (fun x hx => h x (by simp [hx]))
      have hne : splitL 32 (s.drop (cutAt 32 s + 1)) ≠ [] := by
        intro e
        have := congrArg List.length e
        rw [splitL_len] at this
        cases this
      obtain ⟨y, r, e⟩ := List.exists_cons_of_ne_nil hne
      rw [e] at ih ⊢
      rw [List.map_cons, List.map_cons]
      show patT (patB _) ++ (32 :: (patT (patB y) ++ tailL (r.map patB))) = s
      have ih : patT (patB y) ++ tailL (r.map patB) = s.drop (cutAt 32 s + 1) := ih
      rw [ih, patT_patB (h _ (by simp))]
      have hch : s[cutAt 32 s] = 32 := cut_char s hlt
      conv => rhs; rw [← List.take_append_drop (cutAt 32 s) s, List.drop_eq_getElem_cons hlt, hch]
    · rw [splitL_none (by omega)] at h ⊢
      show patT (patB s) ++ [] = s
      rw [List.append_nil]
      exact patT_patB (h s (by simp))
end HY
end

section
/-! the text E54 -/
open Go Go.Proofs AF HY
namespace HY
set_option maxRecDepth 100000
theorem mem_trimPre {s : List UInt8} {c : UInt8} (h : c ∈ s) : c ∈ trimPre s [46] ∨ c = 46 := by
  unfold trimPre
  split
  · rename_i hp
    rw [hasPre_dot] at hp
    cases s with
    | nil => simp at h
    | cons a r =>
      simp [ch] at hp
      rcases List.mem_cons.1 h with rfl | h
      · exact .inr hp
      · left; simpa using h
  · exact .inl h
theorem mem_trimSuf {s : List UInt8} {c : UInt8} (h : c ∈ s) : c ∈ trimSuf s [46] ∨ c = 46 := by
  unfold trimSuf
  split
  · rename_i hp
    rw [hasSuf_dot] at hp
    simp only [Bool.and_eq_true, decide_eq_true_eq] at hp
    obtain ⟨i, hi, e⟩ := List.mem_iff_getElem.1 h
    by_cases hl : i = s.length - 1
    · right
      rw [← e]
      have h2 := hp.2
      unfold ch at h2
      rw [List.getD_eq_getElem?_getD, List.getElem?_eq_getElem (by omega)] at h2
      simp only [Option.getD_some] at h2
      simp only [hl]
      exact h2
    · left
      rw [List.mem_iff_getElem]
      have hlt : i < (s.take (s.length - [46].length)).length := by rw [List.length_take]; simp only [List.length_singleton]; omega
      exact ⟨i, hlt, by rw [List.getElem_take]; exact e⟩
  · exact .inl h
theorem mem_inner {s : List UInt8} {c : UInt8} (h : c ∈ s) : c ∈ inner s ∨ c = 46 := by
  rcases mem_trimPre h with h | h
  · exact mem_trimSuf h
  · exact .inr h
structure Valid (p : Pat) : Prop where
  chars : ∀ c ∈ p.letters, dg c = false ∧ c ≠ 32
  heads : ∀ u ∈ clus p.letters, kind (ch u 0) ≠ 2
  ne : p.letters ≠ []
  len : p.levels.length = (clus p.letters).length + 1
  lev : ∀ k, k < p.levels.length → 0 ≤ p.levels.getD k 0 ∧ p.levels.getD k 0 ≤ 9
theorem valid_of {p : Pat} (h : checkPat p = 0) : Valid p := by
  have hlv := okLev_check h
  unfold checkPat at h
  split at h
  · cases h
  rename_i h1
  split at h
  · cases h
  rename_i h2
  split at h
  · cases h
  rename_i h3
  split at h
  · cases h
  rename_i h4
  split at h
  · cases h
  rename_i h5
  have hc : ∀ c ∈ inner p.letters, kind c = 1 ∨ kind c = 2 ∨ kind c = 4 := by
    intro c hc
    apply Classical.byContradiction
    intro hn
    apply h2
    rw [List.any_eq_true]
    refine ⟨c, hc, ?_⟩
    have : onlyC c = false := by
      unfold onlyC
      simp only [Bool.or_eq_false_iff, decide_eq_false_iff_not]
      exact ⟨⟨fun e => hn (.inl e), fun e => hn (.inr (.inl e))⟩, fun e => hn (.inr (.inr e))⟩
    rw [this]
    rfl
  refine ⟨fun c hcm => ?_, fun u hu => ?_, ?_, by omega, fun k hk => ?_⟩
  · rcases mem_inner hcm with hi | rfl
    · have hk := hc c hi
      refine ⟨?_, ?_⟩
      · unfold dg
        rw [decide_eq_false_iff_not]
        have : kind c = kindI (c.toNat : Int) := rfl
        rw [← this]
        omega
      · rintro rfl
        have : kind 32 = 6 := by decide
        rw [this] at hk
        omega
    · exact ⟨by decide, by decide⟩
  · have h3 : checkC (inner p.letters) = 0 := Classical.not_not.1 h3
    rw [checkC_eq, bad_inner, ← clus_bad] at h3
    have hb : ¬ (clus p.letters).any badHead = true := by
      intro hb
      rw [if_pos hb] at h3
      split at h3 <;> cases h3
    intro e
    apply hb
    rw [List.any_eq_true]
    refine ⟨u, hu, ?_⟩
    unfold badHead
    simp [e]
  · intro e
    apply h4
    rw [e]
    rfl
  · exact hlv _ (by rw [List.getD_eq_getElem?_getD, List.getElem?_eq_getElem hk]; exact List.getElem_mem hk)
theorem letB_id {u : List UInt8} (h : ∀ x ∈ u, dg x = false) : letB u = u := by
  unfold letB
  rw [List.filter_eq_self]
  intro x hx
  simp [h x hx]
theorem letB_tok {us : List (List UInt8)} {lv : List Int} (hd : ∀ u ∈ us, ∀ x ∈ u, dg x = false) {k : Nat} (h0 : 0 ≤ lv.getD k 0) (h1 : lv.getD k 0 ≤ 9) : letB (tokS us lv k) = us.getD k [] := by
  unfold tokS
  rw [letB_app]
  have e : letB (us.getD k []) = us.getD k [] := by
    by_cases hk : k < us.length
    · refine letB_id (hd _ ?_)
      rw [List.getD_eq_getElem?_getD, List.getElem?_eq_getElem hk]
      exact List.getElem_mem hk
    · rw [getD_none hk]; rfl
  rw [e]
  split
  · rw [letB_cons_t (digB_of h0 h1).1]
    rfl
  · rfl
theorem letB_go {us : List (List UInt8)} {lv : List Int} (hd : ∀ u ∈ us, ∀ x ∈ u, dg x = false) (hv : ∀ k, k < lv.length → 0 ≤ lv.getD k 0 ∧ lv.getD k 0 ≤ 9) : ∀ k, k ≤ lv.length → letB (patGo us lv k) = (us.take k).flatten := by
  intro k
  induction k with
  | zero => intro _; rfl
  | succ k ih =>
    intro h
    show letB (patGo us lv k ++ tokS us lv k) = _
    obtain ⟨v0, v1⟩ := hv k (by omega)
    rw [letB_app, ih (by omega), letB_tok hd v0 v1, take_flat_succ]
/-- The tokens from k on. -/
def sufT (us : List (List UInt8)) (lv : List Int) (k : Nat) : Nat → List UInt8
  | 0 => []
  | n + 1 => tokS us lv k ++ sufT us lv (k + 1) n
theorem sufT_go (us : List (List UInt8)) (lv : List Int) : ∀ n k, patGo us lv (k + n) = patGo us lv k ++ sufT us lv k n := by
  intro n
  induction n with
  | zero => intro k; simp [sufT]
  | succ n ih =>
    intro k
    rw [show k + (n + 1) = k + 1 + n by omega, ih (k + 1)]
    show patGo us lv k ++ tokS us lv k ++ _ = _
    rw [List.append_assoc]
    rfl
theorem nb_nodig : ∀ (u rest : List UInt8), (∀ x ∈ u, dg x = false) → nb rest → nb (u ++ rest) := by
  intro u
  induction u with
  | nil => intro rest _ h; exact h
  | cons c u ih =>
    intro rest hd h
    refine ⟨fun hc => ?_, ih rest (fun x hx => hd x (by simp [hx])) h⟩
    rw [hd c (by simp)] at hc
    cases hc
theorem digB_48 {n : Int} (h0 : 0 < n) (h1 : n ≤ 9) : digB n ≠ 48 := by
  have := (digB_of (n := n) (by omega) h1).2
  intro e
  rw [e] at this
  have h2 : ((48 : UInt8).toNat : Int) = 48 := rfl
  omega
theorem nb_tok {us : List (List UInt8)} {lv : List Int} {k : Nat} {rest : List UInt8} (hd : ∀ u ∈ us, ∀ x ∈ u, dg x = false) (hh : ∀ u ∈ us, kind (ch u 0) ≠ 2) (hc : ∀ u ∈ us, okU u)
    (h0 : 0 ≤ lv.getD k 0) (h1 : lv.getD k 0 ≤ 9) (hr : nb rest) (he : k < us.length ∨ rest = []) : nb (tokS us lv k ++ rest) := by
  unfold tokS
  rw [List.append_assoc]
  have hu : nb (us.getD k [] ++ rest) := by
    refine nb_nodig _ _ ?_ hr
    by_cases hk : k < us.length
    · refine hd _ ?_
      rw [List.getD_eq_getElem?_getD, List.getElem?_eq_getElem hk]
      exact List.getElem_mem hk
    · rw [getD_none hk]; simp
  split
  · rename_i hp
    refine ⟨fun _ => ⟨digB_48 hp h1, fun c hcm => ?_⟩, hu⟩
    rcases he with hk | hre
    · have hm : us.getD k [] ∈ us := by rw [List.getD_eq_getElem?_getD, List.getElem?_eq_getElem hk]; exact List.getElem_mem hk
      obtain ⟨a, m, e, _, _⟩ := hc _ hm
      rw [e] at hcm
      simp at hcm
      subst hcm
      have h3 := hh _ hm
      have h4 := hd _ hm
      rw [e] at h3 h4
      exact ⟨h4 a (by simp), h3⟩
    · by_cases hk : k < us.length
      · have hm : us.getD k [] ∈ us := by rw [List.getD_eq_getElem?_getD, List.getElem?_eq_getElem hk]; exact List.getElem_mem hk
        obtain ⟨a, m, e, _, _⟩ := hc _ hm
        rw [e] at hcm
        simp at hcm
        subst hcm
        have h3 := hh _ hm
        have h4 := hd _ hm
        rw [e] at h3 h4
        exact ⟨h4 a (by simp), h3⟩
      · rw [getD_none hk, hre] at hcm
        simp at hcm
  · exact hu
theorem nb_suf {us : List (List UInt8)} {lv : List Int} (hd : ∀ u ∈ us, ∀ x ∈ u, dg x = false) (hh : ∀ u ∈ us, kind (ch u 0) ≠ 2) (hc : ∀ u ∈ us, okU u)
    (hv : ∀ k, k < lv.length → 0 ≤ lv.getD k 0 ∧ lv.getD k 0 ≤ 9) : ∀ n k, k + n = lv.length → lv.length = us.length + 1 → nb (sufT us lv k n) := by
  intro n
  induction n with
  | zero => intro k _ _; trivial
  | succ n ih =>
    intro k h1 h2
    obtain ⟨v0, v1⟩ := hv k (by omega)
    refine nb_tok hd hh hc v0 v1 (ih (k + 1) (by omega) h2) ?_
    by_cases hk : k < us.length
    · exact .inl hk
    · have : n = 0 := by omega
      subst this
      exact .inr rfl
theorem valid_text {p : Pat} (h : Valid p) : nb (patT p) ∧ letB (patT p) = p.letters ∧ patB (patT p) = p := by
  have hd : ∀ u ∈ clus p.letters, ∀ x ∈ u, dg x = false := fun u hu x hx => (h.chars x (mem_clus hu x hx)).1
  have hc : ∀ u ∈ clus p.letters, okU u := chn_get (chn_clus _)
  have hn : nb (patT p) := by
    have := sufT_go (clus p.letters) p.levels p.levels.length 0
    rw [Nat.zero_add] at this
    unfold patT
    rw [this]
    exact nb_suf hd h.heads hc h.lev p.levels.length 0 (by omega) h.len
  have hl : letB (patT p) = p.letters := by
    unfold patT
    rw [letB_go hd h.lev _ (Nat.le_refl _), List.take_of_length_le (by have := h.len; omega), clus_join]
  refine ⟨hn, hl, ?_⟩
  have hk : ∀ k, 0 < k → k < (clus (letB (patT p))).length → kind (ch ((clus (letB (patT p))).getD k []) 0) ≠ 2 := by
    intro k _ hk
    rw [hl] at hk ⊢
    refine h.heads _ ?_
    rw [List.getD_eq_getElem?_getD, List.getElem?_eq_getElem hk]
    exact List.getElem_mem hk
  rw [← readB_patB hn hk]
  have hr := rd_patT hc hd (fun k h0 hk2 => by rw [hl] at hk; exact hk k h0 hk2) h.len h.lev
  have hlen := h.len
  unfold readB
  rw [hl]
  show Pat.mk p.letters ((rdAll (patGo (clus p.letters) p.levels p.levels.length)).1 ++ [(rdAll (patGo (clus p.letters) p.levels p.levels.length)).2]) = p
  rw [hr]
  have e : p.levels.take (clus p.letters).length ++ [p.levels.getD (clus p.letters).length 0] = p.levels := by
    conv => rhs; rw [← List.take_append_drop (clus p.letters).length p.levels]
    rw [List.drop_eq_getElem_cons (by omega), List.drop_eq_nil_of_le (by omega), List.getD_eq_getElem?_getD, List.getElem?_eq_getElem (by omega)]
    rfl
  rw [e]
theorem patT_ne {p : Pat} (h : Valid p) : patT p ≠ [] := by
  intro e
  have := (valid_text h).2.1
  rw [e] at this
  exact h.ne this.symm
theorem tok_mem {us : List (List UInt8)} {lv : List Int} {c : UInt8} : ∀ k, k ≤ lv.length → (∀ k, k < lv.length → 0 ≤ lv.getD k 0 ∧ lv.getD k 0 ≤ 9) → c ∈ patGo us lv k → dg c = true ∨ ∃ u ∈ us, c ∈ u := by
  intro k
  induction k with
  | zero => intro _ _ h; simp [patGo] at h
  | succ k ih =>
    intro hk hv h
    have h : c ∈ patGo us lv k ++ tokS us lv k := h
    rcases List.mem_append.1 h with h | h
    · exact ih (by omega) hv h
    · unfold tokS at h
      rcases List.mem_append.1 h with h | h
      · obtain ⟨v0, v1⟩ := hv k (by omega)
        split at h
        · simp at h
          rw [← List.getD_eq_getElem?_getD] at h
          subst h
          exact .inl (digB_of v0 v1).1
        · simp at h
      · by_cases hk2 : k < us.length
        · refine .inr ⟨us.getD k [], ?_, h⟩
          rw [List.getD_eq_getElem?_getD, List.getElem?_eq_getElem hk2]
          exact List.getElem_mem hk2
        · rw [getD_none hk2] at h; simp at h
theorem patT_nosp {p : Pat} (h : Valid p) : ∀ c ∈ patT p, c ≠ 32 := by
  intro c hc
  rcases tok_mem _ (Nat.le_refl _) h.lev hc with hd | ⟨u, hu, hx⟩
  · rintro rfl; exact absurd hd (by decide)
  · exact (h.chars c (mem_clus hu c hx)).2
theorem spl_word : ∀ (a cur r : List UInt8), (∀ c ∈ a, c ≠ 32) → spl cur (a ++ r) = spl (cur ++ a) r := by
  intro a
  induction a with
  | nil => intro cur r _; simp
  | cons c a ih =>
    intro cur r h
    rw [List.cons_append]
    conv => lhs; unfold spl
    rw [if_neg (h c (by simp)), ih _ _ (fun d hd => h d (by simp [hd]))]
    simp
theorem spl_tail : ∀ (r : List Pat) (cur : List UInt8), (∀ p ∈ r, Valid p) → spl cur (tailL r) = cur :: r.map patT := by
  intro r
  induction r with
  | nil => intro cur _; rfl
  | cons x r ih =>
    intro cur h
    show spl cur (32 :: (patT x ++ tailL r)) = _
    unfold spl
    rw [if_pos rfl, spl_word _ _ _ (patT_nosp (h x (by simp))), List.nil_append, ih _ (fun p hp => h p (by simp [hp]))]
    rfl
theorem split_print {ps : List Pat} (h : ∀ p ∈ ps, Valid p) (h0 : ps ≠ []) : splitL 32 (printT ps) = ps.map patT := by
  obtain ⟨x, r, rfl⟩ := List.exists_cons_of_ne_nil h0
  rw [printT_L, ← spl_splitL _ _ (Nat.le_refl _)]
  show spl [] (patT x ++ tailL r) = _
  rw [spl_word _ _ _ (patT_nosp (h x (by simp))), List.nil_append, spl_tail _ _ (fun p hp => h p (by simp [hp]))]
  rfl
/-- The text of valid patterns, read. -/
theorem parse_print {ps : List Pat} (hc : checkPats ps = 0) (hl : (printT ps).length ≤ 65536) : parseE (printT ps) = 0 ∧ parseR (printT ps) = ps := by
  by_cases h0 : ps = []
  · subst h0; exact ⟨rfl, rfl⟩
  have hv : ∀ p ∈ ps, Valid p := fun p hp => valid_of (check_all hc p hp)
  have hs := split_print hv h0
  have hne : printT ps ≠ [] := by
    obtain ⟨x, r, rfl⟩ := List.exists_cons_of_ne_nil h0
    rw [printT_L]
    intro e
    have e : patT x ++ tailL r = [] := e
    exact patT_ne (hv x (by simp)) (List.append_eq_nil_iff.1 e).1
  have hb : parseB (printT ps) = ps := by
    unfold parseB
    rw [hs, List.map_map]
    conv => rhs; rw [← List.map_id ps]
    exact List.map_congr_left (fun p hp => (valid_text (hv p hp)).2.2)
  have hn : (splitL 32 (printT ps)).any badP = false := by
    rw [hs, List.any_eq_false]
    intro x hx
    rw [List.mem_map] at hx
    obtain ⟨p, hp, rfl⟩ := hx
    rw [badP_false.2 ⟨patT_ne (hv p hp), (valid_text (hv p hp)).1⟩]
    simp
  have he : parseE (printT ps) = 0 := by
    unfold parseE
    rw [if_neg (by omega), if_neg hne, hn, hb, hc]
    rfl
  refine ⟨he, ?_⟩
  unfold parseR
  rw [if_pos ⟨hne, he⟩, hb]
/-- What can be read is the text of the result. -/
theorem print_parse {s : List UInt8} (he : parseE s = 0) : checkPats (parseR s) = 0 ∧ printT (parseR s) = s ∧ s.length ≤ 65536 := by
  have h := he
  unfold parseE at h
  split at h
  · cases h
  rename_i hs
  split at h
  · rename_i h0
    subst h0
    exact ⟨rfl, rfl, by simp⟩
  rename_i h0
  split at h
  · cases h
  rename_i hb
  have hr : parseR s = parseB s := by unfold parseR; rw [if_pos ⟨h0, he⟩]
  rw [hr]
  refine ⟨h, ?_, by omega⟩
  rw [printT_L]
  refine print_split s.length s (Nat.le_refl _) (fun x hx => ?_)
  have : (splitL 32 s).any badP = false := by simpa using hb
  rw [List.any_eq_false] at this
  exact (badP_false.1 (by simpa using this x hx)).2
theorem parse_len (s : List UInt8) (h : parseE s ≠ 0) : parseR s = [] := by unfold parseR; rw [if_neg (fun hc => h hc.2)]
end HY
end

section
/-! the text E55 -/
open Go Go.Proofs AF HY
namespace HY
set_option maxRecDepth 100000
theorem parseR_ok (s : List UInt8) (h : s.length ≤ 65536) : okPats (parseR s) := by
  unfold parseR
  split
  · exact parseB_ok s h
  · exact ⟨by simp, fun i hi => by simp at hi⟩
set_option maxHeartbeats 8000000 in
theorem v6 (p : List Pat) (s : List UInt8) (h : List AObj) (hp : p.length ≤ 9223372036854775807) : ACalls Tryd.prog 6 [patsV p, .str s] h (.bool true) h := by
  have c11 := fun h => u11 p h hp
  cases hf : fineH p with
  | false =>
    rw [hf] at c11
    refine acalls_of fn6d (by simp) ?_
    simp only [List.length_cons, List.length_nil, Nat.reduceAdd, Nat.reduceSub, List.replicate, List.cons_append, List.nil_append, List.append_nil]
    simp (disch := omega) only [c6d, go_sem, wrap64_id, Int.tdiv_eq_ediv_of_nonneg, Int.tmod_eq_emod_of_nonneg]
    repeat' first
      | ((first | refine callA_pure (c11 _) ?_ ?_ | refine callA_pure (u13 _) ?_ ?_); (next => repeat' first | exact flags_n | refine flags_c (by first | rfl | assumption) ?_); simp (disch := omega) only [go_sem, wrap64_id, Int.tdiv_eq_ediv_of_nonneg, Int.tmod_eq_emod_of_nonneg])
      | ((first | refine callG_pure (fun e => ⟨?_, c11 _⟩) ?_ | refine callG_pure (fun e => ⟨?_, u13 _⟩) ?_); (next => repeat' first | exact flags_n | refine flags_c (by first | rfl | assumption) ?_); simp (disch := omega) only [go_sem, wrap64_id, Int.tdiv_eq_ediv_of_nonneg, Int.tmod_eq_emod_of_nonneg])
      | ((first | refine fnQ_pure1 ?_ ?_ | refine fnQ_pure0 ?_ ?_); (next => repeat' first | exact rvs_n | refine rvs_t ?_ | (simp [go_sem]; done)); simp only [go_sem]; (first | exact VLe.refl _ | refine VLe_int ?_ | refine VLe_bool ?_ | refine VLe_str ?_ | skip))
      | (with_reducible refine And.intro ?_ ?_)
      | with_reducible intro _
    all_goals first
      | omega
      | (rename_i hx; revert hx; simp; done)
      | (simp; done)
      | skip
  | true =>
  rw [hf] at c11
  by_cases hs : 60 < s.length
  · have k1 : (60 < (s.length : Int)) = True := eq_true (by omega)
    refine acalls_of fn6d (by simp) ?_
    simp only [List.length_cons, List.length_nil, Nat.reduceAdd, Nat.reduceSub, List.replicate, List.cons_append, List.nil_append, List.append_nil]
    simp (disch := omega) only [c6d, k1, go_sem, wrap64_id, Int.tdiv_eq_ediv_of_nonneg, Int.tmod_eq_emod_of_nonneg]
    repeat' first
      | ((first | refine callA_pure (c11 _) ?_ ?_ | refine callA_pure (u13 _) ?_ ?_); (next => repeat' first | exact flags_n | refine flags_c (by first | rfl | assumption) ?_); simp (disch := omega) only [k1, go_sem, wrap64_id, Int.tdiv_eq_ediv_of_nonneg, Int.tmod_eq_emod_of_nonneg])
      | ((first | refine callG_pure (fun e => ⟨?_, c11 _⟩) ?_ | refine callG_pure (fun e => ⟨?_, u13 _⟩) ?_); (next => repeat' first | exact flags_n | refine flags_c (by first | rfl | assumption) ?_); simp (disch := omega) only [k1, go_sem, wrap64_id, Int.tdiv_eq_ediv_of_nonneg, Int.tmod_eq_emod_of_nonneg])
      | ((first | refine fnQ_pure1 ?_ ?_ | refine fnQ_pure0 ?_ ?_); (next => repeat' first | exact rvs_n | refine rvs_t ?_ | (simp [go_sem]; done)); simp only [go_sem]; (first | exact VLe.refl _ | refine VLe_int ?_ | refine VLe_bool ?_ | refine VLe_str ?_ | skip))
      | (with_reducible refine And.intro ?_ ?_)
      | with_reducible intro _
    all_goals first
      | omega
      | (rename_i hx; revert hx; simp; done)
      | (simp; done)
      | skip
  have k1 : (60 < (s.length : Int)) = False := eq_false (by omega)
  have F := fine_of hf
  have hg : greatH p = false := by
    unfold fineH at hf
    simp only [Bool.and_eq_true, Bool.not_eq_true'] at hf
    exact hf.2.1
  have hsm := small_print hg F.check
  obtain ⟨p1, p2⟩ := parse_print F.check hsm
  have c23 := fun h => v23 p h F.ok (by omega)
  have ePE : printE p = 0 := by unfold printE; rw [if_pos F.check, if_neg (by omega)]
  have ePR : printR p = printT p := by unfold printR; rw [if_pos ePE]
  rw [ePE, ePR] at c23
  have c21t := fun h => v21 (printT p) h
  rw [p1, p2] at c21t
  have c27 := fun h => u27 p p h F.ok
  rw [decide_eq_true rfl] at c27
  have c21s := fun h => v21 s h
  obtain ⟨T, hT⟩ : ∃ T, T = printT p := ⟨_, rfl⟩
  rw [← hT] at c23 c21t
  by_cases hE : parseE s = 0
  · obtain ⟨w1, w2, w3⟩ := print_parse hE
    rw [hE] at c21s
    have c23s := fun h => v23 (parseR s) h (parseR_ok s (by omega)) (by rw [w2]; omega)
    have eQE : printE (parseR s) = 0 := by unfold printE; rw [if_pos w1, if_neg (by rw [w2]; omega)]
    have eQR : printR (parseR s) = s := by unfold printR; rw [if_pos eQE, w2]
    rw [eQE, eQR] at c23s
    obtain ⟨A, hA⟩ : ∃ A, A = parseR s := ⟨_, rfl⟩
    rw [← hA] at c21s c23s
    have k2 : (s = s) = True := eq_true rfl
    refine acalls_of fn6d (by simp) ?_
    simp only [List.length_cons, List.length_nil, Nat.reduceAdd, Nat.reduceSub, List.replicate, List.cons_append, List.nil_append, List.append_nil]
    simp (disch := omega) only [c6d, k1, k2, go_sem, wrap64_id, Int.tdiv_eq_ediv_of_nonneg, Int.tmod_eq_emod_of_nonneg]
    repeat' first
      | ((first | refine callA_pure (c11 _) ?_ ?_ | refine callA_pure (c23 _) ?_ ?_ | refine callA_pure (c21t _) ?_ ?_ | refine callA_pure (c27 _) ?_ ?_ | refine callA_pure (c21s _) ?_ ?_ | refine callA_pure (c23s _) ?_ ?_ | refine callA_pure (u13 _) ?_ ?_); (next => repeat' first | exact flags_n | refine flags_c (by first | rfl | assumption) ?_); simp (disch := omega) only [k1, k2, go_sem, wrap64_id, Int.tdiv_eq_ediv_of_nonneg, Int.tmod_eq_emod_of_nonneg])
      | ((first | refine callG_pure (fun e => ⟨?_, c11 _⟩) ?_ | refine callG_pure (fun e => ⟨?_, c23 _⟩) ?_ | refine callG_pure (fun e => ⟨?_, c21t _⟩) ?_ | refine callG_pure (fun e => ⟨?_, c27 _⟩) ?_ | refine callG_pure (fun e => ⟨?_, c21s _⟩) ?_ | refine callG_pure (fun e => ⟨?_, c23s _⟩) ?_ | refine callG_pure (fun e => ⟨?_, u13 _⟩) ?_); (next => repeat' first | exact flags_n | refine flags_c (by first | rfl | assumption) ?_); simp (disch := omega) only [k1, k2, go_sem, wrap64_id, Int.tdiv_eq_ediv_of_nonneg, Int.tmod_eq_emod_of_nonneg])
      | ((first | refine fnQ_pure1 ?_ ?_ | refine fnQ_pure0 ?_ ?_); (next => repeat' first | exact rvs_n | refine rvs_t ?_ | (simp [go_sem]; done)); simp only [go_sem]; (first | exact VLe.refl _ | refine VLe_int ?_ | refine VLe_bool ?_ | refine VLe_str ?_ | skip))
      | (with_reducible refine And.intro ?_ ?_)
      | with_reducible intro _
    all_goals first
      | omega
      | (rename_i hx; revert hx; simp; done)
      | (simp; done)
      | skip
  · have hnil := parse_len s hE
    rw [hnil] at c21s
    obtain ⟨e, he⟩ : ∃ e, e = parseE s := ⟨_, rfl⟩
    rw [← he] at c21s hE
    have k2 : (e = 0) = False := eq_false hE
    obtain ⟨Z, hZ, z1, z2, z3, z4⟩ : ∃ Z, Z = patsV [] ∧ okL h .len [Z] = True ∧ valL h .len [Z] = .int .i64 0 ∧ Z.strip = Z ∧ Z.flag = true :=
      ⟨_, rfl, by simp only [patsV, go_sem], by simp only [patsV, go_sem]; rfl, rfl, rfl⟩
    rw [← hZ] at c21s
    refine acalls_of fn6d (by simp) ?_
    simp only [List.length_cons, List.length_nil, Nat.reduceAdd, Nat.reduceSub, List.replicate, List.cons_append, List.nil_append, List.append_nil]
    simp (disch := omega) only [c6d, k1, k2, z1, z2, z3, z4, go_sem, wrap64_id, Int.tdiv_eq_ediv_of_nonneg, Int.tmod_eq_emod_of_nonneg]
    repeat' first
      | ((first | refine callA_pure (c11 _) ?_ ?_ | refine callA_pure (c23 _) ?_ ?_ | refine callA_pure (c21t _) ?_ ?_ | refine callA_pure (c27 _) ?_ ?_ | refine callA_pure (c21s _) ?_ ?_ | refine callA_pure (u13 _) ?_ ?_); (next => repeat' first | exact flags_n | refine flags_c (by first | rfl | assumption) ?_); simp (disch := omega) only [k1, k2, z1, z2, z3, z4, go_sem, wrap64_id, Int.tdiv_eq_ediv_of_nonneg, Int.tmod_eq_emod_of_nonneg])
      | ((first | refine callG_pure (fun e => ⟨?_, c11 _⟩) ?_ | refine callG_pure (fun e => ⟨?_, c23 _⟩) ?_ | refine callG_pure (fun e => ⟨?_, c21t _⟩) ?_ | refine callG_pure (fun e => ⟨?_, c27 _⟩) ?_ | refine callG_pure (fun e => ⟨?_, c21s _⟩) ?_ | refine callG_pure (fun e => ⟨?_, u13 _⟩) ?_); (next => repeat' first | exact flags_n | refine flags_c (by first | rfl | assumption) ?_); simp (disch := omega) only [k1, k2, z1, z2, z3, z4, go_sem, wrap64_id, Int.tdiv_eq_ediv_of_nonneg, Int.tmod_eq_emod_of_nonneg])
      | ((first | refine fnQ_pure1 ?_ ?_ | refine fnQ_pure0 ?_ ?_); (next => repeat' first | exact rvs_n | refine rvs_t ?_ | (simp [go_sem]; done)); simp only [go_sem]; (first | exact VLe.refl _ | refine VLe_int ?_ | refine VLe_bool ?_ | refine VLe_str ?_ | skip))
      | (with_reducible refine And.intro ?_ ?_)
      | with_reducible intro _
    all_goals first
      | omega
      | (rename_i hx; revert hx; simp; done)
      | (simp; done)
      | skip
end HY
end

import Derived.Test.YtonpflblcnpegaaDoorK8
import Derived.Shelf.GgClosure.StringsRunes
import Derived.Lib.TrimUEq
import Derived.WalkKit
import Derived.Test.YtonpflblcnpegaaDoorProg
import Derived.Test.YtonpflblcnpegaaDoorK1
set_option linter.all false
set_option linter.unusedSimpArgs false
set_option linter.unusedVariables false
set_option linter.unusedSectionVars false
section
open Go Go.Proofs AF HY
namespace HY
set_option maxRecDepth 100000
def nb : List UInt8 → Prop
  | [] => True
  | b :: r => (dg b = true → b ≠ 48 ∧ ∀ c ∈ r.head?, dg c = false ∧ kind c ≠ 2) ∧ nb r
theorem badD_zero (b : UInt8) (r : List UInt8) : badD (b :: r) 0 = false ↔ (dg b = true → b ≠ 48 ∧ ∀ c ∈ r.head?, dg c = false ∧ kind c ≠ 2) := by
  unfold badD
  have e0 : (b :: r).getD 0 0 = b := rfl
  rw [e0]
  cases r with
  | nil => cases hb : dg b <;> simp
  | cons c r =>
    have e1 : (b :: c :: r).getD (0 + 1) 0 = c := rfl
    rw [e1]
    cases hb : dg b
    · simp
    · simp only [Bool.true_and, Bool.or_eq_false_iff, decide_eq_false_iff_not, List.head?_cons, Option.mem_def, Option.some.injEq, true_implies]
      constructor
      · rintro ⟨h1, h2⟩
        refine ⟨h1, fun d hd => ?_⟩
        subst hd
        simp only [Bool.and_eq_false_imp, decide_eq_true_eq, Bool.or_eq_false_iff, decide_eq_false_iff_not] at h2
        exact h2 (by simp)
      · rintro ⟨h1, h2⟩
        refine ⟨h1, ?_⟩
        obtain ⟨g1, g2⟩ := h2 c rfl
        simp only [Bool.and_eq_false_imp, decide_eq_true_eq, Bool.or_eq_false_iff, decide_eq_false_iff_not]
        exact fun _ => ⟨g1, g2⟩
theorem badD_succ (b : UInt8) (r : List UInt8) (i : Nat) : badD (b :: r) (i + 1) = badD r i := by
  unfold badD
  have e0 : (b :: r).getD (i + 1) 0 = r.getD i 0 := rfl
  have e1 : (b :: r).getD (i + 1 + 1) 0 = r.getD (i + 1) 0 := rfl
  rw [e0, e1]
  have e2 : decide (i + 1 + 1 < (b :: r).length) = decide (i + 1 < r.length) := by simp
  rw [e2]
theorem nb_iff (s : List UInt8) : nb s ↔ ∀ i, i < s.length → badD s i = false := by
  induction s with
  | nil => simp [nb]
  | cons b r ih =>
    unfold nb
    rw [ih]
    constructor
    · rintro ⟨h1, h2⟩ i hi
      cases i with
      | zero => exact (badD_zero b r).2 h1
      | succ i => rw [badD_succ]; exact h2 i (by simpa using hi)
    · intro h
      refine ⟨(badD_zero b r).1 (h 0 (by simp)), fun i hi => ?_⟩
      rw [← badD_succ b r i]
      exact h (i + 1) (by simpa using hi)
theorem letB_cons_t {b : UInt8} {r : List UInt8} (h : dg b = true) : letB (b :: r) = letB r := by unfold letB; rw [List.filter_cons]; simp [h]
theorem letB_cons_f {b : UInt8} {r : List UInt8} (h : dg b = false) : letB (b :: r) = b :: letB r := by unfold letB; rw [List.filter_cons]; simp [h]
theorem marks_eat : ∀ (m : List UInt8) (t rest : List UInt8), nb t → (∀ x ∈ m, kind x = 2) → letB t = m ++ rest → ∃ t', t = m ++ t' ∧ letB t' = rest ∧ nb t' := by
  intro m
  induction m with
  | nil => intro t rest h _ e; exact ⟨t, rfl, by simpa using e, h⟩
  | cons x m ih =>
    intro t rest h hm e
    cases t with
    | nil => simp [letB] at e
    | cons b r =>
      cases hb : dg b with
      | true =>
        exfalso
        rw [letB_cons_t hb] at e
        obtain ⟨h1, _⟩ := h
        cases r with
        | nil => simp [letB] at e
        | cons c r =>
          obtain ⟨g1, g2⟩ := (h1 hb).2 c rfl
          rw [letB_cons_f g1] at e
          simp at e
          exact g2 (by rw [e.1]; exact hm x (by simp))
      | false =>
        rw [letB_cons_f hb, List.cons_append] at e
        injection e with e1 e2
        subst e1
        obtain ⟨t', q1, q2, q3⟩ := ih r rest h.2 (fun y hy => hm y (by simp [hy])) e2
        exact ⟨t', by rw [q1]; rfl, q2, q3⟩
def eatL (t : List UInt8) : Int := if dg (t.getD 0 0) = true then ((t.getD 0 0).toNat : Int) - 48 else 0
def eatT (t u : List UInt8) : List UInt8 := (if dg (t.getD 0 0) = true then t.drop 1 else t).drop u.length
theorem dig_of {b : UInt8} (h : dg b = true) (h0 : b ≠ 48) : 0 < (b.toNat : Int) - 48 ∧ (b.toNat : Int) - 48 ≤ 9 ∧ digB ((b.toNat : Int) - 48) = b := by
  have h1 := (dg_iff b).1 h
  have h2 : b.toNat ≠ 48 := fun e => h0 (UInt8.toNat_inj.1 e)
  refine ⟨by omega, by omega, ?_⟩
  have key : ∀ n : Fin 256, 48 ≤ n.val → n.val ≤ 57 → digB ((n.val : Int) - 48) = UInt8.ofNat n.val := by decide +kernel
  have := key ⟨b.toNat, b.toNat_lt⟩ h1.1 h1.2
  rw [this]
  exact UInt8.toNat_inj.1 (by simp)
theorem unit_eat {t u rest : List UInt8} (h : nb t) (hu : okU u) (e : letB t = u ++ rest) :
    t = (if 0 < eatL t then [digB (eatL t)] else []) ++ (u ++ eatT t u) ∧ letB (eatT t u) = rest ∧ nb (eatT t u) ∧ 0 ≤ eatL t ∧ eatL t ≤ 9 ∧ t ≠ [] := by
  obtain ⟨c, m, rfl, h1, h2⟩ := hu
  cases t with
  | nil => simp [letB] at e
  | cons b r =>
    have e0 : (b :: r).getD 0 0 = b := rfl
    unfold eatL eatT
    rw [e0]
    cases hb : dg b with
    | true =>
      rw [letB_cons_t hb] at e
      obtain ⟨g1, g2⟩ := h
      obtain ⟨k1, k2⟩ := g1 hb
      obtain ⟨d1, d2, d3⟩ := dig_of hb k1
      rw [if_pos rfl, if_pos rfl, if_pos d1, d3]
      cases r with
      | nil => simp [letB] at e
      | cons y r =>
        obtain ⟨y1, y2⟩ := k2 y rfl
        rw [letB_cons_f y1, List.cons_append] at e
        injection e with e1 e2
        subst e1
        obtain ⟨t', q1, q2, q3⟩ := marks_eat m r rest g2.2 h1 e2
        have ed : List.drop (y :: m).length (List.drop 1 (b :: y :: r)) = t' := by rw [q1]; simp
        rw [ed]
        exact ⟨by rw [q1]; simp, q2, q3, by omega, by omega, by simp⟩
    | false =>
      rw [letB_cons_f hb, List.cons_append] at e
      injection e with e1 e2
      subst e1
      obtain ⟨t', q1, q2, q3⟩ := marks_eat m r rest h.2 h1 e2
      simp only [Bool.false_eq_true, if_false]
      have ed : List.drop (b :: m).length (b :: r) = t' := by rw [q1]; simp
      rw [ed]
      refine ⟨by rw [q1]; simp, q2, q3, by omega, by omega, by simp⟩
theorem chn_get {us : List (List UInt8)} (h : Chn us) : ∀ u ∈ us, okU u := by
  induction us with
  | nil => intro u hu; simp at hu
  | cons v r ih =>
    intro u hu
    rcases List.mem_cons.1 hu with rfl | hu
    · exact h.1
    · exact ih h.2.2 u hu
theorem patGo_congr {us : List (List UInt8)} {lv lv' : List Int} : ∀ k, (∀ j, j < k → lv.getD j 0 = lv'.getD j 0) → patGo us lv k = patGo us lv' k := by
  intro k
  induction k with
  | zero => intro _; rfl
  | succ k ih =>
    intro h
    show patGo us lv k ++ tokS us lv k = patGo us lv' k ++ tokS us lv' k
    rw [ih (fun j hj => h j (by omega))]
    unfold tokS
    rw [h k (by omega)]
theorem getD_app1 {l m : List Int} {j : Nat} (h : j < l.length) : (l ++ m).getD j 0 = l.getD j 0 := by
  rw [List.getD_eq_getElem?_getD, List.getElem?_append_left h, List.getD_eq_getElem?_getD]
structure Form (s : List UInt8) (us : List (List UInt8)) (k : Nat) : Prop where
  cut : s = patGo us (lvAll s (us.take k)).2 k ++ s.drop (lvAll s (us.take k)).1
  len : (lvAll s (us.take k)).1 = (patGo us (lvAll s (us.take k)).2 k).length
  rest : letB (s.drop (lvAll s (us.take k)).1) = (us.drop k).flatten
  right : nb (s.drop (lvAll s (us.take k)).1)
  levs : ∀ j, j < k → 0 ≤ (lvAll s (us.take k)).2.getD j 0 ∧ (lvAll s (us.take k)).2.getD j 0 ≤ 9
theorem form_all {s : List UInt8} (h : nb s) (us : List (List UInt8)) (hus : us = clus (letB s)) : ∀ k, k ≤ us.length → Form s us k := by
  intro k
  induction k with
  | zero =>
    intro _
    have e : lvAll s (us.take 0) = (0, []) := rfl
    refine ⟨by rw [e]; simp [patGo], by rw [e]; rfl, ?_, by rw [e]; exact h, fun j hj => by omega⟩
    rw [e, hus]
    simp [clus_join]
  | succ k ih =>
    intro hk
    obtain ⟨f1, f2, f3, f4, f5⟩ := ih (by omega)
    have hl := lvAll_len s (us.take k)
    rw [List.length_take, Nat.min_eq_left (by omega)] at hl
    have hsu := lvAll_succ s us (show k < us.length by omega)
    obtain ⟨st, hst⟩ : ∃ st, st = lvAll s (us.take k) := ⟨_, rfl⟩
    rw [← hst] at f1 f2 f3 f4 f5 hl hsu
    obtain ⟨a, lv⟩ := st
    simp only at f1 f2 f3 f4 f5 hl
    obtain ⟨t, ht⟩ : ∃ t, t = s.drop a := ⟨_, rfl⟩
    rw [← ht] at f1 f3 f4
    obtain ⟨u, hu⟩ : ∃ u, u = us.getD k [] := ⟨_, rfl⟩
    have hum : u ∈ us := by rw [hu, List.getD_eq_getElem?_getD, List.getElem?_eq_getElem (show k < us.length by omega)]; exact List.getElem_mem _
    have hok : okU u := chn_get (by rw [hus]; exact chn_clus _) u hum
    have hdr : us.drop k = u :: us.drop (k + 1) := by
      rw [List.drop_eq_getElem_cons (show k < us.length by omega), hu, List.getD_eq_getElem?_getD, List.getElem?_eq_getElem (show k < us.length by omega)]
      rfl
    rw [hdr, List.flatten_cons] at f3
    obtain ⟨e1, e2, e3, e4, e5, e6⟩ := unit_eat f4 hok f3
    have hta : t.getD 0 0 = s.getD a 0 := by rw [ht, List.getD_eq_getElem?_getD, List.getElem?_drop, List.getD_eq_getElem?_getD, Nat.add_zero]
    have hs2 : lvAll s (us.take (k + 1)) = (a + ((if dg (t.getD 0 0) = true then 1 else 0) + u.length), lv ++ [eatL t]) := by
      rw [hsu]
      unfold lvStep eatL
      simp only
      rw [hta, ← hu]
      split
      · rw [Nat.add_assoc]
      · rw [Nat.zero_add]
    have hdrop : s.drop (a + ((if dg (t.getD 0 0) = true then 1 else 0) + u.length)) = eatT t u := by
      unfold eatT
      rw [← List.drop_drop, ← ht]
      split
      · rw [← List.drop_drop]
      · rw [Nat.zero_add]
    have hpg : patGo us (lv ++ [eatL t]) k = patGo us lv k := patGo_congr k (fun j hj => getD_app1 (by omega))
    have hlast : (lv ++ [eatL t]).getD k 0 = eatL t := by rw [← hl]; exact getD_snoc lv (eatL t)
    have htok : tokS us (lv ++ [eatL t]) k = (if 0 < eatL t then [digB (eatL t)] else []) ++ u := by unfold tokS; rw [hlast, ← hu]
    have hpg1 : patGo us (lv ++ [eatL t]) (k + 1) = patGo us lv k ++ ((if 0 < eatL t then [digB (eatL t)] else []) ++ u) := by
      show patGo us (lv ++ [eatL t]) k ++ tokS us (lv ++ [eatL t]) k = _
      rw [hpg, htok]
    have hcut : s = patGo us (lv ++ [eatL t]) (k + 1) ++ eatT t u := by
      rw [hpg1, List.append_assoc, List.append_assoc, ← e1]
      exact f1
    refine ⟨?_, ?_, ?_, ?_, ?_⟩
    · rw [hs2]
      simp only
      rw [hdrop]
      exact hcut
    · rw [hs2]
      simp only
      have h1 := congrArg List.length hcut
      have h2 := congrArg List.length hdrop
      rw [List.length_append] at h1
      rw [List.length_drop] at h2
      have h3 := congrArg List.length e1
      rw [List.length_append, List.length_append] at h3
      have h4 : t.length = s.length - a := by rw [ht, List.length_drop]
      have h5 := congrArg List.length hpg1
      rw [List.length_append, List.length_append] at h5
      have h6 : ((if 0 < eatL t then [digB (eatL t)] else []) : List UInt8).length = if dg (t.getD 0 0) = true then 1 else 0 := by
        cases hd : dg (t.getD 0 0) with
        | true =>
          have hb : eatL t = ((t.getD 0 0).toNat : Int) - 48 := by unfold eatL; rw [if_pos hd]
          have ht0 : t = t.getD 0 0 :: t.drop 1 := by
            cases t with
            | nil => exact absurd rfl e6
            | cons b r => rfl
          have h48 : t.getD 0 0 ≠ 48 := by
            rw [ht0] at f4
            exact (f4.1 hd).1
          obtain ⟨d1, _, _⟩ := dig_of hd h48
          rw [hb, if_pos d1]
          rfl
        | false =>
          have hb : eatL t = 0 := by unfold eatL; rw [hd]; rfl
          rw [hb]
          rfl
      omega
    · rw [hs2]
      simp only
      rw [hdrop]
      exact e2
    · rw [hs2]
      simp only
      rw [hdrop]
      exact e3
    · intro j hj
      rw [hs2]
      simp only
      by_cases e : j = k
      · rw [e, hlast]; exact ⟨e4, e5⟩
      · rw [getD_app1 (by omega)]
        exact f5 j (by omega)
end HY
end

section
open Go Go.Proofs AF HY
namespace HY
set_option maxRecDepth 100000
theorem form_end {s : List UInt8} (h : nb s) : Form s (clus (letB s)) (clus (letB s)).length := form_all h _ rfl _ (Nat.le_refl _)
theorem letB_nil_dg {t : List UInt8} (h : letB t = []) {b : UInt8} {r : List UInt8} (e : t = b :: r) : dg b = true := by
  subst e
  cases hb : dg b with
  | true => rfl
  | false => rw [letB_cons_f hb] at h; cases h
theorem okPart_nb {s : List UInt8} (h0 : s ≠ []) (h : nb s) : okPart s := by
  refine ⟨h0, (nb_iff s).1 h, fun i hi => ?_, fun hlt => ?_⟩
  · obtain ⟨f1, f2, f3, f4, f5⟩ := form_all h _ rfl i (Nat.le_of_lt hi)
    apply Classical.byContradiction
    intro hn
    rw [List.drop_eq_nil_of_le (by omega)] at f3
    have e : (clus (letB s)).drop i = (clus (letB s))[i] :: (clus (letB s)).drop (i + 1) := List.drop_eq_getElem_cons hi
    rw [e, List.flatten_cons] at f3
    have hne := clus_ne _ (List.getElem_mem hi)
    have := congrArg List.length f3
    rw [List.length_append] at this
    have h2 := List.length_pos_iff.2 hne
    have e0 : (letB []).length = 0 := rfl
    rw [e0] at this
    omega
  · obtain ⟨f1, f2, f3, f4, f5⟩ := form_end h
    rw [List.take_length] at f1 f2 f3 f4 f5
    rw [List.drop_length] at f3
    have e : s.drop (lvAll s (clus (letB s))).1 = s[(lvAll s (clus (letB s))).1] :: s.drop ((lvAll s (clus (letB s))).1 + 1) := List.drop_eq_getElem_cons hlt
    have := letB_nil_dg f3 e
    rwa [List.getD_eq_getElem?_getD, List.getElem?_eq_getElem hlt]
end HY
end

section
open Go Go.Proofs AF HY
namespace HY
set_option maxRecDepth 100000
end HY
end

section
open Go Go.Proofs AF HY
namespace HY
set_option maxRecDepth 100000
end HY
end

section
open Go Go.Proofs AF HY
namespace HY
set_option maxRecDepth 100000
def badP (x : List UInt8) : Bool := x.isEmpty || (List.range x.length).any (badD x)
theorem badP_false {x : List UInt8} : badP x = false ↔ x ≠ [] ∧ nb x := by
  unfold badP
  rw [Bool.or_eq_false_iff, nb_iff]
  constructor
  · rintro ⟨h1, h2⟩
    refine ⟨fun e => (by subst e; simp at h1), fun i hi => ?_⟩
    rw [List.any_eq_false] at h2
    simpa using h2 i (by simpa using hi)
  · rintro ⟨h1, h2⟩
    refine ⟨by simpa using h1, ?_⟩
    rw [List.any_eq_false]
    intro i hi
    simpa using h2 i (by simpa using hi)
theorem least_bad {x : List UInt8} : ∀ n, (∃ i, i < n ∧ badD x i = true) → ∃ i, i < n ∧ badD x i = true ∧ ∀ j, j < i → badD x j = false := by
  intro n
  induction n with
  | zero => rintro ⟨i, h, _⟩; omega
  | succ n ih =>
    rintro ⟨i, h1, h2⟩
    by_cases hc : ∃ i, i < n ∧ badD x i = true
    · obtain ⟨k, k1, k2, k3⟩ := ih hc
      exact ⟨k, by omega, k2, k3⟩
    · have e : i = n := by
        apply Classical.byContradiction
        intro hne
        exact hc ⟨i, by omega, h2⟩
      subst e
      refine ⟨i, by omega, h2, fun j hj => ?_⟩
      cases hb : badD x j with
      | false => rfl
      | true => exact absurd ⟨j, hj, hb⟩ hc
theorem badP_true {x : List UInt8} (h : badP x = true) : x = [] ∨ ∃ i, i < x.length ∧ badD x i = true ∧ ∀ j, j < i → badD x j = false := by
  unfold badP at h
  rw [Bool.or_eq_true] at h
  rcases h with h | h
  · left; simpa using h
  · right
    rw [List.any_eq_true] at h
    obtain ⟨i, hi, hb⟩ := h
    exact least_bad _ ⟨i, by simpa using hi, hb⟩
theorem c46b {x : List UInt8} (hx : badP x = true) (hl : x.length ≤ 1000000000) : ∃ l, ∀ h, ACalls Tryd.prog 46 [.str x] h (.tup [.agg [.str l, .nl], .bool false]) h := by
  rcases badP_true hx with rfl | ⟨i, h1, h2, h3⟩
  · exact ⟨[], fun h => u46n h⟩
  · exact ⟨_, fun h => u46b x h hl i h1 h2 h3⟩
theorem c46g {x : List UInt8} (hx : badP x = false) (hl : x.length ≤ 1000000000) (h : List AObj) : ACalls Tryd.prog 46 [.str x] h (.tup [.agg [.str (letB x), intsV (levB x)], .bool true]) h := by
  obtain ⟨h1, h2⟩ := badP_false.1 hx
  exact u46 x h hl (okPart_nb h1 h2)
def parseE (s : List UInt8) : Int := if 65536 < s.length then 4 else if s = [] then 0 else if (splitL 32 s).any badP = true then 3 else checkPats (parseB s)
def parseR (s : List UInt8) : List Pat := if s ≠ [] ∧ parseE s = 0 then parseB s else []
theorem any_bad {us : List (List UInt8)} {i : Nat} (hi : i < us.length) (h : badP (us.getD i []) = true) : us.any badP = true := by
  rw [List.any_eq_true]
  refine ⟨us[i], List.getElem_mem hi, ?_⟩
  rwa [List.getD_eq_getElem?_getD, List.getElem?_eq_getElem hi] at h
theorem none_bad {us : List (List UInt8)} (h : ∀ i, i < us.length → badP (us.getD i []) = false) : us.any badP = false := by
  rw [List.any_eq_false]
  intro x hx
  obtain ⟨i, hi, rfl⟩ := List.mem_iff_getElem.1 hx
  have := h i hi
  rw [List.getD_eq_getElem?_getD, List.getElem?_eq_getElem hi] at this
  simpa using this
set_option maxHeartbeats 4000000 in
theorem v21 (s : List UInt8) (h : List AObj) : ACalls Tryd.prog 21 [.str s] h (.tup [patsV (parseR s), .int .i64 (parseE s)]) h := by
  unfold parseR parseE
  by_cases hs : 65536 < s.length
  · have k1 : (65536 < (s.length : Int)) = True := eq_true (by omega)
    rw [if_pos hs, if_neg (by omega)]
    refine acalls_of fn21d (by simp) ?_
    simp only [List.length_cons, List.length_nil, Nat.reduceAdd, Nat.reduceSub, List.replicate, List.cons_append, List.nil_append, List.append_nil]
    simp (disch := omega) only [c21d, k1, go_sem, wrap64_id, Int.tdiv_eq_ediv_of_nonneg, Int.tmod_eq_emod_of_nonneg]
    repeat' first
      | ((first | refine fnQ_pure1 ?_ ?_ | refine fnQ_pure0 ?_ ?_); (next => repeat' first | exact rvs_n | refine rvs_t ?_ | (simp [go_sem]; done)); simp only [go_sem]; (first | exact VLe.refl _ | refine VLe_int ?_ | refine VLe_bool ?_ | refine VLe_str ?_ | skip))
      | (with_reducible refine And.intro ?_ ?_)
      | with_reducible intro _
    all_goals first
      | omega
      | (rename_i hx; revert hx; simp; done)
      | (simp; done)
      | skip
    exact VLe_tup ⟨VLe_nl, VLe.refl _, trivial⟩
  have k1 : (65536 < (s.length : Int)) = False := eq_false (by omega)
  rw [if_neg hs]
  by_cases h0 : s = []
  · have k0 : (s = []) = True := eq_true h0
    rw [if_pos h0, if_neg (fun hc => hc.1 h0)]
    refine acalls_of fn21d (by simp) ?_
    simp only [List.length_cons, List.length_nil, Nat.reduceAdd, Nat.reduceSub, List.replicate, List.cons_append, List.nil_append, List.append_nil]
    simp (disch := omega) only [c21d, k0, k1, go_sem, wrap64_id, Int.tdiv_eq_ediv_of_nonneg, Int.tmod_eq_emod_of_nonneg]
    repeat' first
      | ((first | refine fnQ_pure1 ?_ ?_ | refine fnQ_pure0 ?_ ?_); (next => repeat' first | exact rvs_n | refine rvs_t ?_ | (simp [go_sem]; done)); simp only [go_sem]; (first | exact VLe.refl _ | refine VLe_int ?_ | refine VLe_bool ?_ | refine VLe_str ?_ | skip))
      | (with_reducible refine And.intro ?_ ?_)
      | with_reducible intro _
    all_goals first
      | omega
      | (rename_i hx; revert hx; simp; done)
      | (simp; done)
      | skip
    exact VLe_tup ⟨VLe_nl, VLe.refl _, trivial⟩
  have k0 : (s = []) = False := eq_false h0
  rw [if_neg h0]
  have c45 := fun h => u45 s 32 h (by omega)
  have hct : s.count 32 ≤ s.length := List.count_le_length
  have hll := splitL_len 32 s
  have hpl : ∀ i, i < (splitL 32 s).length → ((splitL 32 s).getD i []).length ≤ 65536 := fun i hi => by rw [splitL_get 32 s hi]; have := splitP_len 32 s i; omega
  have hok := parseB_ok s (by omega)
  unfold parseB at hok ⊢
  obtain ⟨us, hus⟩ : ∃ us, us = splitL 32 s := ⟨_, rfl⟩
  rw [← hus] at c45 hll hpl hok ⊢
  refine acalls_of fn21d (by simp) ?_
  simp only [List.length_cons, List.length_nil, Nat.reduceAdd, Nat.reduceSub, List.replicate, List.cons_append, List.nil_append, List.append_nil]
  simp (disch := omega) only [c21d, k0, k1, go_sem, wrap64_id, Int.tdiv_eq_ediv_of_nonneg, Int.tmod_eq_emod_of_nonneg]
  repeat' first
    | ((first | refine callA_pure (c45 _) ?_ ?_); (next => repeat' first | exact flags_n | refine flags_c (by first | rfl | assumption) ?_); simp (disch := omega) only [k0, k1, strs, go_sem, wrap64_id, Int.tdiv_eq_ediv_of_nonneg, Int.tmod_eq_emod_of_nonneg])
    | ((first | refine callG_pure (fun e => ⟨?_, c45 _⟩) ?_); (next => repeat' first | exact flags_n | refine flags_c (by first | rfl | assumption) ?_); simp (disch := omega) only [k0, k1, strs, go_sem, wrap64_id, Int.tdiv_eq_ediv_of_nonneg, Int.tmod_eq_emod_of_nonneg])
    | ((first | refine fnQ_pure1 ?_ ?_ | refine fnQ_pure0 ?_ ?_); (next => repeat' first | exact rvs_n | refine rvs_t ?_ | (simp [go_sem]; done)); simp only [go_sem]; (first | exact VLe.refl _ | refine VLe_int ?_ | refine VLe_bool ?_ | refine VLe_str ?_ | skip))
    | (with_reducible refine And.intro ?_ ?_)
    | with_reducible intro _
  all_goals first
    | omega
    | (rename_i hx; revert hx; simp; done)
    | (simp; done)
    | skip
  refine loop_of (T := fun i : Nat × Nat × AObj × AObj => spar 40 [(4, .osl (h.length + 1) i.2.1 2 0 i.1), (16, strs us), (17, .int .i64 us.length), (18, .int .i64 i.1)])
    (H := fun i => h ++ [.emp 1, ownO i.2.1 32 (patsC ((us.take i.1).map patB)), i.2.2.1, i.2.2.2, .emp 0])
    (inv := fun i => i.1 ≤ us.length ∧ (∀ j, j < i.1 → badP (us.getD j []) = false) ∧ site [i.2.2.1] 0 = true ∧ site [i.2.2.2] 0 = true) (m := fun i => us.length - i.1) (0, 1, .emp 0, .emp 0) ⟨by simp, by simp, rfl, rfl⟩ (Wk.temps ?_) ?_
  · (simp only [strs, spar, List.foldl, List.replicate, go_sem, VLes_nil, VLes_cons, VLe_undef_iff, VLe_self]; try (repeat' first | (with_reducible refine And.intro ?_ ?_) | (refine VLe_int ?_; omega) | (refine VLe_bool ?_; rfl) | exact VLe.refl _))
  rintro ⟨i, v, O1, O2⟩ ⟨i1, ib, i2, i3⟩ K hK
  simp only at i1 ib i2 i3 hK
  have i2' : ∀ m, site (O1 :: m) 0 = true := fun _ => i2
  have i3' : ∀ m, site (O2 :: m) 0 = true := fun _ => i3
  have eP := patsC_len ((us.take i).map patB)
  rw [List.length_map, List.length_take, Nat.min_eq_left i1] at eP
  have eT : List.take (i * 2) (patsC ((us.take i).map patB)) = patsC ((us.take i).map patB) := List.take_of_length_le (by omega)
  by_cases hi : i < us.length
  · obtain ⟨x, hx⟩ : ∃ x, x = us.getD i [] := ⟨_, rfl⟩
    have ex := hx.symm
    have hxl : x.length ≤ 1000000000 := by have := hpl i hi; rw [ex] at this; omega
    cases hb : badP x with
    | false =>
      have c46 := fun h => c46g hb hxl h
      simp (disch := omega) only [spar, List.foldl, List.replicate, strs, i2', i3', ex, eP, eT, madeA1, go_sem, wrap64_id, Int.tdiv_eq_ediv_of_nonneg, Int.tmod_eq_emod_of_nonneg]
      repeat' first
        | ((first | refine callA_pure (c46 _) ?_ ?_); (next => repeat' first | exact flags_n | refine flags_c (by first | rfl | assumption) ?_); simp (disch := omega) only [strs, i2', i3', ex, eP, eT, madeA1, go_sem, wrap64_id, Int.tdiv_eq_ediv_of_nonneg, Int.tmod_eq_emod_of_nonneg])
        | ((first | refine callG_pure (fun e => ⟨?_, c46 _⟩) ?_); (next => repeat' first | exact flags_n | refine flags_c (by first | rfl | assumption) ?_); simp (disch := omega) only [strs, i2', i3', ex, eP, eT, madeA1, go_sem, wrap64_id, Int.tdiv_eq_ediv_of_nonneg, Int.tmod_eq_emod_of_nonneg])
        | ((first | refine fnQ_pure1 ?_ ?_ | refine fnQ_pure0 ?_ ?_); (next => repeat' first | exact rvs_n | refine rvs_t ?_ | (simp [go_sem]; done)); simp only [go_sem]; (first | exact VLe.refl _ | refine VLe_int ?_ | refine VLe_bool ?_ | refine VLe_str ?_ | skip))
        | (with_reducible refine And.intro ?_ ?_)
        | with_reducible intro _
      all_goals first
        | omega
        | (rename_i hx; revert hx; simp; done)
        | (simp; done)
        | skip
      have hn : patsC ((us.take i).map patB) ++ [.str (letB x), intsV (levB x)] = patsC ((us.take (i + 1)).map patB) := by
        have e1 : us[i] = x := by rw [hx, List.getD_eq_getElem?_getD, List.getElem?_eq_getElem hi]; rfl
        rw [List.take_add_one, List.getElem?_eq_getElem hi, List.map_append, patsC_app, e1]
        rfl
      rw [hn]
      refine hK _ _ (i + 1, v + 1, .mem (verOf (some O1) + 1) 32 [.str (letB x), intsV (levB x)], .mem (verOf (some O2) + 1) 32 [.str (letB x), intsV (levB x)]) ⟨by simp only; omega, fun j hj => ?_, rfl, rfl⟩ (by simp only; omega) (Wk.temps ?_)
      · by_cases e : j = i
        · subst e; rw [ex]; exact hb
        · exact ib j (by simp only at hj; omega)
      · (simp only [strs, spar, List.foldl, List.replicate, go_sem, VLes_nil, VLes_cons, VLe_undef_iff, VLe_self]; try (repeat' first | (with_reducible refine And.intro ?_ ?_) | (refine VLe_int ?_; omega) | (refine VLe_bool ?_; rfl) | exact VLe.refl _))
    | true =>
      obtain ⟨l, c46⟩ := c46b hb hxl
      rw [if_pos (any_bad hi (by rw [ex]; exact hb)), if_neg (by omega)]
      simp (disch := omega) only [spar, List.foldl, List.replicate, strs, i2', i3', ex, go_sem, wrap64_id, Int.tdiv_eq_ediv_of_nonneg, Int.tmod_eq_emod_of_nonneg]
      repeat' first
        | ((first | refine callA_pure (c46 _) ?_ ?_); (next => repeat' first | exact flags_n | refine flags_c (by first | rfl | assumption) ?_); simp (disch := omega) only [strs, i2', i3', ex, go_sem, wrap64_id, Int.tdiv_eq_ediv_of_nonneg, Int.tmod_eq_emod_of_nonneg])
        | ((first | refine callG_pure (fun e => ⟨?_, c46 _⟩) ?_); (next => repeat' first | exact flags_n | refine flags_c (by first | rfl | assumption) ?_); simp (disch := omega) only [strs, i2', i3', ex, go_sem, wrap64_id, Int.tdiv_eq_ediv_of_nonneg, Int.tmod_eq_emod_of_nonneg])
        | ((first | refine fnQ_pure1 ?_ ?_ | refine fnQ_pure0 ?_ ?_); (next => repeat' first | exact rvs_n | refine rvs_t ?_ | (simp [go_sem]; done)); simp only [go_sem]; (first | exact VLe.refl _ | refine VLe_int ?_ | refine VLe_bool ?_ | refine VLe_str ?_ | skip))
        | (with_reducible refine And.intro ?_ ?_)
        | with_reducible intro _
      all_goals first
        | omega
        | (rename_i hx; revert hx; simp; done)
        | (simp; done)
        | skip
      exact VLe_tup ⟨VLe_nl, VLe.refl _, trivial⟩
  · have e : i = us.length := by omega
    subst e
    rw [List.take_length]
    simp only [none_bad ib, Bool.false_eq_true, if_false]
    have c64 := t64o (us.map patB) (h.length + 1) v (h ++ [.emp 1, ownO v 32 (patsC (us.map patB)), O1, O2, .emp 0]) (by simp only [go_sem]) hok
    rw [List.length_map] at c64
    by_cases hc : checkPats (us.map patB) = 0
    · rw [hc] at c64 ⊢
      rw [if_pos ⟨h0, rfl⟩]
      simp (disch := omega) only [spar, List.foldl, List.replicate, strs, i2', i3', go_sem, wrap64_id, Int.tdiv_eq_ediv_of_nonneg, Int.tmod_eq_emod_of_nonneg]
      repeat' first
        | ((first | refine callA_pure (c64) ?_ ?_); (next => repeat' first | exact flags_n | refine flags_c (by first | rfl | assumption) ?_); simp (disch := omega) only [strs, i2', i3', go_sem, wrap64_id, Int.tdiv_eq_ediv_of_nonneg, Int.tmod_eq_emod_of_nonneg])
        | ((first | refine callG_pure (fun e => ⟨?_, c64⟩) ?_); (next => repeat' first | exact flags_n | refine flags_c (by first | rfl | assumption) ?_); simp (disch := omega) only [strs, i2', i3', go_sem, wrap64_id, Int.tdiv_eq_ediv_of_nonneg, Int.tmod_eq_emod_of_nonneg])
        | ((first | refine fnQ_pure1 ?_ ?_ | refine fnQ_pure0 ?_ ?_); (next => repeat' first | exact rvs_n | refine rvs_t ?_ | (simp [go_sem]; done)); simp only [go_sem]; (first | exact VLe.refl _ | refine VLe_int ?_ | refine VLe_bool ?_ | refine VLe_str ?_ | skip))
        | (with_reducible refine And.intro ?_ ?_)
        | with_reducible intro _
      all_goals first
        | omega
        | (rename_i hx; revert hx; simp; done)
        | (simp; done)
        | skip
      have hsl := fun h => slOf_pats (v := v) (n := 5) (L := us.map patB) (fz := fun k => decide (h.length ≤ k)) (h := h ++ [AObj.emp 1, ownO v 32 (patsC (us.map patB)), O1, O2, AObj.emp 0])
      rw [List.length_map] at hsl
      exact VLe_tup ⟨hsl h, VLe.refl _, trivial⟩
    · have k2 : (checkPats (us.map patB) = 0) = False := eq_false hc
      rw [if_neg (fun hx => hc hx.2)]
      simp (disch := omega) only [spar, List.foldl, List.replicate, strs, i2', i3', go_sem, wrap64_id, Int.tdiv_eq_ediv_of_nonneg, Int.tmod_eq_emod_of_nonneg]
      repeat' first
        | ((first | refine callA_pure (c64) ?_ ?_); (next => repeat' first | exact flags_n | refine flags_c (by first | rfl | assumption) ?_); simp (disch := omega) only [strs, i2', i3', k2, go_sem, wrap64_id, Int.tdiv_eq_ediv_of_nonneg, Int.tmod_eq_emod_of_nonneg])
        | ((first | refine callG_pure (fun e => ⟨?_, c64⟩) ?_); (next => repeat' first | exact flags_n | refine flags_c (by first | rfl | assumption) ?_); simp (disch := omega) only [strs, i2', i3', k2, go_sem, wrap64_id, Int.tdiv_eq_ediv_of_nonneg, Int.tmod_eq_emod_of_nonneg])
        | ((first | refine fnQ_pure1 ?_ ?_ | refine fnQ_pure0 ?_ ?_); (next => repeat' first | exact rvs_n | refine rvs_t ?_ | (simp [go_sem]; done)); simp only [go_sem]; (first | exact VLe.refl _ | refine VLe_int ?_ | refine VLe_bool ?_ | refine VLe_str ?_ | skip))
        | (with_reducible refine And.intro ?_ ?_)
        | with_reducible intro _
      all_goals first
        | omega
        | (rename_i hx; revert hx; simp; done)
        | (simp; done)
        | skip
      exact VLe_tup ⟨VLe_nl, VLe.refl _, trivial⟩
end HY
end

section
open Go Go.Proofs AF HY
namespace HY
set_option maxRecDepth 100000
end HY
end

section
open Go Go.Proofs AF HY
namespace HY
set_option maxRecDepth 100000
end HY
end

section
open Go Go.Proofs AF HY
namespace HY
set_option maxRecDepth 100000
end HY
end

section
open Go Go.Proofs AF HY
namespace HY
set_option maxRecDepth 100000
structure Valid (p : Pat) : Prop where
  chars : ∀ c ∈ p.letters, dg c = false ∧ c ≠ 32
  heads : ∀ u ∈ clus p.letters, kind (ch u 0) ≠ 2
  ne : p.letters ≠ []
  len : p.levels.length = (clus p.letters).length + 1
  lev : ∀ k, k < p.levels.length → 0 ≤ p.levels.getD k 0 ∧ p.levels.getD k 0 ≤ 9
end HY
end

section
open Go Go.Proofs AF HY
namespace HY
set_option maxRecDepth 100000
end HY
end

section
open Go Go.Proofs AF HY
namespace HY
set_option maxRecDepth 100000
def idxI (L : List Int) (v : Int) : Int := if v ∈ L then (L.idxOf v : Int) else -1
theorem v63 (L : List Int) (v : Int) (h : List AObj) (hl : L.length ≤ 1000000000) : ACalls Tryd.prog 63 [intsV L, .int .i64 v] h (.int .i64 (idxI L v)) h := by
  refine acalls_of fn63d (by simp) ?_
  simp only [List.length_cons, List.length_nil, Nat.reduceAdd, Nat.reduceSub, List.replicate, List.cons_append, List.nil_append, List.append_nil]
  simp (disch := omega) only [c63d, intsV, go_sem, wrap64_id, Int.tdiv_eq_ediv_of_nonneg, Int.tmod_eq_emod_of_nonneg]
  repeat' first
    | ((first | refine fnQ_pure1 ?_ ?_ | refine fnQ_pure0 ?_ ?_); (next => repeat' first | exact rvs_n | refine rvs_t ?_ | (simp [go_sem]; done)); simp only [go_sem]; (first | exact VLe.refl _ | refine VLe_int ?_ | refine VLe_bool ?_ | refine VLe_str ?_ | skip))
    | (with_reducible refine And.intro ?_ ?_)
    | with_reducible intro _
  all_goals first
    | omega
    | (rename_i hx; revert hx; simp; done)
    | (simp; done)
    | skip
  refine loop_of (T := fun i : Nat => spar 19 [(0, intsV L), (1, .int .i64 v), (7, .int .i64 L.length), (8, .int .i64 i)]) (H := fun _ => h) (inv := fun i => i ≤ L.length ∧ ∀ j, j < i → L.getD j 0 ≠ v) (m := fun i => L.length - i) 0 ⟨by omega, by omega⟩ (Wk.temps ?_) ?_
  · (simp only [intsV, spar, List.foldl, List.replicate, go_sem, VLes_nil, VLes_cons, VLe_undef_iff, VLe_self]; try (repeat' first | (with_reducible refine And.intro ?_ ?_) | (refine VLe_int ?_; omega) | (refine VLe_bool ?_; rfl) | exact VLe.refl _))
  rintro i ⟨i1, i2⟩ K hK
  by_cases hi : i < L.length
  · have hgi : L.getD i 0 = L[i] := by rw [List.getD_eq_getElem?_getD, List.getElem?_eq_getElem hi]; rfl
    by_cases hv : L.getD i 0 = v
    · have k1 : (v = L.getD i 0) = True := eq_true hv.symm
      have hm : v ∈ L := by rw [← hv, hgi]; exact List.getElem_mem hi
      have hx : L.idxOf v = i := by
        have h1 : L.idxOf v ≤ i := by
          have := List.idxOf_lt_length_of_mem hm
          apply Classical.byContradiction
          intro hc
          have h3 : L[i] ≠ v := List.not_of_lt_findIdx (p := (· == v)) (xs := L) (i := i) (by unfold List.idxOf at hc; omega) |> fun h => by simpa using h
          exact h3 (by rw [← hgi]; exact hv)
        have h2 : ¬ L.idxOf v < i := by
          intro hc
          have hlt := List.idxOf_lt_length_of_mem hm
          have h4 := i2 _ hc
          apply h4
          rw [List.getD_eq_getElem?_getD, List.getElem?_eq_getElem hlt]
          simp
        omega
      have e : idxI L v = i := by unfold idxI; rw [if_pos hm, hx]
      rw [e]
      simp (disch := omega) only [spar, List.foldl, List.replicate, intsV, k1, go_sem, wrap64_id, Int.tdiv_eq_ediv_of_nonneg, Int.tmod_eq_emod_of_nonneg]
      repeat' first
        | ((first | refine fnQ_pure1 ?_ ?_ | refine fnQ_pure0 ?_ ?_); (next => repeat' first | exact rvs_n | refine rvs_t ?_ | (simp [go_sem]; done)); simp only [go_sem]; (first | exact VLe.refl _ | refine VLe_int ?_ | refine VLe_bool ?_ | refine VLe_str ?_ | skip))
        | (with_reducible refine And.intro ?_ ?_)
        | with_reducible intro _
      all_goals first
        | omega
        | (rename_i hx; revert hx; simp; done)
        | (simp; done)
        | skip
    · have k1 : (v = L.getD i 0) = False := eq_false (fun e => hv e.symm)
      simp (disch := omega) only [spar, List.foldl, List.replicate, intsV, k1, go_sem, wrap64_id, Int.tdiv_eq_ediv_of_nonneg, Int.tmod_eq_emod_of_nonneg]
      repeat' first
        | ((first | refine fnQ_pure1 ?_ ?_ | refine fnQ_pure0 ?_ ?_); (next => repeat' first | exact rvs_n | refine rvs_t ?_ | (simp [go_sem]; done)); simp only [go_sem]; (first | exact VLe.refl _ | refine VLe_int ?_ | refine VLe_bool ?_ | refine VLe_str ?_ | skip))
        | (with_reducible refine And.intro ?_ ?_)
        | with_reducible intro _
      all_goals first
        | omega
        | (rename_i hx; revert hx; simp; done)
        | (simp; done)
        | skip
      refine hK _ _ (i + 1) ⟨by omega, fun j hj => ?_⟩ (by omega) (Wk.temps ?_)
      · by_cases e : j = i
        · subst e; exact hv
        · exact i2 j (by omega)
      · (simp only [intsV, spar, List.foldl, List.replicate, go_sem, VLes_nil, VLes_cons, VLe_undef_iff, VLe_self]; try (repeat' first | (with_reducible refine And.intro ?_ ?_) | (refine VLe_int ?_; omega) | (refine VLe_bool ?_; rfl) | exact VLe.refl _))
  · have e : i = L.length := by omega
    subst e
    have hm : ¬ v ∈ L := by
      intro hm
      obtain ⟨j, hj, e⟩ := List.mem_iff_getElem.1 hm
      apply i2 j hj
      rw [List.getD_eq_getElem?_getD, List.getElem?_eq_getElem hj]
      exact e
    have e : idxI L v = -1 := by unfold idxI; rw [if_neg hm]
    rw [e]
    simp (disch := omega) only [spar, List.foldl, List.replicate, intsV, go_sem, wrap64_id, Int.tdiv_eq_ediv_of_nonneg, Int.tmod_eq_emod_of_nonneg]
    repeat' first
      | ((first | refine fnQ_pure1 ?_ ?_ | refine fnQ_pure0 ?_ ?_); (next => repeat' first | exact rvs_n | refine rvs_t ?_ | (simp [go_sem]; done)); simp only [go_sem]; (first | exact VLe.refl _ | refine VLe_int ?_ | refine VLe_bool ?_ | refine VLe_str ?_ | skip))
      | (with_reducible refine And.intro ?_ ?_)
      | with_reducible intro _
    all_goals first
      | omega
      | (rename_i hx; revert hx; simp; done)
      | (simp; done)
      | skip
theorem idxI_mem (L : List Int) (v : Int) : (0 ≤ idxI L v) ↔ v ∈ L := by
  unfold idxI
  split
  · rename_i h; exact ⟨fun _ => h, fun _ => by omega⟩
  · rename_i h; exact ⟨fun e => absurd e (by omega), fun e => absurd e h⟩
theorem v36 (L : List Int) (v : Int) (h : List AObj) (hl : L.length ≤ 1000000000) : ACalls Tryd.prog 36 [intsV L, .int .i64 v] h (.bool (decide (v ∈ L))) h := by
  have c63 := fun h => v63 L v h hl
  have e : decide (v ∈ L) = decide (0 ≤ idxI L v) := decide_eq_decide.2 (idxI_mem L v).symm
  rw [e]
  refine acalls_of fn36d (by simp) ?_
  simp only [List.length_cons, List.length_nil, Nat.reduceAdd, Nat.reduceSub, List.replicate, List.cons_append, List.nil_append, List.append_nil]
  simp (disch := omega) only [c36d, go_sem, wrap64_id, Int.tdiv_eq_ediv_of_nonneg, Int.tmod_eq_emod_of_nonneg]
  repeat' first
    | ((first | refine callA_pure (c63 _) ?_ ?_); (next => repeat' first | exact flags_n | refine flags_c (by first | rfl | assumption) ?_); simp (disch := omega) only [go_sem, wrap64_id, Int.tdiv_eq_ediv_of_nonneg, Int.tmod_eq_emod_of_nonneg])
    | ((first | refine callU_of (fun _ => c63 _) ?_ ?_); (next => repeat' first | exact flags_n | refine flags_c (by first | rfl | assumption) ?_); simp (disch := omega) only [go_sem, wrap64_id, Int.tdiv_eq_ediv_of_nonneg, Int.tmod_eq_emod_of_nonneg])
    | ((first | refine callG_pure (fun e => ⟨?_, c63 _⟩) ?_); (next => repeat' first | exact flags_n | refine flags_c (by first | rfl | assumption) ?_); simp (disch := omega) only [go_sem, wrap64_id, Int.tdiv_eq_ediv_of_nonneg, Int.tmod_eq_emod_of_nonneg])
    | ((first | refine fnQ_pure1 ?_ ?_ | refine fnQ_pure0 ?_ ?_); (next => repeat' first | exact rvs_n | refine rvs_t ?_ | (simp [go_sem]; done)); simp only [go_sem]; (first | exact VLe.refl _ | refine VLe_int ?_ | refine VLe_bool ?_ | refine VLe_str ?_ | skip))
    | (with_reducible refine And.intro ?_ ?_)
    | with_reducible intro _
  all_goals first
    | omega
    | (rename_i hx; revert hx; simp; done)
    | (simp; done)
    | skip
end HY
end

section
open Go Go.Proofs AF HY
namespace HY
set_option maxRecDepth 100000
theorem hit_pos {n : Nat} {lv : List Int} {m : Nat} (h : hitP n lv m = true) : (lv.getD m 0).tmod 2 = 1 ∧ 1 ≤ m ∧ m + 3 ≤ n := by
  unfold hitP at h
  simpa only [Bool.and_eq_true, decide_eq_true_eq] using h
theorem offN_lt {us : List (List UInt8)} (hne : ∀ u ∈ us, u ≠ []) {i : Nat} : ∀ {j : Nat}, i < j → j ≤ us.length → offN us i < offN us j := by
  intro j
  induction j with
  | zero => intro h _; omega
  | succ j ih =>
    intro h1 h2
    have hs := offN_succ (own := us) (i := j) (by omega)
    have hm : us.getD j [] ∈ us := by rw [List.getD_eq_getElem?_getD, List.getElem?_eq_getElem (show j < us.length by omega)]; exact List.getElem_mem _
    have hp := List.length_pos_iff.2 (hne _ hm)
    by_cases e : i = j
    · subst e; omega
    · have := ih (by omega) (by omega)
      omega
theorem offN_inj {us : List (List UInt8)} (hne : ∀ u ∈ us, u ≠ []) {i j : Nat} (hi : i ≤ us.length) (hj : j ≤ us.length) (h : offN us i = offN us j) : i = j := by
  apply Classical.byContradiction
  intro hn
  rcases Nat.lt_or_gt_of_ne hn with h1 | h1
  · have := offN_lt hne h1 hj; omega
  · have := offN_lt hne h1 hi; omega
theorem at_iff {us : List (List UInt8)} (hne : ∀ u ∈ us, u ≠ []) {lv : List Int} {m i : Nat} (hi : i ≤ us.length) : ((offN us i : Int) ∈ ptAt us lv m) ↔ (hitP us.length lv (i - 1) = true ∧ i - 1 < m) := by
  unfold ptAt ptIdx
  rw [List.mem_map]
  constructor
  · rintro ⟨k, hk, e⟩
    rw [List.mem_filter, List.mem_range] at hk
    obtain ⟨_, h2, h3⟩ := hit_pos hk.2
    have : k + 1 = i := offN_inj hne (by omega) hi (by omega)
    subst this
    exact ⟨hk.2, hk.1⟩
  · rintro ⟨h1, h2⟩
    obtain ⟨_, h3, h4⟩ := hit_pos h1
    refine ⟨i - 1, ?_, by rw [show i - 1 + 1 = i by omega]⟩
    rw [List.mem_filter, List.mem_range]
    exact ⟨h2, h1⟩
theorem idx_map {α : Type} [DecidableEq α] {f : α → Int} {g : α → Int} {a : α} : ∀ {A : List α}, a ∈ A → (∀ b ∈ A, f b = f a → b = a) → (A.map g).getD ((A.map f).idxOf (f a)) 0 = g a ∧ (A.map f).idxOf (f a) < A.length := by
  intro A
  induction A with
  | nil => intro h; cases h
  | cons b A ih =>
    intro h hf
    by_cases e : b = a
    · subst e
      simp
    · have hne : ¬ f b = f a := fun hc => e (hf b (by simp) hc)
      have hm : a ∈ A := by
        rcases List.mem_cons.1 h with h | h
        · exact absurd h.symm e
        · exact h
      obtain ⟨h1, h2⟩ := ih hm (fun c hc => hf c (by simp [hc]))
      rw [List.map_cons, List.map_cons, List.idxOf_cons]
      have hb : (f b == f a) = false := by simpa using hne
      rw [hb]
      exact ⟨by simpa using h1, by simpa using h2⟩
theorem high_at {us : List (List UInt8)} (hne : ∀ u ∈ us, u ≠ []) {lv : List Int} {m i : Nat} (hi : i ≤ us.length) (h1 : hitP us.length lv (i - 1) = true) (h2 : i - 1 < m) :
    (ptHi us.length lv m).getD ((ptAt us lv m).idxOf (offN us i : Int)) 0 = lv.getD (i - 1) 0 ∧ (ptAt us lv m).idxOf (offN us i : Int) < (ptHi us.length lv m).length := by
  obtain ⟨_, h3, h4⟩ := hit_pos h1
  have hm : i - 1 ∈ ptIdx us.length lv m := by unfold ptIdx; rw [List.mem_filter, List.mem_range]; exact ⟨h2, h1⟩
  have := idx_map (f := fun k => (offN us (k + 1) : Int)) (g := fun k => lv.getD k 0) hm (fun b hb e => by
    unfold ptIdx at hb
    rw [List.mem_filter] at hb
    obtain ⟨_, g2, g3⟩ := hit_pos hb.2
    have e : (offN us (b + 1) : Int) = (offN us (i - 1 + 1) : Int) := e
    have := offN_inj hne (i := b + 1) (j := i - 1 + 1) (by omega) (by omega) (by omega)
    omega)
  rw [show i - 1 + 1 = i by omega] at this
  rw [ptHi_len]
  exact this
def newS (n : Nat) (lv : List Int) (i : Nat) : List Int := (List.range (n + 3)).map fun j => if hitP n lv (j - 2) = true ∧ j < i + 1 then lv.getD (j - 2) 0 + 1 else 0
def newL (n : Nat) (lv : List Int) : List Int := newS n lv n
theorem newS_len (n : Nat) (lv : List Int) (i : Nat) : (newS n lv i).length = n + 3 := by simp [newS]
theorem newS_get {n : Nat} {lv : List Int} {i j : Nat} (hj : j < n + 3) : (newS n lv i).getD j 0 = if hitP n lv (j - 2) = true ∧ j < i + 1 then lv.getD (j - 2) 0 + 1 else 0 := by
  unfold newS
  rw [List.getD_eq_getElem?_getD, List.getElem?_map, List.getElem?_range hj]
  rfl
theorem hit_zero (n : Nat) (lv : List Int) : hitP n lv 0 = false := by simp [hitP]
theorem newS_zero (n : Nat) (lv : List Int) : newS n lv 0 = List.replicate (n + 3) 0 := by
  apply List.ext_getElem
  · simp [newS]
  · intro j h1 h2
    simp only [newS, List.getElem_map, List.getElem_range, List.getElem_replicate]
    rw [if_neg]
    rintro ⟨g1, g2⟩
    have : j = 0 := by omega
    subst this
    rw [hit_zero] at g1
    cases g1
theorem int_ext {a b : List Int} (hl : a.length = b.length) (h : ∀ k, k < a.length → a.getD k 0 = b.getD k 0) : a = b := list_ext hl h
theorem newS_t {n : Nat} {lv : List Int} {i : Nat} (h : hitP n lv (i - 1) = true) : newS n lv (i + 1) = (newS n lv i).set (i + 1) (lv.getD (i - 1) 0 + 1) := by
  obtain ⟨_, h3, h4⟩ := hit_pos h
  refine int_ext (by rw [List.length_set, newS_len, newS_len]) (fun k hk => ?_)
  rw [newS_len] at hk
  rw [newS_get hk, List.getD_eq_getElem?_getD (l := (newS n lv i).set (i + 1) (lv.getD (i - 1) 0 + 1)), List.getElem?_set]
  by_cases e : i + 1 = k
  · subst e
    rw [if_pos (show hitP n lv (i + 1 - 2) = true ∧ i + 1 < i + 1 + 1 from ⟨by rw [show i + 1 - 2 = i - 1 by omega]; exact h, by omega⟩), if_pos rfl, if_pos (by rw [newS_len]; omega), show i + 1 - 2 = i - 1 by omega]
    rfl
  · rw [if_neg e, ← List.getD_eq_getElem?_getD, newS_get hk]
    by_cases g : hitP n lv (k - 2) = true ∧ k < i + 1
    · rw [if_pos g, if_pos ⟨g.1, by omega⟩]
    · rw [if_neg g, if_neg (fun hc => g ⟨hc.1, by omega⟩)]
theorem newS_f {n : Nat} {lv : List Int} {i : Nat} (h : hitP n lv (i - 1) = false) : newS n lv (i + 1) = newS n lv i := by
  refine int_ext (by rw [newS_len, newS_len]) (fun k hk => ?_)
  rw [newS_len] at hk
  rw [newS_get hk, newS_get hk]
  by_cases e : k = i + 1
  · have hk2 : hitP n lv (k - 2) = false := by rw [e, show i + 1 - 2 = i - 1 by omega]; exact h
    rw [hk2, if_neg (by simp), if_neg (by simp)]
  · by_cases g : hitP n lv (k - 2) = true ∧ k < i + 1
    · rw [if_pos g, if_pos ⟨g.1, by omega⟩]
    · rw [if_neg g, if_neg (fun hc => g ⟨hc.1, by omega⟩)]
def highR (p : List Pat) (w : List UInt8) : List Int := ptHi (clus w).length (levelsOf p w) ((clus w).length - 1)
def newP (p : List Pat) (w : List UInt8) : Pat := ⟨46 :: fold w ++ [46], newL (clus w).length (levelsOf p w)⟩
def withoutE (p : List Pat) (w : List UInt8) : Int :=
  if startE p w ≠ 0 then startE p w else if pointsR p w = [] then 0 else if w.any dg = true then 11 else if 62 < w.length ∨ 9 ∈ highR p w ∨ p.length = 4096 then 4 else 0
def withoutR (p : List Pat) (w : List UInt8) : List Pat := if withoutE p w ≠ 0 then [] else if pointsR p w = [] then p else p ++ [newP p w]
theorem lev_range {p : List Pat} {w : List UInt8} (hc : checkPats p = 0) (k : Nat) : 0 ≤ (levelsOf p w).getD k 0 ∧ (levelsOf p w).getD k 0 ≤ 9 := by
  by_cases hk : k < (clus w).length - 1
  · have hl : okLevs p := fun x hx => okLev_check (check_all hc x hx)
    exact (lev_max p [] w hl (fun x hx => by cases hx) hk).2
  · rw [List.getD_eq_getElem?_getD, List.getElem?_eq_none (by rw [levelsOf_len]; omega)]
    simp
theorem newL_get {n : Nat} {lv : List Int} {j : Nat} (hj : j < n + 3) : (newL n lv).getD j 0 = if hitP n lv (j - 2) = true then lv.getD (j - 2) 0 + 1 else 0 := by
  unfold newL
  rw [newS_get hj]
  by_cases h : hitP n lv (j - 2) = true
  · obtain ⟨_, h3, h4⟩ := hit_pos h
    rw [if_pos ⟨h, by omega⟩, if_pos h]
  · rw [if_neg (fun hc => h hc.1), if_neg h]
theorem big_iff {p : List Pat} {w : List UInt8} (hc : checkPats p = 0) : (∃ j, j < (clus w).length + 3 ∧ 9 < (newL (clus w).length (levelsOf p w)).getD j 0) ↔ 9 ∈ highR p w := by
  unfold highR ptHi ptIdx
  rw [List.mem_map]
  constructor
  · rintro ⟨j, hj, h⟩
    rw [newL_get hj] at h
    split at h
    · rename_i hh
      obtain ⟨_, h3, h4⟩ := hit_pos hh
      refine ⟨j - 2, ?_, ?_⟩
      · rw [List.mem_filter, List.mem_range]
        exact ⟨by omega, hh⟩
      · have := lev_range (w := w) hc (j - 2)
        omega
    · omega
  · rintro ⟨k, hk, e⟩
    rw [List.mem_filter] at hk
    obtain ⟨_, h3, h4⟩ := hit_pos hk.2
    refine ⟨k + 2, by omega, ?_⟩
    rw [newL_get (by omega), Nat.add_sub_cancel, if_pos hk.2, e]
    omega
end HY
end

section
set_option linter.all false
namespace Go.Proofs
open Go.Shelf
def Tryd.laysGw17_ren : Go.Shelf.Ren := ⟨fun | 17 => 60 | 15 => 93 | 20 => 108 | n => n, fun | 9 => 9 | 23 => 80 | 4 => 4 | 3 => 3 | 0 => 0 | 21 => 21 | n => n, fun | n => n⟩
theorem Tryd.laysGw17 : Go.Proofs.LaysGw.n17 Tryd.prog Tryd.laysGw17_ren := {
  mixed := by kernel_rfl
  f15 := Tryd.func93.trans (congrArg some (by kernel_rfl))
  f17 := Tryd.func60.trans (congrArg some (by kernel_rfl))
  f20 := Tryd.func108.trans (congrArg some (by kernel_rfl))
  t0 := Tryd.underlying0
  a0 := Tryd.isAgg0
  z0 := Tryd.sizeOf0
  v0 := Tryd.zeroValue0
  i0 := by kernel_rfl
  t3 := Tryd.underlying3
  a3 := Tryd.isAgg3
  z3 := Tryd.sizeOf3
  v3 := Tryd.zeroValue3
  i3 := by kernel_rfl
  t4 := Tryd.underlying4
  a4 := Tryd.isAgg4
  z4 := Tryd.sizeOf4
  v4 := Tryd.zeroValue4
  i4 := by kernel_rfl
  t9 := Tryd.underlying9
  a9 := Tryd.isAgg9
  z9 := Tryd.sizeOf9
  v9 := Tryd.zeroValue9
  i9 := by kernel_rfl
  t21 := Tryd.underlying21
  a21 := Tryd.isAgg21
  z21 := Tryd.sizeOf21
  v21 := Tryd.zeroValue21
  i21 := by kernel_rfl
  t23 := Tryd.underlying80
  a23 := Tryd.isAgg80
  z23 := Tryd.sizeOf80
  v23 := Tryd.zeroValue80
  i23 := by kernel_rfl }
open Go.RowKit Go.Lib in
theorem Tryd.strings_ContainsFunc_runes (g : Nat) (lb : Array Value) (eg : ∀ args w, (callFunc g args).run Tryd.prog w = .ok (.enter g args) w) (p : Nat → Bool) (s : ByteArray) (w : World) (hp : PredAtRunes Tryd.prog g lb p w) :
    Calls Tryd.prog 60 #[.string s, .func (.func g) #[] lb] w fun e w' => e = .returned (.bool (decide (0 ≤ Lib.idxFunc p true s))) ∧ Below w.heap.size w w' := Any.strings_ContainsFunc_runes Tryd.laysGw17 g lb eg p s w hp
open Go.RowKit Go.Lib in
set_option maxRecDepth 100000 in
theorem dig_calls (x : Nat) (W : World) : Calls Tryd.prog 61 #[.int .i32 (x : Int)] W fun e w' => e = .returned (.bool (decide (48 ≤ x ∧ x ≤ 57))) ∧ ∃ q, w' = W.drewN q := by
  go_enter Tryd.func61, Tryd.ntmps61
  go_wp2
  all_goals go_ret
  · rename_i h48
    refine ⟨?_, 0, rfl⟩
    have e : decide ((x : Int) ≤ 57) = decide (48 ≤ x ∧ x ≤ 57) := decide_eq_decide.2 ⟨fun h => ⟨by omega, by omega⟩, fun h => by omega⟩
    show Ending.returned (Value.bool (decide ((x : Int) ≤ 57))) = _
    rw [e]
  · rename_i h48
    refine ⟨?_, 0, rfl⟩
    have e : decide (48 ≤ x) = false := decide_eq_false (by omega)
    show Ending.returned (Value.bool false) = _
    first | (rw [e]; rfl) | (rw [decide_eq_false (by omega)])
theorem idx_ascii (s : List UInt8) (hs : ∀ c ∈ s, c.toNat < 128) (p : Nat → Bool) : ∀ (f pos : Nat), s.length ≤ pos + f → ((0 ≤ Go.Lib.idxFuncFrom p true ⟨s.toArray⟩ f pos) ↔ (∃ c ∈ s.drop pos, p c.toNat = true)) := by
  intro f
  induction f with
  | zero =>
    intro pos h
    rw [List.drop_eq_nil_of_le (by omega)]
    simp [Go.Lib.idxFuncFrom]
  | succ f ih =>
    intro pos h
    unfold Go.Lib.idxFuncFrom
    have hsz : (ByteArray.mk s.toArray).size = s.length := by simp [ByteArray.size]
    have hdl : (ByteArray.mk s.toArray).data.toList = s := by simp
    rw [hsz]
    by_cases hp : pos < s.length
    · rw [if_pos hp, Go.Lib.decode_N, hdl]
      have hg : s.getD pos 0 = s[pos] := by rw [List.getD_eq_getElem?_getD, List.getElem?_eq_getElem hp]; rfl
      rw [Go.Lib.decodeN_ascii _ _ _ _ _ (by rw [hg]; exact hs _ (List.getElem_mem hp)), hg, List.drop_eq_getElem_cons hp]
      simp only
      by_cases hc : p s[pos].toNat = true
      · rw [if_pos hc]
        constructor
        · intro _; exact ⟨s[pos], List.mem_cons_self, hc⟩
        · intro _; omega
      · rw [if_neg hc, ih (pos + 1) (by omega)]
        constructor
        · rintro ⟨c, h1, h2⟩; exact ⟨c, List.mem_cons_of_mem _ h1, h2⟩
        · rintro ⟨c, h1, h2⟩
          rcases List.mem_cons.1 h1 with rfl | h1
          · exact absurd h2 hc
          · exact ⟨c, h1, h2⟩
    · rw [if_neg hp, List.drop_eq_nil_of_le (by omega)]
      simp
theorem contains_calls (s : List UInt8) (hs : ∀ c ∈ s, c.toNat < 128) (w : World) :
    Calls Tryd.prog 60 #[.string ⟨s.toArray⟩, .func (.func 61) #[] #[]] w fun e w' => e = .returned (.bool (s.any fun c => decide (48 ≤ c.toNat ∧ c.toNat ≤ 57))) ∧ Go.RowKit.Below w.heap.size w w' := by
  have eg : ∀ args w, (callFunc 61 args).run Tryd.prog w = .ok (.enter 61 args) w := Go.Proofs.enters_of Tryd.func61 (by kernel_rfl) rfl
  refine (Tryd.strings_ContainsFunc_runes 61 #[] eg (fun x => decide (48 ≤ x ∧ x ≤ 57)) ⟨s.toArray⟩ w (fun W x _ _ => dig_calls x W)).mono ?_
  rintro e w' ⟨rfl, hb⟩
  refine ⟨?_, hb⟩
  have key := idx_ascii s hs (fun x => decide (48 ≤ x ∧ x ≤ 57)) s.length 0 (by omega)
  have e1 : Go.Lib.idxFunc (fun x => decide (48 ≤ x ∧ x ≤ 57)) true ⟨s.toArray⟩ = Go.Lib.idxFuncFrom (fun x => decide (48 ≤ x ∧ x ≤ 57)) true ⟨s.toArray⟩ s.length 0 := by
    unfold Go.Lib.idxFunc
    have hsz : (ByteArray.mk s.toArray).size = s.length := by simp [ByteArray.size]
    rw [hsz]
  rw [e1]
  have : decide (0 ≤ Go.Lib.idxFuncFrom (fun x => decide (48 ≤ x ∧ x ≤ 57)) true ⟨s.toArray⟩ s.length 0) = s.any fun c => decide (48 ≤ c.toNat ∧ c.toNat ≤ 57) := by
    rw [Bool.eq_iff_iff, decide_eq_true_eq, key, List.any_eq_true]
    rfl
  rw [this]
end Go.Proofs
end

section
open Go Go.Proofs AF HY
namespace HY
set_option maxRecDepth 100000
theorem dg_range (c : UInt8) : dg c = decide (48 ≤ c.toNat ∧ c.toNat ≤ 57) := by
  rw [Bool.eq_iff_iff, dg_iff, decide_eq_true_eq]
theorem v60 (s : List UInt8) (hs : ∀ c ∈ s, c.toNat < 128) (h : List AObj) : ACalls Tryd.prog 60 [.str s, .fn (.func 61) [] []] h (.bool (s.any dg)) h := by
  have e : s.any dg = s.any fun c => decide (48 ≤ c.toNat ∧ c.toNat ≤ 57) := by
    congr 1
    funext c
    exact dg_range c
  rw [e]
  refine ⟨okF1 Tryd.func60 (by kernel_rfl) (by kernel_rfl), fun w σ xs H hv => ?_⟩
  obtain ⟨x, y, rfl, hx, hy⟩ := hv.two
  rw [vr_str hx]
  obtain ⟨vs, us, rfl, e1, e2, _, _⟩ := vr_fn hy
  obtain rfl : vs = #[] := Array.eq_empty_of_size_eq_zero e1
  obtain rfl : us = #[] := Array.eq_empty_of_size_eq_zero e2
  refine (callsIn_wide.2 (Go.Proofs.contains_calls s hs w)).mono ?_
  rintro e w' ⟨rfl, hb⟩
  obtain ⟨H', e'⟩ := Ext.ofBelow H hb
  exact ⟨_, σ, rfl, H', .imm .bool, e'⟩
theorem kind_ascii (c : UInt8) (h : kind c ≠ 0) : c.toNat < 128 := by
  have hb := c.toNat_lt
  unfold kind at h
  apply Classical.byContradiction
  intro hn
  apply h
  unfold kindI
  repeat' (split; · omega)
  rfl
theorem word_ascii {w : List UInt8} (hw : isWord w = true) : ∀ c ∈ w, c.toNat < 128 := by
  intro c hc
  have h2 : checkC w = 0 := by
    unfold isWord at hw
    simp only [Bool.and_eq_true, decide_eq_true_eq] at hw
    exact hw.1.1.2
  rw [← clus_join w] at hc
  obtain ⟨u, hu, hcu⟩ := List.mem_flatten.1 hc
  unfold checkC at h2
  split at h2
  · cases h2
  split at h2
  · cases h2
  rename_i hb
  obtain ⟨a, m, rfl, h3, h4⟩ := chn_get (chn_clus w) u hu
  have ha : kind a ≠ 0 := by
    intro e
    apply hb
    rw [List.any_eq_true]
    refine ⟨_, hu, ?_⟩
    unfold badHead
    have : ch (a :: m) 0 = a := rfl
    rw [this, e]
    rfl
  rcases List.mem_cons.1 hcu with rfl | hcm
  · exact kind_ascii _ ha
  · refine kind_ascii _ ?_
    rw [h3 c hcm]
    decide
theorem isnil_pats {p : List Pat} (h : p ≠ []) : valP (.isnil .slice false) [patsV p] = .bool false := by
  unfold patsV
  rw [valP_isnil_sl, if_neg (by simpa using h)]
  rfl
theorem okisnil_pats {p : List Pat} : okP (.isnil .slice false) [patsV p] = True := eq_true trivial
theorem v59 (p : List Pat) (h : List AObj) (hl : p.length ≤ 1000000000) : ACalls Tryd.prog 59 [patsV p] h (patsV p) h := by
  obtain ⟨s1, s2, s3, s4, s5, s6⟩ := src_pats h p
  have s5 : ∀ X, sliceCells (h ++ X) (patsV p) = some (p.length, patsC p) := s5
  have eP := patsC_len p
  by_cases h0 : p = []
  · subst h0
    have z0 : valP (.isnil .slice false) [patsV []] = .anyb := rfl
    have z1 : okP (.isnil .slice false) [patsV []] = True := eq_true trivial
    refine acalls_of fn59d (by simp) ?_
    simp only [List.length_cons, List.length_nil, Nat.reduceAdd, Nat.reduceSub, List.replicate, List.cons_append, List.nil_append, List.append_nil]
    simp (disch := omega) only [c59d, s1, s2, s5, s6, z0, z1, go_sem, wrap64_id, Int.tdiv_eq_ediv_of_nonneg, Int.tmod_eq_emod_of_nonneg]
    repeat' first
      | ((first | refine fnQ_pure1 ?_ ?_ | refine fnQ_pure0 ?_ ?_); (next => repeat' first | exact rvs_n | refine rvs_t ?_ | (simp [go_sem]; done)); simp only [go_sem]; (first | exact VLe.refl _ | refine VLe_int ?_ | refine VLe_bool ?_ | refine VLe_str ?_ | skip))
      | (with_reducible refine And.intro ?_ ?_)
      | with_reducible intro _
    all_goals first
      | omega
      | (rename_i hx; revert hx; simp; done)
      | (simp; done)
      | skip
    · exact VLe_nl
    · rw [if_pos (by omega)]
      exact patsV_of (l := []) rfl
  · have z0 := isnil_pats h0
    have z1 := @okisnil_pats p
    refine acalls_of fn59d (by simp) ?_
    simp only [List.length_cons, List.length_nil, Nat.reduceAdd, Nat.reduceSub, List.replicate, List.cons_append, List.nil_append, List.append_nil]
    simp (disch := omega) only [c59d, s1, s2, s5, s6, z0, z1, go_sem, wrap64_id, Int.tdiv_eq_ediv_of_nonneg, Int.tmod_eq_emod_of_nonneg]
    repeat' first
      | ((first | refine fnQ_pure1 ?_ ?_ | refine fnQ_pure0 ?_ ?_); (next => repeat' first | exact rvs_n | refine rvs_t ?_ | (simp [go_sem]; done)); simp only [go_sem]; (first | exact VLe.refl _ | refine VLe_int ?_ | refine VLe_bool ?_ | refine VLe_str ?_ | skip))
      | (with_reducible refine And.intro ?_ ?_)
      | with_reducible intro _
    all_goals first
      | omega
      | (rename_i hx; revert hx; simp; done)
      | (simp; done)
      | skip
    rw [if_pos (by omega)]
    exact patsV_of rfl
theorem patsC_low (p : List Pat) (n : Nat) : ∀ c ∈ patsC p, lowV n c = true := by
  intro c hc
  unfold patsC at hc
  rw [List.mem_flatMap] at hc
  obtain ⟨x, _, hx⟩ := hc
  unfold patC at hx
  simp only [List.mem_cons, List.not_mem_nil, or_false] at hx
  rcases hx with rfl | rfl <;> rfl
theorem v59m (p : List Pat) (h : List AObj) (k : Nat) (hk : site h k = true) (h0 : p ≠ []) (hl : p.length ≤ 1000000000) :
    ACalls Tryd.prog 59 [patsV p] h (.osl k (verOf (getO k h) + 1) 2 0 p.length) (setO k h (.mem (verOf (getO k h) + 1) 32 (patsC p))) := by
  obtain ⟨s1, s2, s3, s4, s5, s6⟩ := src_pats h p
  have s5 : ∀ X, sliceCells (h ++ X) (patsV p) = some (p.length, patsC p) := s5
  have eP := patsC_len p
  have hp := List.length_pos_iff.2 h0
  have z0 := isnil_pats h0
  have z1 := @okisnil_pats p
  refine acallsM fn59d k (by simp) ?_
  simp only [List.length_cons, List.length_nil, Nat.reduceAdd, Nat.reduceSub, List.replicate, List.cons_append, List.nil_append, List.append_nil]
  simp (disch := omega) only [c59d, s1, s2, s5, s6, z0, z1, go_sem, wrap64_id, Int.tdiv_eq_ediv_of_nonneg, Int.tmod_eq_emod_of_nonneg]
  repeat' first
    | (with_reducible refine And.intro ?_ ?_)
    | (with_reducible intro _)
  all_goals first
    | omega
    | contradiction
    | skip
  exact ⟨h.length + 1, 2, 2, 0, p.length, 32, patsC p, _, ⟨trivial, trivial⟩, rfl, rfl, by omega, by simp only [go_sem], patsC_low p _, hk, rfl, rfl⟩
end HY
end

section
open Go Go.Proofs AF
set_option maxRecDepth 100000
def c32y : C :=
  ((C.ops [⟨some 4, none, .nilo 0 2 32, []⟩, ⟨some 5, none, .mv, [.c (.int .i64 0)]⟩]).seq (((C.ops [⟨some 15, none, .mv, [.t 0]⟩, ⟨some 16, none, .mv, [.t 1]⟩, ⟨some 17, none, .call
  40 true, [.t 15, .t 16]⟩, ⟨some 6, none, .mv, [.t 17]⟩]).seq ((C.ops [⟨some 18, none, .mv, [.t 6]⟩, ⟨some 19, none, .bin .neq, [.t 18, .c (.int .i64 0)]⟩]).seq (C.cond (.t 19)
  ((C.ops [⟨some 20, none, .mv, [.t 6]⟩, ⟨some 4, none, .nilo 0 2 32, []⟩, ⟨some 5, none, .mv, [.t 20]⟩]).seq C.ret) C.skip))).seq ((C.ops [⟨some 22, none, .mv, [.t 0]⟩, ⟨some 23,
  none, .mv, [.t 1]⟩, ⟨some 24, none, .call 44 false, [.t 22, .t 23]⟩, ⟨some 21, none, .mv, [.t 24]⟩, ⟨some 25, none, .ext 0, [.t 21]⟩, ⟨some 26, none, .ext 1, [.t 21]⟩, ⟨some 7,
  none, .mv, [.t 25]⟩, ⟨some 8, none, .mv, [.t 26]⟩]).seq ((C.block 0 ((C.ops [⟨some 28, none, .mv, [.t 7]⟩, ⟨some 29, none, .len, [.t 28]⟩, ⟨some 30, none, .bin .eql, [.t 29, .c
  (.int .i64 0)]⟩, ⟨some 27, none, .mv, [.t 30]⟩]).seq (C.cond (.t 27) ((C.ops [⟨some 31, none, .mv, [.t 0]⟩, ⟨some 32, none, .call 59 false, [.t 31]⟩, ⟨some 4, none, .mv, [.t 32]⟩,
  ⟨some 5, none, .mv, [.c (.int .i64 0)]⟩]).seq C.ret) ((C.ops [⟨some 34, none, .mv, [.t 1]⟩, ⟨some 35, none, .call 60 true, [.t 34, .c (.fn (Fn.func 61) [] [])]⟩, ⟨some 33, none,
  .mv, [.t 35]⟩]).seq (C.cond (.t 33) ((C.ops [⟨some 4, none, .nilo 0 2 32, []⟩, ⟨some 5, none, .mv, [.c (.int .i64 11)]⟩]).seq C.ret) ((C.ops [⟨some 37, none, .mv, [.t 1]⟩, ⟨some
  38, none, .slen, [.t 37]⟩, ⟨some 39, none, .bin .gtr, [.t 38, .c (.int .i64 62)]⟩, ⟨some 40, none, .mv, [.t 39]⟩, ⟨some 41, some (40, false), .mv, [.t 8]⟩, ⟨some 42, some (40,
  false), .call 36 true, [.t 41, .c (.int .i64 9)]⟩, ⟨some 43, none, .pick, [.t 40, .c (.bool true), .t 42]⟩, ⟨some 44, none, .mv, [.t 43]⟩, ⟨some 45, some (44, false), .mv, [.t 0]⟩,
  ⟨some 46, some (44, false), .len, [.t 45]⟩, ⟨some 47, some (44, false), .bin .eql, [.t 46, .c (.int .i64 4096)]⟩, ⟨some 48, none, .pick, [.t 44, .c (.bool true), .t 47]⟩, ⟨some 36,
  none, .mv, [.t 48]⟩]).seq (C.cond (.t 36) ((C.ops [⟨some 4, none, .nilo 0 2 32, []⟩, ⟨some 5, none, .mv, [.c (.int .i64 4)]⟩]).seq C.ret) C.skip))))))).seq ((C.ops [⟨some 49, none,
  .mv, [.t 1]⟩, ⟨some 50, none, .call 62 true, [.t 49]⟩, ⟨some 9, none, .mv, [.t 50]⟩]).seq ((C.draw (DT.one ⟨some 51, none, .mv, [.t 1]⟩ (DT.uni ⟨some 52, none, .call 18 true, [.t
  51]⟩ (DT.one ⟨some 53, none, .bin .add, [.c (.str [46]), .t 52]⟩ (DT.one ⟨some 54, none, .bin .add, [.t 53, .c (.str [46])]⟩ (DT.one ⟨some 55, none, .mv, [.t 9]⟩ ((DT.one ⟨some 56,
  none, .len, [.t 55]⟩ (DT.one ⟨some 57, none, .bin .add, [.t 56, .c (.int .i64 3)]⟩ (DT.one ⟨some 58, none, .mkslc 1 1 3 [.int .i64 0] 8, [.t 57, .t 57]⟩ (DT.one ⟨some 59, none,
  .build [.str [], .nl] [(0, 1), (1, 1)], [.t 54, .t 58]⟩ (DT.one ⟨some 10, none, .alloc 2 32 [.str [], .nl], []⟩ (DT.one ⟨none, none, .store 2, [.t 10, .t 59]⟩ DT.nil)))))).two
  (DT.one ⟨some 10, none, .alloc 2 32 [.str [], .nl], []⟩ (DT.one ⟨some 56, none, .len, [.t 55]⟩ (DT.one ⟨some 57, none, .bin .add, [.t 56, .c (.int .i64 3)]⟩ (DT.one ⟨some 58, none,
  .mkslc 1 1 3 [.int .i64 0] 8, [.t 57, .t 57]⟩ (DT.one ⟨some 59, none, .build [.str [], .nl] [(0, 1), (1, 1)], [.t 54, .t 58]⟩ (DT.one ⟨none, none, .store 2, [.t 10, .t 59]⟩
  DT.nil))))))))))))).seq ((C.ops [⟨some 11, none, .mv, [.c (.int .i64 0)]⟩]).seq (((C.ops [⟨some 60, none, .mv, [.t 9]⟩, ⟨some 61, none, .len, [.t 60]⟩, ⟨some 62, none, .mv, [.c
  (.int .i64 0)]⟩]).seq (C.block 1 ((C.ops [⟨some 63, none, .bin .lss, [.t 62, .t 61]⟩]).seq ((C.cond (.t 63) C.skip (C.exit 1)).seq ((C.block 2 ((C.ops [⟨some 64, none, .mv, [.t
  62]⟩, ⟨some 65, none, .idxA 1, [.t 60, .t 62]⟩, ⟨some 66, none, .load none, [.t 65]⟩, ⟨some 12, none, .mv, [.t 64]⟩, ⟨some 13, none, .mv, [.t 66]⟩]).seq (((C.ops [⟨some 67, none,
  .mv, [.t 7]⟩, ⟨some 68, none, .mv, [.t 11]⟩, ⟨some 69, none, .call 63 true, [.t 67, .t 68]⟩, ⟨some 14, none, .mv, [.t 69]⟩]).seq ((C.ops [⟨some 70, none, .mv, [.t 14]⟩, ⟨some 71,
  none, .bin .geq, [.t 70, .c (.int .i64 0)]⟩]).seq (C.cond (.t 71) (C.ops [⟨some 72, none, .fldA 1, [.t 10]⟩, ⟨some 73, none, .load none, [.t 72]⟩, ⟨some 74, none, .mv, [.t 12]⟩,
  ⟨some 75, none, .bin .add, [.t 74, .c (.int .i64 1)]⟩, ⟨some 76, none, .mv, [.t 8]⟩, ⟨some 77, none, .mv, [.t 14]⟩, ⟨some 78, none, .idxA 1, [.t 76, .t 77]⟩, ⟨some 79, none, .load
  none, [.t 78]⟩, ⟨some 80, none, .bin .add, [.t 79, .c (.int .i64 1)]⟩, ⟨some 81, none, .idxA 1, [.t 73, .t 75]⟩, ⟨none, none, .store 1, [.t 81, .t 80]⟩]) C.skip))).seq (C.ops
  [⟨some 82, none, .mv, [.t 11]⟩, ⟨some 83, none, .mv, [.t 13]⟩, ⟨some 84, none, .slen, [.t 83]⟩, ⟨some 85, none, .bin .add, [.t 82, .t 84]⟩, ⟨some 11, none, .mv, [.t 85]⟩])))).seq
  (C.ops [⟨some 86, none, .bin .add, [.t 62, .c (.int .i64 1)]⟩, ⟨some 62, none, .mv, [.t 86]⟩])))).loop)).seq ((C.draw (DT.one ⟨some 87, none, .mv, [.t 0]⟩ ((DT.one ⟨some 88, none,
  .call 59 false, [.t 87]⟩ (DT.one ⟨some 89, none, .load (some 2), [.t 10]⟩ (DT.one ⟨some 90, none, .bslc 3 2 1 32 [.str [], .nl] [(0, 2)], [.t 89]⟩ (DT.one ⟨some 91, none, .app 4 2
  32 40, [.t 88, .t 90]⟩ (DT.one ⟨some 4, none, .mv, [.t 91]⟩ (DT.one ⟨some 5, none, .mv, [.c (.int .i64 0)]⟩ DT.nil)))))).two (DT.one ⟨some 89, none, .load (some 2), [.t 10]⟩
  ((DT.one ⟨some 88, none, .call 59 false, [.t 87]⟩ (DT.one ⟨some 90, none, .bslc 3 2 1 32 [.str [], .nl] [(0, 2)], [.t 89]⟩ (DT.one ⟨some 91, none, .app 4 2 32 40, [.t 88, .t 90]⟩
  (DT.one ⟨some 4, none, .mv, [.t 91]⟩ (DT.one ⟨some 5, none, .mv, [.c (.int .i64 0)]⟩ DT.nil))))).two (DT.one ⟨some 90, none, .bslc 3 2 1 32 [.str [], .nl] [(0, 2)], [.t 89]⟩
  (DT.one ⟨some 88, none, .call 59 false, [.t 87]⟩ (DT.one ⟨some 91, none, .app 4 2 32 40, [.t 88, .t 90]⟩ (DT.one ⟨some 4, none, .mv, [.t 91]⟩ (DT.one ⟨some 5, none, .mv, [.c (.int
  .i64 0)]⟩ DT.nil)))))))))).seq
  C.ret)))))))))
theorem fn32y : FnIs Tryd.prog 32 92 6 [RV.tmp 4, RV.tmp 5] c32y := ⟨Tryd.f32, Tryd.f32.body.getD .skip, [4, 58, 10, 90, 91, 88], [59, 44], [], by kernel_rfl, by kernel_rfl, by kernel_rfl, by kernel_rfl, by kernel_rfl, by kernel_rfl, by kernel_rfl⟩
end

section
open Go Go.Proofs AF HY
namespace HY
set_option maxRecDepth 100000
theorem fold_clus_len (w : List UInt8) (i : Nat) : ((clus (fold w)).getD i []).length = ((clus w).getD i []).length := by
  rw [clus_fold, List.getD_eq_getElem?_getD, List.getElem?_map, List.getD_eq_getElem?_getD]
  cases (clus w)[i]? with
  | none => rfl
  | some c => simp [fold_len]
theorem patsV_snoc {p : List Pat} {l : List UInt8} {lv : List Int} {a : AV} {r : AV → AV} (hs : ∀ s, r (.str s) = .str s) (hv : ∀ l, r (intsV l) = intsV l) (ho : ILe (r a) (intsV lv)) {n : Nat} (hn : n = p.length + 1) :
    VLe (.sl n fun i => List.map r (List.take 2 (List.drop (i * 2) (patsC p ++ [.str l, a])))) (patsV (p ++ [⟨l, lv⟩])) := by
  subst hn
  unfold patsV
  rw [List.length_append, List.length_singleton]
  refine VLe.sl (fun i hi => ?_)
  by_cases h : i < p.length
  · rw [List.drop_append_of_le_length (by rw [patsC_len]; omega), List.take_append_of_le_length (by rw [List.length_drop, patsC_len]; omega), drop_pats h]
    have e : (p ++ [(⟨l, lv⟩ : Pat)]).getD i default = p.getD i default := by rw [List.getD_eq_getElem?_getD, List.getElem?_append_left h, List.getD_eq_getElem?_getD]
    rw [e]
    unfold patC
    rw [List.map_cons, List.map_cons, List.map_nil, hs, hv]
    exact ILes.refl _
  · have e1 : i = p.length := by omega
    subst e1
    have e : (p ++ [(⟨l, lv⟩ : Pat)]).getD p.length default = ⟨l, lv⟩ := by simp [List.getD_eq_getElem?_getD]
    rw [List.drop_append, List.drop_eq_nil_of_le (by rw [patsC_len]; omega), patsC_len, Nat.sub_self, e]
    show ILes [r (.str l), r a] [.str l, intsV lv]
    rw [hs]
    exact ⟨ILe.refl _, ho, trivial⟩
theorem ile_ints {L : List Int} {n m : Nat} {fz : Nat → Bool} {h : List AObj} (e : m = L.length) : ILe (.sl m fun i => List.map (rei fz h (n + 1)) (List.take 1 (List.drop (0 + i * 1) (intsC L)))) (intsV L) := by
  subst e
  unfold intsV
  refine ILe.sl_eq (fun i hi => ?_)
  rw [Nat.zero_add, Nat.mul_one]
  have : List.drop i (intsC L) = .int .i64 (L.getD i 0) :: List.drop (i + 1) (intsC L) := by
    rw [List.drop_eq_getElem_cons (by rw [intsC_len]; exact hi)]
    congr 1
    simp [intsC, List.getD_eq_getElem?_getD, hi]
  rw [this]
  rfl
theorem ile_slOf {L : List Int} {n k m : Nat} {fz : Nat → Bool} {h : List AObj} (hf : fz k = true) (hk : getO k h = some (.mem 1 3 (intsC L))) (e : m = L.length) : ILe (rei fz h (n + 2) (.osl k 1 1 0 m)) (intsV L) := by
  rw [rei_osl, if_pos hf, hk, slOf_mem, if_pos ⟨rfl, by rw [intsC_len]; omega⟩]
  exact ile_ints e
theorem we_bad {p : List Pat} {w : List UInt8} (g : startE p w ≠ 0) : withoutE p w = startE p w ∧ withoutR p w = [] := by
  have e : withoutE p w = startE p w := by unfold withoutE; rw [if_pos g]
  exact ⟨e, by unfold withoutR; rw [e, if_pos g]⟩
theorem we_none {p : List Pat} {w : List UInt8} (g : startE p w = 0) (h0 : pointsR p w = []) : withoutE p w = 0 ∧ withoutR p w = p := by
  have e : withoutE p w = 0 := by unfold withoutE; rw [if_neg (fun hc => hc g), if_pos h0]
  exact ⟨e, by unfold withoutR; rw [e, if_neg (by simp), if_pos h0]⟩
theorem we_dig {p : List Pat} {w : List UInt8} (g : startE p w = 0) (h0 : pointsR p w ≠ []) (hd : w.any dg = true) : withoutE p w = 11 ∧ withoutR p w = [] := by
  have e : withoutE p w = 11 := by unfold withoutE; rw [if_neg (fun hc => hc g), if_neg h0, if_pos hd]
  exact ⟨e, by unfold withoutR; rw [e, if_pos (by decide)]⟩
theorem we_lim {p : List Pat} {w : List UInt8} (g : startE p w = 0) (h0 : pointsR p w ≠ []) (hd : w.any dg = false) (hl : 62 < w.length ∨ 9 ∈ highR p w ∨ p.length = 4096) : withoutE p w = 4 ∧ withoutR p w = [] := by
  have e : withoutE p w = 4 := by unfold withoutE; rw [if_neg (fun hc => hc g), if_neg h0, hd, if_neg (by simp), if_pos hl]
  exact ⟨e, by unfold withoutR; rw [e, if_pos (by decide)]⟩
theorem we_ok {p : List Pat} {w : List UInt8} (g : startE p w = 0) (h0 : pointsR p w ≠ []) (hd : w.any dg = false) (hl : ¬(62 < w.length ∨ 9 ∈ highR p w ∨ p.length = 4096)) : withoutE p w = 0 ∧ withoutR p w = p ++ [newP p w] := by
  have e : withoutE p w = 0 := by unfold withoutE; rw [if_neg (fun hc => hc g), if_neg h0, hd, if_neg (by simp), if_neg hl]
  exact ⟨e, by unfold withoutR; rw [e, if_neg (by simp), if_neg h0]⟩
theorem points_ne {w : List UInt8} : pointsR [] w = [] := by
  unfold pointsR
  split
  · have : ∀ m, ptIdx (clus w).length (levelsOf [] w) m = [] := by
      intro m
      unfold ptIdx
      rw [List.filter_eq_nil_iff]
      intro k _ hk
      obtain ⟨h1, h2, h3⟩ := hit_pos hk
      have h4 := lev_none w (k := k) (by omega)
      rw [h4] at h1
      exact absurd h1 (by decide)
    unfold ptAt
    rw [this]
    rfl
  · rfl
set_option maxHeartbeats 8000000 in
theorem v32 (p : List Pat) (w : List UInt8) (h : List AObj) (hok : okPats p) (hw : w.length ≤ 100000) : ACalls Tryd.prog 32 [patsV p, .str w] h (.tup [patsV (withoutR p w), .int .i64 (withoutE p w)]) h := by
  have c40 := fun h => t112 p w h hok (by omega)
  by_cases g : startE p w = 0
  case neg =>
    obtain ⟨e1, e2⟩ := we_bad g
    rw [e1, e2]
    have k0 : (startE p w = 0) = False := eq_false g
    refine acalls_of fn32y (by simp) ?_
    simp only [List.length_cons, List.length_nil, Nat.reduceAdd, Nat.reduceSub, List.replicate, List.cons_append, List.nil_append, List.append_nil]
    simp (disch := omega) only [c32y, k0, go_sem, wrap64_id, Int.tdiv_eq_ediv_of_nonneg, Int.tmod_eq_emod_of_nonneg]
    repeat' first
      | ((first | refine callA_pure (c40 _) ?_ ?_); (next => repeat' first | exact flags_n | refine flags_c (by first | rfl | assumption) ?_); simp (disch := omega) only [k0, go_sem, wrap64_id, Int.tdiv_eq_ediv_of_nonneg, Int.tmod_eq_emod_of_nonneg])
      | ((first | refine callU_of (fun _ => c40 _) ?_ ?_); (next => repeat' first | exact flags_n | refine flags_c (by first | rfl | assumption) ?_); simp (disch := omega) only [k0, go_sem, wrap64_id, Int.tdiv_eq_ediv_of_nonneg, Int.tmod_eq_emod_of_nonneg])
      | ((first | refine callG_pure (fun e => ⟨?_, c40 _⟩) ?_); (next => repeat' first | exact flags_n | refine flags_c (by first | rfl | assumption) ?_); simp (disch := omega) only [k0, go_sem, wrap64_id, Int.tdiv_eq_ediv_of_nonneg, Int.tmod_eq_emod_of_nonneg])
      | ((first | refine fnQ_pure1 ?_ ?_ | refine fnQ_pure0 ?_ ?_); (next => repeat' first | exact rvs_n | refine rvs_t ?_ | (simp [go_sem]; done)); simp only [go_sem]; (first | exact VLe.refl _ | refine VLe_int ?_ | refine VLe_bool ?_ | refine VLe_str ?_ | skip))
      | (with_reducible refine And.intro ?_ ?_)
      | with_reducible intro _
    all_goals first
      | omega
      | (rename_i hx; revert hx; simp; done)
      | (simp; done)
      | skip
    exact VLe_tup ⟨VLe_nl, VLe.refl _, trivial⟩
  rw [g] at c40
  obtain ⟨g1, g2⟩ := startE_zero g
  have hasc := word_ascii g2
  have c44 := fun h => t113 p w h hok (by omega) (word_pos g2) g1
  have hpts : pointsR p w = ptAt (clus w) (levelsOf p w) ((clus w).length - 1) := by unfold pointsR; rw [if_pos g]
  have hlp := points_len p w
  rw [← hpts] at c44
  have hH : ptHi (clus w).length (levelsOf p w) ((clus w).length - 1) = highR p w := rfl
  rw [hH] at c44
  have hHl : (highR p w).length = (pointsR p w).length := by rw [hpts, ptAt_len, ← hH, ptHi_len]
  have hp1 := hok.1
  have c59 := fun h => v59 p h hp1
  by_cases h0 : pointsR p w = []
  · obtain ⟨e1, e2⟩ := we_none g h0
    rw [e1, e2]
    rw [h0] at c44
    refine acalls_of fn32y (by simp) ?_
    simp only [List.length_cons, List.length_nil, Nat.reduceAdd, Nat.reduceSub, List.replicate, List.cons_append, List.nil_append, List.append_nil]
    simp (disch := omega) only [c32y, intsN_nil, go_sem, wrap64_id, Int.tdiv_eq_ediv_of_nonneg, Int.tmod_eq_emod_of_nonneg]
    repeat' first
      | ((first | refine callA_pure (c40 _) ?_ ?_ | refine callA_pure (c44 _) ?_ ?_ | refine callA_pure (c59 _) ?_ ?_); (next => repeat' first | exact flags_n | refine flags_c (by first | rfl | assumption) ?_); simp (disch := omega) only [intsN_nil, go_sem, wrap64_id, Int.tdiv_eq_ediv_of_nonneg, Int.tmod_eq_emod_of_nonneg])
      | ((first | refine callU_of (fun _ => c40 _) ?_ ?_ | refine callU_of (fun _ => c44 _) ?_ ?_ | refine callU_of (fun _ => c59 _) ?_ ?_); (next => repeat' first | exact flags_n | refine flags_c (by first | rfl | assumption) ?_); simp (disch := omega) only [intsN_nil, go_sem, wrap64_id, Int.tdiv_eq_ediv_of_nonneg, Int.tmod_eq_emod_of_nonneg])
      | ((first | refine callG_pure (fun e => ⟨?_, c40 _⟩) ?_ | refine callG_pure (fun e => ⟨?_, c44 _⟩) ?_ | refine callG_pure (fun e => ⟨?_, c59 _⟩) ?_); (next => repeat' first | exact flags_n | refine flags_c (by first | rfl | assumption) ?_); simp (disch := omega) only [intsN_nil, go_sem, wrap64_id, Int.tdiv_eq_ediv_of_nonneg, Int.tmod_eq_emod_of_nonneg])
      | ((first | refine fnQ_pure1 ?_ ?_ | refine fnQ_pure0 ?_ ?_); (next => repeat' first | exact rvs_n | refine rvs_t ?_ | (simp [go_sem]; done)); simp only [go_sem]; (first | exact VLe.refl _ | refine VLe_int ?_ | refine VLe_bool ?_ | refine VLe_str ?_ | skip))
      | (with_reducible refine And.intro ?_ ?_)
      | with_reducible intro _
    all_goals first
      | omega
      | (rename_i hx; revert hx; simp; done)
      | (simp; done)
      | skip
  have hl0 : (pointsR p w).length ≠ 0 := fun e => h0 (List.eq_nil_of_length_eq_zero e)
  have eN : intsN (pointsR p w) = intsV (pointsR p w) := by unfold intsN; rw [if_neg h0]
  rw [eN] at c44
  have kL : (((pointsR p w).length : Int) = 0) = False := eq_false (by omega)
  have c60 := fun h => v60 w hasc h
  cases hd : w.any dg with
  | true =>
    obtain ⟨e1, e2⟩ := we_dig g h0 hd
    rw [e1, e2]
    rw [hd] at c60
    refine acalls_of fn32y (by simp) ?_
    simp only [List.length_cons, List.length_nil, Nat.reduceAdd, Nat.reduceSub, List.replicate, List.cons_append, List.nil_append, List.append_nil]
    simp (disch := omega) only [c32y, intsV, kL, go_sem, wrap64_id, Int.tdiv_eq_ediv_of_nonneg, Int.tmod_eq_emod_of_nonneg]
    repeat' first
      | ((first | refine callA_pure (c40 _) ?_ ?_ | refine callA_pure (c44 _) ?_ ?_ | refine callA_pure (c60 _) ?_ ?_); (next => repeat' first | exact flags_n | refine flags_c (by first | rfl | assumption) ?_); simp (disch := omega) only [intsV, kL, go_sem, wrap64_id, Int.tdiv_eq_ediv_of_nonneg, Int.tmod_eq_emod_of_nonneg])
      | ((first | refine callU_of (fun _ => c40 _) ?_ ?_ | refine callU_of (fun _ => c44 _) ?_ ?_ | refine callU_of (fun _ => c60 _) ?_ ?_); (next => repeat' first | exact flags_n | refine flags_c (by first | rfl | assumption) ?_); simp (disch := omega) only [intsV, kL, go_sem, wrap64_id, Int.tdiv_eq_ediv_of_nonneg, Int.tmod_eq_emod_of_nonneg])
      | ((first | refine callG_pure (fun e => ⟨?_, c40 _⟩) ?_ | refine callG_pure (fun e => ⟨?_, c44 _⟩) ?_ | refine callG_pure (fun e => ⟨?_, c60 _⟩) ?_); (next => repeat' first | exact flags_n | refine flags_c (by first | rfl | assumption) ?_); simp (disch := omega) only [intsV, kL, go_sem, wrap64_id, Int.tdiv_eq_ediv_of_nonneg, Int.tmod_eq_emod_of_nonneg])
      | ((first | refine fnQ_pure1 ?_ ?_ | refine fnQ_pure0 ?_ ?_); (next => repeat' first | exact rvs_n | refine rvs_t ?_ | (simp [go_sem]; done)); simp only [go_sem]; (first | exact VLe.refl _ | refine VLe_int ?_ | refine VLe_bool ?_ | refine VLe_str ?_ | skip))
      | (with_reducible refine And.intro ?_ ?_)
      | with_reducible intro _
    all_goals first
      | omega
      | (rename_i hx; revert hx; simp; done)
      | (simp; done)
      | skip
    exact VLe_tup ⟨VLe_nl, VLe.refl _, trivial⟩
  | false =>
  rw [hd] at c60
  have c36 := fun h => v36 (highR p w) 9 h (by omega)
  by_cases hl : 62 < w.length ∨ 9 ∈ highR p w ∨ p.length = 4096
  · obtain ⟨e1, e2⟩ := we_lim g h0 hd hl
    rw [e1, e2]
    by_cases l1 : 62 < w.length
    · have k1 : (62 < (w.length : Int)) = True := eq_true (by omega)
      refine acalls_of fn32y (by simp) ?_
      simp only [List.length_cons, List.length_nil, Nat.reduceAdd, Nat.reduceSub, List.replicate, List.cons_append, List.nil_append, List.append_nil]
      simp (disch := omega) only [c32y, intsV, kL, k1, go_sem, wrap64_id, Int.tdiv_eq_ediv_of_nonneg, Int.tmod_eq_emod_of_nonneg]
      repeat' first
        | (refine callG_false ((.bool false)) ?_; simp (disch := omega) only [intsV, kL, k1, go_sem, wrap64_id, Int.tdiv_eq_ediv_of_nonneg, Int.tmod_eq_emod_of_nonneg])
        | ((first | refine callA_pure (c40 _) ?_ ?_ | refine callA_pure (c44 _) ?_ ?_ | refine callA_pure (c60 _) ?_ ?_); (next => repeat' first | exact flags_n | refine flags_c (by first | rfl | assumption) ?_); simp (disch := omega) only [intsV, kL, k1, go_sem, wrap64_id, Int.tdiv_eq_ediv_of_nonneg, Int.tmod_eq_emod_of_nonneg])
        | ((first | refine callU_of (fun _ => c40 _) ?_ ?_ | refine callU_of (fun _ => c44 _) ?_ ?_ | refine callU_of (fun _ => c60 _) ?_ ?_); (next => repeat' first | exact flags_n | refine flags_c (by first | rfl | assumption) ?_); simp (disch := omega) only [intsV, kL, k1, go_sem, wrap64_id, Int.tdiv_eq_ediv_of_nonneg, Int.tmod_eq_emod_of_nonneg])
        | ((first | refine callG_pure (fun e => ⟨?_, c40 _⟩) ?_ | refine callG_pure (fun e => ⟨?_, c44 _⟩) ?_ | refine callG_pure (fun e => ⟨?_, c60 _⟩) ?_); (next => repeat' first | exact flags_n | refine flags_c (by first | rfl | assumption) ?_); simp (disch := omega) only [intsV, kL, k1, go_sem, wrap64_id, Int.tdiv_eq_ediv_of_nonneg, Int.tmod_eq_emod_of_nonneg])
        | ((first | refine fnQ_pure1 ?_ ?_ | refine fnQ_pure0 ?_ ?_); (next => repeat' first | exact rvs_n | refine rvs_t ?_ | (simp [go_sem]; done)); simp only [go_sem]; (first | exact VLe.refl _ | refine VLe_int ?_ | refine VLe_bool ?_ | refine VLe_str ?_ | skip))
        | (with_reducible refine And.intro ?_ ?_)
        | with_reducible intro _
      all_goals first
        | omega
        | (rename_i hx; revert hx; simp; done)
        | (simp; done)
        | skip
      all_goals exact VLe_tup ⟨VLe_nl, VLe.refl _, trivial⟩
    · have k1 : (62 < (w.length : Int)) = False := eq_false (by omega)
      by_cases l2 : 9 ∈ highR p w
      · rw [decide_eq_true l2] at c36
        refine acalls_of fn32y (by simp) ?_
        simp only [List.length_cons, List.length_nil, Nat.reduceAdd, Nat.reduceSub, List.replicate, List.cons_append, List.nil_append, List.append_nil]
        simp (disch := omega) only [c32y, intsV, kL, k1, go_sem, wrap64_id, Int.tdiv_eq_ediv_of_nonneg, Int.tmod_eq_emod_of_nonneg]
        repeat' first
          | ((first | refine callA_pure (c40 _) ?_ ?_ | refine callA_pure (c44 _) ?_ ?_ | refine callA_pure (c60 _) ?_ ?_ | refine callA_pure (c36 _) ?_ ?_); (next => repeat' first | exact flags_n | refine flags_c (by first | rfl | assumption) ?_); simp (disch := omega) only [intsV, kL, k1, go_sem, wrap64_id, Int.tdiv_eq_ediv_of_nonneg, Int.tmod_eq_emod_of_nonneg])
          | ((first | refine callU_of (fun _ => c40 _) ?_ ?_ | refine callU_of (fun _ => c44 _) ?_ ?_ | refine callU_of (fun _ => c60 _) ?_ ?_ | refine callU_of (fun _ => c36 _) ?_ ?_); (next => repeat' first | exact flags_n | refine flags_c (by first | rfl | assumption) ?_); simp (disch := omega) only [intsV, kL, k1, go_sem, wrap64_id, Int.tdiv_eq_ediv_of_nonneg, Int.tmod_eq_emod_of_nonneg])
          | ((first | refine callG_pure (fun e => ⟨?_, c40 _⟩) ?_ | refine callG_pure (fun e => ⟨?_, c44 _⟩) ?_ | refine callG_pure (fun e => ⟨?_, c60 _⟩) ?_ | refine callG_pure (fun e => ⟨?_, c36 _⟩) ?_); (next => repeat' first | exact flags_n | refine flags_c (by first | rfl | assumption) ?_); simp (disch := omega) only [intsV, kL, k1, go_sem, wrap64_id, Int.tdiv_eq_ediv_of_nonneg, Int.tmod_eq_emod_of_nonneg])
          | ((first | refine fnQ_pure1 ?_ ?_ | refine fnQ_pure0 ?_ ?_); (next => repeat' first | exact rvs_n | refine rvs_t ?_ | (simp [go_sem]; done)); simp only [go_sem]; (first | exact VLe.refl _ | refine VLe_int ?_ | refine VLe_bool ?_ | refine VLe_str ?_ | skip))
          | (with_reducible refine And.intro ?_ ?_)
          | with_reducible intro _
        all_goals first
          | omega
          | (rename_i hx; revert hx; simp; done)
          | (simp; done)
          | skip
        all_goals exact VLe_tup ⟨VLe_nl, VLe.refl _, trivial⟩
      · rw [decide_eq_false l2] at c36
        have l3 : p.length = 4096 := by
          rcases hl with hl | hl | hl
          · exact absurd hl l1
          · exact absurd hl l2
          · exact hl
        have k2 : ((p.length : Int) = 4096) = True := eq_true (by omega)
        refine acalls_of fn32y (by simp) ?_
        simp only [List.length_cons, List.length_nil, Nat.reduceAdd, Nat.reduceSub, List.replicate, List.cons_append, List.nil_append, List.append_nil]
        simp (disch := omega) only [c32y, intsV, kL, k1, go_sem, wrap64_id, Int.tdiv_eq_ediv_of_nonneg, Int.tmod_eq_emod_of_nonneg]
        repeat' first
          | ((first | refine callA_pure (c40 _) ?_ ?_ | refine callA_pure (c44 _) ?_ ?_ | refine callA_pure (c60 _) ?_ ?_ | refine callA_pure (c36 _) ?_ ?_); (next => repeat' first | exact flags_n | refine flags_c (by first | rfl | assumption) ?_); simp (disch := omega) only [intsV, kL, k1, patsV, k2, go_sem, wrap64_id, Int.tdiv_eq_ediv_of_nonneg, Int.tmod_eq_emod_of_nonneg])
          | ((first | refine callU_of (fun _ => c40 _) ?_ ?_ | refine callU_of (fun _ => c44 _) ?_ ?_ | refine callU_of (fun _ => c60 _) ?_ ?_ | refine callU_of (fun _ => c36 _) ?_ ?_); (next => repeat' first | exact flags_n | refine flags_c (by first | rfl | assumption) ?_); simp (disch := omega) only [intsV, kL, k1, patsV, k2, go_sem, wrap64_id, Int.tdiv_eq_ediv_of_nonneg, Int.tmod_eq_emod_of_nonneg])
          | ((first | refine callG_pure (fun e => ⟨?_, c40 _⟩) ?_ | refine callG_pure (fun e => ⟨?_, c44 _⟩) ?_ | refine callG_pure (fun e => ⟨?_, c60 _⟩) ?_ | refine callG_pure (fun e => ⟨?_, c36 _⟩) ?_); (next => repeat' first | exact flags_n | refine flags_c (by first | rfl | assumption) ?_); simp (disch := omega) only [intsV, kL, k1, patsV, k2, go_sem, wrap64_id, Int.tdiv_eq_ediv_of_nonneg, Int.tmod_eq_emod_of_nonneg])
          | ((first | refine fnQ_pure1 ?_ ?_ | refine fnQ_pure0 ?_ ?_); (next => repeat' first | exact rvs_n | refine rvs_t ?_ | (simp [go_sem]; done)); simp only [go_sem]; (first | exact VLe.refl _ | refine VLe_int ?_ | refine VLe_bool ?_ | refine VLe_str ?_ | skip))
          | (with_reducible refine And.intro ?_ ?_)
          | with_reducible intro _
        all_goals first
          | omega
          | (rename_i hx; revert hx; simp; done)
          | (simp; done)
          | skip
        all_goals exact VLe_tup ⟨VLe_nl, VLe.refl _, trivial⟩
  obtain ⟨e1, e2⟩ := we_ok g h0 hd hl
  rw [e1, e2]
  have l1 : ¬ 62 < w.length := fun hc => hl (.inl hc)
  have l2 : ¬ 9 ∈ highR p w := fun hc => hl (.inr (.inl hc))
  have l3 : ¬ p.length = 4096 := fun hc => hl (.inr (.inr hc))
  have k1 : (62 < (w.length : Int)) = False := eq_false (by omega)
  have k2 : ((p.length : Int) = 4096) = False := eq_false (by omega)
  rw [decide_eq_false l2] at c36
  have c62 := fun h => t136 w h (by omega)
  have c18 := fun h => t141 w h (by omega)
  have hcl := clus_len w
  have hfl := fold_len w
  have hcf := clus_fold_len w
  have hpne : p ≠ [] := by rintro rfl; exact h0 points_ne
  have hc0 : checkPats p = 0 := by
    unfold startE at g
    split at g
    · assumption
    · cases g
  have hpl := List.length_pos_iff.2 hpne
  have hne := @clus_ne w
  have hof := fun i => offN_le (clus w) i
  rw [clus_join] at hof
  have hat := fun (i : Nat) (hi : i ≤ (clus w).length) => at_iff hne (lv := levelsOf p w) (m := (clus w).length - 1) hi
  have hhi := fun (i : Nat) (hi : i ≤ (clus w).length) => high_at hne (lv := levelsOf p w) (m := (clus w).length - 1) hi
  have hgl := fold_clus_len w
  rw [← hpts] at hat hhi
  rw [hH] at hhi
  have eP : newP p w = ⟨46 :: fold w ++ [46], newS (clus w).length (levelsOf p w) (clus w).length⟩ := rfl
  rw [eP]
  obtain ⟨AT, hAT⟩ : ∃ AT, AT = pointsR p w := ⟨_, rfl⟩
  obtain ⟨HI, hHI⟩ : ∃ HI, HI = highR p w := ⟨_, rfl⟩
  obtain ⟨lv, hlv⟩ : ∃ lv, lv = levelsOf p w := ⟨_, rfl⟩
  rw [← hAT] at c44 hlp hHl kL hat hhi
  rw [← hHI] at c44 hHl c36 hhi
  rw [← hlv] at hat hhi ⊢
  obtain ⟨us, hus⟩ : ∃ us, us = clus w := ⟨_, rfl⟩
  rw [← hus] at hcl hcf hof hat hhi hgl ⊢
  obtain ⟨own, hown⟩ : ∃ own, own = clus (fold w) := ⟨_, rfl⟩
  rw [← hown] at c62 hcf hgl
  obtain ⟨F, hF⟩ : ∃ F, F = fold w := ⟨_, rfl⟩
  rw [← hF] at c18 hfl ⊢
  obtain ⟨n, hn⟩ : ∃ n, n = us.length := ⟨_, rfl⟩
  rw [← hn] at hcf hat hhi hcl ⊢
  have e3 : ((n : Int) + 3).toNat = n + 3 := by omega
  have e4 : madeA [.int .i64 0] (n + 3) = intsC (newS n lv 0) := by rw [madeA_ints, newS_zero]
  have c63 := fun v h => v63 AT v h (by omega)
  refine acalls_of fn32y (by simp) ?_
  simp only [List.length_cons, List.length_nil, Nat.reduceAdd, Nat.reduceSub, List.replicate, List.cons_append, List.nil_append, List.append_nil]
  simp (disch := omega) only [c32y, intsV, kL, k1, go_sem, wrap64_id, Int.tdiv_eq_ediv_of_nonneg, Int.tmod_eq_emod_of_nonneg]
  repeat' first
    | ((first | refine callA_pure (c40 _) ?_ ?_ | refine callA_pure (c44 _) ?_ ?_ | refine callA_pure (c60 _) ?_ ?_ | refine callA_pure (c36 _) ?_ ?_ | refine callA_pure (c62 _) ?_ ?_); (next => repeat' first | exact flags_n | refine flags_c (by first | rfl | assumption) ?_); simp (disch := omega) only [intsV, kL, k1, patsV, k2, strs, go_sem, wrap64_id, Int.tdiv_eq_ediv_of_nonneg, Int.tmod_eq_emod_of_nonneg])
    | ((first | refine callU_of (fun _ => c40 _) ?_ ?_ | refine callU_of (fun _ => c44 _) ?_ ?_ | refine callU_of (fun _ => c60 _) ?_ ?_ | refine callU_of (fun _ => c36 _) ?_ ?_ | refine callU_of (fun _ => c62 _) ?_ ?_); (next => repeat' first | exact flags_n | refine flags_c (by first | rfl | assumption) ?_); simp (disch := omega) only [intsV, kL, k1, patsV, k2, strs, go_sem, wrap64_id, Int.tdiv_eq_ediv_of_nonneg, Int.tmod_eq_emod_of_nonneg])
    | ((first | refine callG_pure (fun e => ⟨?_, c40 _⟩) ?_ | refine callG_pure (fun e => ⟨?_, c44 _⟩) ?_ | refine callG_pure (fun e => ⟨?_, c60 _⟩) ?_ | refine callG_pure (fun e => ⟨?_, c36 _⟩) ?_ | refine callG_pure (fun e => ⟨?_, c62 _⟩) ?_); (next => repeat' first | exact flags_n | refine flags_c (by first | rfl | assumption) ?_); simp (disch := omega) only [intsV, kL, k1, patsV, k2, strs, go_sem, wrap64_id, Int.tdiv_eq_ediv_of_nonneg, Int.tmod_eq_emod_of_nonneg])
    | ((first | refine fnQ_pure1 ?_ ?_ | refine fnQ_pure0 ?_ ?_); (next => repeat' first | exact rvs_n | refine rvs_t ?_ | (simp [go_sem]; done)); simp only [go_sem]; (first | exact VLe.refl _ | refine VLe_int ?_ | refine VLe_bool ?_ | refine VLe_str ?_ | skip))
    | (with_reducible refine And.intro ?_ ?_)
    | with_reducible intro _
  all_goals first
    | omega
    | (rename_i hx; revert hx; simp; done)
    | (simp; done)
    | skip
  refine draw_of ?T ?H ?h1 ?h2
  case h1 =>
    simp (disch := omega) only [strs, hcf, e3, e4, go_sem, wrap64_id, Int.tdiv_eq_ediv_of_nonneg, Int.tmod_eq_emod_of_nonneg]
    repeat' first
      | ((first | refine callA_pure (c18 _) ?_ ?_); (next => repeat' first | exact flags_n | refine flags_c (by first | rfl | assumption) ?_); simp (disch := omega) only [strs, hcf, e3, e4, go_sem, wrap64_id, Int.tdiv_eq_ediv_of_nonneg, Int.tmod_eq_emod_of_nonneg])
      | ((first | refine callU_of (fun _ => c18 _) ?_ ?_); (next => repeat' first | exact flags_n | refine flags_c (by first | rfl | assumption) ?_); simp (disch := omega) only [strs, hcf, e3, e4, go_sem, wrap64_id, Int.tdiv_eq_ediv_of_nonneg, Int.tmod_eq_emod_of_nonneg])
      | ((first | refine callG_pure (fun e => ⟨?_, c18 _⟩) ?_); (next => repeat' first | exact flags_n | refine flags_c (by first | rfl | assumption) ?_); simp (disch := omega) only [strs, hcf, e3, e4, go_sem, wrap64_id, Int.tdiv_eq_ediv_of_nonneg, Int.tmod_eq_emod_of_nonneg])
      | ((first | refine fnQ_pure1 ?_ ?_ | refine fnQ_pure0 ?_ ?_); (next => repeat' first | exact rvs_n | refine rvs_t ?_ | (simp [go_sem]; done)); simp only [go_sem]; (first | exact VLe.refl _ | refine VLe_int ?_ | refine VLe_bool ?_ | refine VLe_str ?_ | skip))
      | (with_reducible refine And.intro ?_ ?_)
      | with_reducible intro _
    all_goals first
      | omega
      | rfl
  case h2 =>
  simp (disch := omega) only [strs, hcf, go_sem, wrap64_id, Int.tdiv_eq_ediv_of_nonneg, Int.tmod_eq_emod_of_nonneg]
  repeat' first
    | ((first | refine fnQ_pure1 ?_ ?_ | refine fnQ_pure0 ?_ ?_); (next => repeat' first | exact rvs_n | refine rvs_t ?_ | (simp [go_sem]; done)); simp only [go_sem]; (first | exact VLe.refl _ | refine VLe_int ?_ | refine VLe_bool ?_ | refine VLe_str ?_ | skip))
    | (with_reducible refine And.intro ?_ ?_)
    | with_reducible intro _
  all_goals first
    | omega
    | (rename_i hx; revert hx; simp; done)
    | (simp; done)
    | skip
  refine loop_of (T := fun i : Nat => spar 92 [(0, patsV p), (7, intsV AT), (8, intsV HI), (10, .op (h.length + 2) 1 0), (11, .int .i64 (offN us i)), (60, strs own), (61, .int .i64 n), (62, .int .i64 i)])
    (H := fun i => h ++ [.emp 1, .mem 1 3 (intsC (newS n lv i)), .mem 1 32 [.str ([46] ++ F ++ [46]), .osl (h.length + 1) 1 1 0 (n + 3)], .emp 0, .emp 0, .emp 0])
    (inv := fun i => i ≤ n) (m := fun i => n - i) 0 (by omega) (Wk.temps ?_) ?_
  · (simp only [strs, patsV, intsV, offN_zero, hcf, spar, List.foldl, List.replicate, go_sem, VLes_nil, VLes_cons, VLe_undef_iff, VLe_self]; try (repeat' first | (with_reducible refine And.intro ?_ ?_) | (refine VLe_int ?_; omega) | (refine VLe_bool ?_; rfl) | exact VLe.refl _))
  rintro i i1 K hK
  by_cases hi : i < n
  · have hs := offN_succ (own := us) (i := i) (by omega)
    have hgi := hgl i
    have hle := hof (i + 1)
    have hnl := newS_len n lv i
    have eL := intsC_len (newS n lv i)
    rw [hnl] at eL
    cases hb : hitP n lv (i - 1) with
    | true =>
      obtain ⟨_, b2, b3⟩ := hit_pos hb
      have hmem := (hat i (by omega)).2 ⟨hb, by omega⟩
      obtain ⟨w1, w2⟩ := hhi i (by omega) (hb) (by omega)
      have hix : idxI AT (offN us i : Int) = ((AT.idxOf (offN us i : Int) : Nat) : Int) := by unfold idxI; rw [if_pos hmem]
      obtain ⟨m, hm⟩ : ∃ m, m = AT.idxOf (offN us i : Int) := ⟨_, rfl⟩
      rw [← hm] at w1 w2 hix
      have c63i := fun h => c63 (offN us i : Int) h
      rw [hix] at c63i
      have q1 : ((0 : Int) ≤ (m : Int)) = True := eq_true (by omega)
      have hst := intsC_set (newS n lv i) (a := i + 1) (lv.getD (i - 1) 0 + 1) (by omega)
      rw [← newS_t hb] at hst
      have hr : -9223372036854775808 ≤ lv.getD (i - 1) 0 + 1 ∧ lv.getD (i - 1) 0 + 1 ≤ 9223372036854775807 := by
        have := lev_range (w := w) hc0 (i - 1)
        rw [← hlv] at this
        omega
      simp (disch := omega) only [spar, List.foldl, List.replicate, strs, intsV, hgi, go_sem, wrap64_id, Int.tdiv_eq_ediv_of_nonneg, Int.tmod_eq_emod_of_nonneg]
      repeat' first
        | ((first | refine callA_pure (c63i _) ?_ ?_); (next => repeat' first | exact flags_n | refine flags_c (by first | rfl | assumption) ?_); simp (disch := omega) only [strs, intsV, hgi, q1, go_sem, wrap64_id, Int.tdiv_eq_ediv_of_nonneg, Int.tmod_eq_emod_of_nonneg])
        | ((first | refine callU_of (fun _ => c63i _) ?_ ?_); (next => repeat' first | exact flags_n | refine flags_c (by first | rfl | assumption) ?_); simp (disch := omega) only [strs, intsV, hgi, q1, go_sem, wrap64_id, Int.tdiv_eq_ediv_of_nonneg, Int.tmod_eq_emod_of_nonneg])
        | ((first | refine callG_pure (fun e => ⟨?_, c63i _⟩) ?_); (next => repeat' first | exact flags_n | refine flags_c (by first | rfl | assumption) ?_); simp (disch := omega) only [strs, intsV, hgi, q1, go_sem, wrap64_id, Int.tdiv_eq_ediv_of_nonneg, Int.tmod_eq_emod_of_nonneg])
        | ((first | refine fnQ_pure1 ?_ ?_ | refine fnQ_pure0 ?_ ?_); (next => repeat' first | exact rvs_n | refine rvs_t ?_ | (simp [go_sem]; done)); simp only [go_sem]; (first | exact VLe.refl _ | refine VLe_int ?_ | refine VLe_bool ?_ | refine VLe_str ?_ | skip))
        | (with_reducible refine And.intro ?_ ?_)
        | with_reducible intro _
      all_goals first
        | omega
        | (rename_i hx; revert hx; simp; done)
        | (simp; done)
        | skip
      have f1 : ((i : Int) + 1).toNat = i + 1 := by omega
      rw [f1, w1, hst]
      refine hK _ _ (i + 1) (by omega) (by omega) (Wk.temps ?_)
      (simp only [strs, patsV, intsV, hs, spar, List.foldl, List.replicate, go_sem, VLes_nil, VLes_cons, VLe_undef_iff, VLe_self]; try (repeat' first | (with_reducible refine And.intro ?_ ?_) | (refine VLe_int ?_; omega) | (refine VLe_bool ?_; rfl) | exact VLe.refl _))
    | false =>
      have hmem : ¬ (offN us i : Int) ∈ AT := fun hc => by
        have := ((hat i (by omega)).1 hc).1
        rw [hb] at this
        cases this
      have hix : idxI AT (offN us i : Int) = -1 := by unfold idxI; rw [if_neg hmem]
      have c63i := fun h => c63 (offN us i : Int) h
      rw [hix] at c63i
      have q1 : ((0 : Int) ≤ -1) = False := eq_false (by omega)
      simp (disch := omega) only [spar, List.foldl, List.replicate, strs, intsV, hgi, go_sem, wrap64_id, Int.tdiv_eq_ediv_of_nonneg, Int.tmod_eq_emod_of_nonneg]
      repeat' first
        | ((first | refine callA_pure (c63i _) ?_ ?_); (next => repeat' first | exact flags_n | refine flags_c (by first | rfl | assumption) ?_); simp (disch := omega) only [strs, intsV, hgi, q1, go_sem, wrap64_id, Int.tdiv_eq_ediv_of_nonneg, Int.tmod_eq_emod_of_nonneg])
        | ((first | refine callU_of (fun _ => c63i _) ?_ ?_); (next => repeat' first | exact flags_n | refine flags_c (by first | rfl | assumption) ?_); simp (disch := omega) only [strs, intsV, hgi, q1, go_sem, wrap64_id, Int.tdiv_eq_ediv_of_nonneg, Int.tmod_eq_emod_of_nonneg])
        | ((first | refine callG_pure (fun e => ⟨?_, c63i _⟩) ?_); (next => repeat' first | exact flags_n | refine flags_c (by first | rfl | assumption) ?_); simp (disch := omega) only [strs, intsV, hgi, q1, go_sem, wrap64_id, Int.tdiv_eq_ediv_of_nonneg, Int.tmod_eq_emod_of_nonneg])
        | ((first | refine fnQ_pure1 ?_ ?_ | refine fnQ_pure0 ?_ ?_); (next => repeat' first | exact rvs_n | refine rvs_t ?_ | (simp [go_sem]; done)); simp only [go_sem]; (first | exact VLe.refl _ | refine VLe_int ?_ | refine VLe_bool ?_ | refine VLe_str ?_ | skip))
        | (with_reducible refine And.intro ?_ ?_)
        | with_reducible intro _
      all_goals first
        | omega
        | (rename_i hx; revert hx; simp; done)
        | (simp; done)
        | skip
      rw [← newS_f hb]
      refine hK _ _ (i + 1) (by omega) (by omega) (Wk.temps ?_)
      (simp only [strs, patsV, intsV, hs, spar, List.foldl, List.replicate, go_sem, VLes_nil, VLes_cons, VLe_undef_iff, VLe_self]; try (repeat' first | (with_reducible refine And.intro ?_ ?_) | (refine VLe_int ?_; omega) | (refine VLe_bool ?_; rfl) | exact VLe.refl _))
  · have e : i = n := by omega
    subst e
    simp (disch := omega) only [spar, List.foldl, List.replicate, strs, go_sem, wrap64_id, Int.tdiv_eq_ediv_of_nonneg, Int.tmod_eq_emod_of_nonneg]
    repeat' first
      | ((first | refine fnQ_pure1 ?_ ?_ | refine fnQ_pure0 ?_ ?_); (next => repeat' first | exact rvs_n | refine rvs_t ?_ | (simp [go_sem]; done)); simp only [go_sem]; (first | exact VLe.refl _ | refine VLe_int ?_ | refine VLe_bool ?_ | refine VLe_str ?_ | skip))
      | (with_reducible refine And.intro ?_ ?_)
      | with_reducible intro _
    all_goals first
      | omega
      | (rename_i hx; revert hx; simp; done)
      | (simp; done)
      | skip
    have eP := patsC_len p
    have eT : List.take (p.length * 2) (patsC p) = patsC p := List.take_of_length_le (by omega)
    refine draw_of ?T2 ?H2 ?h3 ?h4
    case h3 =>
      simp (disch := omega) only [go_sem, wrap64_id, Int.tdiv_eq_ediv_of_nonneg, Int.tmod_eq_emod_of_nonneg]
      repeat' first
        | (refine callA_eff (v59m p _ (h.length + 5) (by simp only [go_sem]) hpne hp1) ⟨rfl, trivial⟩ ?_; simp (disch := omega) only [go_sem, wrap64_id, eT, eP])
        | (with_reducible refine And.intro ?_ ?_)
        | with_reducible intro _
      all_goals first
        | omega
        | rfl
        | (simp; done)
        | skip
    case h4 =>
    simp (disch := omega) only [go_sem, wrap64_id, Int.tdiv_eq_ediv_of_nonneg, Int.tmod_eq_emod_of_nonneg]
    repeat' first
      | ((first | refine fnQ_pure1 ?_ ?_ | refine fnQ_pure0 ?_ ?_); (next => repeat' first | exact rvs_n | refine rvs_t ?_ | (simp [go_sem]; done)); simp only [go_sem]; (first | exact VLe.refl _ | refine VLe_int ?_ | refine VLe_bool ?_ | refine VLe_str ?_ | skip))
      | (with_reducible refine And.intro ?_ ?_)
      | with_reducible intro _
    all_goals first
      | omega
      | (rename_i hx; revert hx; simp; done)
      | (simp; done)
      | skip
    rw [if_pos (by rw [List.length_append, patsC_len]; simp; omega)]
    refine VLe_tup ⟨patsV_snoc (fun s => rfl) (fun l => rfl) (ile_slOf (by simp) (by simp only [go_sem]) (newS_len _ _ _).symm) rfl, VLe.refl _, trivial⟩
end HY
end

section
open Go Go.Proofs AF HY
namespace HY
set_option maxRecDepth 100000
end HY
end

section
open Go Go.Proofs AF HY
namespace HY
set_option maxRecDepth 100000
theorem okPats_without {p : List Pat} {w : List UInt8} (hok : okPats p) (hl : p.length ≤ 5000) (hw : w.length ≤ 1000) : okPats (withoutR p w) := by
  unfold withoutR
  split
  · exact ⟨by simp, fun i hi => by simp at hi⟩
  · split
    · exact hok
    · refine ⟨by rw [List.length_append, List.length_singleton]; omega, fun i hi => ?_⟩
      rw [List.length_append, List.length_singleton] at hi
      by_cases h : i < p.length
      · rw [List.getD_eq_getElem?_getD, List.getElem?_append_left h, ← List.getD_eq_getElem?_getD]
        exact hok.2 i h
      · have e : i = p.length := by omega
        subst e
        have e2 : (p ++ [newP p w]).getD p.length default = newP p w := by simp [List.getD_eq_getElem?_getD]
        rw [e2]
        unfold newP
        simp only
        have hcl := clus_len w
        have e3 : (newL (clus w).length (levelsOf p w)).length = (clus w).length + 3 := newS_len _ _ _
        rw [e3]
        simp [fold_len]
        omega
end HY
end

section
open Go Go.Proofs AF HY
namespace HY
set_option maxRecDepth 100000
set_option maxHeartbeats 4000000 in
theorem v94 (s : List UInt8) (p : UInt8 → Bool) (F : Nat) (cap : List AV) (h : List AObj) (hs : s.length ≤ 1000000000) (hp : ∀ (c : UInt8), ACalls Tryd.prog F (.int .u8 (c.toNat : Int) :: cap) h (.bool (p c)) h) : ACalls Tryd.prog 94 [bytesV s, .fn (.func F) [] cap] h (.int .i64 (findI p s 0)) h := by
  refine acalls_of fn94d (by simp) ?_
  simp only [List.length_cons, List.length_nil, Nat.reduceAdd, Nat.reduceSub, List.replicate, List.cons_append, List.nil_append, List.append_nil]
  simp (disch := omega) only [c94d, bytesV, go_sem, wrap64_id, Int.tdiv_eq_ediv_of_nonneg, Int.tmod_eq_emod_of_nonneg]
  repeat' first
    | ((first | refine fnQ_pure1 ?_ ?_ | refine fnQ_pure0 ?_ ?_); (next => repeat' first | exact rvs_n | refine rvs_t ?_ | (simp [go_sem]; done)); simp only [go_sem]; (first | exact VLe.refl _ | refine VLe_int ?_ | refine VLe_bool ?_ | refine VLe_str ?_ | skip))
    | (with_reducible refine And.intro ?_ ?_)
    | with_reducible intro _
  all_goals first
    | omega
    | (rename_i hx; revert hx; simp; done)
    | (simp; done)
    | skip
  refine loop_of (T := fun i : Nat => spar 19 [(0, bytesV s), (1, .fn (.func F) [] cap), (6, bytesV s), (7, .int .i64 s.length), (8, .int .i64 i)]) (H := fun _ => h) (inv := fun i => i ≤ s.length ∧ findI p s 0 = findI p (s.drop i) i) (m := fun i => s.length - i) 0 ⟨by omega, by simp⟩ (Wk.temps ?_) ?_
  · (simp only [bytesV, spar, List.foldl, List.replicate, go_sem, VLes_nil, VLes_cons, VLe_undef_iff, VLe_self]; try (repeat' first | (with_reducible refine And.intro ?_ ?_) | (refine VLe_int ?_; omega) | (refine VLe_bool ?_; rfl) | exact VLe.refl _))
  · rintro i ⟨i1, i2⟩ K hK
    rw [i2]
    by_cases hi : i < s.length
    · have e : s.drop i = s.getD i 0 :: s.drop (i + 1) := by rw [List.drop_eq_getElem_cons hi]; simp [List.getD_eq_getElem?_getD, hi]
      rw [e] at i2 ⊢
      simp only [findI] at i2 ⊢
      have hpc := hp (s.getD i 0)
      cases hb : p (s.getD i 0) with
      | true =>
        rw [hb] at hpc
        simp (disch := omega) only [spar, List.foldl, List.replicate, bytesV, go_sem, wrap64_id, Int.tdiv_eq_ediv_of_nonneg, Int.tmod_eq_emod_of_nonneg]
        repeat' first
          | (refine callV_pure (hpc) ?_; simp (disch := omega) only [bytesV, go_sem, wrap64_id, Int.tdiv_eq_ediv_of_nonneg, Int.tmod_eq_emod_of_nonneg])
          | ((first | refine fnQ_pure1 ?_ ?_ | refine fnQ_pure0 ?_ ?_); (next => repeat' first | exact rvs_n | refine rvs_t ?_ | (simp [go_sem]; done)); simp only [go_sem]; (first | exact VLe.refl _ | refine VLe_int ?_ | refine VLe_bool ?_ | refine VLe_str ?_ | skip))
          | (with_reducible refine And.intro ?_ ?_)
          | with_reducible intro _
        all_goals first
          | omega
          | (rename_i hx; revert hx; simp; done)
          | (simp; done)
          | skip
      | false =>
        rw [hb] at hpc i2
        simp (disch := omega) only [spar, List.foldl, List.replicate, bytesV, go_sem, wrap64_id, Int.tdiv_eq_ediv_of_nonneg, Int.tmod_eq_emod_of_nonneg]
        repeat' first
          | (refine callV_pure (hpc) ?_; simp (disch := omega) only [bytesV, go_sem, wrap64_id, Int.tdiv_eq_ediv_of_nonneg, Int.tmod_eq_emod_of_nonneg])
          | ((first | refine fnQ_pure1 ?_ ?_ | refine fnQ_pure0 ?_ ?_); (next => repeat' first | exact rvs_n | refine rvs_t ?_ | (simp [go_sem]; done)); simp only [go_sem]; (first | exact VLe.refl _ | refine VLe_int ?_ | refine VLe_bool ?_ | refine VLe_str ?_ | skip))
          | (with_reducible refine And.intro ?_ ?_)
          | with_reducible intro _
        all_goals first
          | omega
          | (rename_i hx; revert hx; simp; done)
          | (simp; done)
          | skip
        refine hK _ _ (i + 1) ⟨by omega, by rw [i2]; simp⟩ (by omega) (Wk.temps ?_)
        (simp only [bytesV, spar, List.foldl, List.replicate, go_sem, VLes_nil, VLes_cons, VLe_undef_iff, VLe_self]; try (repeat' first | (with_reducible refine And.intro ?_ ?_) | (refine VLe_int ?_; omega) | (refine VLe_bool ?_; rfl) | exact VLe.refl _))
    · have e : i = s.length := by omega
      subst e
      rw [List.drop_length]
      simp (disch := omega) only [spar, List.foldl, List.replicate, bytesV, go_sem, wrap64_id, Int.tdiv_eq_ediv_of_nonneg, Int.tmod_eq_emod_of_nonneg]
      repeat' first
        | ((first | refine fnQ_pure1 ?_ ?_ | refine fnQ_pure0 ?_ ?_); (next => repeat' first | exact rvs_n | refine rvs_t ?_ | (simp [go_sem]; done)); simp only [go_sem]; (first | exact VLe.refl _ | refine VLe_int ?_ | refine VLe_bool ?_ | refine VLe_str ?_ | skip))
        | (with_reducible refine And.intro ?_ ?_)
        | with_reducible intro _
      all_goals first
        | omega
        | (rename_i hx; revert hx; simp; done)
        | (simp; done)
        | skip
theorem v66 (s : List UInt8) (p : UInt8 → Bool) (F : Nat) (cap : List AV) (h : List AObj) (hs : s.length ≤ 1000000000) (hp : ∀ (c : UInt8), ACalls Tryd.prog F (.int .u8 (c.toNat : Int) :: cap) h (.bool (p c)) h) : ACalls Tryd.prog 66 [bytesV s, .fn (.func F) [] cap] h (.bool (s.any p)) h := by
  rw [← findI_any p s 0]
  refine acalls_of fn66d (by simp) ?_
  simp only [List.length_cons, List.length_nil, Nat.reduceAdd, Nat.reduceSub, List.replicate, List.cons_append, List.nil_append, List.append_nil]
  simp (disch := omega) only [c66d, bytesV, go_sem, wrap64_id, Int.tdiv_eq_ediv_of_nonneg, Int.tmod_eq_emod_of_nonneg]
  repeat' first
    | ((first | refine callA_pure ((v94 s p F cap _ hs hp)) ?_ ?_); (next => repeat' first | exact flags_n | refine flags_c (by first | rfl | assumption) ?_); simp (disch := omega) only [bytesV, go_sem, wrap64_id, Int.tdiv_eq_ediv_of_nonneg, Int.tmod_eq_emod_of_nonneg])
    | ((first | refine callG_pure (fun e => ⟨?_, (v94 s p F cap _ hs hp)⟩) ?_); (next => repeat' first | exact flags_n | refine flags_c (by first | rfl | assumption) ?_); simp (disch := omega) only [bytesV, go_sem, wrap64_id, Int.tdiv_eq_ediv_of_nonneg, Int.tmod_eq_emod_of_nonneg])
    | ((first | refine fnQ_pure1 ?_ ?_ | refine fnQ_pure0 ?_ ?_); (next => repeat' first | exact rvs_n | refine rvs_t ?_ | (simp [go_sem]; done)); simp only [go_sem]; (first | exact VLe.refl _ | refine VLe_int ?_ | refine VLe_bool ?_ | refine VLe_str ?_ | skip))
    | (with_reducible refine And.intro ?_ ?_)
    | with_reducible intro _
  all_goals first
    | omega
    | (rename_i hx; revert hx; simp; done)
    | (simp; done)
    | skip
theorem toU (c : UInt8) : ((c.toNat : Int).toNat.toUInt8) = c := by simp
theorem v67 (ch : List UInt8) (c : UInt8) (k v : Nat) (h : List AObj) (hk : cellsOf h k v = some [.str ch]) : ACalls Tryd.prog 67 [.int .u8 (c.toNat : Int), .op k v 0] h (.bool (decide (0 ≤ Go.Lib.indexByte ch c))) h := by
  have c68 := fun h => t126 ch (c.toNat : Int) h
  rw [toU] at c68
  refine acalls_of fn67d (by simp) ?_
  simp only [List.length_cons, List.length_nil, Nat.reduceAdd, Nat.reduceSub, List.replicate, List.cons_append, List.nil_append, List.append_nil]
  simp (disch := omega) only [c67d, hk, go_sem, wrap64_id, Int.tdiv_eq_ediv_of_nonneg, Int.tmod_eq_emod_of_nonneg]
  repeat' first
    | ((first | refine callA_pure (c68 _) ?_ ?_); (next => repeat' first | exact flags_n | refine flags_c (by first | rfl | assumption) ?_); simp (disch := omega) only [hk, go_sem, wrap64_id, Int.tdiv_eq_ediv_of_nonneg, Int.tmod_eq_emod_of_nonneg])
    | ((first | refine callU_of (fun _ => c68 _) ?_ ?_); (next => repeat' first | exact flags_n | refine flags_c (by first | rfl | assumption) ?_); simp (disch := omega) only [hk, go_sem, wrap64_id, Int.tdiv_eq_ediv_of_nonneg, Int.tmod_eq_emod_of_nonneg])
    | ((first | refine callG_pure (fun e => ⟨?_, c68 _⟩) ?_); (next => repeat' first | exact flags_n | refine flags_c (by first | rfl | assumption) ?_); simp (disch := omega) only [hk, go_sem, wrap64_id, Int.tdiv_eq_ediv_of_nonneg, Int.tmod_eq_emod_of_nonneg])
    | ((first | refine fnQ_pure1 ?_ ?_ | refine fnQ_pure0 ?_ ?_); (next => repeat' first | exact rvs_n | refine rvs_t ?_ | (simp [go_sem]; done)); simp only [go_sem]; (first | exact VLe.refl _ | refine VLe_int ?_ | refine VLe_bool ?_ | refine VLe_str ?_ | skip))
    | (with_reducible refine And.intro ?_ ?_)
    | with_reducible intro _
  all_goals first
    | omega
    | (rename_i hx; revert hx; simp; done)
    | (simp; done)
    | skip
theorem v35 (s ch : List UInt8) (h : List AObj) (hs : s.length ≤ 1000000000) : ACalls Tryd.prog 35 [.str s, .str ch] h (.bool (s.any fun c => decide (0 ≤ Go.Lib.indexByte ch c))) h := by
  have c66 := v66 s (fun c => decide (0 ≤ Go.Lib.indexByte ch c)) 67 [.op h.length 1 0] (h ++ [.mem 1 9 [.str ch]]) hs (fun c => v67 ch c h.length 1 _ (by simp only [go_sem]))
  refine acalls_of fn35d (by simp) ?_
  simp only [List.length_cons, List.length_nil, Nat.reduceAdd, Nat.reduceSub, List.replicate, List.cons_append, List.nil_append, List.append_nil]
  simp (disch := omega) only [c35d, go_sem, wrap64_id, Int.tdiv_eq_ediv_of_nonneg, Int.tmod_eq_emod_of_nonneg]
  repeat' first
    | ((first | refine callA_pure (c66) ?_ ?_); (next => repeat' first | exact flags_n | refine flags_c (by first | rfl | assumption) ?_); simp (disch := omega) only [go_sem, wrap64_id, Int.tdiv_eq_ediv_of_nonneg, Int.tmod_eq_emod_of_nonneg])
    | ((first | refine callG_pure (fun e => ⟨?_, c66⟩) ?_); (next => repeat' first | exact flags_n | refine flags_c (by first | rfl | assumption) ?_); simp (disch := omega) only [go_sem, wrap64_id, Int.tdiv_eq_ediv_of_nonneg, Int.tmod_eq_emod_of_nonneg])
    | ((first | refine fnQ_pure1 ?_ ?_ | refine fnQ_pure0 ?_ ?_); (next => repeat' first | exact rvs_n | refine rvs_t ?_ | (simp [go_sem]; done)); simp only [go_sem]; (first | exact VLe.refl _ | refine VLe_int ?_ | refine VLe_bool ?_ | refine VLe_str ?_ | skip))
    | (with_reducible refine And.intro ?_ ?_)
    | with_reducible intro _
  all_goals first
    | omega
    | (rename_i hx; revert hx; simp; done)
    | (simp; done)
    | skip
end HY
end

section
open Go Go.Proofs AF HY
namespace HY
set_option maxRecDepth 100000
theorem chn_app {vs : List (List UInt8)} (hv : Chn vs) : ∀ us, Chn us → (∀ u, ∀ v ∈ vs.head?, sepU u v) → Chn (us ++ vs) := by
  intro us
  induction us with
  | nil => intro _ _; exact hv
  | cons u r ih =>
    rintro ⟨h1, h2, h3⟩ hs
    refine ⟨h1, fun v hv => ?_, ih h3 hs⟩
    cases r with
    | nil => exact hs u v hv
    | cons x r => exact h2 v (by simpa using hv)
theorem chn_units (w : List UInt8) : Chn (unitsOf w) := by
  unfold unitsOf
  refine ⟨⟨46, [], rfl, by simp, by simp⟩, fun v hv => ?_, chn_app (show Chn [[46]] from ⟨⟨46, [], rfl, by simp, by simp⟩, by simp, trivial⟩) _ (chn_clus _) (fun u v hv => ?_)⟩
  · intro hc
    have : kind 46 = 1 := hc.2
    revert this
    decide
  · simp at hv
    subst hv
    intro hc
    have : kind 46 = 2 := hc.1
    revert this
    decide
theorem units_flat (w : List UInt8) : (unitsOf w).flatten = 46 :: fold w ++ [46] := by
  unfold unitsOf
  rw [List.flatten_cons, List.flatten_append, clus_join]
  rfl
theorem clus_dots (w : List UInt8) : clus (46 :: fold w ++ [46]) = unitsOf w := by rw [← units_flat, clus_chn _ (chn_units w)]
theorem fold_dots (w : List UInt8) : fold (46 :: fold w ++ [46]) = 46 :: fold w ++ [46] := by
  have e : fold (46 :: fold w ++ [46]) = foldB 46 :: (fold (fold w) ++ [foldB 46]) := by simp [fold]
  rw [e, fold_idem, (foldB_dot 46).2 rfl]
  rfl
theorem units_len (w : List UInt8) : (unitsOf w).length = (clus w).length + 2 := by simp [unitsOf, clus_fold_len]
theorem word_nodot {v : List UInt8} (hv : isWord v = true) : (46 : UInt8) ∉ fold v := by
  intro hm
  unfold fold at hm
  obtain ⟨c, hc, e⟩ := List.mem_map.1 hm
  have e := (foldB_dot c).1 e
  subst e
  unfold isWord at hv
  simp only [Bool.and_eq_true, Bool.not_eq_true', List.any_eq_false] at hv
  have := hv.2 _ hc
  revert this
  decide
theorem unit_dot {v : List UInt8} (hv : isWord v = true) {i : Nat} (h : (unitsOf v).getD i [] = [46]) : i = 0 ∨ i = (clus v).length + 1 := by
  apply Classical.byContradiction
  intro hn
  unfold unitsOf at h
  cases i with
  | zero => exact hn (.inl rfl)
  | succ i =>
    rw [List.getD_cons_succ, List.getD_eq_getElem?_getD] at h
    by_cases hi : i < (clus (fold v)).length
    · rw [List.getElem?_append_left hi, List.getElem?_eq_getElem hi] at h
      have h : (clus (fold v))[i] = [46] := h
      apply word_nodot hv
      rw [← clus_join (fold v), List.mem_flatten]
      exact ⟨_, List.getElem_mem hi, by rw [h]; simp⟩
    · rw [clus_fold_len] at hi
      have : (clus v).length + 1 ≤ i := by omega
      rw [List.getElem?_eq_none (by simp [clus_fold_len]; omega)] at h
      cases h
theorem match_get {pat l : List (List UInt8)} {i : Nat} (h : matchAt pat l i = true) {j : Nat} (hj : j < pat.length) : l.getD (i + j) [] = pat.getD j [] := by
  unfold matchAt at h
  rw [List.all_eq_true] at h
  simpa using h j (by simpa using hj)
theorem units_inj {v w : List UInt8} (h : unitsOf v = unitsOf w) : fold v = fold w := by
  have := congrArg List.flatten h
  rw [units_flat, units_flat] at this
  simpa using this
theorem get_last (w : List UInt8) : (unitsOf w).getD ((clus w).length + 1) [] = [46] := by
  unfold unitsOf
  rw [List.getD_cons_succ, List.getD_eq_getElem?_getD, List.getElem?_append_right (by rw [clus_fold_len]; omega), clus_fold_len, Nat.sub_self]
  rfl
theorem pos_other {v w : List UInt8} (hv : isWord v = true) (h : fold v ≠ fold w) : positions (unitsOf w) (unitsOf v) = [] := by
  unfold positions
  rw [List.filter_eq_nil_iff]
  intro i hi hm
  rw [List.mem_range, units_len, units_len] at hi
  have hm : matchAt (unitsOf w) (unitsOf v) i = true := hm
  have h0 := match_get hm (j := 0) (by rw [units_len]; omega)
  have e0 : (unitsOf w).getD 0 [] = [46] := rfl
  rw [e0] at h0
  have h1 := match_get hm (j := (clus w).length + 1) (by rw [units_len]; omega)
  rw [get_last] at h1
  have i0 := unit_dot hv h0
  have i1 := unit_dot hv h1
  have hi0 : i = 0 := by omega
  subst hi0
  have hn : (clus w).length = (clus v).length := by omega
  apply h
  apply units_inj
  apply List.ext_getElem
  · rw [units_len, units_len]; omega
  · intro j g1 g2
    have := match_get hm (j := j) g2
    rw [Nat.zero_add] at this
    rwa [List.getD_eq_getElem?_getD, List.getD_eq_getElem?_getD, List.getElem?_eq_getElem g1, List.getElem?_eq_getElem g2] at this
theorem pos_own (w : List UInt8) : positions (unitsOf w) (unitsOf w) = [0] := by
  unfold positions
  rw [show (unitsOf w).length + 1 - (unitsOf w).length = 1 by omega]
  have : matchAt (unitsOf w) (unitsOf w) 0 = true := by
    unfold matchAt
    rw [List.all_eq_true]
    intro j _
    simp
  show List.filter (matchAt (unitsOf w) (unitsOf w)) [0] = [0]
  simp [this]
theorem addAt_get : ∀ (r : List Int) (all : List Int) (a k : Nat), a + r.length ≤ all.length → (addAt all a r).getD k 0 = if a ≤ k ∧ k < a + r.length then max (all.getD k 0) (r.getD (k - a) 0) else all.getD k 0 := by
  intro r
  induction r with
  | nil => intro all a k _; rw [if_neg (by simp)]; rfl
  | cons x r ih =>
    intro all a k hl
    rw [List.length_cons] at hl ⊢
    simp only [addAt]
    rw [ih _ _ _ (by rw [List.length_set]; omega), getD_set]
    by_cases e : a = k
    · subst e
      rw [if_neg (show ¬ (a + 1 ≤ a ∧ a < a + 1 + r.length) from by omega), if_pos (show a = a ∧ a < all.length from ⟨rfl, by omega⟩), if_pos (show a ≤ a ∧ a < a + (r.length + 1) from by omega), Nat.sub_self]
      rfl
    · rw [if_neg (show ¬ (a = k ∧ k < all.length) from fun hc => e hc.1)]
      by_cases g : a + 1 ≤ k ∧ k < a + 1 + r.length
      · rw [if_pos g, if_pos (show a ≤ k ∧ k < a + (r.length + 1) from by omega), show k - a = k - (a + 1) + 1 by omega]
        rfl
      · rw [if_neg g, if_neg (show ¬ (a ≤ k ∧ k < a + (r.length + 1)) from by omega)]
theorem newP_units (p : List Pat) (w : List UInt8) : clus (fold (newP p w).letters) = unitsOf w := by
  show clus (fold (46 :: fold w ++ [46])) = unitsOf w
  rw [fold_dots, clus_dots]
theorem lev_new_own (p : List Pat) (w : List UInt8) (h0 : okLev (newP p w).levels) {k : Nat} (hk : k < (clus w).length - 1) :
    (levelsOf [newP p w] w).getD k 0 = (newL (clus w).length (levelsOf p w)).getD (k + 2) 0 := by
  rw [lev_get _ _ hk]
  have e : allLevels [newP p w] (unitsOf w) = addAt (List.replicate ((unitsOf w).length + 1) 0) 0 (newP p w).levels := by
    show addPat (unitsOf w) _ (newP p w) = _
    unfold addPat
    rw [newP_units, pos_own]
    rfl
  have hl : (newP p w).levels.length = (clus w).length + 3 := newS_len _ _ _
  rw [e, addAt_get _ _ _ _ (by rw [hl, List.length_replicate, units_len]; omega), if_pos (by omega), zeros_get]
  have hm : (newP p w).levels.getD (k + 2 - 0) 0 = (newL (clus w).length (levelsOf p w)).getD (k + 2) 0 := rfl
  rw [hm]
  have := h0 ((newL (clus w).length (levelsOf p w)).getD (k + 2) 0) (by
    rw [List.getD_eq_getElem?_getD, List.getElem?_eq_getElem (show k + 2 < (newL (clus w).length (levelsOf p w)).length from by show k + 2 < (newP p w).levels.length; omega)]
    exact List.getElem_mem _)
  omega
theorem lev_new_other (p : List Pat) {v w : List UInt8} (hv : isWord v = true) (h : fold v ≠ fold w) {k : Nat} (hk : k < (clus v).length - 1) : (levelsOf [newP p w] v).getD k 0 = 0 := by
  rw [lev_get _ _ hk]
  have e : allLevels [newP p w] (unitsOf v) = List.replicate ((unitsOf v).length + 1) 0 := by
    show addPat (unitsOf v) _ (newP p w) = _
    unfold addPat
    rw [newP_units, pos_other hv h]
    rfl
  rw [e, zeros_get]
end HY
end

section
open Go Go.Proofs AF HY
namespace HY
set_option maxRecDepth 100000
theorem ok_new {p : List Pat} {w : List UInt8} (hc : checkPats p = 0) (h9 : 9 ∉ highR p w) : okLev (newP p w).levels := by
  intro x hx
  obtain ⟨j, hj, e⟩ := List.getElem_of_mem hx
  have hl : (newP p w).levels.length = (clus w).length + 3 := newS_len _ _ _
  rw [hl] at hj
  have e : (newL (clus w).length (levelsOf p w)).getD j 0 = x := by
    rw [List.getD_eq_getElem?_getD, List.getElem?_eq_getElem (show j < (newL (clus w).length (levelsOf p w)).length from by show j < (newP p w).levels.length; omega)]
    exact e
  constructor
  · rw [← e, newL_get hj]
    split
    · have := (lev_range (w := w) hc (j - 2)).1
      omega
    · omega
  · apply Classical.byContradiction
    intro hn
    apply h9
    exact (big_iff hc).1 ⟨j, hj, by omega⟩
theorem word_kind {w : List UInt8} (hw : isWord w = true) : ∀ c ∈ w, kind c ≠ 0 := by
  intro c hc
  have h2 : checkC w = 0 := by
    unfold isWord at hw
    simp only [Bool.and_eq_true, decide_eq_true_eq] at hw
    exact hw.1.1.2
  rw [← clus_join w] at hc
  obtain ⟨u, hu, hcu⟩ := List.mem_flatten.1 hc
  unfold checkC at h2
  split at h2
  · cases h2
  split at h2
  · cases h2
  rename_i hb
  obtain ⟨a, m, rfl, h3, h4⟩ := chn_get (chn_clus w) u hu
  have ha : kind a ≠ 0 := by
    intro e
    apply hb
    rw [List.any_eq_true]
    refine ⟨_, hu, ?_⟩
    unfold badHead
    have : ch (a :: m) 0 = a := rfl
    rw [this, e]
    rfl
  rcases List.mem_cons.1 hcu with rfl | hcm
  · exact ha
  · rw [h3 c hcm]
    decide
theorem inner_dots (f : List UInt8) (h46 : f ≠ []) : inner (46 :: f ++ [46]) = f := by
  have h1 : trimPre (46 :: f ++ [46]) [46] = f ++ [46] := by
    unfold trimPre
    rw [if_pos (by simp [hasPre])]
    rfl
  unfold inner
  rw [h1]
  unfold trimSuf
  have h2 : hasSuf (f ++ [46]) [46] = true := by
    unfold hasSuf
    simp
  rw [if_pos h2]
  simp
theorem check_new {p : List Pat} {w : List UInt8} (hc : checkPats p = 0) (hw : isWord w = true) (hd : w.any dg = false) (h9 : 9 ∉ highR p w) (hl : w.length ≤ 62) : checkPat (newP p w) = 0 := by
  have hw0 := hw
  unfold isWord at hw0
  simp only [Bool.and_eq_true, decide_eq_true_eq, Bool.not_eq_true', List.any_eq_false, Bool.or_eq_true] at hw0
  obtain ⟨⟨⟨⟨hp, _⟩, hcc⟩, _⟩, hk⟩ := hw0
  have hf : fold w ≠ [] := by
    rw [ne_eq, fold_nil]
    intro e
    subst e
    simp at hp
  have e1 : (newP p w).letters = 46 :: fold w ++ [46] := rfl
  have e2 : inner (newP p w).letters = fold w := by rw [e1]; exact inner_dots _ hf
  have e3 : (newP p w).levels.length = (clus w).length + 3 := newS_len _ _ _
  have e4 : ∀ j, (newP p w).levels.getD j 0 = (newL (clus w).length (levelsOf p w)).getD j 0 := fun _ => rfl
  unfold checkPat
  rw [e2]
  rw [if_neg (show ¬ 64 < (newP p w).letters.length from by rw [e1]; simp [fold_len]; omega)]
  rw [if_neg (show ¬ (fold w).any (fun c => !onlyC c) = true from ?_)]
  · rw [if_neg (show ¬ checkC (fold w) ≠ 0 from by rw [checkC_fold]; exact fun h => h hcc), if_neg hf]
    rw [if_neg (show ¬ (newP p w).levels.length ≠ (clus (newP p w).letters).length + 1 from ?_)]
    · rw [if_neg]
      rintro (h | h | h)
      · rw [List.any_eq_true] at h
        obtain ⟨x, hx, hb⟩ := h
        have := ok_new hc h9 x hx
        unfold badLev at hb
        simp only [Bool.or_eq_true, decide_eq_true_eq] at hb
        omega
      · apply h.2
        rw [e4, newL_get (by omega), if_neg]
        rw [show 0 - 2 = 0 from rfl, hit_zero]
        simp
      · apply h.2
        rw [e3, e4, newL_get (by omega), if_neg]
        intro hh
        obtain ⟨_, _, h4⟩ := hit_pos hh
        omega
    · rw [e1, clus_dots, units_len, e3]
      simp
  · rw [any_fold (p := fun c => !onlyC c) (fun c => by unfold onlyC; rw [kind_foldB])]
    intro h
    rw [List.any_eq_true] at h
    obtain ⟨c, hcm, hb⟩ := h
    have k0 := word_kind hw c hcm
    have kr := kind_range c
    have k5 := hk c hcm
    rw [List.any_eq_false] at hd
    have k3 := hd c hcm
    unfold dg at k3
    rw [decide_eq_true_eq] at k3
    have k3 : ¬ kind c = 3 := k3
    unfold onlyC at hb
    simp only [Bool.not_eq_true', Bool.or_eq_false_iff, decide_eq_false_iff_not] at hb
    omega
theorem check_forb {p : List Pat} {w : List UInt8} (hc : checkPats p = 0) (hw : isWord w = true) (hd : w.any dg = false) (h9 : 9 ∉ highR p w) (hl : w.length ≤ 62) (hp : p.length < 4096) : checkPats (p ++ [newP p w]) = 0 := by
  refine check_of (by simp; omega) (fun x hx => ?_)
  rcases List.mem_append.1 hx with h | h
  · exact check_all hc x h
  · rw [List.mem_singleton] at h
    subst h
    exact check_new hc hw hd h9 hl
theorem lev_forb {p : List Pat} {w v : List UInt8} (hc : checkPats p = 0) (h9 : 9 ∉ highR p w) {k : Nat} (hk : k < (clus v).length - 1) :
    (levelsOf (p ++ [newP p w]) v).getD k 0 = max ((levelsOf p v).getD k 0) ((levelsOf [newP p w] v).getD k 0) ∧ 0 ≤ (levelsOf p v).getD k 0 := by
  have := lev_max p [newP p w] v (fun x hx => okLev_check (check_all hc x hx)) (fun x hx => by rw [List.mem_singleton] at hx; subst hx; exact ok_new hc h9) hk
  exact ⟨this.1, this.2.1⟩
theorem forb_w {p : List Pat} {w : List UInt8} (hc : checkPats p = 0) (h9 : 9 ∉ highR p w) : pointsR (p ++ [newP p w]) w = [] := by
  unfold pointsR
  split
  · unfold ptAt ptIdx
    rw [List.map_eq_nil_iff, List.filter_eq_nil_iff]
    intro k hk hh
    rw [List.mem_range] at hk
    obtain ⟨h1, h2, h3⟩ := hit_pos hh
    obtain ⟨e, h0⟩ := lev_forb (v := w) hc h9 hk
    rw [e, lev_new_own p w (ok_new hc h9) hk, newL_get (by omega), Nat.add_sub_cancel] at h1
    by_cases g : hitP (clus w).length (levelsOf p w) k = true
    · rw [if_pos g] at h1
      obtain ⟨g1, _, _⟩ := hit_pos g
      rw [Int.max_eq_right (by omega), Int.tmod_eq_emod_of_nonneg (by omega)] at h1
      rw [Int.tmod_eq_emod_of_nonneg h0] at g1
      omega
    · rw [if_neg g, Int.max_eq_left h0] at h1
      apply g
      unfold hitP
      rw [decide_eq_true h1, decide_eq_true h2, decide_eq_true h3]
      rfl
  · rfl
theorem forb_v {p : List Pat} {w v : List UInt8} (hc : checkPats p = 0) (h9 : 9 ∉ highR p w) (hv : isWord v = true) (hf : fold v ≠ fold w) (s1 : startE p v = 0) (s2 : startE (p ++ [newP p w]) v = 0) : pointsR (p ++ [newP p w]) v = pointsR p v := by
  have e : levelsOf (p ++ [newP p w]) v = levelsOf p v := by
    refine list_ext (by rw [levelsOf_len, levelsOf_len]) (fun k hk => ?_)
    rw [levelsOf_len] at hk
    obtain ⟨e, h0⟩ := lev_forb (v := v) hc h9 hk
    rw [e, lev_new_other p hv hf hk, Int.max_eq_left h0]
  unfold pointsR
  rw [if_pos s1, if_pos s2, e]
theorem some_dg (w : List UInt8) : (w.any fun c => decide (0 ≤ Go.Lib.indexByte [48, 49, 50, 51, 52, 53, 54, 55, 56, 57] c)) = w.any dg := by
  congr 1
  funext c
  have h : ∀ n : Fin 256, decide (0 ≤ Go.Lib.indexByte [48, 49, 50, 51, 52, 53, 54, 55, 56, 57] (UInt8.ofNat n.val)) = dg (UInt8.ofNat n.val) := by decide +kernel
  have := h ⟨c.toNat, c.toNat_lt⟩
  simpa using this
theorem nine_levels {p : List Pat} {w : List UInt8} (h : 9 ∈ highR p w) : 9 ∈ levelsOf p w := by
  unfold highR ptHi ptIdx at h
  obtain ⟨k, hk, e⟩ := List.mem_map.1 h
  rw [List.mem_filter, List.mem_range] at hk
  rw [← e, List.getD_eq_getElem?_getD, List.getElem?_eq_getElem (by rw [levelsOf_len]; exact hk.1)]
  exact List.getElem_mem _
end HY
end

section
open Go Go.Proofs AF HY
namespace HY
set_option maxRecDepth 100000
theorem forb_ok {p : List Pat} {w v : List UInt8} (Fp : Fine p) (hw1 : w.length ≤ 20) (hw2 : isWord w = true) (hv2 : isWord v = true) (he : withoutE p w = 0) :
    okPats (withoutR p w) ∧ checkPats (withoutR p w) = 0 ∧ pointsR (withoutR p w) w = [] ∧ (fold v = fold w → pointsR (withoutR p w) v = []) ∧ (fold v ≠ fold w → pointsR (withoutR p w) v = pointsR p v) := by
  have s1 := start_fine Fp.check hw2
  have sf : ∀ {q : List Pat} {u : List UInt8}, checkPats q = 0 → isWord u = true → pointsR q (fold u) = pointsR q u := fun hq hu => points_fold _ _ (start_fine hq hu) (start_fine hq (by rw [isWord_fold]; exact hu))
  have hl := Fp.len
  have ho := okPats_without (w := w) Fp.ok (by omega) (by omega)
  by_cases h0 : pointsR p w = []
  · obtain ⟨e1, e2⟩ := we_none s1 h0
    rw [e2]
    refine ⟨Fp.ok, Fp.check, h0, fun hf => ?_, fun _ => rfl⟩
    rw [← sf Fp.check hv2, hf, sf Fp.check hw2, h0]
  · cases hd : w.any dg with
    | true =>
      have := (we_dig s1 h0 hd).1
      omega
    | false =>
    by_cases h9 : 62 < w.length ∨ 9 ∈ highR p w ∨ p.length = 4096
    · have := (we_lim s1 h0 hd h9).1
      omega
    · obtain ⟨e1, e2⟩ := we_ok s1 h0 hd h9
      have h9 : 9 ∉ highR p w := fun hc => h9 (.inr (.inl hc))
      have hc := check_forb Fp.check hw2 hd h9 (by omega) (by omega)
      have hx := forb_w Fp.check h9
      rw [e2] at ho ⊢
      refine ⟨ho, hc, hx, fun hf => ?_, fun hf => ?_⟩
      · rw [← sf hc hv2, hf, sf hc hw2, hx]
      · exact forb_v Fp.check h9 hv2 hf (start_fine Fp.check hv2) (start_fine hc hv2)
theorem forb_bad {p : List Pat} {w : List UInt8} (Fp : Fine p) (hw1 : w.length ≤ 20) (hw2 : isWord w = true) (he : withoutE p w ≠ 0) :
    withoutR p w = [] ∧ ((withoutE p w = 11 ∧ w.any dg = true) ∨ (withoutE p w = 4 ∧ 9 ∈ levelsOf p w)) := by
  have s1 := start_fine Fp.check hw2
  have hl := Fp.len
  by_cases h0 : pointsR p w = []
  · exact absurd (we_none s1 h0).1 he
  · cases hd : w.any dg with
    | true =>
      obtain ⟨e1, e2⟩ := we_dig s1 h0 hd
      exact ⟨e2, .inl ⟨e1, rfl⟩⟩
    | false =>
    by_cases h9 : 62 < w.length ∨ 9 ∈ highR p w ∨ p.length = 4096
    · obtain ⟨e1, e2⟩ := we_lim s1 h0 hd h9
      refine ⟨e2, .inr ⟨e1, nine_levels ?_⟩⟩
      rcases h9 with h | h | h
      · omega
      · exact h
      · omega
    · exact absurd (we_ok s1 h0 hd h9).1 he
theorem mm3 : valP (.mm true) [.int .i64 0, .int .i64 0, .int .i64 0] = .int .i64 0 := rfl
theorem okmm3 : okP (.mm true) [.int .i64 0, .int .i64 0, .int .i64 0] = True := by simp [okP, intC]
set_option maxHeartbeats 16000000 in
theorem v8 (p : List Pat) (w v : List UInt8) (h : List AObj) (hp : p.length ≤ 9223372036854775807) : ACalls Tryd.prog 8 [patsV p, .str w, .str v] h (.bool true) h := by
  have c11p := fun h => u11 p h hp
  have c12 := fun h => u12 w h
  have c12v := fun h => u12 v h
  cases hfp : fineH p with
  | false =>
    rw [hfp] at c11p
    refine acalls_of fn8d (by simp) ?_
    simp only [List.length_cons, List.length_nil, Nat.reduceAdd, Nat.reduceSub, List.replicate, List.cons_append, List.nil_append, List.append_nil]
    simp (disch := omega) only [c8d, go_sem, wrap64_id, Int.tdiv_eq_ediv_of_nonneg, Int.tmod_eq_emod_of_nonneg]
    repeat' first
      | (refine callG_false ((.bool false)) ?_; simp (disch := omega) only [go_sem, wrap64_id, Int.tdiv_eq_ediv_of_nonneg, Int.tmod_eq_emod_of_nonneg])
      | ((first | refine callA_pure (c11p _) ?_ ?_ | refine callA_pure (u13 _) ?_ ?_); (next => repeat' first | exact flags_n | refine flags_c (by first | rfl | assumption) ?_); simp (disch := omega) only [go_sem, wrap64_id, Int.tdiv_eq_ediv_of_nonneg, Int.tmod_eq_emod_of_nonneg])
      | ((first | refine callU_of (fun _ => c11p _) ?_ ?_ | refine callU_of (fun _ => u13 _) ?_ ?_); (next => repeat' first | exact flags_n | refine flags_c (by first | rfl | assumption) ?_); simp (disch := omega) only [go_sem, wrap64_id, Int.tdiv_eq_ediv_of_nonneg, Int.tmod_eq_emod_of_nonneg])
      | ((first | refine callG_pure (fun e => ⟨?_, c11p _⟩) ?_ | refine callG_pure (fun e => ⟨?_, u13 _⟩) ?_); (next => repeat' first | exact flags_n | refine flags_c (by first | rfl | assumption) ?_); simp (disch := omega) only [go_sem, wrap64_id, Int.tdiv_eq_ediv_of_nonneg, Int.tmod_eq_emod_of_nonneg])
      | ((first | refine fnQ_pure1 ?_ ?_ | refine fnQ_pure0 ?_ ?_); (next => repeat' first | exact rvs_n | refine rvs_t ?_ | (simp [go_sem]; done)); simp only [go_sem]; (first | exact VLe.refl _ | refine VLe_int ?_ | refine VLe_bool ?_ | refine VLe_str ?_ | skip))
      | (with_reducible refine And.intro ?_ ?_)
      | with_reducible intro _
    all_goals first
      | omega
      | (rename_i hx; revert hx; simp; done)
      | (simp; done)
      | skip
  | true =>
  rw [hfp] at c11p
  cases hfw : wordH w with
  | false =>
    rw [hfw] at c12
    refine acalls_of fn8d (by simp) ?_
    simp only [List.length_cons, List.length_nil, Nat.reduceAdd, Nat.reduceSub, List.replicate, List.cons_append, List.nil_append, List.append_nil]
    simp (disch := omega) only [c8d, go_sem, wrap64_id, Int.tdiv_eq_ediv_of_nonneg, Int.tmod_eq_emod_of_nonneg]
    repeat' first
      | (refine callG_false ((.bool false)) ?_; simp (disch := omega) only [go_sem, wrap64_id, Int.tdiv_eq_ediv_of_nonneg, Int.tmod_eq_emod_of_nonneg])
      | ((first | refine callA_pure (c11p _) ?_ ?_ | refine callA_pure (c12 _) ?_ ?_ | refine callA_pure (u13 _) ?_ ?_); (next => repeat' first | exact flags_n | refine flags_c (by first | rfl | assumption) ?_); simp (disch := omega) only [go_sem, wrap64_id, Int.tdiv_eq_ediv_of_nonneg, Int.tmod_eq_emod_of_nonneg])
      | ((first | refine callU_of (fun _ => c11p _) ?_ ?_ | refine callU_of (fun _ => c12 _) ?_ ?_ | refine callU_of (fun _ => u13 _) ?_ ?_); (next => repeat' first | exact flags_n | refine flags_c (by first | rfl | assumption) ?_); simp (disch := omega) only [go_sem, wrap64_id, Int.tdiv_eq_ediv_of_nonneg, Int.tmod_eq_emod_of_nonneg])
      | ((first | refine callG_pure (fun e => ⟨?_, c11p _⟩) ?_ | refine callG_pure (fun e => ⟨?_, c12 _⟩) ?_ | refine callG_pure (fun e => ⟨?_, u13 _⟩) ?_); (next => repeat' first | exact flags_n | refine flags_c (by first | rfl | assumption) ?_); simp (disch := omega) only [go_sem, wrap64_id, Int.tdiv_eq_ediv_of_nonneg, Int.tmod_eq_emod_of_nonneg])
      | ((first | refine fnQ_pure1 ?_ ?_ | refine fnQ_pure0 ?_ ?_); (next => repeat' first | exact rvs_n | refine rvs_t ?_ | (simp [go_sem]; done)); simp only [go_sem]; (first | exact VLe.refl _ | refine VLe_int ?_ | refine VLe_bool ?_ | refine VLe_str ?_ | skip))
      | (with_reducible refine And.intro ?_ ?_)
      | with_reducible intro _
    all_goals first
      | omega
      | (rename_i hx; revert hx; simp; done)
      | (simp; done)
      | skip
  | true =>
  rw [hfw] at c12
  cases hfv : wordH v with
  | false =>
    rw [hfv] at c12v
    refine acalls_of fn8d (by simp) ?_
    simp only [List.length_cons, List.length_nil, Nat.reduceAdd, Nat.reduceSub, List.replicate, List.cons_append, List.nil_append, List.append_nil]
    simp (disch := omega) only [c8d, go_sem, wrap64_id, Int.tdiv_eq_ediv_of_nonneg, Int.tmod_eq_emod_of_nonneg]
    repeat' first
      | ((first | refine callA_pure (c11p _) ?_ ?_ | refine callA_pure (c12 _) ?_ ?_ | refine callA_pure (c12v _) ?_ ?_ | refine callA_pure (u13 _) ?_ ?_); (next => repeat' first | exact flags_n | refine flags_c (by first | rfl | assumption) ?_); simp (disch := omega) only [go_sem, wrap64_id, Int.tdiv_eq_ediv_of_nonneg, Int.tmod_eq_emod_of_nonneg])
      | ((first | refine callU_of (fun _ => c11p _) ?_ ?_ | refine callU_of (fun _ => c12 _) ?_ ?_ | refine callU_of (fun _ => c12v _) ?_ ?_ | refine callU_of (fun _ => u13 _) ?_ ?_); (next => repeat' first | exact flags_n | refine flags_c (by first | rfl | assumption) ?_); simp (disch := omega) only [go_sem, wrap64_id, Int.tdiv_eq_ediv_of_nonneg, Int.tmod_eq_emod_of_nonneg])
      | ((first | refine callG_pure (fun e => ⟨?_, c11p _⟩) ?_ | refine callG_pure (fun e => ⟨?_, c12 _⟩) ?_ | refine callG_pure (fun e => ⟨?_, c12v _⟩) ?_ | refine callG_pure (fun e => ⟨?_, u13 _⟩) ?_); (next => repeat' first | exact flags_n | refine flags_c (by first | rfl | assumption) ?_); simp (disch := omega) only [go_sem, wrap64_id, Int.tdiv_eq_ediv_of_nonneg, Int.tmod_eq_emod_of_nonneg])
      | ((first | refine fnQ_pure1 ?_ ?_ | refine fnQ_pure0 ?_ ?_); (next => repeat' first | exact rvs_n | refine rvs_t ?_ | (simp [go_sem]; done)); simp only [go_sem]; (first | exact VLe.refl _ | refine VLe_int ?_ | refine VLe_bool ?_ | refine VLe_str ?_ | skip))
      | (with_reducible refine And.intro ?_ ?_)
      | with_reducible intro _
    all_goals first
      | omega
      | (rename_i hx; revert hx; simp; done)
      | (simp; done)
      | skip
  | true =>
  rw [hfv] at c12v
  have Fp := fine_of hfp
  have hw := hfw
  unfold wordH at hw
  simp only [Bool.and_eq_true, decide_eq_true_eq] at hw
  obtain ⟨hw1, hw2⟩ := hw
  have hv := hfv
  unfold wordH at hv
  simp only [Bool.and_eq_true, decide_eq_true_eq] at hv
  obtain ⟨hv1, hv2⟩ := hv
  have s1 := start_fine Fp.check hw2
  have s2 := start_fine Fp.check hv2
  have c32 := fun h => v32 p w h Fp.ok (by omega)
  by_cases he : withoutE p w = 0
  · obtain ⟨q1, q2, q3, q4, q5⟩ := forb_ok (v := v) Fp hw1 hw2 hv2 he
    rw [he] at c32
    obtain ⟨q, hq⟩ : ∃ q, q = withoutR p w := ⟨_, rfl⟩
    rw [← hq] at c32 q1 q2 q3 q4 q5
    have c19w := fun h => t89 q w h q1 (by omega)
    rw [q3, start_fine q2 hw2, intsN_nil] at c19w
    have c19p := fun h => t89 p v h Fp.ok (by omega)
    rw [s2] at c19p
    have c19v := fun h => t89 q v h q1 (by omega)
    rw [start_fine q2 hv2] at c19v
    have c25 := fun h => t64 q h q1
    rw [q2] at c25
    have c18v := fun h => t141 v h (by omega)
    have c18w := fun h => t141 w h (by omega)
    have hpl := points_len p v
    obtain ⟨B, hB⟩ : ∃ B, B = pointsR p v := ⟨_, rfl⟩
    rw [← hB] at c19p q5 hpl
    obtain ⟨f1, hf1⟩ : ∃ f1, f1 = fold v := ⟨_, rfl⟩
    obtain ⟨f2, hf2⟩ : ∃ f2, f2 = fold w := ⟨_, rfl⟩
    rw [← hf1] at c18v q4 q5
    rw [← hf2] at c18w q4 q5
    by_cases hf : f1 = f2
    · rw [q4 hf, intsN_nil] at c19v
      have k1 : (f1 = f2) = True := eq_true hf
      refine acalls_of fn8d (by simp) ?_
      simp only [List.length_cons, List.length_nil, Nat.reduceAdd, Nat.reduceSub, List.replicate, List.cons_append, List.nil_append, List.append_nil]
      simp (disch := omega) only [c8d, k1, mm3, okmm3, go_sem, wrap64_id, Int.tdiv_eq_ediv_of_nonneg, Int.tmod_eq_emod_of_nonneg]
      repeat' first
        | ((first | refine callA_pure (c11p _) ?_ ?_ | refine callA_pure (c12 _) ?_ ?_ | refine callA_pure (c12v _) ?_ ?_ | refine callA_pure (c32 _) ?_ ?_ | refine callA_pure (c19w _) ?_ ?_ | refine callA_pure (c19p _) ?_ ?_ | refine callA_pure (c19v _) ?_ ?_ | refine callA_pure (c25 _) ?_ ?_ | refine callA_pure (c18v _) ?_ ?_ | refine callA_pure (c18w _) ?_ ?_ | refine callA_pure (u13 _) ?_ ?_); (next => repeat' first | exact flags_n | refine flags_c (by first | rfl | assumption) ?_); simp (disch := omega) only [k1, mm3, okmm3, go_sem, wrap64_id, Int.tdiv_eq_ediv_of_nonneg, Int.tmod_eq_emod_of_nonneg])
        | ((first | refine callU_of (fun _ => c11p _) ?_ ?_ | refine callU_of (fun _ => c12 _) ?_ ?_ | refine callU_of (fun _ => c12v _) ?_ ?_ | refine callU_of (fun _ => c32 _) ?_ ?_ | refine callU_of (fun _ => c19w _) ?_ ?_ | refine callU_of (fun _ => c19p _) ?_ ?_ | refine callU_of (fun _ => c19v _) ?_ ?_ | refine callU_of (fun _ => c25 _) ?_ ?_ | refine callU_of (fun _ => c18v _) ?_ ?_ | refine callU_of (fun _ => c18w _) ?_ ?_ | refine callU_of (fun _ => u13 _) ?_ ?_); (next => repeat' first | exact flags_n | refine flags_c (by first | rfl | assumption) ?_); simp (disch := omega) only [k1, mm3, okmm3, go_sem, wrap64_id, Int.tdiv_eq_ediv_of_nonneg, Int.tmod_eq_emod_of_nonneg])
        | ((first | refine callG_pure (fun e => ⟨?_, c11p _⟩) ?_ | refine callG_pure (fun e => ⟨?_, c12 _⟩) ?_ | refine callG_pure (fun e => ⟨?_, c12v _⟩) ?_ | refine callG_pure (fun e => ⟨?_, c32 _⟩) ?_ | refine callG_pure (fun e => ⟨?_, c19w _⟩) ?_ | refine callG_pure (fun e => ⟨?_, c19p _⟩) ?_ | refine callG_pure (fun e => ⟨?_, c19v _⟩) ?_ | refine callG_pure (fun e => ⟨?_, c25 _⟩) ?_ | refine callG_pure (fun e => ⟨?_, c18v _⟩) ?_ | refine callG_pure (fun e => ⟨?_, c18w _⟩) ?_ | refine callG_pure (fun e => ⟨?_, u13 _⟩) ?_); (next => repeat' first | exact flags_n | refine flags_c (by first | rfl | assumption) ?_); simp (disch := omega) only [k1, mm3, okmm3, go_sem, wrap64_id, Int.tdiv_eq_ediv_of_nonneg, Int.tmod_eq_emod_of_nonneg])
        | ((first | refine fnQ_pure1 ?_ ?_ | refine fnQ_pure0 ?_ ?_); (next => repeat' first | exact rvs_n | refine rvs_t ?_ | (simp [go_sem]; done)); simp only [go_sem]; (first | exact VLe.refl _ | refine VLe_int ?_ | refine VLe_bool ?_ | refine VLe_str ?_ | skip))
        | (with_reducible refine And.intro ?_ ?_)
        | with_reducible intro _
      all_goals first
        | omega
        | (rename_i hx; revert hx; simp; done)
        | (simp; done)
        | skip
    · rw [q5 hf] at c19v
      have k1 : (f1 = f2) = False := eq_false hf
      have hfl := flag_intsN B
      have c17 : ∀ h, ACalls Tryd.prog 17 (strips [intsN B, intsN B]) h (.bool true) h := fun h => by rw [strips_cons, strips_cons, strip_intsN]; exact u17n B h (by omega)
      refine acalls_of fn8d (by simp) ?_
      simp only [List.length_cons, List.length_nil, Nat.reduceAdd, Nat.reduceSub, List.replicate, List.cons_append, List.nil_append, List.append_nil]
      simp (disch := omega) only [c8d, k1, mm3, okmm3, go_sem, wrap64_id, Int.tdiv_eq_ediv_of_nonneg, Int.tmod_eq_emod_of_nonneg]
      repeat' first
        | ((first | refine callA_pure (c11p _) ?_ ?_ | refine callA_pure (c12 _) ?_ ?_ | refine callA_pure (c12v _) ?_ ?_ | refine callA_pure (c32 _) ?_ ?_ | refine callA_pure (c19w _) ?_ ?_ | refine callA_pure (c19p _) ?_ ?_ | refine callA_pure (c19v _) ?_ ?_ | refine callA_pure (c25 _) ?_ ?_ | refine callA_pure (c18v _) ?_ ?_ | refine callA_pure (c18w _) ?_ ?_ | refine callA_pure (c17 _) ?_ ?_ | refine callA_pure (u13 _) ?_ ?_); (next => repeat' first | exact flags_n | refine flags_c (by first | rfl | assumption) ?_); simp (disch := omega) only [k1, mm3, okmm3, go_sem, wrap64_id, Int.tdiv_eq_ediv_of_nonneg, Int.tmod_eq_emod_of_nonneg])
        | ((first | refine callU_of (fun _ => c11p _) ?_ ?_ | refine callU_of (fun _ => c12 _) ?_ ?_ | refine callU_of (fun _ => c12v _) ?_ ?_ | refine callU_of (fun _ => c32 _) ?_ ?_ | refine callU_of (fun _ => c19w _) ?_ ?_ | refine callU_of (fun _ => c19p _) ?_ ?_ | refine callU_of (fun _ => c19v _) ?_ ?_ | refine callU_of (fun _ => c25 _) ?_ ?_ | refine callU_of (fun _ => c18v _) ?_ ?_ | refine callU_of (fun _ => c18w _) ?_ ?_ | refine callU_of (fun _ => c17 _) ?_ ?_ | refine callU_of (fun _ => u13 _) ?_ ?_); (next => repeat' first | exact flags_n | refine flags_c (by first | rfl | assumption) ?_); simp (disch := omega) only [k1, mm3, okmm3, go_sem, wrap64_id, Int.tdiv_eq_ediv_of_nonneg, Int.tmod_eq_emod_of_nonneg])
        | ((first | refine callG_pure (fun e => ⟨?_, c11p _⟩) ?_ | refine callG_pure (fun e => ⟨?_, c12 _⟩) ?_ | refine callG_pure (fun e => ⟨?_, c12v _⟩) ?_ | refine callG_pure (fun e => ⟨?_, c32 _⟩) ?_ | refine callG_pure (fun e => ⟨?_, c19w _⟩) ?_ | refine callG_pure (fun e => ⟨?_, c19p _⟩) ?_ | refine callG_pure (fun e => ⟨?_, c19v _⟩) ?_ | refine callG_pure (fun e => ⟨?_, c25 _⟩) ?_ | refine callG_pure (fun e => ⟨?_, c18v _⟩) ?_ | refine callG_pure (fun e => ⟨?_, c18w _⟩) ?_ | refine callG_pure (fun e => ⟨?_, c17 _⟩) ?_ | refine callG_pure (fun e => ⟨?_, u13 _⟩) ?_); (next => repeat' first | exact flags_n | refine flags_c (by first | rfl | assumption) ?_); simp (disch := omega) only [k1, mm3, okmm3, go_sem, wrap64_id, Int.tdiv_eq_ediv_of_nonneg, Int.tmod_eq_emod_of_nonneg])
        | ((first | refine fnQ_pure1 ?_ ?_ | refine fnQ_pure0 ?_ ?_); (next => repeat' first | exact rvs_n | refine rvs_t ?_ | (simp [go_sem]; done)); simp only [go_sem]; (first | exact VLe.refl _ | refine VLe_int ?_ | refine VLe_bool ?_ | refine VLe_str ?_ | skip))
        | (with_reducible refine And.intro ?_ ?_)
        | with_reducible intro _
      all_goals first
        | omega
        | (rename_i hx; revert hx; simp; done)
        | (simp; done)
        | skip
  · obtain ⟨q1, q2⟩ := forb_bad Fp hw1 hw2 he
    rw [q1] at c32
    have c14 := fun h => u14 p w h Fp.ok (by omega)
    rw [levR_fine s1, s1] at c14
    have hll := levelsOf_len p w
    have hcl := clus_len w
    obtain ⟨L, hL⟩ : ∃ L, L = levelsOf p w := ⟨_, rfl⟩
    rw [← hL] at c14 q2 hll
    have k1 : patsV [] = .sl 0 (fun i => patC ((([] : List Pat)).getD i default)) := rfl
    rw [k1] at c32
    rcases q2 with ⟨g1, g2⟩ | ⟨g1, g2⟩
    · rw [g1] at c32
      have c35 := fun h => v35 w [48, 49, 50, 51, 52, 53, 54, 55, 56, 57] h (by omega)
      rw [some_dg, g2] at c35
      refine acalls_of fn8d (by simp) ?_
      simp only [List.length_cons, List.length_nil, Nat.reduceAdd, Nat.reduceSub, List.replicate, List.cons_append, List.nil_append, List.append_nil]
      simp (disch := omega) only [c8d, go_sem, wrap64_id, Int.tdiv_eq_ediv_of_nonneg, Int.tmod_eq_emod_of_nonneg]
      repeat' first
        | (refine callG_false ((.bool false)) ?_; simp (disch := omega) only [go_sem, wrap64_id, Int.tdiv_eq_ediv_of_nonneg, Int.tmod_eq_emod_of_nonneg])
        | ((first | refine callA_pure (c11p _) ?_ ?_ | refine callA_pure (c12 _) ?_ ?_ | refine callA_pure (c12v _) ?_ ?_ | refine callA_pure (c32 _) ?_ ?_ | refine callA_pure (c14 _) ?_ ?_ | refine callA_pure (c35 _) ?_ ?_ | refine callA_pure (u13 _) ?_ ?_); (next => repeat' first | exact flags_n | refine flags_c (by first | rfl | assumption) ?_); simp (disch := omega) only [go_sem, wrap64_id, Int.tdiv_eq_ediv_of_nonneg, Int.tmod_eq_emod_of_nonneg])
        | ((first | refine callU_of (fun _ => c11p _) ?_ ?_ | refine callU_of (fun _ => c12 _) ?_ ?_ | refine callU_of (fun _ => c12v _) ?_ ?_ | refine callU_of (fun _ => c32 _) ?_ ?_ | refine callU_of (fun _ => c14 _) ?_ ?_ | refine callU_of (fun _ => c35 _) ?_ ?_ | refine callU_of (fun _ => u13 _) ?_ ?_); (next => repeat' first | exact flags_n | refine flags_c (by first | rfl | assumption) ?_); simp (disch := omega) only [go_sem, wrap64_id, Int.tdiv_eq_ediv_of_nonneg, Int.tmod_eq_emod_of_nonneg])
        | ((first | refine callG_pure (fun e => ⟨?_, c11p _⟩) ?_ | refine callG_pure (fun e => ⟨?_, c12 _⟩) ?_ | refine callG_pure (fun e => ⟨?_, c12v _⟩) ?_ | refine callG_pure (fun e => ⟨?_, c32 _⟩) ?_ | refine callG_pure (fun e => ⟨?_, c14 _⟩) ?_ | refine callG_pure (fun e => ⟨?_, c35 _⟩) ?_ | refine callG_pure (fun e => ⟨?_, u13 _⟩) ?_); (next => repeat' first | exact flags_n | refine flags_c (by first | rfl | assumption) ?_); simp (disch := omega) only [go_sem, wrap64_id, Int.tdiv_eq_ediv_of_nonneg, Int.tmod_eq_emod_of_nonneg])
        | ((first | refine fnQ_pure1 ?_ ?_ | refine fnQ_pure0 ?_ ?_); (next => repeat' first | exact rvs_n | refine rvs_t ?_ | (simp [go_sem]; done)); simp only [go_sem]; (first | exact VLe.refl _ | refine VLe_int ?_ | refine VLe_bool ?_ | refine VLe_str ?_ | skip))
        | (with_reducible refine And.intro ?_ ?_)
        | with_reducible intro _
      all_goals first
        | omega
        | (rename_i hx; revert hx; simp; done)
        | (simp; done)
        | skip
    · rw [g1] at c32
      have c36 := fun h => v36 L 9 h (by omega)
      rw [decide_eq_true g2] at c36
      refine acalls_of fn8d (by simp) ?_
      simp only [List.length_cons, List.length_nil, Nat.reduceAdd, Nat.reduceSub, List.replicate, List.cons_append, List.nil_append, List.append_nil]
      simp (disch := omega) only [c8d, go_sem, wrap64_id, Int.tdiv_eq_ediv_of_nonneg, Int.tmod_eq_emod_of_nonneg]
      repeat' first
        | (refine callG_false ((.bool false)) ?_; simp (disch := omega) only [go_sem, wrap64_id, Int.tdiv_eq_ediv_of_nonneg, Int.tmod_eq_emod_of_nonneg])
        | ((first | refine callA_pure (c11p _) ?_ ?_ | refine callA_pure (c12 _) ?_ ?_ | refine callA_pure (c12v _) ?_ ?_ | refine callA_pure (c32 _) ?_ ?_ | refine callA_pure (c14 _) ?_ ?_ | refine callA_pure (c36 _) ?_ ?_ | refine callA_pure (u13 _) ?_ ?_); (next => repeat' first | exact flags_n | refine flags_c (by first | rfl | assumption) ?_); simp (disch := omega) only [go_sem, wrap64_id, Int.tdiv_eq_ediv_of_nonneg, Int.tmod_eq_emod_of_nonneg])
        | ((first | refine callU_of (fun _ => c11p _) ?_ ?_ | refine callU_of (fun _ => c12 _) ?_ ?_ | refine callU_of (fun _ => c12v _) ?_ ?_ | refine callU_of (fun _ => c32 _) ?_ ?_ | refine callU_of (fun _ => c14 _) ?_ ?_ | refine callU_of (fun _ => c36 _) ?_ ?_ | refine callU_of (fun _ => u13 _) ?_ ?_); (next => repeat' first | exact flags_n | refine flags_c (by first | rfl | assumption) ?_); simp (disch := omega) only [go_sem, wrap64_id, Int.tdiv_eq_ediv_of_nonneg, Int.tmod_eq_emod_of_nonneg])
        | ((first | refine callG_pure (fun e => ⟨?_, c11p _⟩) ?_ | refine callG_pure (fun e => ⟨?_, c12 _⟩) ?_ | refine callG_pure (fun e => ⟨?_, c12v _⟩) ?_ | refine callG_pure (fun e => ⟨?_, c32 _⟩) ?_ | refine callG_pure (fun e => ⟨?_, c14 _⟩) ?_ | refine callG_pure (fun e => ⟨?_, c36 _⟩) ?_ | refine callG_pure (fun e => ⟨?_, u13 _⟩) ?_); (next => repeat' first | exact flags_n | refine flags_c (by first | rfl | assumption) ?_); simp (disch := omega) only [go_sem, wrap64_id, Int.tdiv_eq_ediv_of_nonneg, Int.tmod_eq_emod_of_nonneg])
        | ((first | refine fnQ_pure1 ?_ ?_ | refine fnQ_pure0 ?_ ?_); (next => repeat' first | exact rvs_n | refine rvs_t ?_ | (simp [go_sem]; done)); simp only [go_sem]; (first | exact VLe.refl _ | refine VLe_int ?_ | refine VLe_bool ?_ | refine VLe_str ?_ | skip))
        | (with_reducible refine And.intro ?_ ?_)
        | with_reducible intro _
      all_goals first
        | omega
        | (rename_i hx; revert hx; simp; done)
        | (simp; done)
        | skip
end HY
end

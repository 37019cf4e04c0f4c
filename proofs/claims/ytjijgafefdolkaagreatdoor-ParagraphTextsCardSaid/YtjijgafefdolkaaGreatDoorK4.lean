import Derived.Test.YtjijgafefdolkaaGreatDoorK3
set_option linter.all false
set_option linter.unusedSimpArgs false
set_option linter.unusedVariables false
set_option linter.unusedSectionVars false
section
open Go Go.Proofs AF HY
namespace HY
set_option maxRecDepth 100000
theorem qzY (c : UInt8) (h : List AObj) : qs Tryz.prog 106 [.int .u8 (c.toNat : Int)] h (.bool (spc c)) h := by
 refine qo qvv (by simp) ?_
 simp only [lcP, lnP, Nat.reduceAdd, Nat.reduceSub, List.replicate, caP, naP, List.append_nil]
 simp (disch := omega) only [quL, go_sem, qc, dvP, mdP]
 repeat' first
  | ((first | refine qj (jP c _) ?_ ?_); (next => exact flk); simp (disch := omega) only [go_sem, qc, dvP, mdP])
  | ((first | refine qn (fun _ => jP c _) ?_ ?_); (next => exact flk); simp (disch := omega) only [go_sem, qc, dvP, mdP])
  | ((first | refine qk (fun e => ⟨?_, jP c _⟩) ?_); (next => exact flk); simp (disch := omega) only [go_sem, qc, dvP, mdP])
  | ((first | refine qe ?_ ?_ | refine qg ?_ ?_); (next => exact rvk); simp only [go_sem]; (first | exact VLe.refl _ | refine qh ?_ | refine qd ?_ | refine ql ?_ | skip))
  | with_reducible first | refine And.intro ?_ ?_ | intro _
 all_goals try exact clz
def kf (s : List UInt8) : AV := .sl s.length fun i => [.int .u8 ((s.getD i 0).toNat : Int)]
def qcH (p : UInt8 → Bool) : List UInt8 → Nat → Int
 | [], _ => -1
 | c :: r, i => if p c = true then i else qcH p r (i + 1)
theorem qmd (p : UInt8 → Bool) : ∀ (s : List UInt8) (i : Nat), (0 ≤ qcH p s i ↔ s.any p = true) ∧ -1 ≤ qcH p s i := by
 intro s
 induction s with
 | nil => intro i; simp [qcH]
 | cons c r ih =>
  intro i
  by_cases hc : p c = true
  ·have e : qcH p (c :: r) i = i := if_pos hc
   rw [e, List.any_cons, hc]
   simp
   try omega
  ·have e : qcH p (c :: r) i = qcH p r (i + 1) := if_neg hc
   rw [e, List.any_cons]
   have hc' : p c = false := by simpa using hc
   rw [hc', Bool.false_or]
   exact ih (i + 1)
theorem qmc (p : UInt8 → Bool) (s : List UInt8) (i : Nat) : decide (0 ≤ qcH p s i) = s.any p := by
 rw [Bool.eq_iff_iff, decide_eq_true_eq]; exact (qmd p s i).1
theorem qz1 (s : List UInt8) (p : UInt8 → Bool) (F : Nat) (h : List AObj) (hs : s.length ≤ 1000000000) (hp : ∀ (c : UInt8) (h : List AObj), qs Tryz.prog F [.int .u8 (c.toNat : Int)] h (.bool (p c)) h) : qs Tryz.prog 130 [kf s, .fn (.func F) [] []] h (.int .i64 (qcH p s 0)) h := by
 refine qo qvI (by simp) ?_
 simp only [lcP, lnP, Nat.reduceAdd, Nat.reduceSub, List.replicate, caP, naP, List.append_nil]
 simp (disch := omega) only [quW, kf, go_sem, qc, dvP, mdP]
 repeat' first
  | ((first | refine qe ?_ ?_ | refine qg ?_ ?_); (next => exact rvk); simp only [go_sem]; (first | exact VLe.refl _ | refine qh ?_ | refine qd ?_ | refine ql ?_ | skip))
  | with_reducible first | refine And.intro ?_ ?_ | intro _
 all_goals try exact clz
 refine qJ (T := fun i : Nat => qv 19 [(0, kf s), (1, .fn (.func F) [] []), (6, kf s), (7, .int .i64 s.length), (8, .int .i64 i)]) (H := fun _ => h) (inv := fun i => i ≤ s.length ∧ qcH p s 0 = qcH p (s.drop i) i) (m := fun i => s.length - i) 0 ⟨by omega, by simp⟩ (Wk.temps ?_) ?_
 ·(simp only [kf, qv, List.foldl, List.replicate, go_sem, qr, qp, qm, qq]; try (repeat' first | (with_reducible refine And.intro ?_ ?_) | (refine qh ?_; omega) | (refine qd ?_; rfl) | exact VLe.refl _))
 ·rintro i ⟨i1, i2⟩ K hK
  rw [i2]
  by_cases hi : i < s.length
  ·have e : s.drop i = s.getD i 0 :: s.drop (i + 1) := by rw [List.drop_eq_getElem_cons hi]; simp [List.getD_eq_getElem?_getD, hi]
   rw [e] at i2 ⊢
   simp only [qcH] at i2 ⊢
   have hpc := fun h => hp (s.getD i 0) h
   cases hb : p (s.getD i 0) with
   | true =>
    rw [hb] at hpc
    simp (disch := omega) only [qv, List.foldl, List.replicate, kf, go_sem, qc, dvP, mdP]
    repeat' first
     | (refine zH (hpc _) ?_; simp (disch := omega) only [kf, go_sem, qc, dvP, mdP])
     | ((first | refine qe ?_ ?_ | refine qg ?_ ?_); (next => exact rvk); simp only [go_sem]; (first | exact VLe.refl _ | refine qh ?_ | refine qd ?_ | refine ql ?_ | skip))
     | with_reducible first | refine And.intro ?_ ?_ | intro _
    all_goals try exact clz
   | false =>
    rw [hb] at hpc i2
    simp (disch := omega) only [qv, List.foldl, List.replicate, kf, go_sem, qc, dvP, mdP]
    repeat' first
     | (refine zH (hpc _) ?_; simp (disch := omega) only [kf, go_sem, qc, dvP, mdP])
     | ((first | refine qe ?_ ?_ | refine qg ?_ ?_); (next => exact rvk); simp only [go_sem]; (first | exact VLe.refl _ | refine qh ?_ | refine qd ?_ | refine ql ?_ | skip))
     | with_reducible first | refine And.intro ?_ ?_ | intro _
    all_goals try exact clz
    refine hK _ _ (i + 1) ⟨by omega, by rw [i2]; simp⟩ (by omega) (Wk.temps ?_)
    (simp only [kf, qv, List.foldl, List.replicate, go_sem, qr, qp, qm, qq]; try (repeat' first | (with_reducible refine And.intro ?_ ?_) | (refine qh ?_; omega) | (refine qd ?_; rfl) | exact VLe.refl _))
  ·have e : i = s.length := by omega
   subst e
   rw [List.drop_length]
   simp (disch := omega) only [qv, List.foldl, List.replicate, kf, go_sem, qc, dvP, mdP]
   repeat' first
    | ((first | refine qe ?_ ?_ | refine qg ?_ ?_); (next => exact rvk); simp only [go_sem]; (first | exact VLe.refl _ | refine qh ?_ | refine qd ?_ | refine ql ?_ | skip))
    | with_reducible first | refine And.intro ?_ ?_ | intro _
   all_goals try exact clz
theorem qzX (s : List UInt8) (p : UInt8 → Bool) (F : Nat) (h : List AObj) (hs : s.length ≤ 1000000000) (hp : ∀ (c : UInt8) (h : List AObj), qs Tryz.prog F [.int .u8 (c.toNat : Int)] h (.bool (p c)) h) : qs Tryz.prog 105 [kf s, .fn (.func F) [] []] h (.bool (s.any p)) h := by
 rw [← qmc p s 0]
 refine qo qvu (by simp) ?_
 simp only [lcP, lnP, Nat.reduceAdd, Nat.reduceSub, List.replicate, caP, naP, List.append_nil]
 simp (disch := omega) only [quK, kf, go_sem, qc, dvP, mdP]
 repeat' first
  | ((first | refine qj (qz1 s p F _ hs hp) ?_ ?_); (next => exact flk); simp (disch := omega) only [kf, go_sem, qc, dvP, mdP])
  | ((first | refine qk (fun e => ⟨?_, qz1 s p F _ hs hp⟩) ?_); (next => exact flk); simp (disch := omega) only [kf, go_sem, qc, dvP, mdP])
  | ((first | refine qe ?_ ?_ | refine qg ?_ ?_); (next => exact rvk); simp only [go_sem]; (first | exact VLe.refl _ | refine qh ?_ | refine qd ?_ | refine ql ?_ | skip))
  | with_reducible first | refine And.intro ?_ ?_ | intro _
 all_goals try exact clz
theorem t88 (s : List UInt8) (h : List AObj) (hs : s.length ≤ 1000000000) : qs Tryz.prog 65 [.str s] h (.bool (qa2 s)) h := by
 obtain ⟨c, hc⟩ : ∃ c, c = qbu s := ⟨_, rfl⟩
 have h104 : ∀ h : List AObj, qs Tryz.prog 99 [.str s] h (.int .i64 c) h := fun h => by rw [hc]; exact qzV s h hs
 have hw : qa2 s = (decide (0 < s.length) && decide (s.length ≤ 64) && decide (c = 0) && (decide (kind (ch s 0) = 1) || decide (kind (ch s 0) = 3)) && !(s.any spc)) := by rw [hc]; rfl
 rw [hw]
 by_cases g1 : 0 < s.length
 ·have k1 : (s = []) = False := eq_false (by intro e; rw [e] at g1; simp at g1)
  by_cases g2 : s.length ≤ 64
  ·have k2 : (64 < (s.length : Int)) = False := eq_false (by omega)
   by_cases g3 : c = 0
   ·refine qo qp6 (by simp) ?_
    simp only [lcP, lnP, Nat.reduceAdd, Nat.reduceSub, List.replicate, caP, naP, List.append_nil]
    simp (disch := omega) only [qbT, k1, k2, g3, go_sem, qc, dvP, mdP]
    repeat' first
     | ((first | refine qj (h104 _) ?_ ?_ | refine qj (jP _ _) ?_ ?_ | refine qj (qzX s spc 106 _ hs qzY) ?_ ?_); (next => exact flk); simp (disch := omega) only [k1, k2, g3, jA, go_sem, qc, dvP, mdP])
     | ((first | refine qn (fun _ => h104 _) ?_ ?_ | refine qn (fun _ => jP _ _) ?_ ?_); (next => exact flk); simp (disch := omega) only [k1, k2, g3, jA, go_sem, qc, dvP, mdP])
     | ((first | refine qk (fun e => ⟨?_, h104 _⟩) ?_ | refine qk (fun e => ⟨?_, jP _ _⟩) ?_ | refine qk (fun e => ⟨?_, qzX s spc 106 _ hs qzY⟩) ?_); (next => exact flk); simp (disch := omega) only [k1, k2, g3, jA, go_sem, qc, dvP, mdP])
     | ((first | refine qe ?_ ?_ | refine qg ?_ ?_); (next => exact rvk); simp only [go_sem]; (first | exact VLe.refl _ | refine qh ?_ | refine qd ?_ | refine ql ?_ | skip))
     | with_reducible first | refine And.intro ?_ ?_ | intro _
    all_goals try exact clz
    all_goals (generalize s.any spc = b; grind)
   ·refine qo qp6 (by simp) ?_
    simp only [lcP, lnP, Nat.reduceAdd, Nat.reduceSub, List.replicate, caP, naP, List.append_nil]
    simp (disch := omega) only [qbT, k1, k2, go_sem, qc, dvP, mdP]
    repeat' first
     | ((first | refine qj (h104 _) ?_ ?_ | refine qj (jP _ _) ?_ ?_); (next => exact flk); simp (disch := omega) only [k1, k2, g3, jA, go_sem, qc, dvP, mdP])
     | ((first | refine qn (fun _ => h104 _) ?_ ?_ | refine qn (fun _ => jP _ _) ?_ ?_); (next => exact flk); simp (disch := omega) only [k1, k2, g3, jA, go_sem, qc, dvP, mdP])
     | ((first | refine qk (fun e => ⟨?_, h104 _⟩) ?_ | refine qk (fun e => ⟨?_, jP _ _⟩) ?_); (next => exact flk); simp (disch := omega) only [k1, k2, g3, jA, go_sem, qc, dvP, mdP])
     | ((first | refine qe ?_ ?_ | refine qg ?_ ?_); (next => exact rvk); simp only [go_sem]; (first | exact VLe.refl _ | refine qh ?_ | refine qd ?_ | refine ql ?_ | skip))
     | with_reducible first | refine And.intro ?_ ?_ | intro _
    all_goals try exact clz
    all_goals (generalize s.any spc = b; grind)
  ·have k2 : (64 < (s.length : Int)) = True := eq_true (by omega)
   refine qo qp6 (by simp) ?_
   simp only [lcP, lnP, Nat.reduceAdd, Nat.reduceSub, List.replicate, caP, naP, List.append_nil]
   simp (disch := omega) only [qbT, k1, k2, go_sem, qc, dvP, mdP]
   repeat' first
    | (refine qP ((.int .i64 0)) ?_; simp (disch := omega) only [k1, k2, go_sem, qc, dvP, mdP])
    | ((first | refine qe ?_ ?_ | refine qg ?_ ?_); (next => exact rvk); simp only [go_sem]; (first | exact VLe.refl _ | refine qh ?_ | refine qd ?_ | refine ql ?_ | skip))
    | with_reducible first | refine And.intro ?_ ?_ | intro _
   all_goals try exact clz
   all_goals (generalize s.any spc = b; grind)
 ·have e : s = [] := List.eq_nil_of_length_eq_zero (by omega)
  subst e
  refine qo qp6 (by simp) ?_
  simp only [lcP, lnP, Nat.reduceAdd, Nat.reduceSub, List.replicate, caP, naP, List.append_nil]
  simp (disch := omega) only [qbT, go_sem, qc, dvP, mdP]
  repeat' first
   | (refine qP ((.int .i64 0)) ?_; simp (disch := omega) only [go_sem, qc, dvP, mdP])
   | ((first | refine qe ?_ ?_ | refine qg ?_ ?_); (next => exact rvk); simp only [go_sem]; (first | exact VLe.refl _ | refine qh ?_ | refine qd ?_ | refine ql ?_ | skip))
   | with_reducible first | refine And.intro ?_ ?_ | intro _
  all_goals try exact clz
  all_goals (generalize List.any _ spc = b; grind)
end HY
end
section
open Go Go.Proofs AF HY
namespace HY
set_option maxRecDepth 100000
theorem qrL {n : Int} (h0 : 0 ≤ n) (h1 : n ≤ 255) : IntKind.u8.wrap n = n := by
 have e1 : (2 : Int) ^ IntKind.bits IntKind.u8 = 256 := rfl
 have e3 : IntKind.signed IntKind.u8 = false := rfl
 unfold IntKind.wrap
 rw [e1, e3]
 simp only [Bool.false_and, Bool.false_eq_true, if_false]
 omega
theorem qfC (c : UInt8) : ((qdP c).toNat : Int) = if 65 ≤ (c.toNat : Int) ∧ (c.toNat : Int) ≤ 90 then (c.toNat : Int) + 32 else (c.toNat : Int) := by
 have hc := c.toNat_lt
 unfold qdP
 have e1 : (65 ≤ c) = (65 ≤ c.toNat) := by rw [UInt8.le_iff_toNat_le]; rfl
 have e2 : (c ≤ 90) = (c.toNat ≤ 90) := by rw [UInt8.le_iff_toNat_le]; rfl
 simp only [e1, e2]
 by_cases h : 65 ≤ c.toNat ∧ c.toNat ≤ 90
 ·rw [if_pos h, if_pos (by omega), UInt8.toNat_add]
  have : (32 : UInt8).toNat = 32 := rfl
  rw [this]; omega
 ·rw [if_neg h, if_neg (by omega)]
def qfz (s : List UInt8) (i : Nat) : List UInt8 := (kg s).take i ++ s.drop i
theorem qpT (s : List UInt8) (i : Nat) (h : i ≤ s.length) : (qfz s i).length = s.length := by simp [qfz, kg]; omega
theorem qpS {s : List UInt8} {i : Nat} (h : i < s.length) : (qT (qfz s i))[i]? = some (.int .u8 ((ch s i).toNat : Int)) := by
 simp only [qT, qfz, List.getElem?_map]
 rw [List.getElem?_append_right (by simp [kg]; omega)]
 simp [kg, ch, List.getD_eq_getElem?_getD, Nat.min_eq_left (Nat.le_of_lt h), h]
theorem qpU {s : List UInt8} {i : Nat} (h : i < s.length) : List.take i (qT (qfz s i)) ++ [.int .u8 ((qdP (ch s i)).toNat : Int)] ++ List.drop (i + 1) (qT (qfz s i)) = qT (qfz s (i + 1)) := by
 simp only [qT, qfz, List.map_append, List.map_take, List.map_drop]
 have hl : (List.take i (List.map (fun b => AV.int .u8 ((b.toNat : Nat) : Int)) (kg s))).length = i := by simp [kg]; omega
 rw [List.take_append_of_le_length (by omega), List.take_of_length_le (by omega)]
 rw [show i + 1 = (List.take i (List.map (fun b => AV.int .u8 ((b.toNat : Nat) : Int)) (kg s))).length + 1 by omega]
 rw [List.drop_append, Nat.add_sub_cancel_left, List.drop_of_length_le (by omega), hl, List.nil_append, List.drop_drop]
 rw [List.take_add_one]
 congr 1
 congr 1
 simp [kg, ch, List.getD_eq_getElem?_getD, h]
theorem ql9 {s : List UInt8} {i : Nat} (h : i < s.length) (hb : qdP (ch s i) = ch s i) : qfz s (i + 1) = qfz s i := by
 unfold qfz
 rw [List.take_add_one, List.drop_eq_getElem_cons h]
 have : (kg s)[i]?.toList = [s[i]] := by
  have e : ch s i = s[i] := by simp [ch, h]
  rw [e] at hb
  simp [kg, h, hb]
 rw [this]; simp
theorem qpR (s : List UInt8) : qfz s s.length = kg s := by
 unfold qfz kg
 rw [List.drop_length, List.append_nil, List.take_of_length_le (by simp)]
theorem qz3 (s : List UInt8) (h : List AObj) (hs : s.length ≤ 1000000000) : qs Tryz.prog 145 [.str s] h (.str (kg s)) h := by
 have h0 : qT s = qT (qfz s 0) := by simp [qfz]
 refine qo qvU (by simp) ?_
 simp only [lcP, lnP, Nat.reduceAdd, Nat.reduceSub, List.replicate, caP, naP, List.append_nil]
 simp (disch := omega) only [qu4, h0, go_sem, qc, dvP, mdP]
 repeat' first
  | ((first | refine qe ?_ ?_ | refine qg ?_ ?_); (next => exact rvk); simp only [go_sem]; (first | exact VLe.refl _ | refine qh ?_ | refine qd ?_ | refine ql ?_ | skip))
  | with_reducible first | refine And.intro ?_ ?_ | intro _
 all_goals try exact clz
 refine qJ (T := fun i : Nat => qv 30 [(3, .osl h.length 1 1 0 s.length), (8, .osl h.length 1 1 0 s.length), (9, .int .i64 s.length), (10, .int .i64 i)]) (H := fun i => h ++ [.mem 1 (5 + qa3) (qT (qfz s i))]) (inv := fun i => i ≤ s.length) (m := fun i => s.length - i) 0 (by omega) (Wk.temps ?_) ?_
 ·(simp only [qv, List.foldl, List.replicate, go_sem, qr, qp, qm, qq]; try (repeat' first | (with_reducible refine And.intro ?_ ?_) | (refine qh ?_; omega) | (refine qd ?_; rfl) | exact VLe.refl _))
 ·intro i i1 K hK
  have hlen : (qT (qfz s i)).length = s.length := by rw [jx, qpT s i i1]
  by_cases hi : i < s.length
  ·have hg := qpS hi
   have hst := qpU hi
   have hb := qfC (ch s i)
   have hr := qe2 (ch s i)
   obtain ⟨c, hc⟩ : ∃ c : Int, c = ((ch s i).toNat : Int) := ⟨_, rfl⟩
   rw [← hc] at hg hb hr
   by_cases hu : 65 ≤ c ∧ c ≤ 90
   ·rw [if_pos hu] at hb
    rw [hb] at hst
    have he : c - 65 + 97 = c + 32 := by omega
    simp (disch := omega) only [qv, List.foldl, List.replicate, hg, hlen, qrL, he, go_sem, qc, dvP, mdP]
    repeat' first
     | ((first | refine qe ?_ ?_ | refine qg ?_ ?_); (next => exact rvk); simp only [go_sem]; (first | exact VLe.refl _ | refine qh ?_ | refine qd ?_ | refine ql ?_ | skip))
     | with_reducible first | refine And.intro ?_ ?_ | intro _
    all_goals try exact clz
    rw [hst]
    refine hK _ _ (i + 1) (by omega) (by omega) (Wk.temps ?_)
    (simp only [qv, List.foldl, List.replicate, go_sem, qr, qp, qm, qq]; try (repeat' first | (with_reducible refine And.intro ?_ ?_) | (refine qh ?_; omega) | (refine qd ?_; rfl) | exact VLe.refl _))
   ·rw [if_neg hu] at hb
    have hsk := ql9 hi (by rw [← UInt8.toNat_inj]; omega)
    simp (disch := omega) only [qv, List.foldl, List.replicate, hg, hlen, go_sem, qc, dvP, mdP]
    repeat' first
     | ((first | refine qe ?_ ?_ | refine qg ?_ ?_); (next => exact rvk); simp only [go_sem]; (first | exact VLe.refl _ | refine qh ?_ | refine qd ?_ | refine ql ?_ | skip))
     | with_reducible first | refine And.intro ?_ ?_ | intro _
    all_goals try exact clz
    refine hK _ _ (i + 1) (by omega) (by omega) ?_
    rw [hsk]
    refine Wk.temps ?_
    (simp only [qv, List.foldl, List.replicate, go_sem, qr, qp, qm, qq]; try (repeat' first | (with_reducible refine And.intro ?_ ?_) | (refine qh ?_; omega) | (refine qd ?_; rfl) | exact VLe.refl _))
  ·have e : i = s.length := by omega
   subst e
   rw [qpR] at hlen ⊢
   have hT : List.take s.length (qT (kg s)) = qT (kg s) := List.take_of_length_le (by omega)
   simp (disch := omega) only [qv, List.foldl, List.replicate, hlen, hT, qeA, go_sem, qc, dvP, mdP]
   repeat' first
    | ((first | refine qe ?_ ?_ | refine qg ?_ ?_); (next => exact rvk); simp only [go_sem]; (first | exact VLe.refl _ | refine qh ?_ | refine qd ?_ | refine ql ?_ | skip))
    | with_reducible first | refine And.intro ?_ ?_ | intro _
   all_goals try exact clz
   all_goals
    rename_i c hc
    exact qeJ c hc
end HY
end
section
open Go Go.Proofs AF HY
namespace HY
set_option maxRecDepth 100000
theorem quB (s p : List UInt8) (h : List AObj) (hs : s.length ≤ 1000000000) (hp : p.length ≤ 1000000000) : qs Tryz.prog 129 [.str s, .str p] h (.bool (qcu s p)) h := by
 unfold qcu
 by_cases hl : p.length ≤ s.length
 ·have k : ((p.length : Int) ≤ (s.length : Int)) = True := eq_true (by omega)
  refine qo qrT (by simp) ?_
  simp only [lcP, lnP, Nat.reduceAdd, Nat.reduceSub, List.replicate, caP, naP, List.append_nil]
  simp (disch := omega) only [qsq, k, go_sem, qc, dvP, mdP]
  repeat' first
   | ((first | refine qe ?_ ?_ | refine qg ?_ ?_); (next => exact rvk); simp only [go_sem]; (first | exact VLe.refl _ | refine qh ?_ | refine qd ?_ | refine ql ?_ | skip))
   | with_reducible first | refine And.intro ?_ ?_ | intro _
  all_goals try exact clz
 ·have k : ((p.length : Int) ≤ (s.length : Int)) = False := eq_false (by omega)
  have e : decide (s.take p.length = p) = false := by
   rw [decide_eq_false_iff_not]
   intro e
   have := congrArg List.length e
   rw [List.length_take] at this
   omega
  rw [e]
  refine qo qrT (by simp) ?_
  simp only [lcP, lnP, Nat.reduceAdd, Nat.reduceSub, List.replicate, caP, naP, List.append_nil]
  simp (disch := omega) only [qsq, k, go_sem, qc, dvP, mdP]
  repeat' first
   | ((first | refine qe ?_ ?_ | refine qg ?_ ?_); (next => exact rvk); simp only [go_sem]; (first | exact VLe.refl _ | refine qh ?_ | refine qd ?_ | refine ql ?_ | skip))
   | with_reducible first | refine And.intro ?_ ?_ | intro _
  all_goals try exact clz
theorem qAt (s p : List UInt8) (h : List AObj) (hs : s.length ≤ 1000000000) (hp : p.length ≤ 1000000000) : qs Tryz.prog 103 [.str s, .str p] h (.bool (qcu s p)) h := by
 refine qo qvs (by simp) ?_
 simp only [lcP, lnP, Nat.reduceAdd, Nat.reduceSub, List.replicate, caP, naP, List.append_nil]
 simp (disch := omega) only [qiD, go_sem, qc, dvP, mdP]
 repeat' first
  | ((first | refine qj (quB s p _ hs hp) ?_ ?_); (next => exact flk); simp (disch := omega) only [go_sem, qc, dvP, mdP])
  | ((first | refine qk (fun e => ⟨?_, quB s p _ hs hp⟩) ?_); (next => exact flk); simp (disch := omega) only [go_sem, qc, dvP, mdP])
  | ((first | refine qe ?_ ?_ | refine qg ?_ ?_); (next => exact rvk); simp only [go_sem]; (first | exact VLe.refl _ | refine qh ?_ | refine qd ?_ | refine ql ?_ | skip))
  | with_reducible first | refine And.intro ?_ ?_ | intro _
 all_goals try exact clz
theorem quC (s p : List UInt8) (h : List AObj) (hs : s.length ≤ 1000000000) (hp : p.length ≤ 1000000000) : qs Tryz.prog 81 [.str s, .str p] h (.bool (qan s p)) h := by
 unfold qan
 by_cases hl : p.length ≤ s.length
 ·have k : ((p.length : Int) ≤ (s.length : Int)) = True := eq_true (by omega)
  have k2 : ((s.length : Int) - (p.length : Int)).toNat = s.length - p.length := by omega
  have k3 : List.take (s.length - (s.length - p.length)) (List.drop (s.length - p.length) s) = List.drop (s.length - p.length) s := List.take_of_length_le (by rw [List.length_drop]; omega)
  refine qo qv7 (by simp) ?_
  simp only [lcP, lnP, Nat.reduceAdd, Nat.reduceSub, List.replicate, caP, naP, List.append_nil]
  simp (disch := omega) only [qxO, k, k2, k3, go_sem, qc, dvP, mdP]
  repeat' first
   | ((first | refine qe ?_ ?_ | refine qg ?_ ?_); (next => exact rvk); simp only [go_sem]; (first | exact VLe.refl _ | refine qh ?_ | refine qd ?_ | refine ql ?_ | skip))
   | with_reducible first | refine And.intro ?_ ?_ | intro _
  all_goals try exact clz
 ·have k : ((p.length : Int) ≤ (s.length : Int)) = False := eq_false (by omega)
  have e : decide (s.drop (s.length - p.length) = p) = false := by
   rw [decide_eq_false_iff_not]
   intro e
   have := congrArg List.length e
   rw [List.length_drop] at this
   omega
  rw [e]
  refine qo qv7 (by simp) ?_
  simp only [lcP, lnP, Nat.reduceAdd, Nat.reduceSub, List.replicate, caP, naP, List.append_nil]
  simp (disch := omega) only [qxO, k, go_sem, qc, dvP, mdP]
  repeat' first
   | ((first | refine qe ?_ ?_ | refine qg ?_ ?_); (next => exact rvk); simp only [go_sem]; (first | exact VLe.refl _ | refine qh ?_ | refine qd ?_ | refine ql ?_ | skip))
   | with_reducible first | refine And.intro ?_ ?_ | intro _
  all_goals try exact clz
theorem qAu (s p : List UInt8) (h : List AObj) (hs : s.length ≤ 1000000000) (hp : p.length ≤ 1000000000) : qs Tryz.prog 104 [.str s, .str p] h (.bool (qan s p)) h := by
 refine qo qvt (by simp) ?_
 simp only [lcP, lnP, Nat.reduceAdd, Nat.reduceSub, List.replicate, caP, naP, List.append_nil]
 simp (disch := omega) only [qiE, go_sem, qc, dvP, mdP]
 repeat' first
  | ((first | refine qj (quC s p _ hs hp) ?_ ?_); (next => exact flk); simp (disch := omega) only [go_sem, qc, dvP, mdP])
  | ((first | refine qk (fun e => ⟨?_, quC s p _ hs hp⟩) ?_); (next => exact flk); simp (disch := omega) only [go_sem, qc, dvP, mdP])
  | ((first | refine qe ?_ ?_ | refine qg ?_ ?_); (next => exact rvk); simp only [go_sem]; (first | exact VLe.refl _ | refine qh ?_ | refine qd ?_ | refine ql ?_ | skip))
  | with_reducible first | refine And.intro ?_ ?_ | intro _
 all_goals try exact clz
theorem qjf {s p : List UInt8} (h : qcu s p = true) : p.length ≤ s.length := by
 unfold qcu at h
 have := congrArg List.length (of_decide_eq_true h)
 rw [List.length_take] at this
 omega
theorem qjg {s p : List UInt8} (h : qan s p = true) : p.length ≤ s.length := by
 unfold qan at h
 have := congrArg List.length (of_decide_eq_true h)
 rw [List.length_drop] at this
 omega
theorem qz0 (s p : List UInt8) (h : List AObj) (hs : s.length ≤ 1000000000) (hp : p.length ≤ 1000000000) : qs Tryz.prog 127 [.str s, .str p] h (.str (qaI s p)) h := by
 unfold qaI
 cases hh : qcu s p with
 | true =>
  have := qjf hh
  have k3 : List.take (s.length - p.length) (List.drop p.length s) = List.drop p.length s := List.take_of_length_le (by rw [List.length_drop]; omega)
  refine qo qrS (by simp) ?_
  simp only [lcP, lnP, Nat.reduceAdd, Nat.reduceSub, List.replicate, caP, naP, List.append_nil]
  simp (disch := omega) only [qsp, k3, go_sem, qc, dvP, mdP]
  repeat' first
   | ((first | refine qj (quB s p _ hs hp) ?_ ?_); (next => exact flk); simp (disch := omega) only [hh, k3, go_sem, qc, dvP, mdP])
   | ((first | refine qk (fun e => ⟨?_, quB s p _ hs hp⟩) ?_); (next => exact flk); simp (disch := omega) only [hh, k3, go_sem, qc, dvP, mdP])
   | ((first | refine qe ?_ ?_ | refine qg ?_ ?_); (next => exact rvk); simp only [go_sem]; (first | exact VLe.refl _ | refine qh ?_ | refine qd ?_ | refine ql ?_ | skip))
   | with_reducible first | refine And.intro ?_ ?_ | intro _
  all_goals try exact clz
 | false =>
  refine qo qrS (by simp) ?_
  simp only [lcP, lnP, Nat.reduceAdd, Nat.reduceSub, List.replicate, caP, naP, List.append_nil]
  simp (disch := omega) only [qsp, go_sem, qc, dvP, mdP]
  repeat' first
   | ((first | refine qj (quB s p _ hs hp) ?_ ?_); (next => exact flk); simp (disch := omega) only [hh, go_sem, qc, dvP, mdP])
   | ((first | refine qk (fun e => ⟨?_, quB s p _ hs hp⟩) ?_); (next => exact flk); simp (disch := omega) only [hh, go_sem, qc, dvP, mdP])
   | ((first | refine qe ?_ ?_ | refine qg ?_ ?_); (next => exact rvk); simp only [go_sem]; (first | exact VLe.refl _ | refine qh ?_ | refine qd ?_ | refine ql ?_ | skip))
   | with_reducible first | refine And.intro ?_ ?_ | intro _
  all_goals try exact clz
theorem qAp (s p : List UInt8) (h : List AObj) (hs : s.length ≤ 1000000000) (hp : p.length ≤ 1000000000) : qs Tryz.prog 96 [.str s, .str p] h (.str (qaI s p)) h := by
 refine qo qyz (by simp) ?_
 simp only [lcP, lnP, Nat.reduceAdd, Nat.reduceSub, List.replicate, caP, naP, List.append_nil]
 simp (disch := omega) only [quu, go_sem, qc, dvP, mdP]
 repeat' first
  | ((first | refine qj (qz0 s p _ hs hp) ?_ ?_); (next => exact flk); simp (disch := omega) only [go_sem, qc, dvP, mdP])
  | ((first | refine qk (fun e => ⟨?_, qz0 s p _ hs hp⟩) ?_); (next => exact flk); simp (disch := omega) only [go_sem, qc, dvP, mdP])
  | ((first | refine qe ?_ ?_ | refine qg ?_ ?_); (next => exact rvk); simp only [go_sem]; (first | exact VLe.refl _ | refine qh ?_ | refine qd ?_ | refine ql ?_ | skip))
  | with_reducible first | refine And.intro ?_ ?_ | intro _
 all_goals try exact clz
theorem t124 (s p : List UInt8) (h : List AObj) (hs : s.length ≤ 1000000000) (hp : p.length ≤ 1000000000) : qs Tryz.prog 47 [.str s, .str p] h (.str (je s p)) h := by
 unfold je
 cases hh : qan s p with
 | true =>
  have := qjg hh
  have k2 : ((s.length : Int) - (p.length : Int)).toNat = s.length - p.length := by omega
  refine qo qv1 (by simp) ?_
  simp only [lcP, lnP, Nat.reduceAdd, Nat.reduceSub, List.replicate, caP, naP, List.append_nil]
  simp (disch := omega) only [qxL, k2, go_sem, qc, dvP, mdP]
  repeat' first
   | ((first | refine qj (quC s p _ hs hp) ?_ ?_); (next => exact flk); simp (disch := omega) only [hh, k2, go_sem, qc, dvP, mdP])
   | ((first | refine qk (fun e => ⟨?_, quC s p _ hs hp⟩) ?_); (next => exact flk); simp (disch := omega) only [hh, k2, go_sem, qc, dvP, mdP])
   | ((first | refine qe ?_ ?_ | refine qg ?_ ?_); (next => exact rvk); simp only [go_sem]; (first | exact VLe.refl _ | refine qh ?_ | refine qd ?_ | refine ql ?_ | skip))
   | with_reducible first | refine And.intro ?_ ?_ | intro _
  all_goals try exact clz
 | false =>
  refine qo qv1 (by simp) ?_
  simp only [lcP, lnP, Nat.reduceAdd, Nat.reduceSub, List.replicate, caP, naP, List.append_nil]
  simp (disch := omega) only [qxL, go_sem, qc, dvP, mdP]
  repeat' first
   | ((first | refine qj (quC s p _ hs hp) ?_ ?_); (next => exact flk); simp (disch := omega) only [hh, go_sem, qc, dvP, mdP])
   | ((first | refine qk (fun e => ⟨?_, quC s p _ hs hp⟩) ?_); (next => exact flk); simp (disch := omega) only [hh, go_sem, qc, dvP, mdP])
   | ((first | refine qe ?_ ?_ | refine qg ?_ ?_); (next => exact rvk); simp only [go_sem]; (first | exact VLe.refl _ | refine qh ?_ | refine qd ?_ | refine ql ?_ | skip))
   | with_reducible first | refine And.intro ?_ ?_ | intro _
  all_goals try exact clz
theorem t100 (s p : List UInt8) (h : List AObj) (hs : s.length ≤ 1000000000) (hp : p.length ≤ 1000000000) : qs Tryz.prog 15 [.str s, .str p] h (.str (je s p)) h := by
 refine qo qxZ (by simp) ?_
 simp only [lcP, lnP, Nat.reduceAdd, Nat.reduceSub, List.replicate, caP, naP, List.append_nil]
 simp (disch := omega) only [qus, go_sem, qc, dvP, mdP]
 repeat' first
  | ((first | refine qj (t124 s p _ hs hp) ?_ ?_); (next => exact flk); simp (disch := omega) only [go_sem, qc, dvP, mdP])
  | ((first | refine qk (fun e => ⟨?_, t124 s p _ hs hp⟩) ?_); (next => exact flk); simp (disch := omega) only [go_sem, qc, dvP, mdP])
  | ((first | refine qe ?_ ?_ | refine qg ?_ ?_); (next => exact rvk); simp only [go_sem]; (first | exact VLe.refl _ | refine qh ?_ | refine qd ?_ | refine ql ?_ | skip))
  | with_reducible first | refine And.intro ?_ ?_ | intro _
 all_goals try exact clz
end HY
end
section
open Go Go.Proofs AF HY
namespace HY
set_option maxRecDepth 100000
def qy (l : List Int) : AV := .sl l.length fun i => [.int .i64 (l.getD i 0)]
def q9 (p : List Int) : List AV := p.map (AV.int .i64)
theorem zy (p : List Int) : (q9 p).length = p.length := by simp [q9]
theorem qaN (L : List Int) (x : Int) : q9 (L ++ [x]) = q9 L ++ [.int .i64 x] := by simp [q9]
theorem qcZ {p : List Int} {n m : Nat} {fz : Nat → Bool} {h : List AObj} (e : p.length = m) : VLe (.sl m fun i => ((List.drop i (q9 p)).take 1).map (rei fz h (n + 1))) (qy p) := by
 subst e
 refine qr8 (zy p) rfl (fun i c hc => ?_) (fun c hc => ?_)
 ·unfold q9 at hc
  rw [List.getElem?_map, Option.map_eq_some_iff] at hc
  obtain ⟨x, hx, rfl⟩ := hc
  simp [List.getD_eq_getElem?_getD, hx]
 ·unfold q9 at hc
  rw [List.mem_map] at hc
  obtain ⟨x, _, rfl⟩ := hc
  rfl
def qbo (p : Pat) : List AV := [.str p.letters, qy p.levels]
theorem qAs (n : Int) (h : List AObj) : qs Tryz.prog 102 [.int .i64 n] h (.bool (qkE n)) h := by
 refine qo qvr (by simp) ?_
 simp only [lcP, lnP, Nat.reduceAdd, Nat.reduceSub, List.replicate, caP, naP, List.append_nil]
 simp (disch := omega) only [quJ, go_sem, qc, dvP, mdP]
 repeat' first
  | ((first | refine qe ?_ ?_ | refine qg ?_ ?_); (next => exact rvk); simp only [go_sem]; (first | exact VLe.refl _ | refine qh ?_ | refine qd ?_ | refine ql ?_ | skip))
  | with_reducible first | refine And.intro ?_ ?_ | intro _
 all_goals try exact clz
theorem qAq (c : UInt8) (h : List AObj) : qs Tryz.prog 97 [.int .u8 (c.toNat : Int)] h (.bool (qjy c)) h := by
 refine qo qyA (by simp) ?_
 simp only [lcP, lnP, Nat.reduceAdd, Nat.reduceSub, List.replicate, caP, naP, List.append_nil]
 simp (disch := omega) only [qst, go_sem, qc, dvP, mdP]
 repeat' first
  | ((first | refine qj (jP c _) ?_ ?_); (next => exact flk); simp (disch := omega) only [go_sem, qc, dvP, mdP])
  | ((first | refine qn (fun _ => jP c _) ?_ ?_); (next => exact flk); simp (disch := omega) only [go_sem, qc, dvP, mdP])
  | ((first | refine qk (fun e => ⟨?_, jP c _⟩) ?_); (next => exact flk); simp (disch := omega) only [go_sem, qc, dvP, mdP])
  | ((first | refine qe ?_ ?_ | refine qg ?_ ?_); (next => exact rvk); simp only [go_sem]; (first | exact VLe.refl _ | refine qh ?_ | refine qd ?_ | refine ql ?_ | skip))
  | with_reducible first | refine And.intro ?_ ?_ | intro _
 all_goals try exact clz
def qcI (p : Int → Bool) : List Int → Nat → Int
 | [], _ => -1
 | c :: r, i => if p c = true then i else qcI p r (i + 1)
theorem qmg (p : Int → Bool) : ∀ (s : List Int) (i : Nat), (0 ≤ qcI p s i ↔ s.any p = true) ∧ -1 ≤ qcI p s i := by
 intro s
 induction s with
 | nil => intro i; simp [qcI]
 | cons c r ih =>
  intro i
  by_cases hc : p c = true
  ·have e : qcI p (c :: r) i = i := if_pos hc
   rw [e, List.any_cons, hc]
   simp
   try omega
  ·have e : qcI p (c :: r) i = qcI p r (i + 1) := if_neg hc
   rw [e, List.any_cons]
   have hc' : p c = false := by simpa using hc
   rw [hc', Bool.false_or]
   exact ih (i + 1)
theorem qmf (p : Int → Bool) (s : List Int) (i : Nat) : decide (0 ≤ qcI p s i) = s.any p := by
 rw [Bool.eq_iff_iff, decide_eq_true_eq]; exact (qmg p s i).1
theorem t127 (s : List Int) (p : Int → Bool) (F : Nat) (h : List AObj) (hs : s.length ≤ 1000000000) (hp : ∀ (c : Int) (h : List AObj), qs Tryz.prog F [.int .i64 c] h (.bool (p c)) h) : qs Tryz.prog 128 [qy s, .fn (.func F) [] []] h (.int .i64 (qcI p s 0)) h := by
 refine qo qvH (by simp) ?_
 simp only [lcP, lnP, Nat.reduceAdd, Nat.reduceSub, List.replicate, caP, naP, List.append_nil]
 simp (disch := omega) only [quV, qy, go_sem, qc, dvP, mdP]
 repeat' first
  | ((first | refine qe ?_ ?_ | refine qg ?_ ?_); (next => exact rvk); simp only [go_sem]; (first | exact VLe.refl _ | refine qh ?_ | refine qd ?_ | refine ql ?_ | skip))
  | with_reducible first | refine And.intro ?_ ?_ | intro _
 all_goals try exact clz
 refine qJ (T := fun i : Nat => qv 19 [(0, qy s), (1, .fn (.func F) [] []), (6, qy s), (7, .int .i64 s.length), (8, .int .i64 i)]) (H := fun _ => h) (inv := fun i => i ≤ s.length ∧ qcI p s 0 = qcI p (s.drop i) i) (m := fun i => s.length - i) 0 ⟨by omega, by simp⟩ (Wk.temps ?_) ?_
 ·(simp only [qy, qv, List.foldl, List.replicate, go_sem, qr, qp, qm, qq]; try (repeat' first | (with_reducible refine And.intro ?_ ?_) | (refine qh ?_; omega) | (refine qd ?_; rfl) | exact VLe.refl _))
 ·rintro i ⟨i1, i2⟩ K hK
  rw [i2]
  by_cases hi : i < s.length
  ·have e : s.drop i = s.getD i 0 :: s.drop (i + 1) := by rw [List.drop_eq_getElem_cons hi]; simp [List.getD_eq_getElem?_getD, hi]
   rw [e] at i2 ⊢
   simp only [qcI] at i2 ⊢
   have hpc := fun h => hp (s.getD i 0) h
   cases hb : p (s.getD i 0) with
   | true =>
    rw [hb] at hpc
    simp (disch := omega) only [qv, List.foldl, List.replicate, qy, go_sem, qc, dvP, mdP]
    repeat' first
     | (refine zH (hpc _) ?_; simp (disch := omega) only [qy, go_sem, qc, dvP, mdP])
     | ((first | refine qe ?_ ?_ | refine qg ?_ ?_); (next => exact rvk); simp only [go_sem]; (first | exact VLe.refl _ | refine qh ?_ | refine qd ?_ | refine ql ?_ | skip))
     | with_reducible first | refine And.intro ?_ ?_ | intro _
    all_goals try exact clz
    all_goals simp
   | false =>
    rw [hb] at hpc i2
    simp (disch := omega) only [qv, List.foldl, List.replicate, qy, go_sem, qc, dvP, mdP]
    repeat' first
     | (refine zH (hpc _) ?_; simp (disch := omega) only [qy, go_sem, qc, dvP, mdP])
     | ((first | refine qe ?_ ?_ | refine qg ?_ ?_); (next => exact rvk); simp only [go_sem]; (first | exact VLe.refl _ | refine qh ?_ | refine qd ?_ | refine ql ?_ | skip))
     | with_reducible first | refine And.intro ?_ ?_ | intro _
    all_goals try exact clz
    refine hK _ _ (i + 1) ⟨by omega, by rw [i2]; simp⟩ (by omega) (Wk.temps ?_)
    (simp only [qy, qv, List.foldl, List.replicate, go_sem, qr, qp, qm, qq]; try (repeat' first | (with_reducible refine And.intro ?_ ?_) | (refine qh ?_; omega) | (refine qd ?_; rfl) | exact VLe.refl _))
  ·have e : i = s.length := by omega
   subst e
   rw [List.drop_length]
   simp (disch := omega) only [qv, List.foldl, List.replicate, qy, go_sem, qc, dvP, mdP]
   repeat' first
    | ((first | refine qe ?_ ?_ | refine qg ?_ ?_); (next => exact rvk); simp only [go_sem]; (first | exact VLe.refl _ | refine qh ?_ | refine qd ?_ | refine ql ?_ | skip))
    | with_reducible first | refine And.intro ?_ ?_ | intro _
   all_goals try exact clz
theorem qAr (s : List Int) (p : Int → Bool) (F : Nat) (h : List AObj) (hs : s.length ≤ 1000000000) (hp : ∀ (c : Int) (h : List AObj), qs Tryz.prog F [.int .i64 c] h (.bool (p c)) h) : qs Tryz.prog 101 [qy s, .fn (.func F) [] []] h (.bool (s.any p)) h := by
 rw [← qmf p s 0]
 refine qo qvq (by simp) ?_
 simp only [lcP, lnP, Nat.reduceAdd, Nat.reduceSub, List.replicate, caP, naP, List.append_nil]
 simp (disch := omega) only [qiC, qy, go_sem, qc, dvP, mdP]
 repeat' first
  | ((first | refine qj (t127 s p F _ hs hp) ?_ ?_); (next => exact flk); simp (disch := omega) only [qy, go_sem, qc, dvP, mdP])
  | ((first | refine qk (fun e => ⟨?_, t127 s p F _ hs hp⟩) ?_); (next => exact flk); simp (disch := omega) only [qy, go_sem, qc, dvP, mdP])
  | ((first | refine qe ?_ ?_ | refine qg ?_ ?_); (next => exact rvk); simp only [go_sem]; (first | exact VLe.refl _ | refine qh ?_ | refine qd ?_ | refine ql ?_ | skip))
  | with_reducible first | refine And.intro ?_ ?_ | intro _
 all_goals try exact clz
theorem t105 (s : List UInt8) (h : List AObj) (hs : s.length ≤ 1000000000) : qs Tryz.prog 100 [.str s] h (qF (qV s)) h := by
 refine qo qvp (by simp) ?_
 simp only [lcP, lnP, Nat.reduceAdd, Nat.reduceSub, List.replicate, caP, naP, List.append_nil]
 simp (disch := omega) only [qbs, go_sem, qc, dvP, mdP]
 repeat' first
  | ((first | refine qj (t67 s _ hs) ?_ ?_); (next => exact flk); simp (disch := omega) only [qF, go_sem, qc, dvP, mdP])
  | ((first | refine qk (fun e => ⟨?_, t67 s _ hs⟩) ?_); (next => exact flk); simp (disch := omega) only [qF, go_sem, qc, dvP, mdP])
  | ((first | refine qe ?_ ?_ | refine qg ?_ ?_); (next => exact rvk); simp only [go_sem]; (first | exact VLe.refl _ | refine qh ?_ | refine qd ?_ | refine ql ?_ | skip))
  | with_reducible first | refine And.intro ?_ ?_ | intro _
 all_goals try exact clz
end HY
end
section
open Go Go.Proofs AF HY
namespace HY
set_option maxRecDepth 100000
def qbe (c : UInt8) : Bool := !decide (kind c = 2)
theorem qjT {s : List UInt8} (h : qbu s = 0) (hs : s.length ≤ 64) : s.any qbe = !decide (s = []) := by
 rw [qlP, if_neg (by omega)] at h
 cases s with
 | nil => rfl
 | cons c r =>
  have hb : qcE (c :: r) 0 = false := by
   cases hb : qcE (c :: r) 0 with
   | false => rfl
   | true => rw [if_pos (qdL (i := 0) (by simp) hb)] at h; cases h
  have hm : qbe c = true := by
   unfold qcE at hb
   simp [ch, jX] at hb
   unfold qbe
   simp [hb.2]
  simp [hm]
theorem qmF (s : List UInt8) : (qji s).length ≤ s.length := by
 unfold qji je qaI
 split <;> split <;> simp <;> omega
theorem qev {s : List UInt8} {p : UInt8 → Bool} {i : Nat} (h : i < s.length) : (s.take (i + 1)).any p = ((s.take i).any p || p (ch s i)) := by
 rw [List.take_add_one, List.any_append, List.getElem?_eq_getElem h]
 simp [ch, h]
theorem qkA {s : List UInt8} {p : UInt8 → Bool} {i : Nat} (h : i < s.length) (hp : p (ch s i) = true) : s.any p = true := by
 rw [List.any_eq_true]
 exact ⟨s[i], List.getElem_mem h, by simpa [ch, h] using hp⟩
set_option maxHeartbeats 8000000 in
theorem t87 (p : Pat) (h : List AObj) (hl : p.letters.length ≤ 1000000000) (hv : p.levels.length ≤ 1000000000) : qs Tryz.prog 64 [.agg (qbo p)] h (.int .i64 (j5 p)) h := by
 unfold j5
 by_cases g0 : 64 < p.letters.length
 ·have k0 : (64 < (p.letters.length : Int)) = True := eq_true (by omega)
  rw [if_pos g0]
  refine qo qv3 (by simp) ?_
  simp only [lcP, lnP, Nat.reduceAdd, Nat.reduceSub, List.replicate, caP, naP, List.append_nil]
  simp (disch := omega) only [qlx, qbo, k0, go_sem, qc, dvP, mdP]
  repeat' first
   | ((first | refine qe ?_ ?_ | refine qg ?_ ?_); (next => exact rvk); simp only [go_sem]; (first | exact VLe.refl _ | refine qh ?_ | refine qd ?_ | refine ql ?_ | skip))
   | with_reducible first | refine And.intro ?_ ?_ | intro _
  all_goals try exact clz
 ·have k0 : (64 < (p.letters.length : Int)) = False := eq_false (by omega)
  rw [if_neg g0]
  have hil := qmF p.letters
  have htl : (qaI p.letters [46]).length ≤ 1000000000 := by
   unfold qaI
   split
   ·rw [List.length_drop]; omega
   ·omega
  obtain ⟨own, hown⟩ : ∃ o, o = qji p.letters := ⟨_, rfl⟩
  have quu := fun h => qAp p.letters [46] h hl (by simp)
  have qus : ∀ h : List AObj, qs Tryz.prog 15 [.str (qaI p.letters [46]), .str [46]] h (.str own) h := fun h => by rw [hown]; exact t100 _ [46] h htl (by simp)
  rw [← hown] at hil ⊢
  obtain ⟨q, hq⟩ : ∃ q, q = qbu own := ⟨_, rfl⟩
  have qgB : ∀ h : List AObj, qs Tryz.prog 99 [.str own] h (.int .i64 q) h := fun h => by rw [hq]; exact qzV own h (by omega)
  have hso : q = 0 → own.any qbe = !decide (own = []) := fun e => qjT (by rw [← hq]; exact e) (by omega)
  rw [← hq]
  refine qo qv3 (by simp) ?_
  simp only [lcP, lnP, Nat.reduceAdd, Nat.reduceSub, List.replicate, caP, naP, List.append_nil]
  simp (disch := omega) only [qlx, qbo, k0, go_sem, qc, dvP, mdP]
  repeat' first
   | ((first | refine qj (quu _) ?_ ?_ | refine qj (qus _) ?_ ?_); (next => exact flk); simp (disch := omega) only [k0, qbo, go_sem, qc, dvP, mdP])
   | ((first | refine qn (fun _ => quu _) ?_ ?_ | refine qn (fun _ => qus _) ?_ ?_); (next => exact flk); simp (disch := omega) only [k0, qbo, go_sem, qc, dvP, mdP])
   | ((first | refine qk (fun e => ⟨?_, quu _⟩) ?_ | refine qk (fun e => ⟨?_, qus _⟩) ?_); (next => exact flk); simp (disch := omega) only [k0, qbo, go_sem, qc, dvP, mdP])
   | ((first | refine qe ?_ ?_ | refine qg ?_ ?_); (next => exact rvk); simp only [go_sem]; (first | exact VLe.refl _ | refine qh ?_ | refine qd ?_ | refine ql ?_ | skip))
   | with_reducible first | refine And.intro ?_ ?_ | intro _
  all_goals try exact clz
  refine qJ (T := fun i : Nat => qv 80 [(1, .op h.length 1 0), (3, .str own), (4, .fn (.func 97) [] []), (5, .bool ((own.take i).any qbe)), (16, .int .i64 own.length), (17, .int .i64 i)]) (H := fun _ => h ++ [.mem 1 61 [.str p.letters, qy p.levels]])
   (inv := fun i => i ≤ own.length ∧ ∀ j, j < i → qjy (ch own j) = true) (m := fun i => own.length - i) 0 ⟨by omega, by omega⟩ (Wk.temps ?_) ?_
  ·(simp only [List.take_zero, List.any_nil, qv, List.foldl, List.replicate, go_sem, qr, qp, qm, qq]; try (repeat' first | (with_reducible refine And.intro ?_ ?_) | (refine qh ?_; omega) | (refine qd ?_; rfl) | exact VLe.refl _))
  ·rintro i ⟨i1, i2⟩ K hK
   by_cases hi : i < own.length
   ·have qst := fun h => qAq (ch own i) h
    cases hb : qjy (ch own i) with
    | false =>
     rw [hb] at qst
     rw [if_pos (qkA (p := fun c => !qjy c) hi (by rw [hb]; rfl))]
     simp (disch := omega) only [qv, List.foldl, List.replicate, jA, go_sem, qc, dvP, mdP]
     repeat' first
      | (refine zH (qst _) ?_; simp (disch := omega) only [jA, go_sem, qc, dvP, mdP])
      | ((first | refine qe ?_ ?_ | refine qg ?_ ?_); (next => exact rvk); simp only [go_sem]; (first | exact VLe.refl _ | refine qh ?_ | refine qd ?_ | refine ql ?_ | skip))
      | with_reducible first | refine And.intro ?_ ?_ | intro _
     all_goals try exact clz
    | true =>
     rw [hb] at qst
     have hst := qev (p := qbe) hi
     simp (disch := omega) only [qv, List.foldl, List.replicate, jA, go_sem, qc, dvP, mdP]
     repeat' first
      | (refine zH (qst _) ?_; simp (disch := omega) only [jA, go_sem, qc, dvP, mdP])
      | ((first | refine qj (jP _ _) ?_ ?_); (next => exact flk); simp (disch := omega) only [jA, go_sem, qc, dvP, mdP])
      | ((first | refine qn (fun _ => jP _ _) ?_ ?_); (next => exact flk); simp (disch := omega) only [jA, go_sem, qc, dvP, mdP])
      | ((first | refine qk (fun e => ⟨?_, jP _ _⟩) ?_); (next => exact flk); simp (disch := omega) only [jA, go_sem, qc, dvP, mdP])
      | ((first | refine qe ?_ ?_ | refine qg ?_ ?_); (next => exact rvk); simp only [go_sem]; (first | exact VLe.refl _ | refine qh ?_ | refine qd ?_ | refine ql ?_ | skip))
      | with_reducible first | refine And.intro ?_ ?_ | intro _
     all_goals try exact clz
     refine hK _ _ (i + 1) ⟨by omega, fun j hj => ?_⟩ (by omega) ?_
     ·by_cases e : j = i
      ·subst e; exact hb
      ·exact i2 j (by omega)
     ·rw [hst]
      unfold qbe
      refine Wk.temps ?_
      (simp only [qv, List.foldl, List.replicate, go_sem, qr, qp, qm, qq]; try (repeat' first | (with_reducible refine And.intro ?_ ?_) | (refine qh ?_; omega) | (refine qd ?_; rfl) | exact VLe.refl _))
   ·have e : i = own.length := by omega
    subst e
    have hall : own.any (fun c => !qjy c) = false := by
     rw [List.any_eq_false]
     intro x hx
     obtain ⟨j, hj, rfl⟩ := List.mem_iff_getElem.1 hx
     have := i2 j hj
     simpa [ch, hj] using this
    rw [hall, if_neg (by simp), List.take_length]
    by_cases g1 : q = 0
    ·rw [if_neg (show ¬ q ≠ 0 by simpa using g1), hso g1]
     by_cases g2 : own = []
     ·rw [if_pos g2, decide_eq_true g2]
      simp (disch := omega) only [qv, List.foldl, List.replicate, go_sem, qc, dvP, mdP]
      repeat' first
       | ((first | refine qj (qgB _) ?_ ?_); (next => exact flk); simp (disch := omega) only [g1, go_sem, qc, dvP, mdP])
       | ((first | refine qn (fun _ => qgB _) ?_ ?_); (next => exact flk); simp (disch := omega) only [g1, go_sem, qc, dvP, mdP])
       | ((first | refine qk (fun e => ⟨?_, qgB _⟩) ?_); (next => exact flk); simp (disch := omega) only [g1, go_sem, qc, dvP, mdP])
       | ((first | refine qe ?_ ?_ | refine qg ?_ ?_); (next => exact rvk); simp only [go_sem]; (first | exact VLe.refl _ | refine qh ?_ | refine qd ?_ | refine ql ?_ | skip))
       | with_reducible first | refine And.intro ?_ ?_ | intro _
      all_goals try exact clz
     ·rw [if_neg g2, decide_eq_false g2]
      obtain ⟨L, hL⟩ : ∃ L, L = p.levels := ⟨_, rfl⟩
      obtain ⟨S, hS⟩ : ∃ S, S = p.letters := ⟨_, rfl⟩
      rw [← hL] at hv ⊢
      rw [← hS] at hl g0 hil ⊢
      have qbs := fun h => t105 S h hl
      have qiC := fun h => qAr L qkE 102 h hv qAs
      have qiD := fun h => qAt S [46] h hl (by simp)
      have qiE := fun h => qAu S [46] h hl (by simp)
      have hcl := jB S
      by_cases g3 : L.length = (qV S).length + 1
      ·have hx1 : ((L.length : Int) - 1).toNat = L.length - 1 := by omega
       have k3 : ((L.length : Int) = ((qV S).length : Int) + 1) = True := eq_true (by omega)
       rw [if_neg (show ¬ L.length ≠ (qV S).length + 1 by simpa using g3)]
       simp (disch := omega) only [qv, List.foldl, List.replicate, qy, go_sem, qc, dvP, mdP]
       repeat' first
        | ((first | refine qj (qgB _) ?_ ?_ | refine qj (qbs _) ?_ ?_ | refine qj (qiC _) ?_ ?_ | refine qj (qiD _) ?_ ?_ | refine qj (qiE _) ?_ ?_); (next => exact flk); simp (disch := omega) only [g1, qy, qF, k3, hx1, go_sem, qc, dvP, mdP])
        | ((first | refine qn (fun _ => qgB _) ?_ ?_ | refine qn (fun _ => qbs _) ?_ ?_ | refine qn (fun _ => qiC _) ?_ ?_ | refine qn (fun _ => qiD _) ?_ ?_ | refine qn (fun _ => qiE _) ?_ ?_); (next => exact flk); simp (disch := omega) only [g1, qy, qF, k3, hx1, go_sem, qc, dvP, mdP])
        | ((first | refine qk (fun e => ⟨?_, qgB _⟩) ?_ | refine qk (fun e => ⟨?_, qbs _⟩) ?_ | refine qk (fun e => ⟨?_, qiC _⟩) ?_ | refine qk (fun e => ⟨?_, qiD _⟩) ?_ | refine qk (fun e => ⟨?_, qiE _⟩) ?_); (next => exact flk); simp (disch := omega) only [g1, qy, qF, k3, hx1, go_sem, qc, dvP, mdP])
        | ((first | refine qe ?_ ?_ | refine qg ?_ ?_); (next => exact rvk); simp only [go_sem]; (first | exact VLe.refl _ | refine qh ?_ | refine qd ?_ | refine ql ?_ | skip))
        | with_reducible first | refine And.intro ?_ ?_ | intro _
       all_goals try exact clz
       all_goals first | (rename_i hx; exact hx.1) | (rename_i hx; exact hx.2) | (rename_i hx; exact hx.1.1) | (rename_i hx; exact hx.1.2) | (rename_i hx; exact hx.2.1) | (rename_i hx; exact hx.2.2) | grind | trace_state
      ·have k3 : ((L.length : Int) = ((qV S).length : Int) + 1) = False := eq_false (by omega)
       rw [if_pos g3]
       simp (disch := omega) only [qv, List.foldl, List.replicate, qy, go_sem, qc, dvP, mdP]
       repeat' first
        | ((first | refine qj (qgB _) ?_ ?_ | refine qj (qbs _) ?_ ?_); (next => exact flk); simp (disch := omega) only [g1, qy, qF, k3, go_sem, qc, dvP, mdP])
        | ((first | refine qn (fun _ => qgB _) ?_ ?_ | refine qn (fun _ => qbs _) ?_ ?_); (next => exact flk); simp (disch := omega) only [g1, qy, qF, k3, go_sem, qc, dvP, mdP])
        | ((first | refine qk (fun e => ⟨?_, qgB _⟩) ?_ | refine qk (fun e => ⟨?_, qbs _⟩) ?_); (next => exact flk); simp (disch := omega) only [g1, qy, qF, k3, go_sem, qc, dvP, mdP])
        | ((first | refine qe ?_ ?_ | refine qg ?_ ?_); (next => exact rvk); simp only [go_sem]; (first | exact VLe.refl _ | refine qh ?_ | refine qd ?_ | refine ql ?_ | skip))
        | with_reducible first | refine And.intro ?_ ?_ | intro _
       all_goals try exact clz
    ·rw [if_pos g1]
     simp (disch := omega) only [qv, List.foldl, List.replicate, go_sem, qc, dvP, mdP]
     repeat' first
      | ((first | refine qj (qgB _) ?_ ?_); (next => exact flk); simp (disch := omega) only [g1, go_sem, qc, dvP, mdP])
      | ((first | refine qn (fun _ => qgB _) ?_ ?_); (next => exact flk); simp (disch := omega) only [g1, go_sem, qc, dvP, mdP])
      | ((first | refine qk (fun e => ⟨?_, qgB _⟩) ?_); (next => exact flk); simp (disch := omega) only [g1, go_sem, qc, dvP, mdP])
      | ((first | refine qe ?_ ?_ | refine qg ?_ ?_); (next => exact rvk); simp only [go_sem]; (first | exact VLe.refl _ | refine qh ?_ | refine qd ?_ | refine ql ?_ | skip))
      | with_reducible first | refine And.intro ?_ ?_ | intro _
     all_goals try exact clz
end HY
end
section
open Go Go.Proofs AF HY
namespace HY
set_option maxRecDepth 100000
theorem qhT {s : List UInt8} (h : s ≠ []) : 0 < (qV s).length := by
 cases hc : qV s with
 | nil =>
  exfalso
  have := qaw s
  rw [hc] at this
  exact h (by simpa using this.symm)
 | cons a r => simp
end HY
end
section
open Go Go.Proofs AF HY
namespace HY
set_option maxRecDepth 100000
end HY
end
section
open Go Go.Proofs AF HY
namespace HY
set_option maxRecDepth 100000
def qw (ps : List Pat) : AV := .sl ps.length fun i => qbo (ps.getD i default)
def qdk : List Pat → Int
 | [] => 0
 | p :: r => if j5 p = 0 then qdk r else j5 p
def jm (ps : List Pat) : Int := if 4096 < ps.length then 4 else qdk ps
def qa6 (ps : List Pat) : Prop := ps.length ≤ 1000000000 ∧ ∀ i, i < ps.length → (ps.getD i default).letters.length ≤ 1000000000 ∧ (ps.getD i default).levels.length ≤ 1000000000
theorem qeC {ps : List Pat} {i : Nat} (h : i < ps.length) : ps.drop i = ps.getD i default :: ps.drop (i + 1) := by
 rw [List.drop_eq_getElem_cons h]; simp [List.getD_eq_getElem?_getD, h]
theorem t64 (ps : List Pat) (h : List AObj) (hok : qa6 ps) : qs Tryz.prog 36 [qw ps] h (.int .i64 (jm ps)) h := by
 obtain ⟨hl, hp⟩ := hok
 unfold jm
 by_cases g0 : 4096 < ps.length
 ·have k0 : (4096 < (ps.length : Int)) = True := eq_true (by omega)
  rw [if_pos g0]
  refine qo qvY (by simp) ?_
  simp only [lcP, lnP, Nat.reduceAdd, Nat.reduceSub, List.replicate, caP, naP, List.append_nil]
  simp (disch := omega) only [qbS, qw, k0, go_sem, qc, dvP, mdP]
  repeat' first
   | ((first | refine qe ?_ ?_ | refine qg ?_ ?_); (next => exact rvk); simp only [go_sem]; (first | exact VLe.refl _ | refine qh ?_ | refine qd ?_ | refine ql ?_ | skip))
   | with_reducible first | refine And.intro ?_ ?_ | intro _
  all_goals try exact clz
 have k0 : (4096 < (ps.length : Int)) = False := eq_false (by omega)
 rw [if_neg g0]
 refine qo qvY (by simp) ?_
 simp only [lcP, lnP, Nat.reduceAdd, Nat.reduceSub, List.replicate, caP, naP, List.append_nil]
 simp (disch := omega) only [qbS, qw, k0, go_sem, qc, dvP, mdP]
 repeat' first
  | ((first | refine qe ?_ ?_ | refine qg ?_ ?_); (next => exact rvk); simp only [go_sem]; (first | exact VLe.refl _ | refine qh ?_ | refine qd ?_ | refine ql ?_ | skip))
  | with_reducible first | refine And.intro ?_ ?_ | intro _
 all_goals try exact clz
 refine qJ (T := fun i : Nat × AObj => qv 21 [(9, qw ps), (10, .int .i64 ps.length), (11, .int .i64 i.1)]) (H := fun i => h ++ [i.2])
  (inv := fun i => i.1 ≤ ps.length ∧ qdk ps = qdk (ps.drop i.1) ∧ zf [i.2] 0 = true) (m := fun i => ps.length - i.1) (0, .emp 0) ⟨by simp, by simp, rfl⟩ (Wk.temps ?_) ?_
 ·(simp only [qw, qv, List.foldl, List.replicate, go_sem, qr, qp, qm, qq]; try (repeat' first | (with_reducible refine And.intro ?_ ?_) | (refine qh ?_; omega) | (refine qd ?_; rfl) | exact VLe.refl _))
 rintro ⟨i, O⟩ ⟨i1, i2, i3⟩ K hK
 simp only at i1 i2 i3 hK
 have i3' : ∀ m, zf (O :: m) 0 = true := fun _ => i3
 rw [i2]
 by_cases hi : i < ps.length
 ·obtain ⟨b1, b2⟩ := hp i hi
  rw [qeC hi] at i2 ⊢
  obtain ⟨p, hpp⟩ : ∃ p, p = ps.getD i default := ⟨_, rfl⟩
  have epp := hpp.symm
  rw [← hpp] at i2 b1 b2 ⊢
  simp only [qdk] at i2 ⊢
  have qlx := fun h => t87 p h b1 b2
  obtain ⟨q, hq⟩ : ∃ q, q = j5 p := ⟨_, rfl⟩
  rw [← hq] at qlx i2 ⊢
  by_cases g1 : q = 0
  ·rw [if_pos g1] at i2 ⊢
   simp (disch := omega) only [qv, List.foldl, List.replicate, qw, qbo, epp, i3', go_sem, qc, dvP, mdP]
   repeat' first
    | ((first | refine qj (qlx _) ?_ ?_); (next => exact flk); simp (disch := omega) only [g1, go_sem, qc, dvP, mdP])
    | ((first | refine qn (fun _ => qlx _) ?_ ?_); (next => exact flk); simp (disch := omega) only [g1, go_sem, qc, dvP, mdP])
    | ((first | refine qk (fun e => ⟨?_, qlx _⟩) ?_); (next => exact flk); simp (disch := omega) only [g1, go_sem, qc, dvP, mdP])
    | ((first | refine qe ?_ ?_ | refine qg ?_ ?_); (next => exact rvk); simp only [go_sem]; (first | exact VLe.refl _ | refine qh ?_ | refine qd ?_ | refine ql ?_ | skip))
    | with_reducible first | refine And.intro ?_ ?_ | intro _
   all_goals try exact clz
   refine hK _ _ (i + 1, .mem (qA (some O) + 1) 61 [.str p.letters, qy p.levels]) ⟨by simp only; omega, i2, rfl⟩ (by simp only; omega) (Wk.temps ?_)
   (simp only [qw, qbo, qv, List.foldl, List.replicate, go_sem, qr, qp, qm, qq]; try (repeat' first | (with_reducible refine And.intro ?_ ?_) | (refine qh ?_; omega) | (refine qd ?_; rfl) | exact VLe.refl _))
  ·rw [if_neg g1]
   simp (disch := omega) only [qv, List.foldl, List.replicate, qw, qbo, epp, i3', go_sem, qc, dvP, mdP]
   repeat' first
    | ((first | refine qj (qlx _) ?_ ?_); (next => exact flk); simp (disch := omega) only [g1, go_sem, qc, dvP, mdP])
    | ((first | refine qn (fun _ => qlx _) ?_ ?_); (next => exact flk); simp (disch := omega) only [g1, go_sem, qc, dvP, mdP])
    | ((first | refine qk (fun e => ⟨?_, qlx _⟩) ?_); (next => exact flk); simp (disch := omega) only [g1, go_sem, qc, dvP, mdP])
    | ((first | refine qe ?_ ?_ | refine qg ?_ ?_); (next => exact rvk); simp only [go_sem]; (first | exact VLe.refl _ | refine qh ?_ | refine qd ?_ | refine ql ?_ | skip))
    | with_reducible first | refine And.intro ?_ ?_ | intro _
   all_goals try exact clz
 ·have e : i = ps.length := by omega
  subst e
  rw [List.drop_length]
  simp (disch := omega) only [qv, List.foldl, List.replicate, qw, qbo, go_sem, qc, dvP, mdP]
  repeat' first
   | ((first | refine qe ?_ ?_ | refine qg ?_ ?_); (next => exact rvk); simp only [go_sem]; (first | exact VLe.refl _ | refine qh ?_ | refine qd ?_ | refine ql ?_ | skip))
   | with_reducible first | refine And.intro ?_ ?_ | intro _
  all_goals try exact clz
def qaF (ps : List Pat) (w : List UInt8) : Int := if jm ps = 0 then (if qa2 w = true then 0 else 11) else 1
theorem qAw (ps : List Pat) (w : List UInt8) (h : List AObj) (hok : qa6 ps) (hw : w.length ≤ 1000000000) : qs Tryz.prog 107 [qw ps, .str w] h (.int .i64 (qaF ps w)) h := by
 unfold qaF
 have qbS := fun h => t64 ps h hok
 have qbT := fun h => t88 w h hw
 obtain ⟨q, hq⟩ : ∃ q, q = jm ps := ⟨_, rfl⟩
 obtain ⟨u, hu⟩ : ∃ u, u = qa2 w := ⟨_, rfl⟩
 rw [← hq] at qbS ⊢
 rw [← hu] at qbT ⊢
 by_cases g1 : q = 0
 ·rw [if_pos g1]
  cases u with
  | true =>
   refine qo qmo (by simp) ?_
   simp only [lcP, lnP, Nat.reduceAdd, Nat.reduceSub, List.replicate, caP, naP, List.append_nil]
   simp (disch := omega) only [qcF, qw, go_sem, qc, dvP, mdP]
   repeat' first
    | ((first | refine qj (qbS _) ?_ ?_ | refine qj (qbT _) ?_ ?_); (next => exact flk); simp (disch := omega) only [qw, g1, go_sem, qc, dvP, mdP])
    | ((first | refine qn (fun _ => qbS _) ?_ ?_ | refine qn (fun _ => qbT _) ?_ ?_); (next => exact flk); simp (disch := omega) only [qw, g1, go_sem, qc, dvP, mdP])
    | ((first | refine qk (fun e => ⟨?_, qbS _⟩) ?_ | refine qk (fun e => ⟨?_, qbT _⟩) ?_); (next => exact flk); simp (disch := omega) only [qw, g1, go_sem, qc, dvP, mdP])
    | ((first | refine qe ?_ ?_ | refine qg ?_ ?_); (next => exact rvk); simp only [go_sem]; (first | exact VLe.refl _ | refine qh ?_ | refine qd ?_ | refine ql ?_ | skip))
    | with_reducible first | refine And.intro ?_ ?_ | intro _
   all_goals try exact clz
  | false =>
   refine qo qmo (by simp) ?_
   simp only [lcP, lnP, Nat.reduceAdd, Nat.reduceSub, List.replicate, caP, naP, List.append_nil]
   simp (disch := omega) only [qcF, qw, go_sem, qc, dvP, mdP]
   repeat' first
    | ((first | refine qj (qbS _) ?_ ?_ | refine qj (qbT _) ?_ ?_); (next => exact flk); simp (disch := omega) only [qw, g1, go_sem, qc, dvP, mdP])
    | ((first | refine qn (fun _ => qbS _) ?_ ?_ | refine qn (fun _ => qbT _) ?_ ?_); (next => exact flk); simp (disch := omega) only [qw, g1, go_sem, qc, dvP, mdP])
    | ((first | refine qk (fun e => ⟨?_, qbS _⟩) ?_ | refine qk (fun e => ⟨?_, qbT _⟩) ?_); (next => exact flk); simp (disch := omega) only [qw, g1, go_sem, qc, dvP, mdP])
    | ((first | refine qe ?_ ?_ | refine qg ?_ ?_); (next => exact rvk); simp only [go_sem]; (first | exact VLe.refl _ | refine qh ?_ | refine qd ?_ | refine ql ?_ | skip))
    | with_reducible first | refine And.intro ?_ ?_ | intro _
   all_goals try exact clz
 ·rw [if_neg g1]
  refine qo qmo (by simp) ?_
  simp only [lcP, lnP, Nat.reduceAdd, Nat.reduceSub, List.replicate, caP, naP, List.append_nil]
  simp (disch := omega) only [qcF, qw, go_sem, qc, dvP, mdP]
  repeat' first
   | ((first | refine qj (qbS _) ?_ ?_ | refine qj (qbT _) ?_ ?_); (next => exact flk); simp (disch := omega) only [qw, g1, go_sem, qc, dvP, mdP])
   | ((first | refine qn (fun _ => qbS _) ?_ ?_ | refine qn (fun _ => qbT _) ?_ ?_); (next => exact flk); simp (disch := omega) only [qw, g1, go_sem, qc, dvP, mdP])
   | ((first | refine qk (fun e => ⟨?_, qbS _⟩) ?_ | refine qk (fun e => ⟨?_, qbT _⟩) ?_); (next => exact flk); simp (disch := omega) only [qw, g1, go_sem, qc, dvP, mdP])
   | ((first | refine qe ?_ ?_ | refine qg ?_ ?_); (next => exact rvk); simp only [go_sem]; (first | exact VLe.refl _ | refine qh ?_ | refine qd ?_ | refine ql ?_ | skip))
   | with_reducible first | refine And.intro ?_ ?_ | intro _
  all_goals try exact clz
end HY
end
section
open Go Go.Proofs AF HY
namespace HY
set_option maxRecDepth 100000
theorem qmV {z : List AV} {c : AV} : ∀ {n : Nat}, c ∈ qM z n → c ∈ z := by
 intro n
 induction n with
 | zero => intro h; simp [qM] at h
 | succ n ih => intro h; simp only [qM, List.mem_append] at h; exact h.elim id ih
theorem qAD (n : Nat) (h : List AObj) (k : Nat) (hk : zf h k = true) (hn : 0 < n) (hn1 : n ≤ 1000000000) :
  qs Tryz.prog 144 [.nl, .int .i64 n] h (.osl k (qA (qL k h) + 1) 1 0 0) (qO k h (.mem (qA (qL k h) + 1) 9 (qM [.str []] n))) := by
 refine qgE qvT k (by simp) ?_
 simp only [lcP, lnP, Nat.reduceAdd, Nat.reduceSub, List.replicate, caP, naP, List.append_nil]
 simp (disch := omega) only [qu3, go_sem, qc, dvP, mdP]
 repeat' first
  | (with_reducible refine And.intro ?_ ?_)
  | (with_reducible intro _)
 all_goals first
  | omega
  | skip
 have e0 : ((n : Int) - (0 - 0)).toNat = n := by omega
 rw [e0]
 exact ⟨h.length + 1, 1, 1, 0, 0, 9, qM [.str []] n, [AObj.emp 1, AObj.mem 1 9 (qM [.str []] n)], ⟨trivial, trivial⟩, rfl, rfl, by omega, by simp only [go_sem], fun c hc => by have := qmV hc; simp at this; subst this; rfl, hk, rfl, rfl⟩
structure Src (h : List AObj) (e : AV) (n : Nat) (cs : List AV) : Prop where
 flag : e.flag = true
 strip : e.strip = e
 lenOk : ∀ X, okL (h ++ X) .len [e] = True
 len : ∀ X, valL (h ++ X) .len [e] = .int .i64 n
 cells : ∀ X, qz (h ++ X) e = some (n, cs)
 apart : ∀ k v z p m, h.length ≤ k → qd3 (.osl k v z p m) e = true
theorem qrg (a b : List (List UInt8)) : jh (a ++ b) = jh a ++ jh b := by simp [jh]
theorem jL {α : Type} (L : List (List α)) {i : Nat} (h : i < L.length) : (L.take (i + 1)).flatten = (L.take i).flatten ++ L.getD i [] := by
 rw [List.take_add_one, List.flatten_append, List.getElem?_eq_getElem h]
 simp [List.getD_eq_getElem?_getD, h]
theorem jC {α : Type} (L : List (List α)) (i : Nat) : (L.take i).flatten.length ≤ L.flatten.length := by
 conv => rhs; rw [← List.take_append_drop i L, List.flatten_append, List.length_append]
 omega
set_option maxHeartbeats 4000000 in
theorem qAB (Ls : List (List (List UInt8))) (E : Nat → AV) (h : List AObj) (k v : Nat) (cs : List AV) (hk : qL k h = some (.mem v 23 cs)) (hcl : cs.length = Ls.length) (hE : ∀ i, i < Ls.length → cs[i]? = some (E i) ∧ Src h (E i) (Ls.getD i []).length (jh (Ls.getD i [])))
  (h0 : 0 < Ls.flatten.length) (h1 : Ls.flatten.length ≤ 1000000000) (h2 : Ls.length ≤ 1000000000) (hv : (v == v) = true) : qs Tryz.prog 138 [.osl k v 1 0 Ls.length] h (qF Ls.flatten) h := by
 have hkl : k < h.length := zX hk
 have hL : ∀ X, zz (h ++ X) k v = true := fun X => by rw [qei hkl]; unfold zz; rw [hk]; simp
 have hC : ∀ X, cellsOf (h ++ X) k v = some cs := fun X => by rw [qco hkl]; exact jK hk
 have hLs : 0 < Ls.length := by
  cases Ls with
  | nil => simp at h0
  | cons => simp
 refine qo qvN (by simp) ?_
 simp only [lcP, lnP, Nat.reduceAdd, Nat.reduceSub, List.replicate, caP, naP, List.append_nil]
 simp (disch := omega) only [qlv, hL, hC, go_sem, qc, dvP, mdP]
 repeat' first
  | ((first | refine qe ?_ ?_ | refine qg ?_ ?_); (next => exact rvk); simp only [go_sem]; (first | exact VLe.refl _ | refine qh ?_ | refine qd ?_ | refine ql ?_ | skip))
  | with_reducible first | refine And.intro ?_ ?_ | intro _
 all_goals try exact clz
 refine qJ (T := fun i : Nat => qv 36 [(0, .osl k v 1 0 Ls.length), (3, .int .i64 (Ls.take i).flatten.length), (9, .osl k v 1 0 Ls.length), (10, .int .i64 Ls.length), (11, .int .i64 i)]) (H := fun i => h ++ [.emp 1, .emp 0, .emp 0])
  (inv := fun i => i ≤ Ls.length) (m := fun i => Ls.length - i) 0 (by omega) (Wk.temps ?_) ?_
 ·(simp only [qv, List.foldl, List.replicate, go_sem, qr, qp, qm, qq]; try (repeat' first | (with_reducible refine And.intro ?_ ?_) | (refine qh ?_; omega) | (refine qd ?_; rfl) | exact VLe.refl _))
 rintro i i1 K hK
 by_cases hi : i < Ls.length
 ·obtain ⟨c1, ⟨s1, s2, s3, s4, s5, s6⟩⟩ := hE i hi
  have hst := jL Ls hi
  have hle := jC Ls (i + 1)
  rw [hst, List.length_append] at hle
  simp (disch := omega) only [qv, List.foldl, List.replicate, hL, hC, c1, s1, s2, s3, s4, hcl, go_sem, qc, dvP, mdP]
  repeat' first
   | ((first | refine qe ?_ ?_ | refine qg ?_ ?_); (next => exact rvk); simp only [go_sem]; (first | exact VLe.refl _ | refine qh ?_ | refine qd ?_ | refine ql ?_ | skip))
   | with_reducible first | refine And.intro ?_ ?_ | intro _
  all_goals try exact clz
  have hln : (List.take (i + 1) Ls).flatten.length = (List.take i Ls).flatten.length + (Ls.getD i []).length := by rw [hst, List.length_append]
  refine hK _ _ (i + 1) (by omega) (by omega) (Wk.temps ?_)
  (simp only [qv, List.foldl, List.replicate, go_sem, qr, qp, qm, qq]; try (repeat' first | (with_reducible refine And.intro ?_ ?_) | (refine qh ?_; omega) | (refine qd ?_; rfl) | exact VLe.refl _))
 have e : i = Ls.length := by omega
 subst e
 rw [List.take_length]
 obtain ⟨N, hN⟩ : ∃ N, N = Ls.flatten.length := ⟨_, rfl⟩
 rw [← hN] at h0 h1 ⊢
 simp (disch := omega) only [qv, List.foldl, List.replicate, hL, hC, hcl, go_sem, qc, dvP, mdP]
 refine ⟨fun hf => absurd hf (by omega), fun _ => ?_⟩
 refine qX (qAD N _ (h.length + 2) (by simp only [go_sem]) h0 h1) ⟨rfl, rfl, trivial⟩ ?_
 simp (disch := omega) only [hL, hC, go_sem, qc, dvP, mdP]
 repeat' first
  | ((first | refine qe ?_ ?_ | refine qg ?_ ?_); (next => exact rvk); simp only [go_sem]; (first | exact VLe.refl _ | refine qh ?_ | refine qd ?_ | refine ql ?_ | skip))
  | with_reducible first | refine And.intro ?_ ?_ | intro _
 all_goals try exact clz
 refine qJ (T := fun i : Nat × Nat × Nat => qv 36 [(6, .osl (h.length + 2) i.2.1 1 0 i.2.2), (25, .osl k v 1 0 Ls.length), (26, .int .i64 Ls.length), (27, .int .i64 i.1)]) (H := fun i => h ++ [.emp 1, .emp 0, .mem i.2.1 9 (if i.1 = 0 then qM [.str []] N else jh (Ls.take i.1).flatten)])
  (inv := fun i => i.1 ≤ Ls.length ∧ i.2.2 = (Ls.take i.1).flatten.length) (m := fun i => Ls.length - i.1) (0, 1, 0) ⟨by simp, by simp⟩ (Wk.temps ?_) ?_
 ·(simp only [qv, List.foldl, List.replicate, go_sem, qr, qp, qm, qq]; try (repeat' first | (with_reducible refine And.intro ?_ ?_) | (refine qh ?_; omega) | (refine qd ?_; rfl) | exact VLe.refl _))
 rintro ⟨i, w, m⟩ ⟨i1, i2⟩ K hK
 simp only at i1 i2 hK
 by_cases hi : i < Ls.length
 ·obtain ⟨c1, ⟨s1, s2, s3, s4, s5, s6⟩⟩ := hE i hi
  have hst := jL Ls hi
  have hle := jC Ls (i + 1)
  rw [hst, List.length_append, ← hN] at hle
  have eT : ∀ n, List.take m (if i = 0 then qM [.str []] n else jh (Ls.take i).flatten) = jh (Ls.take i).flatten := by
   intro n
   split
   ·rename_i e0; subst e0; subst i2; rfl
   ·exact List.take_of_length_le (by rw [zJ, i2]; exact Nat.le_refl _)
  obtain ⟨ms, hms⟩ : ∃ ms, ms = (if i = 0 then qM [.str []] N else jh (Ls.take i).flatten) := ⟨_, rfl⟩
  have eT' := eT N
  rw [← hms] at eT' ⊢
  have hml : m ≤ ms.length := by
   have := congrArg List.length eT'
   rw [List.length_take, zJ, ← i2] at this
   omega
  have hsl := zJ (Ls.getD i [])
  simp (disch := omega) only [qv, List.foldl, List.replicate, hL, hC, c1, s1, s2, s3, s4, s5, s6, hcl, eT', hsl, go_sem, qc, dvP, mdP]
  repeat' first
   | ((first | refine qe ?_ ?_ | refine qg ?_ ?_); (next => exact rvk); simp only [go_sem]; (first | exact VLe.refl _ | refine qh ?_ | refine qd ?_ | refine ql ?_ | skip))
   | with_reducible first | refine And.intro ?_ ?_ | intro _
  all_goals try exact clz
  have hfin : h ++ [AObj.emp 1, AObj.emp 0, AObj.mem (w + 1) 9 (jh (List.take i Ls).flatten ++ jh (Ls.getD i []))] = h ++ [AObj.emp 1, AObj.emp 0, AObj.mem (w + 1) 9 (if i + 1 = 0 then qM [.str []] N else jh (Ls.take (i + 1)).flatten)] := by rw [if_neg (by omega), hst, qrg]
  rw [hfin]
  refine hK _ _ (i + 1, w + 1, m + (Ls.getD i []).length) ⟨by simp only; omega, by simp only; rw [hst, List.length_append, i2]⟩ (by simp only; omega) (Wk.temps ?_)
  (simp only [qv, List.foldl, List.replicate, go_sem, qr, qp, qm, qq]; try (repeat' first | (with_reducible refine And.intro ?_ ?_) | (refine qh ?_; omega) | (refine qd ?_; rfl) | exact VLe.refl _))
 ·have e : i = Ls.length := by omega
  subst e
  rw [List.take_length, ← hN] at i2
  subst i2
  rw [List.take_length, if_neg (by omega)]
  have eL : (jh Ls.flatten).length = m := by rw [zJ, hN]
  simp (disch := omega) only [qv, List.foldl, List.replicate, hL, hC, hcl, eL, go_sem, qc, dvP, mdP]
  repeat' first
   | ((first | refine qe ?_ ?_ | refine qg ?_ ?_); (next => exact rvk); simp only [go_sem]; (first | exact VLe.refl _ | refine qh ?_ | refine qd ?_ | refine ql ?_ | skip))
   | with_reducible first | refine And.intro ?_ ?_ | intro _
  all_goals try exact clz
  rw [if_pos (by omega)]
  exact qe1 hN.symm
end HY
end
section
open Go Go.Proofs AF HY
namespace HY
set_option maxRecDepth 100000
def eqS (n m : Nat) (f g : Nat → List UInt8) : Bool := decide (n = m) && (List.range n).all fun i => decide (f i = g i)
def qb3 (pat l : List (List UInt8)) (at_ : Nat) : Bool := (List.range pat.length).all fun i => decide (l.getD (at_ + i) [] = pat.getD i [])
def zn (pat l : List (List UInt8)) : List Nat := (List.range (l.length + 1 - pat.length)).filter (qb3 pat l)
def addAt (all : List Int) (at_ : Nat) : List Int → List Int
 | [] => all
 | x :: r => addAt (all.set at_ (max (all.getD at_ 0) x)) (at_ + 1) r
def qdZ (l : List (List UInt8)) (all : List Int) (p : Pat) : List Int := (zn (qV (kg p.letters)) l).foldl (fun a i => addAt a i p.levels) all
def qal (w : List UInt8) : List (List UInt8) := [46] :: (qV (kg w) ++ [[46]])
def qau (ps : List Pat) (l : List (List UInt8)) : List Int := ps.foldl (qdZ l) (List.replicate (l.length + 1) 0)
def jr (ps : List Pat) (w : List UInt8) : List Int := ((qau ps (qal w)).drop 2).take ((qal w).length - 1 - 2)
theorem qfg (r : List Int) : ∀ (all : List Int) (i : Nat), (addAt all i r).length = all.length := by
 induction r with
 | nil => intro all i; rfl
 | cons x r ih => intro all i; simp only [addAt]; rw [ih, List.length_set]
theorem qdn {α : Type} {f : List Int → α → List Int} (hf : ∀ a x, (f a x).length = a.length) (l : List α) : ∀ all, (l.foldl f all).length = all.length := by
 induction l with
 | nil => intro all; rfl
 | cons x l ih => intro all; rw [List.foldl_cons, ih, hf]
theorem qd0 (l : List (List UInt8)) (all : List Int) (p : Pat) : (qdZ l all p).length = all.length := qdn (fun a x => qfg _ _ _) _ _
theorem qmb {p : Nat → Bool} {N i : Nat} (h : i < N) : ∃ rest, (List.range N).filter p = (List.range (i + 1)).filter p ++ rest := by
 obtain ⟨r, rfl⟩ : ∃ r, N = i + 1 + r := ⟨N - (i + 1), by omega⟩
 exact ⟨_, by rw [List.range_add, List.filter_append]⟩
theorem j6 {p : Nat → Bool} {i : Nat} (h : p i = true) : (List.range (i + 1)).filter p = (List.range i).filter p ++ [i] := by
 rw [List.range_succ, List.filter_append]; simp [h]
theorem qab {p : Nat → Bool} {i : Nat} (h : p i = false) : (List.range (i + 1)).filter p = (List.range i).filter p := by
 rw [List.range_succ, List.filter_append]; simp [h]
theorem qi1 {p : Nat → Bool} {N i : Nat} (h : i < N) (hp : p i = true) : ∃ (hj : ((List.range i).filter p).length < ((List.range N).filter p).length), ((List.range N).filter p)[((List.range i).filter p).length] = i := by
 obtain ⟨rest, e⟩ := qmb (p := p) h
 rw [j6 hp, List.append_assoc] at e
 refine ⟨by rw [e]; simp, ?_⟩
 simp only [e]
 rw [List.getElem_append_right (Nat.le_refl _)]
 simp
theorem qpd {f g : Nat → List UInt8} {n i : Nat} (h : ∀ j, j < n → f j = g j) : ((List.range n).all fun i => decide (f i = g i)) = true := by
 rw [List.all_eq_true]
 intro j hj
 simpa using h j (by simpa using hj)
theorem qkz {f g : Nat → List UInt8} {n i : Nat} (hi : i < n) (h : ¬ f i = g i) : ((List.range n).all fun i => decide (f i = g i)) = false := by
 rw [Bool.eq_false_iff]
 intro hc
 rw [List.all_eq_true] at hc
 have := hc i (by simpa using hi)
 simp at this
 exact h this
theorem qz4 (n m : Nat) (f g : Nat → List UInt8) (h : List AObj) (hn : n ≤ 1000000000) : qs Tryz.prog 54 [.sl n fun i => [.str (f i)], .sl m fun i => [.str (g i)]] h (.bool (eqS n m f g)) h := by
 unfold eqS
 by_cases g0 : n = m
 ·subst g0
  refine qo qv2 (by simp) ?_
  simp only [lcP, lnP, Nat.reduceAdd, Nat.reduceSub, List.replicate, caP, naP, List.append_nil]
  simp (disch := omega) only [qkv, go_sem, qc, dvP, mdP]
  repeat' first
   | ((first | refine qe ?_ ?_ | refine qg ?_ ?_); (next => exact rvk); simp only [go_sem]; (first | exact VLe.refl _ | refine qh ?_ | refine qd ?_ | refine ql ?_ | skip))
   | with_reducible first | refine And.intro ?_ ?_ | intro _
  all_goals try exact clz
  refine qJ (T := fun i : Nat => qv 26 [(0, .sl n fun i => [.str (f i)]), (1, .sl n fun i => [.str (g i)]), (12, .int .i64 n), (13, .int .i64 i)]) (H := fun _ => h) (inv := fun i => i ≤ n ∧ ∀ j, j < i → f j = g j) (m := fun i => n - i) 0 ⟨by omega, by omega⟩ (Wk.temps ?_) ?_
  ·(simp only [qv, List.foldl, List.replicate, go_sem, qr, qp, qm, qq]; try (repeat' first | (with_reducible refine And.intro ?_ ?_) | (refine qh ?_; omega) | (refine qd ?_; rfl) | exact VLe.refl _))
  rintro i ⟨i1, i2⟩ K hK
  by_cases hi : i < n
  ·by_cases hb : f i = g i
   ·have k1 : (f i = g i) = True := eq_true hb
    simp (disch := omega) only [qv, List.foldl, List.replicate, k1, go_sem, qc, dvP, mdP]
    repeat' first
     | ((first | refine qe ?_ ?_ | refine qg ?_ ?_); (next => exact rvk); simp only [go_sem]; (first | exact VLe.refl _ | refine qh ?_ | refine qd ?_ | refine ql ?_ | skip))
     | with_reducible first | refine And.intro ?_ ?_ | intro _
    all_goals try exact clz
    refine hK _ _ (i + 1) ⟨by omega, fun j hj => ?_⟩ (by omega) (Wk.temps ?_)
    ·by_cases e : j = i
     ·subst e; exact hb
     ·exact i2 j (by omega)
    ·(simp only [qv, List.foldl, List.replicate, go_sem, qr, qp, qm, qq]; try (repeat' first | (with_reducible refine And.intro ?_ ?_) | (refine qh ?_; omega) | (refine qd ?_; rfl) | exact VLe.refl _))
   ·have k1 : (f i = g i) = False := eq_false hb
    rw [qkz hi hb]
    simp (disch := omega) only [qv, List.foldl, List.replicate, k1, go_sem, qc, dvP, mdP]
    repeat' first
     | ((first | refine qe ?_ ?_ | refine qg ?_ ?_); (next => exact rvk); simp only [go_sem]; (first | exact VLe.refl _ | refine qh ?_ | refine qd ?_ | refine ql ?_ | skip))
     | with_reducible first | refine And.intro ?_ ?_ | intro _
    all_goals try exact clz
  ·have e : i = n := by omega
   subst e
   rw [qpd (i := 0) i2]
   simp (disch := omega) only [qv, List.foldl, List.replicate, go_sem, qc, dvP, mdP]
   repeat' first
    | ((first | refine qe ?_ ?_ | refine qg ?_ ?_); (next => exact rvk); simp only [go_sem]; (first | exact VLe.refl _ | refine qh ?_ | refine qd ?_ | refine ql ?_ | skip))
    | with_reducible first | refine And.intro ?_ ?_ | intro _
   all_goals try exact clz
 ·have k0 : ((n : Int) = m) = False := eq_false (by omega)
  rw [decide_eq_false g0]
  refine qo qv2 (by simp) ?_
  simp only [lcP, lnP, Nat.reduceAdd, Nat.reduceSub, List.replicate, caP, naP, List.append_nil]
  simp (disch := omega) only [qkv, k0, go_sem, qc, dvP, mdP]
  repeat' first
   | ((first | refine qe ?_ ?_ | refine qg ?_ ?_); (next => exact rvk); simp only [go_sem]; (first | exact VLe.refl _ | refine qh ?_ | refine qd ?_ | refine ql ?_ | skip))
   | with_reducible first | refine And.intro ?_ ?_ | intro _
  all_goals try exact clz
theorem qaM (s : List UInt8) : (kg s).length = s.length := by simp [kg]
theorem qz2 (s : List UInt8) (h : List AObj) (hs : s.length ≤ 1000000000) : qs Tryz.prog 139 [.str s] h (qF (qV (kg s))) h := by
 refine qo qvO (by simp) ?_
 simp only [lcP, lnP, Nat.reduceAdd, Nat.reduceSub, List.replicate, caP, naP, List.append_nil]
 simp (disch := omega) only [qiH, go_sem, qc, dvP, mdP]
 repeat' first
  | ((first | refine qj (qz3 s _ hs) ?_ ?_ | refine qj (t105 (kg s) _ (by rw [qaM]; exact hs)) ?_ ?_); (next => exact flk); simp (disch := omega) only [qF, go_sem, qc, dvP, mdP])
  | ((first | refine qk (fun e => ⟨?_, qz3 s _ hs⟩) ?_ | refine qk (fun e => ⟨?_, t105 (kg s) _ (by rw [qaM]; exact hs)⟩) ?_); (next => exact flk); simp (disch := omega) only [qF, go_sem, qc, dvP, mdP])
  | ((first | refine qe ?_ ?_ | refine qg ?_ ?_); (next => exact rvk); simp only [go_sem]; (first | exact VLe.refl _ | refine qh ?_ | refine qd ?_ | refine ql ?_ | skip))
  | with_reducible first | refine And.intro ?_ ?_ | intro _
 all_goals try exact clz
def qdC (a b : List (List UInt8)) : AV := .fn (.func 146) [] [.ip [qF a], .ip [qF b]]
theorem qfA (a b : List (List UInt8)) : (qdC a b).flag = true := rfl
theorem qeZ (a b : List (List UInt8)) : (qdC a b).strip = qdC a b := rfl
attribute [go_sem] qfA qeZ
theorem t138 (a b : List (List UInt8)) (h : List AObj) : qs Tryz.prog 141 [qF a, qF b] h (qdC a b) h := by
 refine qo qvQ (by simp) ?_
 simp only [lcP, lnP, Nat.reduceAdd, Nat.reduceSub, List.replicate, caP, naP, List.append_nil]
 simp (disch := omega) only [qiI, qF, go_sem, qc, dvP, mdP]
 repeat' first
  | ((first | refine qe ?_ ?_ | refine qg ?_ ?_); (next => exact rvk); simp only [go_sem]; (first | exact VLe.refl _ | refine qh ?_ | refine qd ?_ | refine ql ?_ | skip))
  | with_reducible first | refine And.intro ?_ ?_ | intro _
 all_goals try exact clz
def qjE (a b : List (List UInt8)) : List (List AV) := (zn a b).map fun (i : Nat) => [.int .i64 (i : Int)]
theorem qmU (pat l : List (List UInt8)) (i : Nat) : eqS pat.length pat.length (fun k => l.getD (i + k) []) (fun k => pat.getD k []) = qb3 pat l i := by simp [eqS, qb3]
theorem qyD (pat l : List (List UInt8)) (hp : pat.length ≤ 1000000000) (hl : l.length ≤ 1000000000) : qxu Tryz.prog 146 [.ip [qF pat], .ip [qF l]] (qjE pat l) := by
 intro h ts L S E hS hE body start hts
 refine kI qvV (by simp) ?_
 simp only [lcP, lnP, Nat.reduceAdd, Nat.reduceSub, List.replicate, caP, naP, List.append_nil]
 simp (disch := omega) only [qu5, qF, go_sem, qc, dvP, mdP]
 repeat' first
  | ((first | refine qe ?_ ?_ | refine qg ?_ ?_); (next => exact rvk); simp only [go_sem]; (first | exact VLe.refl _ | refine qh ?_ | refine qd ?_ | refine ql ?_ | skip))
  | with_reducible first | refine And.intro ?_ ?_ | intro _
 all_goals try exact clz
 refine qJ (T := fun i : Nat × List AObj => qv 29 [(0, .yld h.length), (1, .ip [qF pat]), (2, .ip [qF l]), (4, .int .i64 i.1)]) (H := fun i => i.2 ++ [.lp .ready ts L])
  (inv := fun i => S ((List.range i.1).filter (qb3 pat l)).length i.2 ∧ i.1 ≤ l.length + 1 - pat.length) (m := fun i => l.length + 1 - i.1) (0, h) ⟨start, by simp⟩ (Wk.temps ?_) ?_
 ·(simp only [qF, qv, List.foldl, List.replicate, go_sem, qr, qp, qm, qq]; try (repeat' first | (with_reducible refine And.intro ?_ ?_) | (refine qh ?_; omega) | (refine qd ?_; rfl) | exact VLe.refl _))
 rintro ⟨i, hh⟩ ⟨i1, i2⟩ K hK
 simp only at i1 i2 hK
 obtain ⟨hlen, hlow⟩ := hS _ _ i1
 have he := qmU pat l i
 have hx : ((i : Int) + (pat.length : Int)).toNat - i = pat.length := by omega
 by_cases hi : i < l.length + 1 - pat.length
 ·have k0 : ((i : Int) + (pat.length : Int) ≤ (l.length : Int)) = True := eq_true (by omega)
  have qkv := fun h => qz4 pat.length pat.length (fun k => l.getD (i + k) []) (fun k => pat.getD k []) h hp
  cases hb : qb3 pat l i with
  | false =>
   rw [he, hb] at qkv
   rw [← qab hb] at i1
   simp (disch := omega) only [qv, List.foldl, List.replicate, qF, k0, hx, go_sem, qc, dvP, mdP]
   repeat' first
    | ((first | refine qj (qkv _) ?_ ?_); (next => exact flk); simp (disch := omega) only [qF, k0, hx, go_sem, qc, dvP, mdP])
    | ((first | refine qn (fun _ => qkv _) ?_ ?_); (next => exact flk); simp (disch := omega) only [qF, k0, hx, go_sem, qc, dvP, mdP])
    | ((first | refine qk (fun e => ⟨?_, qkv _⟩) ?_); (next => exact flk); simp (disch := omega) only [qF, k0, hx, go_sem, qc, dvP, mdP])
    | ((first | refine qe ?_ ?_ | refine qg ?_ ?_); (next => exact rvk); simp only [go_sem]; (first | exact VLe.refl _ | refine qh ?_ | refine qd ?_ | refine ql ?_ | skip))
    | with_reducible first | refine And.intro ?_ ?_ | intro _
   all_goals try exact clz
   refine hK _ _ (i + 1, hh) ⟨i1, by simp only; omega⟩ (by simp only; omega) (Wk.temps ?_)
   (simp only [qF, qv, List.foldl, List.replicate, go_sem, qr, qp, qm, qq]; try (repeat' first | (with_reducible refine And.intro ?_ ?_) | (refine qh ?_; omega) | (refine qd ?_; rfl) | exact VLe.refl _))
  | true =>
   rw [he, hb] at qkv
   obtain ⟨hj, hget⟩ := qi1 hi hb
   have hb' := body _ hh [] (by simpa [qjE, zn] using hj) i1
   have hxx : (qjE pat l)[((List.range i).filter (qb3 pat l)).length]'(by simpa [qjE, zn] using hj) = [.int .i64 (i : Int)] := by
    simp only [qjE, zn, List.getElem_map, hget]
   rw [hxx] at hb'
   simp (disch := omega) only [qv, List.foldl, List.replicate, qF, k0, hx, go_sem, qc, dvP, mdP]
   repeat' first
    | ((first | refine qj (qkv _) ?_ ?_); (next => exact flk); simp (disch := omega) only [qF, k0, hx, go_sem, qc, dvP, mdP])
    | ((first | refine qn (fun _ => qkv _) ?_ ?_); (next => exact flk); simp (disch := omega) only [qF, k0, hx, go_sem, qc, dvP, mdP])
    | ((first | refine qk (fun e => ⟨?_, qkv _⟩) ?_); (next => exact flk); simp (disch := omega) only [qF, k0, hx, go_sem, qc, dvP, mdP])
    | ((first | refine qe ?_ ?_ | refine qg ?_ ?_); (next => exact rvk); simp only [go_sem]; (first | exact VLe.refl _ | refine qh ?_ | refine qd ?_ | refine ql ?_ | skip))
    | with_reducible first | refine And.intro ?_ ?_ | intro _
   all_goals try exact clz
   all_goals first
    | exact ⟨.ready, ts, L, qcs hlen⟩
    | skip
   refine kq.mono ?_ hb'
   rintro v h' ⟨hh', ⟨rfl, hn, rfl⟩ | ⟨st, rfl, hs', rfl⟩⟩
   ·simp (disch := omega) only [go_sem, qc, dvP, mdP]
    repeat' first
     | ((first | refine qe ?_ ?_ | refine qg ?_ ?_); (next => exact rvk); simp only [go_sem]; (first | exact VLe.refl _ | refine qh ?_ | refine qd ?_ | refine ql ?_ | skip))
     | with_reducible first | refine And.intro ?_ ?_ | intro _
    all_goals try exact clz
    refine hK _ _ (i + 1, hh') ⟨?_, by simp only; omega⟩ (by simp only; omega) (Wk.temps ?_)
    ·simp only
     rw [j6 hb, List.length_append]
     exact hn
    ·(simp only [qF, qv, List.foldl, List.replicate, go_sem, qr, qp, qm, qq]; try (repeat' first | (with_reducible refine And.intro ?_ ?_) | (refine qh ?_; omega) | (refine qd ?_; rfl) | exact VLe.refl _))
   ·simp (disch := omega) only [go_sem, qc, dvP, mdP]
    obtain ⟨r1, r2⟩ := (hE _ _ hs').ret (L := L) st hts
    exact qhY trivial r1 r2 ⟨_, .inr ⟨st, hs', rfl⟩⟩ (VLe.refl _)
 ·have k0 : ((i : Int) + (pat.length : Int) ≤ (l.length : Int)) = False := eq_false (by omega)
  have e : i = l.length + 1 - pat.length := by omega
  simp (disch := omega) only [qv, List.foldl, List.replicate, qF, k0, go_sem, qc, dvP, mdP]
  repeat' first
   | ((first | refine qe ?_ ?_ | refine qg ?_ ?_); (next => exact rvk); simp only [go_sem]; (first | exact VLe.refl _ | refine qh ?_ | refine qd ?_ | refine ql ?_ | skip))
   | with_reducible first | refine And.intro ?_ ?_ | intro _
  all_goals try exact clz
  subst e
  obtain ⟨r1, r2⟩ := (hS _ _ i1).ret (L := L) .ready hts
  exact qdm trivial r1 r2 ⟨hh, .inl ⟨by simpa [qjE, zn] using i1, rfl⟩⟩ (VLe.refl _)
end HY
end
section
open Go Go.Proofs AF HY
namespace HY
set_option maxRecDepth 100000
theorem qlB {P : Program} {f : Nat} {first cap args : List AV} {d : Option Nat} {nx : Nx} {t : List AV} {h h' : List AObj} {v : AV} (hc : qs P f (first ++ args ++ cap) h v h') (hn : nx (qW t d v) h') : qbW P (.fn (.func f) first cap :: args) d nx t h := ⟨v, h', hc, hn⟩
theorem qfK (all : List Int) {a : Nat} (x : Int) (ha : a < all.length) : List.take a (q9 all) ++ [.int .i64 x] ++ List.drop (a + 1) (q9 all) = q9 (all.set a x) := by
 unfold q9
 rw [List.map_set, List.set_eq_take_append_cons_drop, if_pos (by simpa using ha), List.append_assoc]
 rfl
theorem qbA {all : List Int} {a : Nat} (ha : a < all.length) : (q9 all)[a]? = some (.int .i64 (all.getD a 0)) := by simp [q9, List.getD_eq_getElem?_getD, ha]
theorem qdp {all : List Int} {n : Nat} : qdu n (.mem 1 3 (q9 all)) := by
 intro c hc
 unfold q9 at hc
 rw [List.mem_map] at hc
 obtain ⟨x, _, rfl⟩ := hc
 rfl
theorem qaQ (n : Nat) : qM [.int .i64 0] n = q9 (List.replicate n 0) := by
 induction n with
 | zero => rfl
 | succ n ih => simp only [qM, ih, List.replicate_succ]; rfl
theorem qAC (k v k2 n a : Nat) (all : List Int) (z x : Int) (h : List AObj) (hk : qL k h = some (.mem v 42 [.osl k2 1 1 0 n])) (hk2 : qL k2 h = some (.mem 1 3 (q9 all))) (hn : all.length = n) (ha : a < n) (hz : z = a) :
  qs Tryz.prog 140 [.int .i64 z, .int .i64 x, .op k v 0] h (.tup []) (qO k2 h (.mem 1 3 (q9 (all.set a (max (all.getD a 0) x))))) := by
 subst hz
 subst hn
 have hc := jK hk
 have hc2 := jK hk2
 have hg := qbA ha
 have hlen := zy all
 have hst := qfK all (max (all.getD a 0) x) ha
 refine qo qvP (by simp) ?_
 simp only [lcP, lnP, Nat.reduceAdd, Nat.reduceSub, List.replicate, caP, naP, List.append_nil]
 simp (disch := omega) only [qu0, hc, hc2, hk2, hg, hlen, go_sem, qc, dvP, mdP]
 repeat' first
  | ((first | refine qe ?_ ?_ | refine qg ?_ ?_); (next => exact rvk); simp only [go_sem]; (first | exact VLe.refl _ | refine qh ?_ | refine qd ?_ | refine ql ?_ | skip))
  | with_reducible first | refine And.intro ?_ ?_ | intro _
 all_goals try exact clz
 rw [hst]
 refine qdm trivial zl (fun o ho => ?_) ⟨rfl, rfl⟩ (VLe.refl _)
 rcases qbF ho with h4 | rfl
 ·exact .inl h4
 ·exact .inr qdp
theorem qwZ (h : List AObj) (L : List (List UInt8)) : Src h (qF L) L.length (jh L) := by
 refine ⟨rfl, rfl, fun X => rfl, fun X => rfl, fun X => ?_, fun k v z p m _ => rfl⟩
 show some (L.length, (List.range L.length).flatMap fun i => [AV.str (L.getD i [])]) = _
 congr 2
 rw [← List.map_eq_flatMap]
 unfold jh
 apply List.ext_getElem
 ·simp
 ·intro i h1 h2
  simp at h1
  simp [List.getD_eq_getElem?_getD, h1]
theorem qod {h : List AObj} {k v : Nat} {ty : TypeId} {L : List (List UInt8)} (hk : qL k h = some (.mem v ty (jh L))) : Src h (.osl k v 1 0 L.length) L.length (jh L) := by
 have hkl := zX hk
 refine ⟨rfl, rfl, fun X => ?_, fun X => rfl, fun X => ?_, fun k' v' z p m hk' => ?_⟩
 ·show (zz (h ++ X) k v = true) = True
  rw [qei hkl]
  unfold zz
  rw [hk]
  simp
 ·rw [qa8, zV hkl, hk, qgo, if_pos (by rw [zJ]; simp)]
  simp [zJ]
  try exact List.take_of_length_le (by rw [zJ]; exact Nat.le_refl _)
 ·show (k' != k) = true
  rw [bne_iff_ne]
  omega
theorem qiG (w : List UInt8) (b : Nat) (H : List AObj) (hw : w.length ≤ 1000000000 - 2) (h1 : qL (b + 1) H = some (.mem 1 9 [.str [46]])) (h2 : qL (b + 2) H = some (.mem 1 9 [.str [46]]))
  (h3 : qL (b + 3) H = some (.mem 1 23 [.osl (b + 1) 1 1 0 1, qF (qV (kg w)), .osl (b + 2) 1 1 0 1])) : qs Tryz.prog 138 [.osl (b + 3) 1 1 0 3] H (qF (qal w)) H := by
 have hcl := jB (kg w)
 rw [qaM] at hcl
 have e : qal w = [[[46]], qV (kg w), [[46]]].flatten := by simp [qal]
 rw [e]
 refine qAB [[[46]], qV (kg w), [[46]]] (fun i => if i = 0 then .osl (b + 1) 1 1 0 1 else if i = 1 then qF (qV (kg w)) else .osl (b + 2) 1 1 0 1) H (b + 3) 1 _ h3 rfl ?_ (by simp) (by simp; omega) (by simp) (by simp)
 intro i hi
 have : i = 0 ∨ i = 1 ∨ i = 2 := by have : i < 3 := hi; omega
 rcases this with rfl | rfl | rfl
 ·exact ⟨rfl, qod (L := [[46]]) h1⟩
 ·exact ⟨rfl, qwZ H _⟩
 ·exact ⟨rfl, qod (L := [[46]]) h2⟩
theorem qmG {p : List Int} {k m n : Nat} {fz : Nat → Bool} {h : List AObj} (e : k + m ≤ p.length) : VLe (.sl m fun i => ((List.drop (k + i) (q9 p)).take 1).map (rei fz h (n + 1))) (qy ((p.drop k).take m)) := by
 refine qc6 (by rw [List.length_take, List.length_drop]; omega) (fun i hi => ?_)
 rw [List.length_take, List.length_drop] at hi
 have h1 : k + i < (q9 p).length := by rw [zy]; omega
 rw [List.drop_eq_getElem_cons h1]
 simp [q9, List.getD_eq_getElem?_getD, show i < m by omega, show k + i < p.length by omega]
 rfl
theorem qE {z : List AV} : qM z 1 = z := by simp [qM]
theorem qh4 {z : List AV} : qM z 3 = z ++ (z ++ z) := by simp [qM]
def qbH (b : Nat) (A : List (List UInt8)) (len : Nat) (all : List Int) (O : AObj) : List AObj :=
 [.emp 1, .mem 1 9 [.str [46]], .mem 1 9 [.str [46]], .mem 1 23 [.osl (b + 1) 1 1 0 1, qF A, .osl (b + 2) 1 1 0 1], .mem 1 3 (q9 all), .mem 1 42 [.osl (b + 4) 1 1 0 len], .mem 1 179 [.fn (.func 140) [] [.op (b + 5) 1 0]], O]
def qir (ps : List Pat) : Prop := ∀ i, i < ps.length → (ps.getD i default).levels.length = (qV (kg (ps.getD i default).letters)).length + 1
set_option maxHeartbeats 4000000 in
theorem qAz (ps : List Pat) (w : List UInt8) (h : List AObj) (hok : qa6 ps) (hw : w.length ≤ 1000000) (hw0 : 0 < (qV (kg w)).length) (hwf : qir ps) : qs Tryz.prog 131 [qw ps, .str w] h (qy (jr ps w)) h := by
 have hcl := jB (kg w)
 rw [qaM] at hcl
 obtain ⟨A, hA⟩ : ∃ A, A = qV (kg w) := ⟨_, rfl⟩
 have qiH : ∀ h, qs Tryz.prog 139 [.str w] h (qF A) h := fun h => by rw [hA]; exact qz2 w h (by omega)
 have hul : (qal w).length = A.length + 2 := by rw [hA]; simp [qal]
 obtain ⟨l, hl⟩ : ∃ l, l = qal w := ⟨_, rfl⟩
 have qlv : ∀ H : List AObj, qL (h.length + 1) H = some (.mem 1 9 [.str [46]]) → qL (h.length + 2) H = some (.mem 1 9 [.str [46]]) → qL (h.length + 3) H = some (.mem 1 23 [.osl (h.length + 1) 1 1 0 1, qF A, .osl (h.length + 2) 1 1 0 1]) →
   qs Tryz.prog 138 [.osl (h.length + 3) 1 1 0 3] H (qF l) H := fun H h1 h2 h3 => by
  rw [hl]; rw [hA] at h3; exact qiG w h.length H (by omega) h1 h2 h3
 unfold jr
 rw [← hl] at hul ⊢
 rw [← hA] at hw0 hcl
 obtain ⟨hpl, hp⟩ := hok
 have hz : ((l.length : Int) + 1).toNat = l.length + 1 := by omega
 refine qo qvJ (by simp) ?_
 simp only [lcP, lnP, Nat.reduceAdd, Nat.reduceSub, List.replicate, caP, naP, List.append_nil]
 simp (disch := omega) only [qgN, qw, qF, qE, qh4, hz, qaQ, go_sem, qc, dvP, mdP]
 repeat' first
  | ((first | refine qj (qiH _) ?_ ?_ | refine qj (qlv _ (by simp only [qF, go_sem]) (by simp only [qF, go_sem]) (by simp only [qF, go_sem])) ?_ ?_); (next => exact flk); simp (disch := omega) only [qw, qF, qE, qh4, hz, qaQ, go_sem, qc, dvP, mdP])
  | ((first | refine qn (fun _ => qiH _) ?_ ?_); (next => exact flk); simp (disch := omega) only [qw, qF, qE, qh4, hz, qaQ, go_sem, qc, dvP, mdP])
  | ((first | refine qk (fun e => ⟨?_, qiH _⟩) ?_ | refine qk (fun e => ⟨?_, qlv _ (by simp only [qF, go_sem]) (by simp only [qF, go_sem]) (by simp only [qF, go_sem])⟩) ?_); (next => exact flk); simp (disch := omega) only [qw, qF, qE, qh4, hz, qaQ, go_sem, qc, dvP, mdP])
  | ((first | refine qe ?_ ?_ | refine qg ?_ ?_); (next => exact rvk); simp only [go_sem]; (first | exact VLe.refl _ | refine qh ?_ | refine qd ?_ | refine ql ?_ | skip))
  | with_reducible first | refine And.intro ?_ ?_ | intro _
 all_goals try exact clz
 refine qJ (T := fun i : Nat × List Int × AObj => qv 57 [(5, qF l), (6, .op (h.length + 5) 1 0), (7, .op (h.length + 6) 1 0), (24, qw ps), (25, .int .i64 ps.length), (26, .int .i64 i.1)]) (H := fun i => h ++ qbH h.length A (l.length + 1) i.2.1 i.2.2)
  (inv := fun i => i.1 ≤ ps.length ∧ i.2.1.length = l.length + 1 ∧ qau ps l = (ps.drop i.1).foldl (qdZ l) i.2.1 ∧ zf [i.2.2] 0 = true) (m := fun i => ps.length - i.1) (0, List.replicate (l.length + 1) 0, .emp 0) ⟨by simp, by simp, by simp [qau], rfl⟩ (Wk.temps ?_) ?_
 ·(simp only [qF, qw, qv, List.foldl, List.replicate, go_sem, qr, qp, qm, qq]; try (repeat' first | (with_reducible refine And.intro ?_ ?_) | (refine qh ?_; omega) | (refine qd ?_; rfl) | exact VLe.refl _))
 rintro ⟨i, all, O⟩ ⟨i1, i2, i3, i4⟩ K hK
 simp only at i1 i2 i3 i4 hK
 have i4' : ∀ m, zf (O :: m) 0 = true := fun _ => i4
 by_cases hi : i < ps.length
 ·obtain ⟨b1, b2⟩ := hp i hi
  have hwp := hwf i hi
  rw [qeC hi, List.foldl_cons] at i3
  obtain ⟨p, hpp⟩ : ∃ p, p = ps.getD i default := ⟨_, rfl⟩
  have epp := hpp.symm
  rw [← hpp] at i3 b1 b2 hwp
  obtain ⟨pat, hpat⟩ : ∃ pat, pat = qV (kg p.letters) := ⟨_, rfl⟩
  have c136p : ∀ h, qs Tryz.prog 139 [.str p.letters] h (qF pat) h := fun h => by rw [hpat]; exact qz2 _ h b1
  have hpl2 := jB (kg p.letters)
  rw [qaM] at hpl2
  rw [← hpat] at hwp hpl2
  have qiI := fun h => t138 pat l h
  have hit := qyD pat l (by omega) (by omega)
  simp (disch := omega) only [qv, List.foldl, List.replicate, qw, qbo, epp, i4', qbH, go_sem, qc, dvP, mdP]
  repeat' first
   | ((first | refine qj (c136p _) ?_ ?_ | refine qj (qiI _) ?_ ?_); (next => exact flk); simp (disch := omega) only [qw, qbo, epp, i4', qF, qbH, go_sem, qc, dvP, mdP])
   | ((first | refine qn (fun _ => c136p _) ?_ ?_ | refine qn (fun _ => qiI _) ?_ ?_); (next => exact flk); simp (disch := omega) only [qw, qbo, epp, i4', qF, qbH, go_sem, qc, dvP, mdP])
   | ((first | refine qk (fun e => ⟨?_, c136p _⟩) ?_ | refine qk (fun e => ⟨?_, qiI _⟩) ?_); (next => exact flk); simp (disch := omega) only [qw, qbo, epp, i4', qF, qbH, go_sem, qc, dvP, mdP])
   | ((first | refine qe ?_ ?_ | refine qg ?_ ?_); (next => exact rvk); simp only [go_sem]; (first | exact VLe.refl _ | refine qh ?_ | refine qd ?_ | refine ql ?_ | skip))
   | with_reducible first | refine And.intro ?_ ?_ | intro _
  all_goals try exact clz
  obtain ⟨OO, hOO⟩ : ∃ x : AObj, x = .mem (qA (some O) + 1) 61 [.str p.letters, qy p.levels] := ⟨_, rfl⟩
  obtain ⟨ov, hov⟩ : ∃ x : Nat, x = qA (some O) + 1 := ⟨_, rfl⟩
  rw [← hov] at hOO ⊢
  rw [show h ++ [AObj.emp 1, AObj.mem 1 9 [AV.str [46]], AObj.mem 1 9 [AV.str [46]], AObj.mem 1 23 [AV.osl (h.length + 1) 1 1 0 1, AV.sl A.length fun i => [AV.str (A.getD i [])], AV.osl (h.length + 2) 1 1 0 1],
    AObj.mem 1 3 (q9 all), AObj.mem 1 42 [AV.osl (h.length + 4) 1 1 0 (l.length + 1)], AObj.mem 1 179 [AV.fn (Fn.func 140) [] [AV.op (h.length + 5) 1 0]],
    AObj.mem ov 61 [AV.str p.letters, qy p.levels]] = h ++ qbH h.length A (l.length + 1) all OO by rw [hOO]; rfl]
  refine qaV (xs := qjE pat l) hit (by intro a ha; simp [qjE] at ha; obtain ⟨_, _, rfl⟩ := ha; rfl)
   (S := fun j hh => hh = h ++ qbH h.length A (l.length + 1) (((zn pat l).take j).foldl (fun a i => addAt a i p.levels) all) OO)
   (E := fun _ _ => False) ?_ (fun _ _ h => h.elim) ?_ ?_ ?_ ?_ (fun _ _ h => h.elim)
  ·rintro j hh rfl
   refine LowI.app rfl (fun o ho => ?_)
   simp only [qbH, List.mem_cons, List.not_mem_nil, or_false] at ho
   rcases ho with rfl | rfl | rfl | rfl | rfl | rfl | rfl | rfl
   case inr.inr.inr.inr.inl => exact .inr ⟨qdp, qdp⟩
   all_goals (left; simp [qbH])
  ·simp
  ·simp [jf, jf.lowVs, qdC, qy, qbH]
   try omega
  ·rintro j hh tl L hj rfl hlen
   have hjp : j < (zn pat l).length := by simpa [qjE] using hj
   have hxj : (qjE pat l)[j] = [.int .i64 (((zn pat l)[j] : Nat) : Int)] := by simp [qjE]
   rw [hxj]
   have hqm : (zn pat l)[j] < l.length + 1 - pat.length := by
    have := List.getElem_mem hjp
    unfold zn at this
    rw [List.mem_filter, List.mem_range] at this
    exact this.1
   have hst : ((zn pat l).take (j + 1)).foldl (fun a i => addAt a i p.levels) all = addAt (((zn pat l).take j).foldl (fun a i => addAt a i p.levels) all) (zn pat l)[j] p.levels := by
    rw [List.take_add_one, List.getElem?_eq_getElem hjp, Option.toList_some, List.foldl_append]; rfl
   obtain ⟨q, hq⟩ : ∃ q, q = (zn pat l)[j] := ⟨_, rfl⟩
   obtain ⟨all1, hall1⟩ : ∃ a, a = ((zn pat l).take j).foldl (fun a i => addAt a i p.levels) all := ⟨_, rfl⟩
   have hal : all1.length = l.length + 1 := by rw [hall1, qdn (fun a x => qfg _ _ _), i2]
   rw [← hq, ← hall1] at hst
   rw [← hq] at hqm ⊢
   rw [← hall1]
   simp only [qbi]
   subst hOO
   simp (disch := omega) only [List.append_assoc, eq_self, qbH, qF, qy, go_sem, qc, dvP, mdP]
   repeat' first
    | ((first | refine qe ?_ ?_ | refine qg ?_ ?_); (next => exact rvk); simp only [go_sem]; (first | exact VLe.refl _ | refine qh ?_ | refine qd ?_ | refine ql ?_ | skip))
    | with_reducible first | refine And.intro ?_ ?_ | intro _
   all_goals try exact clz
   refine qJ (T := fun k : Nat × List Int => qv 57 [(7, .op (h.length + 6) 1 0), (10, .int .i64 q), (37, qy p.levels), (38, .int .i64 p.levels.length), (39, .int .i64 k.1)])
    (H := fun k => h ++ (AObj.emp 1 :: AObj.mem 1 9 [AV.str [46]] :: AObj.mem 1 9 [AV.str [46]] :: AObj.mem 1 23 [AV.osl (h.length + 1) 1 1 0 1, qF A, AV.osl (h.length + 2) 1 1 0 1] :: AObj.mem 1 3 (q9 k.2) ::
     AObj.mem 1 42 [AV.osl (h.length + 4) 1 1 0 (l.length + 1)] :: AObj.mem 1 179 [AV.fn (Fn.func 140) [] [AV.op (h.length + 5) 1 0]] :: AObj.mem ov 61 [AV.str p.letters, qy p.levels] :: AObj.lp LS.busy _ L :: tl))
    (inv := fun k => k.1 ≤ p.levels.length ∧ k.2.length = l.length + 1 ∧ addAt all1 q p.levels = addAt k.2 (q + k.1) (p.levels.drop k.1)) (m := fun k => p.levels.length - k.1) (0, all1) ⟨by simp, hal, by simp⟩ (Wk.temps ?_) ?_
   ·(simp only [qy, qv, List.foldl, List.replicate, go_sem, qr, qp, qm, qq]; try (repeat' first | (with_reducible refine And.intro ?_ ?_) | (refine qh ?_; omega) | (refine qd ?_; rfl) | exact VLe.refl _))
   rintro ⟨k, all2⟩ ⟨k1, k2, k3⟩ K2 hK2
   simp only at k1 k2 k3 hK2
   by_cases hk : k < p.levels.length
   ·have e : p.levels.drop k = p.levels.getD k 0 :: p.levels.drop (k + 1) := by rw [List.drop_eq_getElem_cons hk]; simp [List.getD_eq_getElem?_getD, hk]
    rw [e] at k3
    simp only [addAt] at k3
    simp (disch := omega) only [qv, List.foldl, List.replicate, qF, qy, go_sem, qc, dvP, mdP]
    repeat' first
     | ((first | refine qe ?_ ?_ | refine qg ?_ ?_); (next => exact rvk); simp only [go_sem]; (first | exact VLe.refl _ | refine qh ?_ | refine qd ?_ | refine ql ?_ | skip))
     | with_reducible first | refine And.intro ?_ ?_ | intro _
    all_goals try exact clz
    refine qlB (qAC (h.length + 5) 1 (h.length + 4) (l.length + 1) (q + k) all2 _ _ _ (by simp only [go_sem]) (by simp only [go_sem]) k2 (by omega) (by omega)) ?_
    simp (disch := omega) only [qF, qy, go_sem, qc, dvP, mdP]
    repeat' first
     | ((first | refine qe ?_ ?_ | refine qg ?_ ?_); (next => exact rvk); simp only [go_sem]; (first | exact VLe.refl _ | refine qh ?_ | refine qd ?_ | refine ql ?_ | skip))
     | with_reducible first | refine And.intro ?_ ?_ | intro _
    all_goals try exact clz
    refine hK2 _ _ (k + 1, all2.set (q + k) (max (all2.getD (q + k) 0) (p.levels.getD k 0))) ⟨by simp only; omega, by simp only [List.length_set]; exact k2, by rw [k3]; rfl⟩ (by simp only; omega) (Wk.temps ?_)
    (simp only [qy, qv, List.foldl, List.replicate, go_sem, qr, qp, qm, qq]; try (repeat' first | (with_reducible refine And.intro ?_ ?_) | (refine qh ?_; omega) | (refine qd ?_; rfl) | exact VLe.refl _))
   ·have e : k = p.levels.length := by omega
    subst e
    rw [List.drop_length] at k3
    simp only [addAt] at k3
    simp (disch := omega) only [qv, List.foldl, List.replicate, qF, qy, go_sem, qc, dvP, mdP]
    repeat' first
     | ((first | refine qe ?_ ?_ | refine qg ?_ ?_); (next => exact rvk); simp only [go_sem]; (first | exact VLe.refl _ | refine qh ?_ | refine qd ?_ | refine ql ?_ | skip))
     | with_reducible first | refine And.intro ?_ ?_ | intro _
    all_goals try exact clz
    rw [hst, k3]
    exact ⟨h ++ qbH h.length A (l.length + 1) all2 (.mem ov 61 [.str p.letters, qy p.levels]), by rw [List.append_assoc]; rfl, by simp [qbH], rfl⟩
  ·rintro hh rfl
   have hpx : (qjE pat l).length = (zn pat l).length := by simp [qjE]
   rw [hpx, List.take_length]
   have hnx : (zn pat l).foldl (fun a i => addAt a i p.levels) all = qdZ l all p := by unfold qdZ; rw [← hpat]
   rw [hnx]
   simp (disch := omega) only [qv, List.foldl, List.replicate, qF, qy, go_sem, qc, dvP, mdP]
   repeat' first
    | ((first | refine qe ?_ ?_ | refine qg ?_ ?_); (next => exact rvk); simp only [go_sem]; (first | exact VLe.refl _ | refine qh ?_ | refine qd ?_ | refine ql ?_ | skip))
    | with_reducible first | refine And.intro ?_ ?_ | intro _
   all_goals try exact clz
   subst hOO
   refine hK _ _ (i + 1, qdZ l all p, .mem ov 61 [.str p.letters, qy p.levels]) ⟨by simp only; omega, by simp only; rw [qd0, i2], i3, rfl⟩ (by simp only; omega) (Wk.temps ?_)
   (simp only [qF, qw, qbo, qy, qv, List.foldl, List.replicate, go_sem, qr, qp, qm, qq]; try (repeat' first | (with_reducible refine And.intro ?_ ?_) | (refine qh ?_; omega) | (refine qd ?_; rfl) | exact VLe.refl _))
 ·have e : i = ps.length := by omega
  subst e
  rw [List.drop_length, List.foldl_nil] at i3
  have hlen := zy all
  have hx1 : ((l.length : Int) - 1).toNat - (2 : Int).toNat = l.length - 1 - 2 := by omega
  simp (disch := omega) only [qv, List.foldl, List.replicate, qF, qbH, hx1, hlen, go_sem, qc, dvP, mdP]
  repeat' first
   | ((first | refine qe ?_ ?_ | refine qg ?_ ?_); (next => exact rvk); simp only [go_sem]; (first | exact VLe.refl _ | refine qh ?_ | refine qd ?_ | refine ql ?_ | skip))
   | with_reducible first | refine And.intro ?_ ?_ | intro _
  all_goals try exact clz
  rw [i3, if_pos (by rw [hlen, i2, show Int.toNat 2 = 2 from rfl]; omega)]
  exact qmG (by rw [i2]; omega)
end HY
end
section
open Go Go.Proofs AF HY
namespace HY
set_option maxRecDepth 100000
def same (pat l : List (List UInt8)) (a k : Nat) : Bool := (List.range k).all fun i => decide (l.getD (a + i) [] = pat.getD i [])
end HY
end

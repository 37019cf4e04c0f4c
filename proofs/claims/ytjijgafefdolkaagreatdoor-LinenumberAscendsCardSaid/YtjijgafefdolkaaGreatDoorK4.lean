import Derived.Test.YtjijgafefdolkaaGreatDoorK3
set_option linter.all false
set_option linter.unusedSimpArgs false
set_option linter.unusedVariables false
set_option linter.unusedSectionVars false
section
open Go Go.Proofs AF HY
namespace HY
set_option maxRecDepth 100000
theorem qp3 {n : Int} (h0 : 0 ≤ n) (h1 : n ≤ 255) : IntKind.u8.wrap n = n := by
 have e1 : (2 : Int) ^ IntKind.bits IntKind.u8 = 256 := rfl
 have e3 : IntKind.signed IntKind.u8 = false := rfl
 unfold IntKind.wrap
 rw [e1, e3]
 simp only [Bool.false_and, Bool.false_eq_true, if_false]
 omega
theorem qe1 (c : UInt8) : ((qdk c).toNat : Int) = if 65 ≤ (c.toNat : Int) ∧ (c.toNat : Int) ≤ 90 then (c.toNat : Int) + 32 else (c.toNat : Int) := by
 have hc := c.toNat_lt
 unfold qdk
 have e1 : (65 ≤ c) = (65 ≤ c.toNat) := by rw [UInt8.le_iff_toNat_le]; rfl
 have e2 : (c ≤ 90) = (c.toNat ≤ 90) := by rw [UInt8.le_iff_toNat_le]; rfl
 simp only [e1, e2]
 by_cases h : 65 ≤ c.toNat ∧ c.toNat ≤ 90
 ·rw [if_pos h, if_pos (by omega), UInt8.toNat_add]
  have : (32 : UInt8).toNat = 32 := rfl
  rw [this]; omega
 ·rw [if_neg h, if_neg (by omega)]
def qeX (s : List UInt8) (i : Nat) : List UInt8 := (jV s).take i ++ s.drop i
theorem qom (s : List UInt8) (i : Nat) (h : i ≤ s.length) : (qeX s i).length = s.length := by simp [qeX, jV]; omega
theorem qol {s : List UInt8} {i : Nat} (h : i < s.length) : (qQ (qeX s i))[i]? = some (.int .u8 ((ch s i).toNat : Int)) := by
 simp only [qQ, qeX, List.getElem?_map]
 rw [List.getElem?_append_right (by simp [jV]; omega)]
 simp [jV, ch, List.getD_eq_getElem?_getD, Nat.min_eq_left (Nat.le_of_lt h), h]
theorem qon {s : List UInt8} {i : Nat} (h : i < s.length) : List.take i (qQ (qeX s i)) ++ [.int .u8 ((qdk (ch s i)).toNat : Int)] ++ List.drop (i + 1) (qQ (qeX s i)) = qQ (qeX s (i + 1)) := by
 simp only [qQ, qeX, List.map_append, List.map_take, List.map_drop]
 have hl : (List.take i (List.map (fun b => AV.int .u8 ((b.toNat : Nat) : Int)) (jV s))).length = i := by simp [jV]; omega
 rw [List.take_append_of_le_length (by omega), List.take_of_length_le (by omega)]
 rw [show i + 1 = (List.take i (List.map (fun b => AV.int .u8 ((b.toNat : Nat) : Int)) (jV s))).length + 1 by omega]
 rw [List.drop_append, Nat.add_sub_cancel_left, List.drop_of_length_le (by omega), hl, List.nil_append, List.drop_drop]
 rw [List.take_add_one]
 congr 1
 congr 1
 simp [jV, ch, List.getD_eq_getElem?_getD, h]
theorem qkQ {s : List UInt8} {i : Nat} (h : i < s.length) (hb : qdk (ch s i) = ch s i) : qeX s (i + 1) = qeX s i := by
 unfold qeX
 rw [List.take_add_one, List.drop_eq_getElem_cons h]
 have : (jV s)[i]?.toList = [s[i]] := by
  have e : ch s i = s[i] := by simp [ch, h]
  rw [e] at hb
  simp [jV, h, hb]
 rw [this]; simp
theorem qok (s : List UInt8) : qeX s s.length = jV s := by
 unfold qeX jV
 rw [List.drop_length, List.append_nil, List.take_of_length_le (by simp)]
theorem qxS (s : List UInt8) (h : List AObj) (hs : s.length ≤ 1000000000) : qs Tryz.prog 145 [.str s] h (.str (jV s)) h := by
 have h0 : qQ s = qQ (qeX s 0) := by simp [qeX]
 refine qn qtR (by simp) ?_
 simp only [lcP, lnP, Nat.reduceAdd, Nat.reduceSub, List.replicate, caP, naP, List.append_nil]
 simp (disch := omega) only [qs1, h0, go_sem, qc, dvP, mdP]
 repeat' first
  | ((first | refine qe ?_ ?_ | refine qg ?_ ?_); (next => exact rvk); simp only [go_sem]; (first | exact VLe.refl _ | refine qh ?_ | refine qd ?_ | refine ql ?_ | skip))
  | with_reducible first | refine And.intro ?_ ?_ | intro _
 all_goals try exact clz
 refine qJ (T := fun i : Nat => qv 30 [(3, .osl h.length 1 1 0 s.length), (8, .osl h.length 1 1 0 s.length), (9, .int .i64 s.length), (10, .int .i64 i)]) (H := fun i => h ++ [.mem 1 (5 + qaI) (qQ (qeX s i))]) (inv := fun i => i ≤ s.length) (m := fun i => s.length - i) 0 (by omega) (Wk.temps ?_) ?_
 ·(simp only [qv, List.foldl, List.replicate, go_sem, qr, qp, qm, qq]; try (repeat' first | (with_reducible refine And.intro ?_ ?_) | (refine qh ?_; omega) | (refine qd ?_; rfl) | exact VLe.refl _))
 ·intro i i1 K hK
  have hlen : (qQ (qeX s i)).length = s.length := by rw [je, qom s i i1]
  by_cases hi : i < s.length
  ·have hg := qol hi
   have hst := qon hi
   have hb := qe1 (ch s i)
   have hr := qex (ch s i)
   obtain ⟨c, hc⟩ : ∃ c : Int, c = ((ch s i).toNat : Int) := ⟨_, rfl⟩
   rw [← hc] at hg hb hr
   by_cases hu : 65 ≤ c ∧ c ≤ 90
   ·rw [if_pos hu] at hb
    rw [hb] at hst
    have he : c - 65 + 97 = c + 32 := by omega
    simp (disch := omega) only [qv, List.foldl, List.replicate, hg, hlen, qp3, he, go_sem, qc, dvP, mdP]
    repeat' first
     | ((first | refine qe ?_ ?_ | refine qg ?_ ?_); (next => exact rvk); simp only [go_sem]; (first | exact VLe.refl _ | refine qh ?_ | refine qd ?_ | refine ql ?_ | skip))
     | with_reducible first | refine And.intro ?_ ?_ | intro _
    all_goals try exact clz
    rw [hst]
    refine hK _ _ (i + 1) (by omega) (by omega) (Wk.temps ?_)
    (simp only [qv, List.foldl, List.replicate, go_sem, qr, qp, qm, qq]; try (repeat' first | (with_reducible refine And.intro ?_ ?_) | (refine qh ?_; omega) | (refine qd ?_; rfl) | exact VLe.refl _))
   ·rw [if_neg hu] at hb
    have hsk := qkQ hi (by rw [← UInt8.toNat_inj]; omega)
    simp (disch := omega) only [qv, List.foldl, List.replicate, hg, hlen, go_sem, qc, dvP, mdP]
    repeat' first
     | ((first | refine qe ?_ ?_ | refine qg ?_ ?_); (next => exact rvk); simp only [go_sem]; (first | exact VLe.refl _ | refine qh ?_ | refine qd ?_ | refine ql ?_ | skip))
     | with_reducible first | refine And.intro ?_ ?_ | intro _
    all_goals try exact clz
    refine hK _ _ (i + 1) (by omega) (by omega) ?_
    rw [hsk]
    refine Wk.temps ?_
    (simp only [qv, List.foldl, List.replicate, go_sem, qr, qp, qm, qq]; try (repeat' first | (with_reducible refine And.intro ?_ ?_) | (refine qh ?_; omega) | (refine qd ?_; rfl) | exact VLe.refl _))
  ·have e : i = s.length := by omega
   subst e
   rw [qok] at hlen ⊢
   have hT : List.take s.length (qQ (jV s)) = qQ (jV s) := List.take_of_length_le (by omega)
   simp (disch := omega) only [qv, List.foldl, List.replicate, hlen, hT, qd4, go_sem, qc, dvP, mdP]
   repeat' first
    | ((first | refine qe ?_ ?_ | refine qg ?_ ?_); (next => exact rvk); simp only [go_sem]; (first | exact VLe.refl _ | refine qh ?_ | refine qd ?_ | refine ql ?_ | skip))
    | with_reducible first | refine And.intro ?_ ?_ | intro _
   all_goals try exact clz
   all_goals
    rename_i c hc
    exact qee c hc
end HY
end
section
open Go Go.Proofs AF HY
namespace HY
set_option maxRecDepth 100000
theorem qsA (s p : List UInt8) (h : List AObj) (hs : s.length ≤ 1000000000) (hp : p.length ≤ 1000000000) : qs Tryz.prog 129 [.str s, .str p] h (.bool (qb4 s p)) h := by
 unfold qb4
 by_cases hl : p.length ≤ s.length
 ·have k : ((p.length : Int) ≤ (s.length : Int)) = True := eq_true (by omega)
  refine qn qqc (by simp) ?_
  simp only [lcP, lnP, Nat.reduceAdd, Nat.reduceSub, List.replicate, caP, naP, List.append_nil]
  simp (disch := omega) only [qqE, k, go_sem, qc, dvP, mdP]
  repeat' first
   | ((first | refine qe ?_ ?_ | refine qg ?_ ?_); (next => exact rvk); simp only [go_sem]; (first | exact VLe.refl _ | refine qh ?_ | refine qd ?_ | refine ql ?_ | skip))
   | with_reducible first | refine And.intro ?_ ?_ | intro _
  all_goals try exact clz
 ·have k : ((p.length : Int) ≤ (s.length : Int)) = False := eq_false (by omega)
  have e : decide (s.take p.length = p) = false := by
   rw [decide_eq_false_iff_not]
   intro e
   have := congrArg List.length e
   rw [List.length_take] at this
   omega
  rw [e]
  refine qn qqc (by simp) ?_
  simp only [lcP, lnP, Nat.reduceAdd, Nat.reduceSub, List.replicate, caP, naP, List.append_nil]
  simp (disch := omega) only [qqE, k, go_sem, qc, dvP, mdP]
  repeat' first
   | ((first | refine qe ?_ ?_ | refine qg ?_ ?_); (next => exact rvk); simp only [go_sem]; (first | exact VLe.refl _ | refine qh ?_ | refine qd ?_ | refine ql ?_ | skip))
   | with_reducible first | refine And.intro ?_ ?_ | intro _
  all_goals try exact clz
theorem qyi (s p : List UInt8) (h : List AObj) (hs : s.length ≤ 1000000000) (hp : p.length ≤ 1000000000) : qs Tryz.prog 103 [.str s, .str p] h (.bool (qb4 s p)) h := by
 refine qn qtq (by simp) ?_
 simp only [lcP, lnP, Nat.reduceAdd, Nat.reduceSub, List.replicate, caP, naP, List.append_nil]
 simp (disch := omega) only [qhB, go_sem, qc, dvP, mdP]
 repeat' first
  | ((first | refine qj (qsA s p _ hs hp) ?_ ?_); (next => exact flk); simp (disch := omega) only [go_sem, qc, dvP, mdP])
  | ((first | refine qk (fun e => ⟨?_, qsA s p _ hs hp⟩) ?_); (next => exact flk); simp (disch := omega) only [go_sem, qc, dvP, mdP])
  | ((first | refine qe ?_ ?_ | refine qg ?_ ?_); (next => exact rvk); simp only [go_sem]; (first | exact VLe.refl _ | refine qh ?_ | refine qd ?_ | refine ql ?_ | skip))
  | with_reducible first | refine And.intro ?_ ?_ | intro _
 all_goals try exact clz
theorem qsB (s p : List UInt8) (h : List AObj) (hs : s.length ≤ 1000000000) (hp : p.length ≤ 1000000000) : qs Tryz.prog 81 [.str s, .str p] h (.bool (qb5 s p)) h := by
 unfold qb5
 by_cases hl : p.length ≤ s.length
 ·have k : ((p.length : Int) ≤ (s.length : Int)) = True := eq_true (by omega)
  have k2 : ((s.length : Int) - (p.length : Int)).toNat = s.length - p.length := by omega
  have k3 : List.take (s.length - (s.length - p.length)) (List.drop (s.length - p.length) s) = List.drop (s.length - p.length) s := List.take_of_length_le (by rw [List.length_drop]; omega)
  refine qn qt3 (by simp) ?_
  simp only [lcP, lnP, Nat.reduceAdd, Nat.reduceSub, List.replicate, caP, naP, List.append_nil]
  simp (disch := omega) only [qvJ, k, k2, k3, go_sem, qc, dvP, mdP]
  repeat' first
   | ((first | refine qe ?_ ?_ | refine qg ?_ ?_); (next => exact rvk); simp only [go_sem]; (first | exact VLe.refl _ | refine qh ?_ | refine qd ?_ | refine ql ?_ | skip))
   | with_reducible first | refine And.intro ?_ ?_ | intro _
  all_goals try exact clz
 ·have k : ((p.length : Int) ≤ (s.length : Int)) = False := eq_false (by omega)
  have e : decide (s.drop (s.length - p.length) = p) = false := by
   rw [decide_eq_false_iff_not]
   intro e
   have := congrArg List.length e
   rw [List.length_drop] at this
   omega
  rw [e]
  refine qn qt3 (by simp) ?_
  simp only [lcP, lnP, Nat.reduceAdd, Nat.reduceSub, List.replicate, caP, naP, List.append_nil]
  simp (disch := omega) only [qvJ, k, go_sem, qc, dvP, mdP]
  repeat' first
   | ((first | refine qe ?_ ?_ | refine qg ?_ ?_); (next => exact rvk); simp only [go_sem]; (first | exact VLe.refl _ | refine qh ?_ | refine qd ?_ | refine ql ?_ | skip))
   | with_reducible first | refine And.intro ?_ ?_ | intro _
  all_goals try exact clz
theorem qyj (s p : List UInt8) (h : List AObj) (hs : s.length ≤ 1000000000) (hp : p.length ≤ 1000000000) : qs Tryz.prog 104 [.str s, .str p] h (.bool (qb5 s p)) h := by
 refine qn qtr (by simp) ?_
 simp only [lcP, lnP, Nat.reduceAdd, Nat.reduceSub, List.replicate, caP, naP, List.append_nil]
 simp (disch := omega) only [qhC, go_sem, qc, dvP, mdP]
 repeat' first
  | ((first | refine qj (qsB s p _ hs hp) ?_ ?_); (next => exact flk); simp (disch := omega) only [go_sem, qc, dvP, mdP])
  | ((first | refine qk (fun e => ⟨?_, qsB s p _ hs hp⟩) ?_); (next => exact flk); simp (disch := omega) only [go_sem, qc, dvP, mdP])
  | ((first | refine qe ?_ ?_ | refine qg ?_ ?_); (next => exact rvk); simp only [go_sem]; (first | exact VLe.refl _ | refine qh ?_ | refine qd ?_ | refine ql ?_ | skip))
  | with_reducible first | refine And.intro ?_ ?_ | intro _
 all_goals try exact clz
theorem qh8 {s p : List UInt8} (h : qb4 s p = true) : p.length ≤ s.length := by
 unfold qb4 at h
 have := congrArg List.length (of_decide_eq_true h)
 rw [List.length_take] at this
 omega
theorem qh9 {s p : List UInt8} (h : qb5 s p = true) : p.length ≤ s.length := by
 unfold qb5 at h
 have := congrArg List.length (of_decide_eq_true h)
 rw [List.length_drop] at this
 omega
theorem qxO (s p : List UInt8) (h : List AObj) (hs : s.length ≤ 1000000000) (hp : p.length ≤ 1000000000) : qs Tryz.prog 127 [.str s, .str p] h (.str (qap s p)) h := by
 unfold qap
 cases hh : qb4 s p with
 | true =>
  have := qh8 hh
  have k3 : List.take (s.length - p.length) (List.drop p.length s) = List.drop p.length s := List.take_of_length_le (by rw [List.length_drop]; omega)
  refine qn qqb (by simp) ?_
  simp only [lcP, lnP, Nat.reduceAdd, Nat.reduceSub, List.replicate, caP, naP, List.append_nil]
  simp (disch := omega) only [qqD, k3, go_sem, qc, dvP, mdP]
  repeat' first
   | ((first | refine qj (qsA s p _ hs hp) ?_ ?_); (next => exact flk); simp (disch := omega) only [hh, k3, go_sem, qc, dvP, mdP])
   | ((first | refine qk (fun e => ⟨?_, qsA s p _ hs hp⟩) ?_); (next => exact flk); simp (disch := omega) only [hh, k3, go_sem, qc, dvP, mdP])
   | ((first | refine qe ?_ ?_ | refine qg ?_ ?_); (next => exact rvk); simp only [go_sem]; (first | exact VLe.refl _ | refine qh ?_ | refine qd ?_ | refine ql ?_ | skip))
   | with_reducible first | refine And.intro ?_ ?_ | intro _
  all_goals try exact clz
 | false =>
  refine qn qqb (by simp) ?_
  simp only [lcP, lnP, Nat.reduceAdd, Nat.reduceSub, List.replicate, caP, naP, List.append_nil]
  simp (disch := omega) only [qqD, go_sem, qc, dvP, mdP]
  repeat' first
   | ((first | refine qj (qsA s p _ hs hp) ?_ ?_); (next => exact flk); simp (disch := omega) only [hh, go_sem, qc, dvP, mdP])
   | ((first | refine qk (fun e => ⟨?_, qsA s p _ hs hp⟩) ?_); (next => exact flk); simp (disch := omega) only [hh, go_sem, qc, dvP, mdP])
   | ((first | refine qe ?_ ?_ | refine qg ?_ ?_); (next => exact rvk); simp only [go_sem]; (first | exact VLe.refl _ | refine qh ?_ | refine qd ?_ | refine ql ?_ | skip))
   | with_reducible first | refine And.intro ?_ ?_ | intro _
  all_goals try exact clz
theorem qye (s p : List UInt8) (h : List AObj) (hs : s.length ≤ 1000000000) (hp : p.length ≤ 1000000000) : qs Tryz.prog 96 [.str s, .str p] h (.str (qap s p)) h := by
 refine qn qws (by simp) ?_
 simp only [lcP, lnP, Nat.reduceAdd, Nat.reduceSub, List.replicate, caP, naP, List.append_nil]
 simp (disch := omega) only [qsv, go_sem, qc, dvP, mdP]
 repeat' first
  | ((first | refine qj (qxO s p _ hs hp) ?_ ?_); (next => exact flk); simp (disch := omega) only [go_sem, qc, dvP, mdP])
  | ((first | refine qk (fun e => ⟨?_, qxO s p _ hs hp⟩) ?_); (next => exact flk); simp (disch := omega) only [go_sem, qc, dvP, mdP])
  | ((first | refine qe ?_ ?_ | refine qg ?_ ?_); (next => exact rvk); simp only [go_sem]; (first | exact VLe.refl _ | refine qh ?_ | refine qd ?_ | refine ql ?_ | skip))
  | with_reducible first | refine And.intro ?_ ?_ | intro _
 all_goals try exact clz
theorem qxN (s p : List UInt8) (h : List AObj) (hs : s.length ≤ 1000000000) (hp : p.length ≤ 1000000000) : qs Tryz.prog 47 [.str s, .str p] h (.str (qdc s p)) h := by
 unfold qdc
 cases hh : qb5 s p with
 | true =>
  have := qh9 hh
  have k2 : ((s.length : Int) - (p.length : Int)).toNat = s.length - p.length := by omega
  refine qn qtX (by simp) ?_
  simp only [lcP, lnP, Nat.reduceAdd, Nat.reduceSub, List.replicate, caP, naP, List.append_nil]
  simp (disch := omega) only [qvG, k2, go_sem, qc, dvP, mdP]
  repeat' first
   | ((first | refine qj (qsB s p _ hs hp) ?_ ?_); (next => exact flk); simp (disch := omega) only [hh, k2, go_sem, qc, dvP, mdP])
   | ((first | refine qk (fun e => ⟨?_, qsB s p _ hs hp⟩) ?_); (next => exact flk); simp (disch := omega) only [hh, k2, go_sem, qc, dvP, mdP])
   | ((first | refine qe ?_ ?_ | refine qg ?_ ?_); (next => exact rvk); simp only [go_sem]; (first | exact VLe.refl _ | refine qh ?_ | refine qd ?_ | refine ql ?_ | skip))
   | with_reducible first | refine And.intro ?_ ?_ | intro _
  all_goals try exact clz
 | false =>
  refine qn qtX (by simp) ?_
  simp only [lcP, lnP, Nat.reduceAdd, Nat.reduceSub, List.replicate, caP, naP, List.append_nil]
  simp (disch := omega) only [qvG, go_sem, qc, dvP, mdP]
  repeat' first
   | ((first | refine qj (qsB s p _ hs hp) ?_ ?_); (next => exact flk); simp (disch := omega) only [hh, go_sem, qc, dvP, mdP])
   | ((first | refine qk (fun e => ⟨?_, qsB s p _ hs hp⟩) ?_); (next => exact flk); simp (disch := omega) only [hh, go_sem, qc, dvP, mdP])
   | ((first | refine qe ?_ ?_ | refine qg ?_ ?_); (next => exact rvk); simp only [go_sem]; (first | exact VLe.refl _ | refine qh ?_ | refine qd ?_ | refine ql ?_ | skip))
   | with_reducible first | refine And.intro ?_ ?_ | intro _
  all_goals try exact clz
theorem qyd (s p : List UInt8) (h : List AObj) (hs : s.length ≤ 1000000000) (hp : p.length ≤ 1000000000) : qs Tryz.prog 15 [.str s, .str p] h (.str (qdc s p)) h := by
 refine qn qvU (by simp) ?_
 simp only [lcP, lnP, Nat.reduceAdd, Nat.reduceSub, List.replicate, caP, naP, List.append_nil]
 simp (disch := omega) only [qsu, go_sem, qc, dvP, mdP]
 repeat' first
  | ((first | refine qj (qxN s p _ hs hp) ?_ ?_); (next => exact flk); simp (disch := omega) only [go_sem, qc, dvP, mdP])
  | ((first | refine qk (fun e => ⟨?_, qxN s p _ hs hp⟩) ?_); (next => exact flk); simp (disch := omega) only [go_sem, qc, dvP, mdP])
  | ((first | refine qe ?_ ?_ | refine qg ?_ ?_); (next => exact rvk); simp only [go_sem]; (first | exact VLe.refl _ | refine qh ?_ | refine qd ?_ | refine ql ?_ | skip))
  | with_reducible first | refine And.intro ?_ ?_ | intro _
 all_goals try exact clz
end HY
end
section
open Go Go.Proofs AF HY
namespace HY
set_option maxRecDepth 100000
def qw (l : List Int) : AV := .sl l.length fun i => [.int .i64 (l.getD i 0)]
def qU (p : List Int) : List AV := p.map (AV.int .i64)
theorem zj (p : List Int) : (qU p).length = p.length := by simp [qU]
theorem qau (L : List Int) (x : Int) : qU (L ++ [x]) = qU L ++ [.int .i64 x] := by simp [qU]
theorem qcw {p : List Int} {n m : Nat} {fz : Nat → Bool} {h : List AObj} (e : p.length = m) : VLe (.sl m fun i => ((List.drop i (qU p)).take 1).map (rei fz h (n + 1))) (qw p) := by
 subst e
 refine qqn (zj p) rfl (fun i c hc => ?_) (fun c hc => ?_)
 ·unfold qU at hc
  rw [List.getElem?_map, Option.map_eq_some_iff] at hc
  obtain ⟨x, hx, rfl⟩ := hc
  simp [List.getD_eq_getElem?_getD, hx]
 ·unfold qU at hc
  rw [List.mem_map] at hc
  obtain ⟨x, _, rfl⟩ := hc
  rfl
def qbr (p : Pat) : List AV := [.str p.letters, qw p.levels]
theorem qyh (n : Int) (h : List AObj) : qs Tryz.prog 102 [.int .i64 n] h (.bool (qjq n)) h := by
 refine qn qtp (by simp) ?_
 simp only [lcP, lnP, Nat.reduceAdd, Nat.reduceSub, List.replicate, caP, naP, List.append_nil]
 simp (disch := omega) only [qsG, go_sem, qc, dvP, mdP]
 repeat' first
  | ((first | refine qe ?_ ?_ | refine qg ?_ ?_); (next => exact rvk); simp only [go_sem]; (first | exact VLe.refl _ | refine qh ?_ | refine qd ?_ | refine ql ?_ | skip))
  | with_reducible first | refine And.intro ?_ ?_ | intro _
 all_goals try exact clz
theorem qyf (c : UInt8) (h : List AObj) : qs Tryz.prog 97 [.int .u8 (c.toNat : Int)] h (.bool (qio c)) h := by
 refine qn qwt (by simp) ?_
 simp only [lcP, lnP, Nat.reduceAdd, Nat.reduceSub, List.replicate, caP, naP, List.append_nil]
 simp (disch := omega) only [qqH, go_sem, qc, dvP, mdP]
 repeat' first
  | ((first | refine qj (jA c _) ?_ ?_); (next => exact flk); simp (disch := omega) only [go_sem, qc, dvP, mdP])
  | ((first | refine qo (fun _ => jA c _) ?_ ?_); (next => exact flk); simp (disch := omega) only [go_sem, qc, dvP, mdP])
  | ((first | refine qk (fun e => ⟨?_, jA c _⟩) ?_); (next => exact flk); simp (disch := omega) only [go_sem, qc, dvP, mdP])
  | ((first | refine qe ?_ ?_ | refine qg ?_ ?_); (next => exact rvk); simp only [go_sem]; (first | exact VLe.refl _ | refine qh ?_ | refine qd ?_ | refine ql ?_ | skip))
  | with_reducible first | refine And.intro ?_ ?_ | intro _
 all_goals try exact clz
def qci (p : Int → Bool) : List Int → Nat → Int
 | [], _ => -1
 | c :: r, i => if p c = true then i else qci p r (i + 1)
theorem qkX (p : Int → Bool) : ∀ (s : List Int) (i : Nat), (0 ≤ qci p s i ↔ s.any p = true) ∧ -1 ≤ qci p s i := by
 intro s
 induction s with
 | nil => intro i; simp [qci]
 | cons c r ih =>
  intro i
  by_cases hc : p c = true
  ·have e : qci p (c :: r) i = i := if_pos hc
   rw [e, List.any_cons, hc]
   simp
   try omega
  ·have e : qci p (c :: r) i = qci p r (i + 1) := if_neg hc
   rw [e, List.any_cons]
   have hc' : p c = false := by simpa using hc
   rw [hc', Bool.false_or]
   exact ih (i + 1)
theorem qkW (p : Int → Bool) (s : List Int) (i : Nat) : decide (0 ≤ qci p s i) = s.any p := by
 rw [Bool.eq_iff_iff, decide_eq_true_eq]; exact (qkX p s i).1
theorem qxP (s : List Int) (p : Int → Bool) (F : Nat) (h : List AObj) (hs : s.length ≤ 1000000000) (hp : ∀ (c : Int) (h : List AObj), qs Tryz.prog F [.int .i64 c] h (.bool (p c)) h) : qs Tryz.prog 128 [qw s, .fn (.func F) [] []] h (.int .i64 (qci p s 0)) h := by
 refine qn qtE (by simp) ?_
 simp only [lcP, lnP, Nat.reduceAdd, Nat.reduceSub, List.replicate, caP, naP, List.append_nil]
 simp (disch := omega) only [qsS, qw, go_sem, qc, dvP, mdP]
 repeat' first
  | ((first | refine qe ?_ ?_ | refine qg ?_ ?_); (next => exact rvk); simp only [go_sem]; (first | exact VLe.refl _ | refine qh ?_ | refine qd ?_ | refine ql ?_ | skip))
  | with_reducible first | refine And.intro ?_ ?_ | intro _
 all_goals try exact clz
 refine qJ (T := fun i : Nat => qv 19 [(0, qw s), (1, .fn (.func F) [] []), (6, qw s), (7, .int .i64 s.length), (8, .int .i64 i)]) (H := fun _ => h) (inv := fun i => i ≤ s.length ∧ qci p s 0 = qci p (s.drop i) i) (m := fun i => s.length - i) 0 ⟨by omega, by simp⟩ (Wk.temps ?_) ?_
 ·(simp only [qw, qv, List.foldl, List.replicate, go_sem, qr, qp, qm, qq]; try (repeat' first | (with_reducible refine And.intro ?_ ?_) | (refine qh ?_; omega) | (refine qd ?_; rfl) | exact VLe.refl _))
 ·rintro i ⟨i1, i2⟩ K hK
  rw [i2]
  by_cases hi : i < s.length
  ·have e : s.drop i = s.getD i 0 :: s.drop (i + 1) := by rw [List.drop_eq_getElem_cons hi]; simp [List.getD_eq_getElem?_getD, hi]
   rw [e] at i2 ⊢
   simp only [qci] at i2 ⊢
   have hpc := fun h => hp (s.getD i 0) h
   cases hb : p (s.getD i 0) with
   | true =>
    rw [hb] at hpc
    simp (disch := omega) only [qv, List.foldl, List.replicate, qw, go_sem, qc, dvP, mdP]
    repeat' first
     | (refine zJ (hpc _) ?_; simp (disch := omega) only [qw, go_sem, qc, dvP, mdP])
     | ((first | refine qe ?_ ?_ | refine qg ?_ ?_); (next => exact rvk); simp only [go_sem]; (first | exact VLe.refl _ | refine qh ?_ | refine qd ?_ | refine ql ?_ | skip))
     | with_reducible first | refine And.intro ?_ ?_ | intro _
    all_goals try exact clz
    all_goals simp
   | false =>
    rw [hb] at hpc i2
    simp (disch := omega) only [qv, List.foldl, List.replicate, qw, go_sem, qc, dvP, mdP]
    repeat' first
     | (refine zJ (hpc _) ?_; simp (disch := omega) only [qw, go_sem, qc, dvP, mdP])
     | ((first | refine qe ?_ ?_ | refine qg ?_ ?_); (next => exact rvk); simp only [go_sem]; (first | exact VLe.refl _ | refine qh ?_ | refine qd ?_ | refine ql ?_ | skip))
     | with_reducible first | refine And.intro ?_ ?_ | intro _
    all_goals try exact clz
    refine hK _ _ (i + 1) ⟨by omega, by rw [i2]; simp⟩ (by omega) (Wk.temps ?_)
    (simp only [qw, qv, List.foldl, List.replicate, go_sem, qr, qp, qm, qq]; try (repeat' first | (with_reducible refine And.intro ?_ ?_) | (refine qh ?_; omega) | (refine qd ?_; rfl) | exact VLe.refl _))
  ·have e : i = s.length := by omega
   subst e
   rw [List.drop_length]
   simp (disch := omega) only [qv, List.foldl, List.replicate, qw, go_sem, qc, dvP, mdP]
   repeat' first
    | ((first | refine qe ?_ ?_ | refine qg ?_ ?_); (next => exact rvk); simp only [go_sem]; (first | exact VLe.refl _ | refine qh ?_ | refine qd ?_ | refine ql ?_ | skip))
    | with_reducible first | refine And.intro ?_ ?_ | intro _
   all_goals try exact clz
theorem qyg (s : List Int) (p : Int → Bool) (F : Nat) (h : List AObj) (hs : s.length ≤ 1000000000) (hp : ∀ (c : Int) (h : List AObj), qs Tryz.prog F [.int .i64 c] h (.bool (p c)) h) : qs Tryz.prog 101 [qw s, .fn (.func F) [] []] h (.bool (s.any p)) h := by
 rw [← qkW p s 0]
 refine qn qto (by simp) ?_
 simp only [lcP, lnP, Nat.reduceAdd, Nat.reduceSub, List.replicate, caP, naP, List.append_nil]
 simp (disch := omega) only [qhA, qw, go_sem, qc, dvP, mdP]
 repeat' first
  | ((first | refine qj (qxP s p F _ hs hp) ?_ ?_); (next => exact flk); simp (disch := omega) only [qw, go_sem, qc, dvP, mdP])
  | ((first | refine qk (fun e => ⟨?_, qxP s p F _ hs hp⟩) ?_); (next => exact flk); simp (disch := omega) only [qw, go_sem, qc, dvP, mdP])
  | ((first | refine qe ?_ ?_ | refine qg ?_ ?_); (next => exact rvk); simp only [go_sem]; (first | exact VLe.refl _ | refine qh ?_ | refine qd ?_ | refine ql ?_ | skip))
  | with_reducible first | refine And.intro ?_ ?_ | intro _
 all_goals try exact clz
theorem qvx (s : List UInt8) (h : List AObj) (hs : s.length ≤ 1000000000) : qs Tryz.prog 100 [.str s] h (qE (qW s)) h := by
 refine qn qtn (by simp) ?_
 simp only [lcP, lnP, Nat.reduceAdd, Nat.reduceSub, List.replicate, caP, naP, List.append_nil]
 simp (disch := omega) only [qa7, go_sem, qc, dvP, mdP]
 repeat' first
  | ((first | refine qj (t67 s _ hs) ?_ ?_); (next => exact flk); simp (disch := omega) only [qE, go_sem, qc, dvP, mdP])
  | ((first | refine qk (fun e => ⟨?_, t67 s _ hs⟩) ?_); (next => exact flk); simp (disch := omega) only [qE, go_sem, qc, dvP, mdP])
  | ((first | refine qe ?_ ?_ | refine qg ?_ ?_); (next => exact rvk); simp only [go_sem]; (first | exact VLe.refl _ | refine qh ?_ | refine qd ?_ | refine ql ?_ | skip))
  | with_reducible first | refine And.intro ?_ ?_ | intro _
 all_goals try exact clz
end HY
end
section
open Go Go.Proofs AF HY
namespace HY
set_option maxRecDepth 100000
def qaS (c : UInt8) : Bool := !decide (kind c = 2)
theorem qiH {s : List UInt8} (h : qa9 s = 0) (hs : s.length ≤ 64) : s.any qaS = !decide (s = []) := by
 rw [qky, if_neg (by omega)] at h
 cases s with
 | nil => rfl
 | cons c r =>
  have hb : qcf (c :: r) 0 = false := by
   cases hb : qcf (c :: r) 0 with
   | false => rfl
   | true => rw [if_pos (qdf (i := 0) (by simp) hb)] at h; cases h
  have hm : qaS c = true := by
   unfold qcf at hb
   simp [ch, jJ] at hb
   unfold qaS
   simp [hb.2]
  simp [hm]
theorem qlk (s : List UInt8) : (qic s).length ≤ s.length := by
 unfold qic qdc qap
 split <;> split <;> simp <;> omega
theorem qd0 {s : List UInt8} {p : UInt8 → Bool} {i : Nat} (h : i < s.length) : (s.take (i + 1)).any p = ((s.take i).any p || p (ch s i)) := by
 rw [List.take_add_one, List.any_append, List.getElem?_eq_getElem h]
 simp [ch, h]
theorem qjm {s : List UInt8} {p : UInt8 → Bool} {i : Nat} (h : i < s.length) (hp : p (ch s i) = true) : s.any p = true := by
 rw [List.any_eq_true]
 exact ⟨s[i], List.getElem_mem h, by simpa [ch, h] using hp⟩
set_option maxHeartbeats 8000000 in
theorem t87 (p : Pat) (h : List AObj) (hl : p.letters.length ≤ 1000000000) (hv : p.levels.length ≤ 1000000000) : qs Tryz.prog 64 [.agg (qbr p)] h (.int .i64 (jO p)) h := by
 unfold jO
 by_cases g0 : 64 < p.letters.length
 ·have k0 : (64 < (p.letters.length : Int)) = True := eq_true (by omega)
  rw [if_pos g0]
  refine qn qtZ (by simp) ?_
  simp only [lcP, lnP, Nat.reduceAdd, Nat.reduceSub, List.replicate, caP, naP, List.append_nil]
  simp (disch := omega) only [qkg, qbr, k0, go_sem, qc, dvP, mdP]
  repeat' first
   | ((first | refine qe ?_ ?_ | refine qg ?_ ?_); (next => exact rvk); simp only [go_sem]; (first | exact VLe.refl _ | refine qh ?_ | refine qd ?_ | refine ql ?_ | skip))
   | with_reducible first | refine And.intro ?_ ?_ | intro _
  all_goals try exact clz
 ·have k0 : (64 < (p.letters.length : Int)) = False := eq_false (by omega)
  rw [if_neg g0]
  have hil := qlk p.letters
  have htl : (qap p.letters [46]).length ≤ 1000000000 := by
   unfold qap
   split
   ·rw [List.length_drop]; omega
   ·omega
  obtain ⟨own, hown⟩ : ∃ o, o = qic p.letters := ⟨_, rfl⟩
  have qsv := fun h => qye p.letters [46] h hl (by simp)
  have qsu : ∀ h : List AObj, qs Tryz.prog 15 [.str (qap p.letters [46]), .str [46]] h (.str own) h := fun h => by rw [hown]; exact qyd _ [46] h htl (by simp)
  rw [← hown] at hil ⊢
  obtain ⟨q, hq⟩ : ∃ q, q = qa9 own := ⟨_, rfl⟩
  have qfS : ∀ h : List AObj, qs Tryz.prog 99 [.str own] h (.int .i64 q) h := fun h => by rw [hq]; exact qxJ own h (by omega)
  have hso : q = 0 → own.any qaS = !decide (own = []) := fun e => qiH (by rw [← hq]; exact e) (by omega)
  rw [← hq]
  refine qn qtZ (by simp) ?_
  simp only [lcP, lnP, Nat.reduceAdd, Nat.reduceSub, List.replicate, caP, naP, List.append_nil]
  simp (disch := omega) only [qkg, qbr, k0, go_sem, qc, dvP, mdP]
  repeat' first
   | ((first | refine qj (qsv _) ?_ ?_ | refine qj (qsu _) ?_ ?_); (next => exact flk); simp (disch := omega) only [k0, qbr, go_sem, qc, dvP, mdP])
   | ((first | refine qo (fun _ => qsv _) ?_ ?_ | refine qo (fun _ => qsu _) ?_ ?_); (next => exact flk); simp (disch := omega) only [k0, qbr, go_sem, qc, dvP, mdP])
   | ((first | refine qk (fun e => ⟨?_, qsv _⟩) ?_ | refine qk (fun e => ⟨?_, qsu _⟩) ?_); (next => exact flk); simp (disch := omega) only [k0, qbr, go_sem, qc, dvP, mdP])
   | ((first | refine qe ?_ ?_ | refine qg ?_ ?_); (next => exact rvk); simp only [go_sem]; (first | exact VLe.refl _ | refine qh ?_ | refine qd ?_ | refine ql ?_ | skip))
   | with_reducible first | refine And.intro ?_ ?_ | intro _
  all_goals try exact clz
  refine qJ (T := fun i : Nat => qv 80 [(1, .op h.length 1 0), (3, .str own), (4, .fn (.func 97) [] []), (5, .bool ((own.take i).any qaS)), (16, .int .i64 own.length), (17, .int .i64 i)]) (H := fun _ => h ++ [.mem 1 61 [.str p.letters, qw p.levels]])
   (inv := fun i => i ≤ own.length ∧ ∀ j, j < i → qio (ch own j) = true) (m := fun i => own.length - i) 0 ⟨by omega, by omega⟩ (Wk.temps ?_) ?_
  ·(simp only [List.take_zero, List.any_nil, qv, List.foldl, List.replicate, go_sem, qr, qp, qm, qq]; try (repeat' first | (with_reducible refine And.intro ?_ ?_) | (refine qh ?_; omega) | (refine qd ?_; rfl) | exact VLe.refl _))
  ·rintro i ⟨i1, i2⟩ K hK
   by_cases hi : i < own.length
   ·have qqH := fun h => qyf (ch own i) h
    cases hb : qio (ch own i) with
    | false =>
     rw [hb] at qqH
     rw [if_pos (qjm (p := fun c => !qio c) hi (by rw [hb]; rfl))]
     simp (disch := omega) only [qv, List.foldl, List.replicate, ji, go_sem, qc, dvP, mdP]
     repeat' first
      | (refine zJ (qqH _) ?_; simp (disch := omega) only [ji, go_sem, qc, dvP, mdP])
      | ((first | refine qe ?_ ?_ | refine qg ?_ ?_); (next => exact rvk); simp only [go_sem]; (first | exact VLe.refl _ | refine qh ?_ | refine qd ?_ | refine ql ?_ | skip))
      | with_reducible first | refine And.intro ?_ ?_ | intro _
     all_goals try exact clz
    | true =>
     rw [hb] at qqH
     have hst := qd0 (p := qaS) hi
     simp (disch := omega) only [qv, List.foldl, List.replicate, ji, go_sem, qc, dvP, mdP]
     repeat' first
      | (refine zJ (qqH _) ?_; simp (disch := omega) only [ji, go_sem, qc, dvP, mdP])
      | ((first | refine qj (jA _ _) ?_ ?_); (next => exact flk); simp (disch := omega) only [ji, go_sem, qc, dvP, mdP])
      | ((first | refine qo (fun _ => jA _ _) ?_ ?_); (next => exact flk); simp (disch := omega) only [ji, go_sem, qc, dvP, mdP])
      | ((first | refine qk (fun e => ⟨?_, jA _ _⟩) ?_); (next => exact flk); simp (disch := omega) only [ji, go_sem, qc, dvP, mdP])
      | ((first | refine qe ?_ ?_ | refine qg ?_ ?_); (next => exact rvk); simp only [go_sem]; (first | exact VLe.refl _ | refine qh ?_ | refine qd ?_ | refine ql ?_ | skip))
      | with_reducible first | refine And.intro ?_ ?_ | intro _
     all_goals try exact clz
     refine hK _ _ (i + 1) ⟨by omega, fun j hj => ?_⟩ (by omega) ?_
     ·by_cases e : j = i
      ·subst e; exact hb
      ·exact i2 j (by omega)
     ·rw [hst]
      unfold qaS
      refine Wk.temps ?_
      (simp only [qv, List.foldl, List.replicate, go_sem, qr, qp, qm, qq]; try (repeat' first | (with_reducible refine And.intro ?_ ?_) | (refine qh ?_; omega) | (refine qd ?_; rfl) | exact VLe.refl _))
   ·have e : i = own.length := by omega
    subst e
    have hall : own.any (fun c => !qio c) = false := by
     rw [List.any_eq_false]
     intro x hx
     obtain ⟨j, hj, rfl⟩ := List.mem_iff_getElem.1 hx
     have := i2 j hj
     simpa [ch, hj] using this
    rw [hall, if_neg (by simp), List.take_length]
    by_cases g1 : q = 0
    ·rw [if_neg (show ¬ q ≠ 0 by simpa using g1), hso g1]
     by_cases g2 : own = []
     ·rw [if_pos g2, decide_eq_true g2]
      simp (disch := omega) only [qv, List.foldl, List.replicate, go_sem, qc, dvP, mdP]
      repeat' first
       | ((first | refine qj (qfS _) ?_ ?_); (next => exact flk); simp (disch := omega) only [g1, go_sem, qc, dvP, mdP])
       | ((first | refine qo (fun _ => qfS _) ?_ ?_); (next => exact flk); simp (disch := omega) only [g1, go_sem, qc, dvP, mdP])
       | ((first | refine qk (fun e => ⟨?_, qfS _⟩) ?_); (next => exact flk); simp (disch := omega) only [g1, go_sem, qc, dvP, mdP])
       | ((first | refine qe ?_ ?_ | refine qg ?_ ?_); (next => exact rvk); simp only [go_sem]; (first | exact VLe.refl _ | refine qh ?_ | refine qd ?_ | refine ql ?_ | skip))
       | with_reducible first | refine And.intro ?_ ?_ | intro _
      all_goals try exact clz
     ·rw [if_neg g2, decide_eq_false g2]
      obtain ⟨L, hL⟩ : ∃ L, L = p.levels := ⟨_, rfl⟩
      obtain ⟨S, hS⟩ : ∃ S, S = p.letters := ⟨_, rfl⟩
      rw [← hL] at hv ⊢
      rw [← hS] at hl g0 hil ⊢
      have qa7 := fun h => qvx S h hl
      have qhA := fun h => qyg L qjq 102 h hv qyh
      have qhB := fun h => qyi S [46] h hl (by simp)
      have qhC := fun h => qyj S [46] h hl (by simp)
      have hcl := jj S
      by_cases g3 : L.length = (qW S).length + 1
      ·have hx1 : ((L.length : Int) - 1).toNat = L.length - 1 := by omega
       have k3 : ((L.length : Int) = ((qW S).length : Int) + 1) = True := eq_true (by omega)
       rw [if_neg (show ¬ L.length ≠ (qW S).length + 1 by simpa using g3)]
       simp (disch := omega) only [qv, List.foldl, List.replicate, qw, go_sem, qc, dvP, mdP]
       repeat' first
        | ((first | refine qj (qfS _) ?_ ?_ | refine qj (qa7 _) ?_ ?_ | refine qj (qhA _) ?_ ?_ | refine qj (qhB _) ?_ ?_ | refine qj (qhC _) ?_ ?_); (next => exact flk); simp (disch := omega) only [g1, qw, qE, k3, hx1, go_sem, qc, dvP, mdP])
        | ((first | refine qo (fun _ => qfS _) ?_ ?_ | refine qo (fun _ => qa7 _) ?_ ?_ | refine qo (fun _ => qhA _) ?_ ?_ | refine qo (fun _ => qhB _) ?_ ?_ | refine qo (fun _ => qhC _) ?_ ?_); (next => exact flk); simp (disch := omega) only [g1, qw, qE, k3, hx1, go_sem, qc, dvP, mdP])
        | ((first | refine qk (fun e => ⟨?_, qfS _⟩) ?_ | refine qk (fun e => ⟨?_, qa7 _⟩) ?_ | refine qk (fun e => ⟨?_, qhA _⟩) ?_ | refine qk (fun e => ⟨?_, qhB _⟩) ?_ | refine qk (fun e => ⟨?_, qhC _⟩) ?_); (next => exact flk); simp (disch := omega) only [g1, qw, qE, k3, hx1, go_sem, qc, dvP, mdP])
        | ((first | refine qe ?_ ?_ | refine qg ?_ ?_); (next => exact rvk); simp only [go_sem]; (first | exact VLe.refl _ | refine qh ?_ | refine qd ?_ | refine ql ?_ | skip))
        | with_reducible first | refine And.intro ?_ ?_ | intro _
       all_goals try exact clz
       all_goals first | (rename_i hx; exact hx.1) | (rename_i hx; exact hx.2) | (rename_i hx; exact hx.1.1) | (rename_i hx; exact hx.1.2) | (rename_i hx; exact hx.2.1) | (rename_i hx; exact hx.2.2) | grind | trace_state
      ·have k3 : ((L.length : Int) = ((qW S).length : Int) + 1) = False := eq_false (by omega)
       rw [if_pos g3]
       simp (disch := omega) only [qv, List.foldl, List.replicate, qw, go_sem, qc, dvP, mdP]
       repeat' first
        | ((first | refine qj (qfS _) ?_ ?_ | refine qj (qa7 _) ?_ ?_); (next => exact flk); simp (disch := omega) only [g1, qw, qE, k3, go_sem, qc, dvP, mdP])
        | ((first | refine qo (fun _ => qfS _) ?_ ?_ | refine qo (fun _ => qa7 _) ?_ ?_); (next => exact flk); simp (disch := omega) only [g1, qw, qE, k3, go_sem, qc, dvP, mdP])
        | ((first | refine qk (fun e => ⟨?_, qfS _⟩) ?_ | refine qk (fun e => ⟨?_, qa7 _⟩) ?_); (next => exact flk); simp (disch := omega) only [g1, qw, qE, k3, go_sem, qc, dvP, mdP])
        | ((first | refine qe ?_ ?_ | refine qg ?_ ?_); (next => exact rvk); simp only [go_sem]; (first | exact VLe.refl _ | refine qh ?_ | refine qd ?_ | refine ql ?_ | skip))
        | with_reducible first | refine And.intro ?_ ?_ | intro _
       all_goals try exact clz
    ·rw [if_pos g1]
     simp (disch := omega) only [qv, List.foldl, List.replicate, go_sem, qc, dvP, mdP]
     repeat' first
      | ((first | refine qj (qfS _) ?_ ?_); (next => exact flk); simp (disch := omega) only [g1, go_sem, qc, dvP, mdP])
      | ((first | refine qo (fun _ => qfS _) ?_ ?_); (next => exact flk); simp (disch := omega) only [g1, go_sem, qc, dvP, mdP])
      | ((first | refine qk (fun e => ⟨?_, qfS _⟩) ?_); (next => exact flk); simp (disch := omega) only [g1, go_sem, qc, dvP, mdP])
      | ((first | refine qe ?_ ?_ | refine qg ?_ ?_); (next => exact rvk); simp only [go_sem]; (first | exact VLe.refl _ | refine qh ?_ | refine qd ?_ | refine ql ?_ | skip))
      | with_reducible first | refine And.intro ?_ ?_ | intro _
     all_goals try exact clz
end HY
end
section
open Go Go.Proofs AF HY
namespace HY
set_option maxRecDepth 100000
theorem qn5 {s : List UInt8} (h : s ≠ []) : 0 < (qW s).length := by
 cases hc : qW s with
 | nil =>
  exfalso
  have := qbb s
  rw [hc] at this
  exact h (by simpa using this.symm)
 | cons a r => simp
end HY
end
section
open Go Go.Proofs AF HY
namespace HY
set_option maxRecDepth 100000
end HY
end
section
open Go Go.Proofs AF HY
namespace HY
set_option maxRecDepth 100000
def qA (ps : List Pat) : AV := .sl ps.length fun i => qbr (ps.getD i default)
def qcO : List Pat → Int
 | [] => 0
 | p :: r => if jO p = 0 then qcO r else jO p
def zW (ps : List Pat) : Int := if 4096 < ps.length then 4 else qcO ps
def qbp (ps : List Pat) : Prop := ps.length ≤ 1000000000 ∧ ∀ i, i < ps.length → (ps.getD i default).letters.length ≤ 1000000000 ∧ (ps.getD i default).levels.length ≤ 1000000000
theorem qd7 {ps : List Pat} {i : Nat} (h : i < ps.length) : ps.drop i = ps.getD i default :: ps.drop (i + 1) := by
 rw [List.drop_eq_getElem_cons h]; simp [List.getD_eq_getElem?_getD, h]
theorem t64 (ps : List Pat) (h : List AObj) (hok : qbp ps) : qs Tryz.prog 36 [qA ps] h (.int .i64 (zW ps)) h := by
 obtain ⟨hl, hp⟩ := hok
 unfold zW
 by_cases g0 : 4096 < ps.length
 ·have k0 : (4096 < (ps.length : Int)) = True := eq_true (by omega)
  rw [if_pos g0]
  refine qn qtU (by simp) ?_
  simp only [lcP, lnP, Nat.reduceAdd, Nat.reduceSub, List.replicate, caP, naP, List.append_nil]
  simp (disch := omega) only [qbz, qA, k0, go_sem, qc, dvP, mdP]
  repeat' first
   | ((first | refine qe ?_ ?_ | refine qg ?_ ?_); (next => exact rvk); simp only [go_sem]; (first | exact VLe.refl _ | refine qh ?_ | refine qd ?_ | refine ql ?_ | skip))
   | with_reducible first | refine And.intro ?_ ?_ | intro _
  all_goals try exact clz
 have k0 : (4096 < (ps.length : Int)) = False := eq_false (by omega)
 rw [if_neg g0]
 refine qn qtU (by simp) ?_
 simp only [lcP, lnP, Nat.reduceAdd, Nat.reduceSub, List.replicate, caP, naP, List.append_nil]
 simp (disch := omega) only [qbz, qA, k0, go_sem, qc, dvP, mdP]
 repeat' first
  | ((first | refine qe ?_ ?_ | refine qg ?_ ?_); (next => exact rvk); simp only [go_sem]; (first | exact VLe.refl _ | refine qh ?_ | refine qd ?_ | refine ql ?_ | skip))
  | with_reducible first | refine And.intro ?_ ?_ | intro _
 all_goals try exact clz
 refine qJ (T := fun i : Nat × AObj => qv 21 [(9, qA ps), (10, .int .i64 ps.length), (11, .int .i64 i.1)]) (H := fun i => h ++ [i.2])
  (inv := fun i => i.1 ≤ ps.length ∧ qcO ps = qcO (ps.drop i.1) ∧ q9 [i.2] 0 = true) (m := fun i => ps.length - i.1) (0, .emp 0) ⟨by simp, by simp, rfl⟩ (Wk.temps ?_) ?_
 ·(simp only [qA, qv, List.foldl, List.replicate, go_sem, qr, qp, qm, qq]; try (repeat' first | (with_reducible refine And.intro ?_ ?_) | (refine qh ?_; omega) | (refine qd ?_; rfl) | exact VLe.refl _))
 rintro ⟨i, O⟩ ⟨i1, i2, i3⟩ K hK
 simp only at i1 i2 i3 hK
 have i3' : ∀ m, q9 (O :: m) 0 = true := fun _ => i3
 rw [i2]
 by_cases hi : i < ps.length
 ·obtain ⟨b1, b2⟩ := hp i hi
  rw [qd7 hi] at i2 ⊢
  obtain ⟨p, hpp⟩ : ∃ p, p = ps.getD i default := ⟨_, rfl⟩
  have epp := hpp.symm
  rw [← hpp] at i2 b1 b2 ⊢
  simp only [qcO] at i2 ⊢
  have qkg := fun h => t87 p h b1 b2
  obtain ⟨q, hq⟩ : ∃ q, q = jO p := ⟨_, rfl⟩
  rw [← hq] at qkg i2 ⊢
  by_cases g1 : q = 0
  ·rw [if_pos g1] at i2 ⊢
   simp (disch := omega) only [qv, List.foldl, List.replicate, qA, qbr, epp, i3', go_sem, qc, dvP, mdP]
   repeat' first
    | ((first | refine qj (qkg _) ?_ ?_); (next => exact flk); simp (disch := omega) only [g1, go_sem, qc, dvP, mdP])
    | ((first | refine qo (fun _ => qkg _) ?_ ?_); (next => exact flk); simp (disch := omega) only [g1, go_sem, qc, dvP, mdP])
    | ((first | refine qk (fun e => ⟨?_, qkg _⟩) ?_); (next => exact flk); simp (disch := omega) only [g1, go_sem, qc, dvP, mdP])
    | ((first | refine qe ?_ ?_ | refine qg ?_ ?_); (next => exact rvk); simp only [go_sem]; (first | exact VLe.refl _ | refine qh ?_ | refine qd ?_ | refine ql ?_ | skip))
    | with_reducible first | refine And.intro ?_ ?_ | intro _
   all_goals try exact clz
   refine hK _ _ (i + 1, .mem (qz (some O) + 1) 61 [.str p.letters, qw p.levels]) ⟨by simp only; omega, i2, rfl⟩ (by simp only; omega) (Wk.temps ?_)
   (simp only [qA, qbr, qv, List.foldl, List.replicate, go_sem, qr, qp, qm, qq]; try (repeat' first | (with_reducible refine And.intro ?_ ?_) | (refine qh ?_; omega) | (refine qd ?_; rfl) | exact VLe.refl _))
  ·rw [if_neg g1]
   simp (disch := omega) only [qv, List.foldl, List.replicate, qA, qbr, epp, i3', go_sem, qc, dvP, mdP]
   repeat' first
    | ((first | refine qj (qkg _) ?_ ?_); (next => exact flk); simp (disch := omega) only [g1, go_sem, qc, dvP, mdP])
    | ((first | refine qo (fun _ => qkg _) ?_ ?_); (next => exact flk); simp (disch := omega) only [g1, go_sem, qc, dvP, mdP])
    | ((first | refine qk (fun e => ⟨?_, qkg _⟩) ?_); (next => exact flk); simp (disch := omega) only [g1, go_sem, qc, dvP, mdP])
    | ((first | refine qe ?_ ?_ | refine qg ?_ ?_); (next => exact rvk); simp only [go_sem]; (first | exact VLe.refl _ | refine qh ?_ | refine qd ?_ | refine ql ?_ | skip))
    | with_reducible first | refine And.intro ?_ ?_ | intro _
   all_goals try exact clz
 ·have e : i = ps.length := by omega
  subst e
  rw [List.drop_length]
  simp (disch := omega) only [qv, List.foldl, List.replicate, qA, qbr, go_sem, qc, dvP, mdP]
  repeat' first
   | ((first | refine qe ?_ ?_ | refine qg ?_ ?_); (next => exact rvk); simp only [go_sem]; (first | exact VLe.refl _ | refine qh ?_ | refine qd ?_ | refine ql ?_ | skip))
   | with_reducible first | refine And.intro ?_ ?_ | intro _
  all_goals try exact clz
def qan (ps : List Pat) (w : List UInt8) : Int := if zW ps = 0 then (if qaH w = true then 0 else 11) else 1
theorem qyk (ps : List Pat) (w : List UInt8) (h : List AObj) (hok : qbp ps) (hw : w.length ≤ 1000000000) : qs Tryz.prog 107 [qA ps, .str w] h (.int .i64 (qan ps w)) h := by
 unfold qan
 have qbz := fun h => t64 ps h hok
 have qbA := fun h => t88 w h hw
 obtain ⟨q, hq⟩ : ∃ q, q = zW ps := ⟨_, rfl⟩
 obtain ⟨u, hu⟩ : ∃ u, u = qaH w := ⟨_, rfl⟩
 rw [← hq] at qbz ⊢
 rw [← hu] at qbA ⊢
 by_cases g1 : q = 0
 ·rw [if_pos g1]
  cases u with
  | true =>
   refine qn qk5 (by simp) ?_
   simp only [lcP, lnP, Nat.reduceAdd, Nat.reduceSub, List.replicate, caP, naP, List.append_nil]
   simp (disch := omega) only [qcg, qA, go_sem, qc, dvP, mdP]
   repeat' first
    | ((first | refine qj (qbz _) ?_ ?_ | refine qj (qbA _) ?_ ?_); (next => exact flk); simp (disch := omega) only [qA, g1, go_sem, qc, dvP, mdP])
    | ((first | refine qo (fun _ => qbz _) ?_ ?_ | refine qo (fun _ => qbA _) ?_ ?_); (next => exact flk); simp (disch := omega) only [qA, g1, go_sem, qc, dvP, mdP])
    | ((first | refine qk (fun e => ⟨?_, qbz _⟩) ?_ | refine qk (fun e => ⟨?_, qbA _⟩) ?_); (next => exact flk); simp (disch := omega) only [qA, g1, go_sem, qc, dvP, mdP])
    | ((first | refine qe ?_ ?_ | refine qg ?_ ?_); (next => exact rvk); simp only [go_sem]; (first | exact VLe.refl _ | refine qh ?_ | refine qd ?_ | refine ql ?_ | skip))
    | with_reducible first | refine And.intro ?_ ?_ | intro _
   all_goals try exact clz
  | false =>
   refine qn qk5 (by simp) ?_
   simp only [lcP, lnP, Nat.reduceAdd, Nat.reduceSub, List.replicate, caP, naP, List.append_nil]
   simp (disch := omega) only [qcg, qA, go_sem, qc, dvP, mdP]
   repeat' first
    | ((first | refine qj (qbz _) ?_ ?_ | refine qj (qbA _) ?_ ?_); (next => exact flk); simp (disch := omega) only [qA, g1, go_sem, qc, dvP, mdP])
    | ((first | refine qo (fun _ => qbz _) ?_ ?_ | refine qo (fun _ => qbA _) ?_ ?_); (next => exact flk); simp (disch := omega) only [qA, g1, go_sem, qc, dvP, mdP])
    | ((first | refine qk (fun e => ⟨?_, qbz _⟩) ?_ | refine qk (fun e => ⟨?_, qbA _⟩) ?_); (next => exact flk); simp (disch := omega) only [qA, g1, go_sem, qc, dvP, mdP])
    | ((first | refine qe ?_ ?_ | refine qg ?_ ?_); (next => exact rvk); simp only [go_sem]; (first | exact VLe.refl _ | refine qh ?_ | refine qd ?_ | refine ql ?_ | skip))
    | with_reducible first | refine And.intro ?_ ?_ | intro _
   all_goals try exact clz
 ·rw [if_neg g1]
  refine qn qk5 (by simp) ?_
  simp only [lcP, lnP, Nat.reduceAdd, Nat.reduceSub, List.replicate, caP, naP, List.append_nil]
  simp (disch := omega) only [qcg, qA, go_sem, qc, dvP, mdP]
  repeat' first
   | ((first | refine qj (qbz _) ?_ ?_ | refine qj (qbA _) ?_ ?_); (next => exact flk); simp (disch := omega) only [qA, g1, go_sem, qc, dvP, mdP])
   | ((first | refine qo (fun _ => qbz _) ?_ ?_ | refine qo (fun _ => qbA _) ?_ ?_); (next => exact flk); simp (disch := omega) only [qA, g1, go_sem, qc, dvP, mdP])
   | ((first | refine qk (fun e => ⟨?_, qbz _⟩) ?_ | refine qk (fun e => ⟨?_, qbA _⟩) ?_); (next => exact flk); simp (disch := omega) only [qA, g1, go_sem, qc, dvP, mdP])
   | ((first | refine qe ?_ ?_ | refine qg ?_ ?_); (next => exact rvk); simp only [go_sem]; (first | exact VLe.refl _ | refine qh ?_ | refine qd ?_ | refine ql ?_ | skip))
   | with_reducible first | refine And.intro ?_ ?_ | intro _
  all_goals try exact clz
end HY
end
section
open Go Go.Proofs AF HY
namespace HY
set_option maxRecDepth 100000
theorem qlz {z : List AV} {c : AV} : ∀ {n : Nat}, c ∈ qL z n → c ∈ z := by
 intro n
 induction n with
 | zero => intro h; simp [qL] at h
 | succ n ih => intro h; simp only [qL, List.mem_append] at h; exact h.elim id ih
theorem qys (n : Nat) (h : List AObj) (k : Nat) (hk : q9 h k = true) (hn : 0 < n) (hn1 : n ≤ 1000000000) :
  qs Tryz.prog 144 [.nl, .int .i64 n] h (.osl k (qz (qI k h) + 1) 1 0 0) (qM k h (.mem (qz (qI k h) + 1) 9 (qL [.str []] n))) := by
 refine qfV qtQ k (by simp) ?_
 simp only [lcP, lnP, Nat.reduceAdd, Nat.reduceSub, List.replicate, caP, naP, List.append_nil]
 simp (disch := omega) only [qs0, go_sem, qc, dvP, mdP]
 repeat' first
  | (with_reducible refine And.intro ?_ ?_)
  | (with_reducible intro _)
 all_goals first
  | omega
  | skip
 have e0 : ((n : Int) - (0 - 0)).toNat = n := by omega
 rw [e0]
 exact ⟨h.length + 1, 1, 1, 0, 0, 9, qL [.str []] n, [AObj.emp 1, AObj.mem 1 9 (qL [.str []] n)], ⟨trivial, trivial⟩, rfl, rfl, by omega, by simp only [go_sem], fun c hc => by have := qlz hc; simp at this; subst this; rfl, hk, rfl, rfl⟩
structure Src (h : List AObj) (e : AV) (n : Nat) (cs : List AV) : Prop where
 flag : e.flag = true
 strip : e.strip = e
 lenOk : ∀ X, okL (h ++ X) .len [e] = True
 len : ∀ X, valL (h ++ X) .len [e] = .int .i64 n
 cells : ∀ X, qy (h ++ X) e = some (n, cs)
 apart : ∀ k v z p m, h.length ≤ k → qdz (.osl k v z p m) e = true
theorem qpA (a b : List (List UInt8)) : zS (a ++ b) = zS a ++ zS b := by simp [zS]
theorem jw {α : Type} (L : List (List α)) {i : Nat} (h : i < L.length) : (L.take (i + 1)).flatten = (L.take i).flatten ++ L.getD i [] := by
 rw [List.take_add_one, List.flatten_append, List.getElem?_eq_getElem h]
 simp [List.getD_eq_getElem?_getD, h]
theorem jk {α : Type} (L : List (List α)) (i : Nat) : (L.take i).flatten.length ≤ L.flatten.length := by
 conv => rhs; rw [← List.take_append_drop i L, List.flatten_append, List.length_append]
 omega
set_option maxHeartbeats 4000000 in
theorem qyp (Ls : List (List (List UInt8))) (E : Nat → AV) (h : List AObj) (k v : Nat) (cs : List AV) (hk : qI k h = some (.mem v 23 cs)) (hcl : cs.length = Ls.length) (hE : ∀ i, i < Ls.length → cs[i]? = some (E i) ∧ Src h (E i) (Ls.getD i []).length (zS (Ls.getD i [])))
  (h0 : 0 < Ls.flatten.length) (h1 : Ls.flatten.length ≤ 1000000000) (h2 : Ls.length ≤ 1000000000) (hv : (v == v) = true) : qs Tryz.prog 138 [.osl k v 1 0 Ls.length] h (qE Ls.flatten) h := by
 have hkl : k < h.length := zK hk
 have hL : ∀ X, zk (h ++ X) k v = true := fun X => by rw [qdN hkl]; unfold zk; rw [hk]; simp
 have hC : ∀ X, cellsOf (h ++ X) k v = some cs := fun X => by rw [qbY hkl]; exact jv hk
 have hLs : 0 < Ls.length := by
  cases Ls with
  | nil => simp at h0
  | cons => simp
 refine qn qtK (by simp) ?_
 simp only [lcP, lnP, Nat.reduceAdd, Nat.reduceSub, List.replicate, caP, naP, List.append_nil]
 simp (disch := omega) only [qke, hL, hC, go_sem, qc, dvP, mdP]
 repeat' first
  | ((first | refine qe ?_ ?_ | refine qg ?_ ?_); (next => exact rvk); simp only [go_sem]; (first | exact VLe.refl _ | refine qh ?_ | refine qd ?_ | refine ql ?_ | skip))
  | with_reducible first | refine And.intro ?_ ?_ | intro _
 all_goals try exact clz
 refine qJ (T := fun i : Nat => qv 36 [(0, .osl k v 1 0 Ls.length), (3, .int .i64 (Ls.take i).flatten.length), (9, .osl k v 1 0 Ls.length), (10, .int .i64 Ls.length), (11, .int .i64 i)]) (H := fun i => h ++ [.emp 1, .emp 0, .emp 0])
  (inv := fun i => i ≤ Ls.length) (m := fun i => Ls.length - i) 0 (by omega) (Wk.temps ?_) ?_
 ·(simp only [qv, List.foldl, List.replicate, go_sem, qr, qp, qm, qq]; try (repeat' first | (with_reducible refine And.intro ?_ ?_) | (refine qh ?_; omega) | (refine qd ?_; rfl) | exact VLe.refl _))
 rintro i i1 K hK
 by_cases hi : i < Ls.length
 ·obtain ⟨c1, ⟨s1, s2, s3, s4, s5, s6⟩⟩ := hE i hi
  have hst := jw Ls hi
  have hle := jk Ls (i + 1)
  rw [hst, List.length_append] at hle
  simp (disch := omega) only [qv, List.foldl, List.replicate, hL, hC, c1, s1, s2, s3, s4, hcl, go_sem, qc, dvP, mdP]
  repeat' first
   | ((first | refine qe ?_ ?_ | refine qg ?_ ?_); (next => exact rvk); simp only [go_sem]; (first | exact VLe.refl _ | refine qh ?_ | refine qd ?_ | refine ql ?_ | skip))
   | with_reducible first | refine And.intro ?_ ?_ | intro _
  all_goals try exact clz
  have hln : (List.take (i + 1) Ls).flatten.length = (List.take i Ls).flatten.length + (Ls.getD i []).length := by rw [hst, List.length_append]
  refine hK _ _ (i + 1) (by omega) (by omega) (Wk.temps ?_)
  (simp only [qv, List.foldl, List.replicate, go_sem, qr, qp, qm, qq]; try (repeat' first | (with_reducible refine And.intro ?_ ?_) | (refine qh ?_; omega) | (refine qd ?_; rfl) | exact VLe.refl _))
 have e : i = Ls.length := by omega
 subst e
 rw [List.take_length]
 obtain ⟨N, hN⟩ : ∃ N, N = Ls.flatten.length := ⟨_, rfl⟩
 rw [← hN] at h0 h1 ⊢
 simp (disch := omega) only [qv, List.foldl, List.replicate, hL, hC, hcl, go_sem, qc, dvP, mdP]
 refine ⟨fun hf => absurd hf (by omega), fun _ => ?_⟩
 refine qS (qys N _ (h.length + 2) (by simp only [go_sem]) h0 h1) ⟨rfl, rfl, trivial⟩ ?_
 simp (disch := omega) only [hL, hC, go_sem, qc, dvP, mdP]
 repeat' first
  | ((first | refine qe ?_ ?_ | refine qg ?_ ?_); (next => exact rvk); simp only [go_sem]; (first | exact VLe.refl _ | refine qh ?_ | refine qd ?_ | refine ql ?_ | skip))
  | with_reducible first | refine And.intro ?_ ?_ | intro _
 all_goals try exact clz
 refine qJ (T := fun i : Nat × Nat × Nat => qv 36 [(6, .osl (h.length + 2) i.2.1 1 0 i.2.2), (25, .osl k v 1 0 Ls.length), (26, .int .i64 Ls.length), (27, .int .i64 i.1)]) (H := fun i => h ++ [.emp 1, .emp 0, .mem i.2.1 9 (if i.1 = 0 then qL [.str []] N else zS (Ls.take i.1).flatten)])
  (inv := fun i => i.1 ≤ Ls.length ∧ i.2.2 = (Ls.take i.1).flatten.length) (m := fun i => Ls.length - i.1) (0, 1, 0) ⟨by simp, by simp⟩ (Wk.temps ?_) ?_
 ·(simp only [qv, List.foldl, List.replicate, go_sem, qr, qp, qm, qq]; try (repeat' first | (with_reducible refine And.intro ?_ ?_) | (refine qh ?_; omega) | (refine qd ?_; rfl) | exact VLe.refl _))
 rintro ⟨i, w, m⟩ ⟨i1, i2⟩ K hK
 simp only at i1 i2 hK
 by_cases hi : i < Ls.length
 ·obtain ⟨c1, ⟨s1, s2, s3, s4, s5, s6⟩⟩ := hE i hi
  have hst := jw Ls hi
  have hle := jk Ls (i + 1)
  rw [hst, List.length_append, ← hN] at hle
  have eT : ∀ n, List.take m (if i = 0 then qL [.str []] n else zS (Ls.take i).flatten) = zS (Ls.take i).flatten := by
   intro n
   split
   ·rename_i e0; subst e0; subst i2; rfl
   ·exact List.take_of_length_le (by rw [zu, i2]; exact Nat.le_refl _)
  obtain ⟨ms, hms⟩ : ∃ ms, ms = (if i = 0 then qL [.str []] N else zS (Ls.take i).flatten) := ⟨_, rfl⟩
  have eT' := eT N
  rw [← hms] at eT' ⊢
  have hml : m ≤ ms.length := by
   have := congrArg List.length eT'
   rw [List.length_take, zu, ← i2] at this
   omega
  have hsl := zu (Ls.getD i [])
  simp (disch := omega) only [qv, List.foldl, List.replicate, hL, hC, c1, s1, s2, s3, s4, s5, s6, hcl, eT', hsl, go_sem, qc, dvP, mdP]
  repeat' first
   | ((first | refine qe ?_ ?_ | refine qg ?_ ?_); (next => exact rvk); simp only [go_sem]; (first | exact VLe.refl _ | refine qh ?_ | refine qd ?_ | refine ql ?_ | skip))
   | with_reducible first | refine And.intro ?_ ?_ | intro _
  all_goals try exact clz
  have hfin : h ++ [AObj.emp 1, AObj.emp 0, AObj.mem (w + 1) 9 (zS (List.take i Ls).flatten ++ zS (Ls.getD i []))] = h ++ [AObj.emp 1, AObj.emp 0, AObj.mem (w + 1) 9 (if i + 1 = 0 then qL [.str []] N else zS (Ls.take (i + 1)).flatten)] := by rw [if_neg (by omega), hst, qpA]
  rw [hfin]
  refine hK _ _ (i + 1, w + 1, m + (Ls.getD i []).length) ⟨by simp only; omega, by simp only; rw [hst, List.length_append, i2]⟩ (by simp only; omega) (Wk.temps ?_)
  (simp only [qv, List.foldl, List.replicate, go_sem, qr, qp, qm, qq]; try (repeat' first | (with_reducible refine And.intro ?_ ?_) | (refine qh ?_; omega) | (refine qd ?_; rfl) | exact VLe.refl _))
 ·have e : i = Ls.length := by omega
  subst e
  rw [List.take_length, ← hN] at i2
  subst i2
  rw [List.take_length, if_neg (by omega)]
  have eL : (zS Ls.flatten).length = m := by rw [zu, hN]
  simp (disch := omega) only [qv, List.foldl, List.replicate, hL, hC, hcl, eL, go_sem, qc, dvP, mdP]
  repeat' first
   | ((first | refine qe ?_ ?_ | refine qg ?_ ?_); (next => exact rvk); simp only [go_sem]; (first | exact VLe.refl _ | refine qh ?_ | refine qd ?_ | refine ql ?_ | skip))
   | with_reducible first | refine And.intro ?_ ?_ | intro _
  all_goals try exact clz
  rw [if_pos (by omega)]
  exact qew hN.symm
end HY
end
section
open Go Go.Proofs AF HY
namespace HY
set_option maxRecDepth 100000
def eqS (n m : Nat) (f g : Nat → List UInt8) : Bool := decide (n = m) && (List.range n).all fun i => decide (f i = g i)
def qbJ (pat l : List (List UInt8)) (at_ : Nat) : Bool := (List.range pat.length).all fun i => decide (l.getD (at_ + i) [] = pat.getD i [])
def za (pat l : List (List UInt8)) : List Nat := (List.range (l.length + 1 - pat.length)).filter (qbJ pat l)
def addAt (all : List Int) (at_ : Nat) : List Int → List Int
 | [] => all
 | x :: r => addAt (all.set at_ (max (all.getD at_ 0) x)) (at_ + 1) r
def qdv (l : List (List UInt8)) (all : List Int) (p : Pat) : List Int := (za (qW (jV p.letters)) l).foldl (fun a i => addAt a i p.levels) all
def kX (w : List UInt8) : List (List UInt8) := [46] :: (qW (jV w) ++ [[46]])
def qad (ps : List Pat) (l : List (List UInt8)) : List Int := ps.foldl (qdv l) (List.replicate (l.length + 1) 0)
def jl (ps : List Pat) (w : List UInt8) : List Int := ((qad ps (kX w)).drop 2).take ((kX w).length - 1 - 2)
theorem qeH (r : List Int) : ∀ (all : List Int) (i : Nat), (addAt all i r).length = all.length := by
 induction r with
 | nil => intro all i; rfl
 | cons x r ih => intro all i; simp only [addAt]; rw [ih, List.length_set]
theorem qcR {α : Type} {f : List Int → α → List Int} (hf : ∀ a x, (f a x).length = a.length) (l : List α) : ∀ all, (l.foldl f all).length = all.length := by
 induction l with
 | nil => intro all; rfl
 | cons x l ih => intro all; rw [List.foldl_cons, ih, hf]
theorem qdw (l : List (List UInt8)) (all : List Int) (p : Pat) : (qdv l all p).length = all.length := qcR (fun a x => qeH _ _ _) _ _
theorem qkS {p : Nat → Bool} {N i : Nat} (h : i < N) : ∃ rest, (List.range N).filter p = (List.range (i + 1)).filter p ++ rest := by
 obtain ⟨r, rfl⟩ : ∃ r, N = i + 1 + r := ⟨N - (i + 1), by omega⟩
 exact ⟨_, by rw [List.range_add, List.filter_append]⟩
theorem jP {p : Nat → Bool} {i : Nat} (h : p i = true) : (List.range (i + 1)).filter p = (List.range i).filter p ++ [i] := by
 rw [List.range_succ, List.filter_append]; simp [h]
theorem kR {p : Nat → Bool} {i : Nat} (h : p i = false) : (List.range (i + 1)).filter p = (List.range i).filter p := by
 rw [List.range_succ, List.filter_append]; simp [h]
theorem qhX {p : Nat → Bool} {N i : Nat} (h : i < N) (hp : p i = true) : ∃ (hj : ((List.range i).filter p).length < ((List.range N).filter p).length), ((List.range N).filter p)[((List.range i).filter p).length] = i := by
 obtain ⟨rest, e⟩ := qkS (p := p) h
 rw [jP hp, List.append_assoc] at e
 refine ⟨by rw [e]; simp, ?_⟩
 simp only [e]
 rw [List.getElem_append_right (Nat.le_refl _)]
 simp
theorem qnF {f g : Nat → List UInt8} {n i : Nat} (h : ∀ j, j < n → f j = g j) : ((List.range n).all fun i => decide (f i = g i)) = true := by
 rw [List.all_eq_true]
 intro j hj
 simpa using h j (by simpa using hj)
theorem qjl {f g : Nat → List UInt8} {n i : Nat} (hi : i < n) (h : ¬ f i = g i) : ((List.range n).all fun i => decide (f i = g i)) = false := by
 rw [Bool.eq_false_iff]
 intro hc
 rw [List.all_eq_true] at hc
 have := hc i (by simpa using hi)
 simp at this
 exact h this
theorem qxT (n m : Nat) (f g : Nat → List UInt8) (h : List AObj) (hn : n ≤ 1000000000) : qs Tryz.prog 54 [.sl n fun i => [.str (f i)], .sl m fun i => [.str (g i)]] h (.bool (eqS n m f g)) h := by
 unfold eqS
 by_cases g0 : n = m
 ·subst g0
  refine qn qtY (by simp) ?_
  simp only [lcP, lnP, Nat.reduceAdd, Nat.reduceSub, List.replicate, caP, naP, List.append_nil]
  simp (disch := omega) only [qjh, go_sem, qc, dvP, mdP]
  repeat' first
   | ((first | refine qe ?_ ?_ | refine qg ?_ ?_); (next => exact rvk); simp only [go_sem]; (first | exact VLe.refl _ | refine qh ?_ | refine qd ?_ | refine ql ?_ | skip))
   | with_reducible first | refine And.intro ?_ ?_ | intro _
  all_goals try exact clz
  refine qJ (T := fun i : Nat => qv 26 [(0, .sl n fun i => [.str (f i)]), (1, .sl n fun i => [.str (g i)]), (12, .int .i64 n), (13, .int .i64 i)]) (H := fun _ => h) (inv := fun i => i ≤ n ∧ ∀ j, j < i → f j = g j) (m := fun i => n - i) 0 ⟨by omega, by omega⟩ (Wk.temps ?_) ?_
  ·(simp only [qv, List.foldl, List.replicate, go_sem, qr, qp, qm, qq]; try (repeat' first | (with_reducible refine And.intro ?_ ?_) | (refine qh ?_; omega) | (refine qd ?_; rfl) | exact VLe.refl _))
  rintro i ⟨i1, i2⟩ K hK
  by_cases hi : i < n
  ·by_cases hb : f i = g i
   ·have k1 : (f i = g i) = True := eq_true hb
    simp (disch := omega) only [qv, List.foldl, List.replicate, k1, go_sem, qc, dvP, mdP]
    repeat' first
     | ((first | refine qe ?_ ?_ | refine qg ?_ ?_); (next => exact rvk); simp only [go_sem]; (first | exact VLe.refl _ | refine qh ?_ | refine qd ?_ | refine ql ?_ | skip))
     | with_reducible first | refine And.intro ?_ ?_ | intro _
    all_goals try exact clz
    refine hK _ _ (i + 1) ⟨by omega, fun j hj => ?_⟩ (by omega) (Wk.temps ?_)
    ·by_cases e : j = i
     ·subst e; exact hb
     ·exact i2 j (by omega)
    ·(simp only [qv, List.foldl, List.replicate, go_sem, qr, qp, qm, qq]; try (repeat' first | (with_reducible refine And.intro ?_ ?_) | (refine qh ?_; omega) | (refine qd ?_; rfl) | exact VLe.refl _))
   ·have k1 : (f i = g i) = False := eq_false hb
    rw [qjl hi hb]
    simp (disch := omega) only [qv, List.foldl, List.replicate, k1, go_sem, qc, dvP, mdP]
    repeat' first
     | ((first | refine qe ?_ ?_ | refine qg ?_ ?_); (next => exact rvk); simp only [go_sem]; (first | exact VLe.refl _ | refine qh ?_ | refine qd ?_ | refine ql ?_ | skip))
     | with_reducible first | refine And.intro ?_ ?_ | intro _
    all_goals try exact clz
  ·have e : i = n := by omega
   subst e
   rw [qnF (i := 0) i2]
   simp (disch := omega) only [qv, List.foldl, List.replicate, go_sem, qc, dvP, mdP]
   repeat' first
    | ((first | refine qe ?_ ?_ | refine qg ?_ ?_); (next => exact rvk); simp only [go_sem]; (first | exact VLe.refl _ | refine qh ?_ | refine qd ?_ | refine ql ?_ | skip))
    | with_reducible first | refine And.intro ?_ ?_ | intro _
   all_goals try exact clz
 ·have k0 : ((n : Int) = m) = False := eq_false (by omega)
  rw [decide_eq_false g0]
  refine qn qtY (by simp) ?_
  simp only [lcP, lnP, Nat.reduceAdd, Nat.reduceSub, List.replicate, caP, naP, List.append_nil]
  simp (disch := omega) only [qjh, k0, go_sem, qc, dvP, mdP]
  repeat' first
   | ((first | refine qe ?_ ?_ | refine qg ?_ ?_); (next => exact rvk); simp only [go_sem]; (first | exact VLe.refl _ | refine qh ?_ | refine qd ?_ | refine ql ?_ | skip))
   | with_reducible first | refine And.intro ?_ ?_ | intro _
  all_goals try exact clz
theorem qat (s : List UInt8) : (jV s).length = s.length := by simp [jV]
theorem qxR (s : List UInt8) (h : List AObj) (hs : s.length ≤ 1000000000) : qs Tryz.prog 139 [.str s] h (qE (qW (jV s))) h := by
 refine qn qtL (by simp) ?_
 simp only [lcP, lnP, Nat.reduceAdd, Nat.reduceSub, List.replicate, caP, naP, List.append_nil]
 simp (disch := omega) only [qhF, go_sem, qc, dvP, mdP]
 repeat' first
  | ((first | refine qj (qxS s _ hs) ?_ ?_ | refine qj (qvx (jV s) _ (by rw [qat]; exact hs)) ?_ ?_); (next => exact flk); simp (disch := omega) only [qE, go_sem, qc, dvP, mdP])
  | ((first | refine qk (fun e => ⟨?_, qxS s _ hs⟩) ?_ | refine qk (fun e => ⟨?_, qvx (jV s) _ (by rw [qat]; exact hs)⟩) ?_); (next => exact flk); simp (disch := omega) only [qE, go_sem, qc, dvP, mdP])
  | ((first | refine qe ?_ ?_ | refine qg ?_ ?_); (next => exact rvk); simp only [go_sem]; (first | exact VLe.refl _ | refine qh ?_ | refine qd ?_ | refine ql ?_ | skip))
  | with_reducible first | refine And.intro ?_ ?_ | intro _
 all_goals try exact clz
def qc4 (a b : List (List UInt8)) : AV := .fn (.func 146) [] [.ip [qE a], .ip [qE b]]
theorem qeZ (a b : List (List UInt8)) : (qc4 a b).flag = true := rfl
theorem qeu (a b : List (List UInt8)) : (qc4 a b).strip = qc4 a b := rfl
attribute [go_sem] qeZ qeu
theorem qyr (a b : List (List UInt8)) (h : List AObj) : qs Tryz.prog 141 [qE a, qE b] h (qc4 a b) h := by
 refine qn qtN (by simp) ?_
 simp only [lcP, lnP, Nat.reduceAdd, Nat.reduceSub, List.replicate, caP, naP, List.append_nil]
 simp (disch := omega) only [qhG, qE, go_sem, qc, dvP, mdP]
 repeat' first
  | ((first | refine qe ?_ ?_ | refine qg ?_ ?_); (next => exact rvk); simp only [go_sem]; (first | exact VLe.refl _ | refine qh ?_ | refine qd ?_ | refine ql ?_ | skip))
  | with_reducible first | refine And.intro ?_ ?_ | intro _
 all_goals try exact clz
def qis (a b : List (List UInt8)) : List (List AV) := (za a b).map fun (i : Nat) => [.int .i64 (i : Int)]
theorem qly (pat l : List (List UInt8)) (i : Nat) : eqS pat.length pat.length (fun k => l.getD (i + k) []) (fun k => pat.getD k []) = qbJ pat l i := by simp [eqS, qbJ]
theorem qwv (pat l : List (List UInt8)) (hp : pat.length ≤ 1000000000) (hl : l.length ≤ 1000000000) : qvp Tryz.prog 146 [.ip [qE pat], .ip [qE l]] (qis pat l) := by
 intro h ts L S E hS hE body start hts
 refine kw qtS (by simp) ?_
 simp only [lcP, lnP, Nat.reduceAdd, Nat.reduceSub, List.replicate, caP, naP, List.append_nil]
 simp (disch := omega) only [qs2, qE, go_sem, qc, dvP, mdP]
 repeat' first
  | ((first | refine qe ?_ ?_ | refine qg ?_ ?_); (next => exact rvk); simp only [go_sem]; (first | exact VLe.refl _ | refine qh ?_ | refine qd ?_ | refine ql ?_ | skip))
  | with_reducible first | refine And.intro ?_ ?_ | intro _
 all_goals try exact clz
 refine qJ (T := fun i : Nat × List AObj => qv 29 [(0, .yld h.length), (1, .ip [qE pat]), (2, .ip [qE l]), (4, .int .i64 i.1)]) (H := fun i => i.2 ++ [.lp .ready ts L])
  (inv := fun i => S ((List.range i.1).filter (qbJ pat l)).length i.2 ∧ i.1 ≤ l.length + 1 - pat.length) (m := fun i => l.length + 1 - i.1) (0, h) ⟨start, by simp⟩ (Wk.temps ?_) ?_
 ·(simp only [qE, qv, List.foldl, List.replicate, go_sem, qr, qp, qm, qq]; try (repeat' first | (with_reducible refine And.intro ?_ ?_) | (refine qh ?_; omega) | (refine qd ?_; rfl) | exact VLe.refl _))
 rintro ⟨i, hh⟩ ⟨i1, i2⟩ K hK
 simp only at i1 i2 hK
 obtain ⟨hlen, hlow⟩ := hS _ _ i1
 have he := qly pat l i
 have hx : ((i : Int) + (pat.length : Int)).toNat - i = pat.length := by omega
 by_cases hi : i < l.length + 1 - pat.length
 ·have k0 : ((i : Int) + (pat.length : Int) ≤ (l.length : Int)) = True := eq_true (by omega)
  have qjh := fun h => qxT pat.length pat.length (fun k => l.getD (i + k) []) (fun k => pat.getD k []) h hp
  cases hb : qbJ pat l i with
  | false =>
   rw [he, hb] at qjh
   rw [← kR hb] at i1
   simp (disch := omega) only [qv, List.foldl, List.replicate, qE, k0, hx, go_sem, qc, dvP, mdP]
   repeat' first
    | ((first | refine qj (qjh _) ?_ ?_); (next => exact flk); simp (disch := omega) only [qE, k0, hx, go_sem, qc, dvP, mdP])
    | ((first | refine qo (fun _ => qjh _) ?_ ?_); (next => exact flk); simp (disch := omega) only [qE, k0, hx, go_sem, qc, dvP, mdP])
    | ((first | refine qk (fun e => ⟨?_, qjh _⟩) ?_); (next => exact flk); simp (disch := omega) only [qE, k0, hx, go_sem, qc, dvP, mdP])
    | ((first | refine qe ?_ ?_ | refine qg ?_ ?_); (next => exact rvk); simp only [go_sem]; (first | exact VLe.refl _ | refine qh ?_ | refine qd ?_ | refine ql ?_ | skip))
    | with_reducible first | refine And.intro ?_ ?_ | intro _
   all_goals try exact clz
   refine hK _ _ (i + 1, hh) ⟨i1, by simp only; omega⟩ (by simp only; omega) (Wk.temps ?_)
   (simp only [qE, qv, List.foldl, List.replicate, go_sem, qr, qp, qm, qq]; try (repeat' first | (with_reducible refine And.intro ?_ ?_) | (refine qh ?_; omega) | (refine qd ?_; rfl) | exact VLe.refl _))
  | true =>
   rw [he, hb] at qjh
   obtain ⟨hj, hget⟩ := qhX hi hb
   have hb' := body _ hh [] (by simpa [qis, za] using hj) i1
   have hxx : (qis pat l)[((List.range i).filter (qbJ pat l)).length]'(by simpa [qis, za] using hj) = [.int .i64 (i : Int)] := by
    simp only [qis, za, List.getElem_map, hget]
   rw [hxx] at hb'
   simp (disch := omega) only [qv, List.foldl, List.replicate, qE, k0, hx, go_sem, qc, dvP, mdP]
   repeat' first
    | ((first | refine qj (qjh _) ?_ ?_); (next => exact flk); simp (disch := omega) only [qE, k0, hx, go_sem, qc, dvP, mdP])
    | ((first | refine qo (fun _ => qjh _) ?_ ?_); (next => exact flk); simp (disch := omega) only [qE, k0, hx, go_sem, qc, dvP, mdP])
    | ((first | refine qk (fun e => ⟨?_, qjh _⟩) ?_); (next => exact flk); simp (disch := omega) only [qE, k0, hx, go_sem, qc, dvP, mdP])
    | ((first | refine qe ?_ ?_ | refine qg ?_ ?_); (next => exact rvk); simp only [go_sem]; (first | exact VLe.refl _ | refine qh ?_ | refine qd ?_ | refine ql ?_ | skip))
    | with_reducible first | refine And.intro ?_ ?_ | intro _
   all_goals try exact clz
   all_goals first
    | exact ⟨.ready, ts, L, qb2 hlen⟩
    | skip
   refine j5.mono ?_ hb'
   rintro v h' ⟨hh', ⟨rfl, hn, rfl⟩ | ⟨st, rfl, hs', rfl⟩⟩
   ·simp (disch := omega) only [go_sem, qc, dvP, mdP]
    repeat' first
     | ((first | refine qe ?_ ?_ | refine qg ?_ ?_); (next => exact rvk); simp only [go_sem]; (first | exact VLe.refl _ | refine qh ?_ | refine qd ?_ | refine ql ?_ | skip))
     | with_reducible first | refine And.intro ?_ ?_ | intro _
    all_goals try exact clz
    refine hK _ _ (i + 1, hh') ⟨?_, by simp only; omega⟩ (by simp only; omega) (Wk.temps ?_)
    ·simp only
     rw [jP hb, List.length_append]
     exact hn
    ·(simp only [qE, qv, List.foldl, List.replicate, go_sem, qr, qp, qm, qq]; try (repeat' first | (with_reducible refine And.intro ?_ ?_) | (refine qh ?_; omega) | (refine qd ?_; rfl) | exact VLe.refl _))
   ·simp (disch := omega) only [go_sem, qc, dvP, mdP]
    obtain ⟨r1, r2⟩ := (hE _ _ hs').ret (L := L) st hts
    exact qg2 trivial r1 r2 ⟨_, .inr ⟨st, hs', rfl⟩⟩ (VLe.refl _)
 ·have k0 : ((i : Int) + (pat.length : Int) ≤ (l.length : Int)) = False := eq_false (by omega)
  have e : i = l.length + 1 - pat.length := by omega
  simp (disch := omega) only [qv, List.foldl, List.replicate, qE, k0, go_sem, qc, dvP, mdP]
  repeat' first
   | ((first | refine qe ?_ ?_ | refine qg ?_ ?_); (next => exact rvk); simp only [go_sem]; (first | exact VLe.refl _ | refine qh ?_ | refine qd ?_ | refine ql ?_ | skip))
   | with_reducible first | refine And.intro ?_ ?_ | intro _
  all_goals try exact clz
  subst e
  obtain ⟨r1, r2⟩ := (hS _ _ i1).ret (L := L) .ready hts
  exact qcQ trivial r1 r2 ⟨hh, .inl ⟨by simpa [qis, za] using i1, rfl⟩⟩ (VLe.refl _)
end HY
end
section
open Go Go.Proofs AF HY
namespace HY
set_option maxRecDepth 100000
theorem qkk {P : Program} {f : Nat} {first cap args : List AV} {d : Option Nat} {nx : Nx} {t : List AV} {h h' : List AObj} {v : AV} (hc : qs P f (first ++ args ++ cap) h v h') (hn : nx (qV t d v) h') : qbD P (.fn (.func f) first cap :: args) d nx t h := ⟨v, h', hc, hn⟩
theorem qe9 (all : List Int) {a : Nat} (x : Int) (ha : a < all.length) : List.take a (qU all) ++ [.int .i64 x] ++ List.drop (a + 1) (qU all) = qU (all.set a x) := by
 unfold qU
 rw [List.map_set, List.set_eq_take_append_cons_drop, if_pos (by simpa using ha), List.append_assoc]
 rfl
theorem qbg {all : List Int} {a : Nat} (ha : a < all.length) : (qU all)[a]? = some (.int .i64 (all.getD a 0)) := by simp [qU, List.getD_eq_getElem?_getD, ha]
theorem qcS {all : List Int} {n : Nat} : qcY n (.mem 1 3 (qU all)) := by
 intro c hc
 unfold qU at hc
 rw [List.mem_map] at hc
 obtain ⟨x, _, rfl⟩ := hc
 rfl
theorem qax (n : Nat) : qL [.int .i64 0] n = qU (List.replicate n 0) := by
 induction n with
 | zero => rfl
 | succ n ih => simp only [qL, ih, List.replicate_succ]; rfl
theorem qyq (k v k2 n a : Nat) (all : List Int) (z x : Int) (h : List AObj) (hk : qI k h = some (.mem v 42 [.osl k2 1 1 0 n])) (hk2 : qI k2 h = some (.mem 1 3 (qU all))) (hn : all.length = n) (ha : a < n) (hz : z = a) :
  qs Tryz.prog 140 [.int .i64 z, .int .i64 x, .op k v 0] h (.tup []) (qM k2 h (.mem 1 3 (qU (all.set a (max (all.getD a 0) x))))) := by
 subst hz
 subst hn
 have hc := jv hk
 have hc2 := jv hk2
 have hg := qbg ha
 have hlen := zj all
 have hst := qe9 all (max (all.getD a 0) x) ha
 refine qn qtM (by simp) ?_
 simp only [lcP, lnP, Nat.reduceAdd, Nat.reduceSub, List.replicate, caP, naP, List.append_nil]
 simp (disch := omega) only [qsX, hc, hc2, hk2, hg, hlen, go_sem, qc, dvP, mdP]
 repeat' first
  | ((first | refine qe ?_ ?_ | refine qg ?_ ?_); (next => exact rvk); simp only [go_sem]; (first | exact VLe.refl _ | refine qh ?_ | refine qd ?_ | refine ql ?_ | skip))
  | with_reducible first | refine And.intro ?_ ?_ | intro _
 all_goals try exact clz
 rw [hst]
 refine qcQ trivial qZ (fun o ho => ?_) ⟨rfl, rfl⟩ (VLe.refl _)
 rcases qbl ho with h4 | rfl
 ·exact .inl h4
 ·exact .inr qcS
theorem quX (h : List AObj) (L : List (List UInt8)) : Src h (qE L) L.length (zS L) := by
 refine ⟨rfl, rfl, fun X => rfl, fun X => rfl, fun X => ?_, fun k v z p m _ => rfl⟩
 show some (L.length, (List.range L.length).flatMap fun i => [AV.str (L.getD i [])]) = _
 congr 2
 rw [← List.map_eq_flatMap]
 unfold zS
 apply List.ext_getElem
 ·simp
 ·intro i h1 h2
  simp at h1
  simp [List.getD_eq_getElem?_getD, h1]
theorem qmP {h : List AObj} {k v : Nat} {ty : TypeId} {L : List (List UInt8)} (hk : qI k h = some (.mem v ty (zS L))) : Src h (.osl k v 1 0 L.length) L.length (zS L) := by
 have hkl := zK hk
 refine ⟨rfl, rfl, fun X => ?_, fun X => rfl, fun X => ?_, fun k' v' z p m hk' => ?_⟩
 ·show (zk (h ++ X) k v = true) = True
  rw [qdN hkl]
  unfold zk
  rw [hk]
  simp
 ·rw [qaM, zH hkl, hk, qfH, if_pos (by rw [zu]; simp)]
  simp [zu]
  try exact List.take_of_length_le (by rw [zu]; exact Nat.le_refl _)
 ·show (k' != k) = true
  rw [bne_iff_ne]
  omega
theorem qhE (w : List UInt8) (b : Nat) (H : List AObj) (hw : w.length ≤ 1000000000 - 2) (h1 : qI (b + 1) H = some (.mem 1 9 [.str [46]])) (h2 : qI (b + 2) H = some (.mem 1 9 [.str [46]]))
  (h3 : qI (b + 3) H = some (.mem 1 23 [.osl (b + 1) 1 1 0 1, qE (qW (jV w)), .osl (b + 2) 1 1 0 1])) : qs Tryz.prog 138 [.osl (b + 3) 1 1 0 3] H (qE (kX w)) H := by
 have hcl := jj (jV w)
 rw [qat] at hcl
 have e : kX w = [[[46]], qW (jV w), [[46]]].flatten := by simp [kX]
 rw [e]
 refine qyp [[[46]], qW (jV w), [[46]]] (fun i => if i = 0 then .osl (b + 1) 1 1 0 1 else if i = 1 then qE (qW (jV w)) else .osl (b + 2) 1 1 0 1) H (b + 3) 1 _ h3 rfl ?_ (by simp) (by simp; omega) (by simp) (by simp)
 intro i hi
 have : i = 0 ∨ i = 1 ∨ i = 2 := by have : i < 3 := hi; omega
 rcases this with rfl | rfl | rfl
 ·exact ⟨rfl, qmP (L := [[46]]) h1⟩
 ·exact ⟨rfl, quX H _⟩
 ·exact ⟨rfl, qmP (L := [[46]]) h2⟩
theorem qll {p : List Int} {k m n : Nat} {fz : Nat → Bool} {h : List AObj} (e : k + m ≤ p.length) : VLe (.sl m fun i => ((List.drop (k + i) (qU p)).take 1).map (rei fz h (n + 1))) (qw ((p.drop k).take m)) := by
 refine qcC (by rw [List.length_take, List.length_drop]; omega) (fun i hi => ?_)
 rw [List.length_take, List.length_drop] at hi
 have h1 : k + i < (qU p).length := by rw [zj]; omega
 rw [List.drop_eq_getElem_cons h1]
 simp [qU, List.getD_eq_getElem?_getD, show i < m by omega, show k + i < p.length by omega]
 rfl
theorem qD {z : List AV} : qL z 1 = z := by simp [qL]
theorem qg7 {z : List AV} : qL z 3 = z ++ (z ++ z) := by simp [qL]
def qbn (b : Nat) (A : List (List UInt8)) (len : Nat) (all : List Int) (O : AObj) : List AObj :=
 [.emp 1, .mem 1 9 [.str [46]], .mem 1 9 [.str [46]], .mem 1 23 [.osl (b + 1) 1 1 0 1, qE A, .osl (b + 2) 1 1 0 1], .mem 1 3 (qU all), .mem 1 42 [.osl (b + 4) 1 1 0 len], .mem 1 179 [.fn (.func 140) [] [.op (b + 5) 1 0]], O]
def qhp (ps : List Pat) : Prop := ∀ i, i < ps.length → (ps.getD i default).levels.length = (qW (jV (ps.getD i default).letters)).length + 1
set_option maxHeartbeats 4000000 in
theorem qyn (ps : List Pat) (w : List UInt8) (h : List AObj) (hok : qbp ps) (hw : w.length ≤ 1000000) (hw0 : 0 < (qW (jV w)).length) (hwf : qhp ps) : qs Tryz.prog 131 [qA ps, .str w] h (qw (jl ps w)) h := by
 have hcl := jj (jV w)
 rw [qat] at hcl
 obtain ⟨A, hA⟩ : ∃ A, A = qW (jV w) := ⟨_, rfl⟩
 have qhF : ∀ h, qs Tryz.prog 139 [.str w] h (qE A) h := fun h => by rw [hA]; exact qxR w h (by omega)
 have hul : (kX w).length = A.length + 2 := by rw [hA]; simp [kX]
 obtain ⟨l, hl⟩ : ∃ l, l = kX w := ⟨_, rfl⟩
 have qke : ∀ H : List AObj, qI (h.length + 1) H = some (.mem 1 9 [.str [46]]) → qI (h.length + 2) H = some (.mem 1 9 [.str [46]]) → qI (h.length + 3) H = some (.mem 1 23 [.osl (h.length + 1) 1 1 0 1, qE A, .osl (h.length + 2) 1 1 0 1]) →
   qs Tryz.prog 138 [.osl (h.length + 3) 1 1 0 3] H (qE l) H := fun H h1 h2 h3 => by
  rw [hl]; rw [hA] at h3; exact qhE w h.length H (by omega) h1 h2 h3
 unfold jl
 rw [← hl] at hul ⊢
 rw [← hA] at hw0 hcl
 obtain ⟨hpl, hp⟩ := hok
 have hz : ((l.length : Int) + 1).toNat = l.length + 1 := by omega
 refine qn qtG (by simp) ?_
 simp only [lcP, lnP, Nat.reduceAdd, Nat.reduceSub, List.replicate, caP, naP, List.append_nil]
 simp (disch := omega) only [qf3, qA, qE, qD, qg7, hz, qax, go_sem, qc, dvP, mdP]
 repeat' first
  | ((first | refine qj (qhF _) ?_ ?_ | refine qj (qke _ (by simp only [qE, go_sem]) (by simp only [qE, go_sem]) (by simp only [qE, go_sem])) ?_ ?_); (next => exact flk); simp (disch := omega) only [qA, qE, qD, qg7, hz, qax, go_sem, qc, dvP, mdP])
  | ((first | refine qo (fun _ => qhF _) ?_ ?_); (next => exact flk); simp (disch := omega) only [qA, qE, qD, qg7, hz, qax, go_sem, qc, dvP, mdP])
  | ((first | refine qk (fun e => ⟨?_, qhF _⟩) ?_ | refine qk (fun e => ⟨?_, qke _ (by simp only [qE, go_sem]) (by simp only [qE, go_sem]) (by simp only [qE, go_sem])⟩) ?_); (next => exact flk); simp (disch := omega) only [qA, qE, qD, qg7, hz, qax, go_sem, qc, dvP, mdP])
  | ((first | refine qe ?_ ?_ | refine qg ?_ ?_); (next => exact rvk); simp only [go_sem]; (first | exact VLe.refl _ | refine qh ?_ | refine qd ?_ | refine ql ?_ | skip))
  | with_reducible first | refine And.intro ?_ ?_ | intro _
 all_goals try exact clz
 refine qJ (T := fun i : Nat × List Int × AObj => qv 57 [(5, qE l), (6, .op (h.length + 5) 1 0), (7, .op (h.length + 6) 1 0), (24, qA ps), (25, .int .i64 ps.length), (26, .int .i64 i.1)]) (H := fun i => h ++ qbn h.length A (l.length + 1) i.2.1 i.2.2)
  (inv := fun i => i.1 ≤ ps.length ∧ i.2.1.length = l.length + 1 ∧ qad ps l = (ps.drop i.1).foldl (qdv l) i.2.1 ∧ q9 [i.2.2] 0 = true) (m := fun i => ps.length - i.1) (0, List.replicate (l.length + 1) 0, .emp 0) ⟨by simp, by simp, by simp [qad], rfl⟩ (Wk.temps ?_) ?_
 ·(simp only [qE, qA, qv, List.foldl, List.replicate, go_sem, qr, qp, qm, qq]; try (repeat' first | (with_reducible refine And.intro ?_ ?_) | (refine qh ?_; omega) | (refine qd ?_; rfl) | exact VLe.refl _))
 rintro ⟨i, all, O⟩ ⟨i1, i2, i3, i4⟩ K hK
 simp only at i1 i2 i3 i4 hK
 have i4' : ∀ m, q9 (O :: m) 0 = true := fun _ => i4
 by_cases hi : i < ps.length
 ·obtain ⟨b1, b2⟩ := hp i hi
  have hwp := hwf i hi
  rw [qd7 hi, List.foldl_cons] at i3
  obtain ⟨p, hpp⟩ : ∃ p, p = ps.getD i default := ⟨_, rfl⟩
  have epp := hpp.symm
  rw [← hpp] at i3 b1 b2 hwp
  obtain ⟨pat, hpat⟩ : ∃ pat, pat = qW (jV p.letters) := ⟨_, rfl⟩
  have c136p : ∀ h, qs Tryz.prog 139 [.str p.letters] h (qE pat) h := fun h => by rw [hpat]; exact qxR _ h b1
  have hpl2 := jj (jV p.letters)
  rw [qat] at hpl2
  rw [← hpat] at hwp hpl2
  have qhG := fun h => qyr pat l h
  have hit := qwv pat l (by omega) (by omega)
  simp (disch := omega) only [qv, List.foldl, List.replicate, qA, qbr, epp, i4', qbn, go_sem, qc, dvP, mdP]
  repeat' first
   | ((first | refine qj (c136p _) ?_ ?_ | refine qj (qhG _) ?_ ?_); (next => exact flk); simp (disch := omega) only [qA, qbr, epp, i4', qE, qbn, go_sem, qc, dvP, mdP])
   | ((first | refine qo (fun _ => c136p _) ?_ ?_ | refine qo (fun _ => qhG _) ?_ ?_); (next => exact flk); simp (disch := omega) only [qA, qbr, epp, i4', qE, qbn, go_sem, qc, dvP, mdP])
   | ((first | refine qk (fun e => ⟨?_, c136p _⟩) ?_ | refine qk (fun e => ⟨?_, qhG _⟩) ?_); (next => exact flk); simp (disch := omega) only [qA, qbr, epp, i4', qE, qbn, go_sem, qc, dvP, mdP])
   | ((first | refine qe ?_ ?_ | refine qg ?_ ?_); (next => exact rvk); simp only [go_sem]; (first | exact VLe.refl _ | refine qh ?_ | refine qd ?_ | refine ql ?_ | skip))
   | with_reducible first | refine And.intro ?_ ?_ | intro _
  all_goals try exact clz
  obtain ⟨OO, hOO⟩ : ∃ x : AObj, x = .mem (qz (some O) + 1) 61 [.str p.letters, qw p.levels] := ⟨_, rfl⟩
  obtain ⟨ov, hov⟩ : ∃ x : Nat, x = qz (some O) + 1 := ⟨_, rfl⟩
  rw [← hov] at hOO ⊢
  rw [show h ++ [AObj.emp 1, AObj.mem 1 9 [AV.str [46]], AObj.mem 1 9 [AV.str [46]], AObj.mem 1 23 [AV.osl (h.length + 1) 1 1 0 1, AV.sl A.length fun i => [AV.str (A.getD i [])], AV.osl (h.length + 2) 1 1 0 1],
    AObj.mem 1 3 (qU all), AObj.mem 1 42 [AV.osl (h.length + 4) 1 1 0 (l.length + 1)], AObj.mem 1 179 [AV.fn (Fn.func 140) [] [AV.op (h.length + 5) 1 0]],
    AObj.mem ov 61 [AV.str p.letters, qw p.levels]] = h ++ qbn h.length A (l.length + 1) all OO by rw [hOO]; rfl]
  refine qaB (xs := qis pat l) hit (by intro a ha; simp [qis] at ha; obtain ⟨_, _, rfl⟩ := ha; rfl)
   (S := fun j hh => hh = h ++ qbn h.length A (l.length + 1) (((za pat l).take j).foldl (fun a i => addAt a i p.levels) all) OO)
   (E := fun _ _ => False) ?_ (fun _ _ h => h.elim) ?_ ?_ ?_ ?_ (fun _ _ h => h.elim)
  ·rintro j hh rfl
   refine LowI.app rfl (fun o ho => ?_)
   simp only [qbn, List.mem_cons, List.not_mem_nil, or_false] at ho
   rcases ho with rfl | rfl | rfl | rfl | rfl | rfl | rfl | rfl
   case inr.inr.inr.inr.inl => exact .inr ⟨qcS, qcS⟩
   all_goals (left; simp [qbn])
  ·simp
  ·simp [zQ, zQ.lowVs, qc4, qw, qbn]
   try omega
  ·rintro j hh tl L hj rfl hlen
   have hjp : j < (za pat l).length := by simpa [qis] using hj
   have hxj : (qis pat l)[j] = [.int .i64 (((za pat l)[j] : Nat) : Int)] := by simp [qis]
   rw [hxj]
   have hqm : (za pat l)[j] < l.length + 1 - pat.length := by
    have := List.getElem_mem hjp
    unfold za at this
    rw [List.mem_filter, List.mem_range] at this
    exact this.1
   have hst : ((za pat l).take (j + 1)).foldl (fun a i => addAt a i p.levels) all = addAt (((za pat l).take j).foldl (fun a i => addAt a i p.levels) all) (za pat l)[j] p.levels := by
    rw [List.take_add_one, List.getElem?_eq_getElem hjp, Option.toList_some, List.foldl_append]; rfl
   obtain ⟨q, hq⟩ : ∃ q, q = (za pat l)[j] := ⟨_, rfl⟩
   obtain ⟨all1, hall1⟩ : ∃ a, a = ((za pat l).take j).foldl (fun a i => addAt a i p.levels) all := ⟨_, rfl⟩
   have hal : all1.length = l.length + 1 := by rw [hall1, qcR (fun a x => qeH _ _ _), i2]
   rw [← hq, ← hall1] at hst
   rw [← hq] at hqm ⊢
   rw [← hall1]
   simp only [qaY]
   subst hOO
   simp (disch := omega) only [List.append_assoc, eq_self, qbn, qE, qw, go_sem, qc, dvP, mdP]
   repeat' first
    | ((first | refine qe ?_ ?_ | refine qg ?_ ?_); (next => exact rvk); simp only [go_sem]; (first | exact VLe.refl _ | refine qh ?_ | refine qd ?_ | refine ql ?_ | skip))
    | with_reducible first | refine And.intro ?_ ?_ | intro _
   all_goals try exact clz
   refine qJ (T := fun k : Nat × List Int => qv 57 [(7, .op (h.length + 6) 1 0), (10, .int .i64 q), (37, qw p.levels), (38, .int .i64 p.levels.length), (39, .int .i64 k.1)])
    (H := fun k => h ++ (AObj.emp 1 :: AObj.mem 1 9 [AV.str [46]] :: AObj.mem 1 9 [AV.str [46]] :: AObj.mem 1 23 [AV.osl (h.length + 1) 1 1 0 1, qE A, AV.osl (h.length + 2) 1 1 0 1] :: AObj.mem 1 3 (qU k.2) ::
     AObj.mem 1 42 [AV.osl (h.length + 4) 1 1 0 (l.length + 1)] :: AObj.mem 1 179 [AV.fn (Fn.func 140) [] [AV.op (h.length + 5) 1 0]] :: AObj.mem ov 61 [AV.str p.letters, qw p.levels] :: AObj.lp LS.busy _ L :: tl))
    (inv := fun k => k.1 ≤ p.levels.length ∧ k.2.length = l.length + 1 ∧ addAt all1 q p.levels = addAt k.2 (q + k.1) (p.levels.drop k.1)) (m := fun k => p.levels.length - k.1) (0, all1) ⟨by simp, hal, by simp⟩ (Wk.temps ?_) ?_
   ·(simp only [qw, qv, List.foldl, List.replicate, go_sem, qr, qp, qm, qq]; try (repeat' first | (with_reducible refine And.intro ?_ ?_) | (refine qh ?_; omega) | (refine qd ?_; rfl) | exact VLe.refl _))
   rintro ⟨k, all2⟩ ⟨k1, k2, k3⟩ K2 hK2
   simp only at k1 k2 k3 hK2
   by_cases hk : k < p.levels.length
   ·have e : p.levels.drop k = p.levels.getD k 0 :: p.levels.drop (k + 1) := by rw [List.drop_eq_getElem_cons hk]; simp [List.getD_eq_getElem?_getD, hk]
    rw [e] at k3
    simp only [addAt] at k3
    simp (disch := omega) only [qv, List.foldl, List.replicate, qE, qw, go_sem, qc, dvP, mdP]
    repeat' first
     | ((first | refine qe ?_ ?_ | refine qg ?_ ?_); (next => exact rvk); simp only [go_sem]; (first | exact VLe.refl _ | refine qh ?_ | refine qd ?_ | refine ql ?_ | skip))
     | with_reducible first | refine And.intro ?_ ?_ | intro _
    all_goals try exact clz
    refine qkk (qyq (h.length + 5) 1 (h.length + 4) (l.length + 1) (q + k) all2 _ _ _ (by simp only [go_sem]) (by simp only [go_sem]) k2 (by omega) (by omega)) ?_
    simp (disch := omega) only [qE, qw, go_sem, qc, dvP, mdP]
    repeat' first
     | ((first | refine qe ?_ ?_ | refine qg ?_ ?_); (next => exact rvk); simp only [go_sem]; (first | exact VLe.refl _ | refine qh ?_ | refine qd ?_ | refine ql ?_ | skip))
     | with_reducible first | refine And.intro ?_ ?_ | intro _
    all_goals try exact clz
    refine hK2 _ _ (k + 1, all2.set (q + k) (max (all2.getD (q + k) 0) (p.levels.getD k 0))) ⟨by simp only; omega, by simp only [List.length_set]; exact k2, by rw [k3]; rfl⟩ (by simp only; omega) (Wk.temps ?_)
    (simp only [qw, qv, List.foldl, List.replicate, go_sem, qr, qp, qm, qq]; try (repeat' first | (with_reducible refine And.intro ?_ ?_) | (refine qh ?_; omega) | (refine qd ?_; rfl) | exact VLe.refl _))
   ·have e : k = p.levels.length := by omega
    subst e
    rw [List.drop_length] at k3
    simp only [addAt] at k3
    simp (disch := omega) only [qv, List.foldl, List.replicate, qE, qw, go_sem, qc, dvP, mdP]
    repeat' first
     | ((first | refine qe ?_ ?_ | refine qg ?_ ?_); (next => exact rvk); simp only [go_sem]; (first | exact VLe.refl _ | refine qh ?_ | refine qd ?_ | refine ql ?_ | skip))
     | with_reducible first | refine And.intro ?_ ?_ | intro _
    all_goals try exact clz
    rw [hst, k3]
    exact ⟨h ++ qbn h.length A (l.length + 1) all2 (.mem ov 61 [.str p.letters, qw p.levels]), by rw [List.append_assoc]; rfl, by simp [qbn], rfl⟩
  ·rintro hh rfl
   have hpx : (qis pat l).length = (za pat l).length := by simp [qis]
   rw [hpx, List.take_length]
   have hnx : (za pat l).foldl (fun a i => addAt a i p.levels) all = qdv l all p := by unfold qdv; rw [← hpat]
   rw [hnx]
   simp (disch := omega) only [qv, List.foldl, List.replicate, qE, qw, go_sem, qc, dvP, mdP]
   repeat' first
    | ((first | refine qe ?_ ?_ | refine qg ?_ ?_); (next => exact rvk); simp only [go_sem]; (first | exact VLe.refl _ | refine qh ?_ | refine qd ?_ | refine ql ?_ | skip))
    | with_reducible first | refine And.intro ?_ ?_ | intro _
   all_goals try exact clz
   subst hOO
   refine hK _ _ (i + 1, qdv l all p, .mem ov 61 [.str p.letters, qw p.levels]) ⟨by simp only; omega, by simp only; rw [qdw, i2], i3, rfl⟩ (by simp only; omega) (Wk.temps ?_)
   (simp only [qE, qA, qbr, qw, qv, List.foldl, List.replicate, go_sem, qr, qp, qm, qq]; try (repeat' first | (with_reducible refine And.intro ?_ ?_) | (refine qh ?_; omega) | (refine qd ?_; rfl) | exact VLe.refl _))
 ·have e : i = ps.length := by omega
  subst e
  rw [List.drop_length, List.foldl_nil] at i3
  have hlen := zj all
  have hx1 : ((l.length : Int) - 1).toNat - (2 : Int).toNat = l.length - 1 - 2 := by omega
  simp (disch := omega) only [qv, List.foldl, List.replicate, qE, qbn, hx1, hlen, go_sem, qc, dvP, mdP]
  repeat' first
   | ((first | refine qe ?_ ?_ | refine qg ?_ ?_); (next => exact rvk); simp only [go_sem]; (first | exact VLe.refl _ | refine qh ?_ | refine qd ?_ | refine ql ?_ | skip))
   | with_reducible first | refine And.intro ?_ ?_ | intro _
  all_goals try exact clz
  rw [i3, if_pos (by rw [hlen, i2, show Int.toNat 2 = 2 from rfl]; omega)]
  exact qll (by rw [i2]; omega)
end HY
end
section
open Go Go.Proofs AF HY
namespace HY
set_option maxRecDepth 100000
def same (pat l : List (List UInt8)) (a k : Nat) : Bool := (List.range k).all fun i => decide (l.getD (a + i) [] = pat.getD i [])
end HY
end
section
open Go Go.Proofs AF HY
namespace HY
set_option maxRecDepth 100000
theorem qdJ (c : UInt8) : kind (qdk c) = kind c := by
 have hc := c.toNat_lt
 have hn := qe1 c
 by_cases h : 65 ≤ (c.toNat : Int) ∧ (c.toNat : Int) ≤ 90
 ·rw [if_pos h] at hn
  unfold kind qgi
  rw [if_pos (by omega), if_pos (by omega)]
 ·rw [if_neg h] at hn
  unfold kind
  rw [hn]
theorem qqM (s : List UInt8) (i : Nat) (h : i < s.length) : ch (jV s) i = qdk (ch s i) := by simp [jV, ch, List.getD_eq_getElem?_getD, h]
theorem qhM (r : List UInt8) : ∀ (f : Nat) (cur : List UInt8), 0 < cur.length → jG f (jV cur) (jV r) = (jG f cur r).map (fun x => (x.1, jV x.2)) := by
 induction r with
 | nil => intro f cur _; rfl
 | cons c r ih =>
  intro f cur hc
  have e : jV (c :: r) = qdk c :: jV r := rfl
  rw [e]
  simp only [jG]
  rw [qqM cur 0 hc, qdJ, qdJ]
  split
  ·rw [← ih f (cur ++ [c]) (by simp)]
   simp [jV]
  ·rw [List.map_cons, ← ih (f + cur.length) [c] (by simp), qat]
   rfl
theorem qkB (s : List UInt8) : qW (jV s) = (qW s).map jV := by
 cases s with
 | nil => rfl
 | cons c r =>
  have := qhM r 0 [c] (by simp)
  simp only [qW, zo, show jV (c :: r) = qdk c :: jV r from rfl]
  rw [show [qdk c] = jV [c] from rfl, this]
  simp
theorem kO (s : List UInt8) : (qW (jV s)).length = (qW s).length := by rw [qkB]; simp
theorem qdZ (ps : List Pat) (l : List (List UInt8)) : (qad ps l).length = l.length + 1 := by
 unfold qad
 rw [qcR (fun a p => qdw l a p)]
 simp
theorem qfi (ps : List Pat) (w : List UInt8) : (jl ps w).length = (qW w).length - 1 := by
 unfold jl
 rw [List.length_take, List.length_drop, qdZ]
 simp [kX, kO]
 omega
def qnz (n : Nat) (lv : List Int) (i : Nat) : Bool := decide ((lv.getD i 0).tmod 2 = 1) && (decide (1 ≤ i) && decide (i + 3 ≤ n))
def qha (own : List (List UInt8)) (i : Nat) : Nat := (own.take i).flatten.length
def qdo (n : Nat) (lv : List Int) (m : Nat) : List Nat := (List.range m).filter (qnz n lv)
def qcz (own : List (List UInt8)) (lv : List Int) (m : Nat) : List Int := (qdo own.length lv m).map fun i => (qha own (i + 1) : Int)
def qfs (n : Nat) (lv : List Int) (m : Nat) : List Int := (qdo n lv m).map fun i => lv.getD i 0
theorem qlJ (own : List (List UInt8)) : qha own 0 = 0 := rfl
theorem qlI {own : List (List UInt8)} {i : Nat} (h : i < own.length) : qha own (i + 1) = qha own i + (own.getD i []).length := by
 unfold qha; rw [jw own h, List.length_append]
theorem qlH (own : List (List UInt8)) (i : Nat) : qha own i ≤ own.flatten.length := jk own i
theorem quz {own : List (List UInt8)} {lv : List Int} {i : Nat} (h : qnz own.length lv i = true) : qcz own lv (i + 1) = qcz own lv i ++ [(qha own (i + 1) : Int)] := by
 unfold qcz qdo; rw [jP h, List.map_append]; rfl
theorem quB {n : Nat} {lv : List Int} {i : Nat} (h : qnz n lv i = true) : qfs n lv (i + 1) = qfs n lv i ++ [lv.getD i 0] := by
 unfold qfs qdo; rw [jP h, List.map_append]; rfl
theorem quy {own : List (List UInt8)} {lv : List Int} {i : Nat} (h : qnz own.length lv i = false) : qcz own lv (i + 1) = qcz own lv i := by
 unfold qcz qdo; rw [kR h]
theorem quA {n : Nat} {lv : List Int} {i : Nat} (h : qnz n lv i = false) : qfs n lv (i + 1) = qfs n lv i := by
 unfold qfs qdo; rw [kR h]
theorem qhf (n : Nat) (lv : List Int) (m : Nat) : (qdo n lv m).length ≤ m := by
 have := List.length_filter_le (qnz n lv) (List.range m)
 rwa [List.length_range] at this
theorem qhe (own : List (List UInt8)) (lv : List Int) (m : Nat) : (qcz own lv m).length = (qdo own.length lv m).length := by simp [qcz]
theorem qpb (n : Nat) (lv : List Int) (m : Nat) : (qfs n lv m).length = (qdo n lv m).length := by simp [qfs]
def jx (L : List Int) : AV := if L = [] then .nl else qw L
theorem qfa : jx [] = .nl := rfl
theorem qoF (L : List Int) : VLe (jx L) (qw L) := by
 unfold jx
 split
 ·rename_i e; subst e; exact ku
 ·exact VLe.refl _
theorem qiD {v n : Nat} {L : List Int} {fz : Nat → Bool} {h : List AObj} : VLe (qnB (some (kl v 3 (qU L))) v 1 0 L.length (rei fz h (n + 1))) (jx L) := by
 unfold kl jx
 split
 ·rename_i e
  have : L = [] := by cases L with
   | nil => rfl
   | cons a l => simp [qU] at e
  subst this
  rw [slOf_emp, if_pos rfl, if_pos rfl]
  exact VLe.refl _
 ·rename_i e
  rw [if_neg (by intro e2; subst e2; exact e rfl), slOf_mem, if_pos ⟨rfl, by rw [zj]; omega⟩]
  simp only [Nat.zero_add, Nat.mul_one]
  exact qcw rfl
theorem qfG {v n : Nat} {L : List Int} {fz : Nat → Bool} {h : List AObj} : VLe (qnB (some (kl v 3 (qU L))) v 1 0 L.length (rei fz h (n + 1))) (qw L) := by
 unfold kl
 split
 ·rename_i e
  have : L = [] := by cases L with
   | nil => rfl
   | cons a l => simp [qU] at e
  subst this
  rw [slOf_emp, if_pos rfl]
  exact ku
 ·rw [slOf_mem, if_pos ⟨rfl, by rw [zj]; omega⟩]
  simp only [Nat.zero_add, Nat.mul_one]
  exact qcw rfl
set_option maxHeartbeats 4000000 in
theorem qyl (ps : List Pat) (w : List UInt8) (h : List AObj) (hok : qbp ps) (hw : w.length ≤ 1000000) (hw0 : 0 < (qW w).length) (hwf : qhp ps) :
  qs Tryz.prog 108 [qA ps, .str w] h (.tup [jx (qcz (qW w) (jl ps w) ((qW w).length - 1)), qw (qfs (qW w).length (jl ps w) ((qW w).length - 1))]) h := by
 have qf3 := fun h => qyn ps w h hok hw (by rw [kO]; exact hw0) hwf
 have qa7 := fun h => qvx w h (by omega)
 have hll := qfi ps w
 have hcl := jj w
 have hof := fun i => qlH (qW w) i
 rw [qbb] at hof
 obtain ⟨lv, hlv⟩ : ∃ x, x = jl ps w := ⟨_, rfl⟩
 obtain ⟨own, hown⟩ : ∃ x, x = qW w := ⟨_, rfl⟩
 rw [← hlv] at qf3 hll ⊢
 rw [← hown] at qa7 hll hcl hof hw0 ⊢
 refine qn qtu (by simp) ?_
 simp only [lcP, lnP, Nat.reduceAdd, Nat.reduceSub, List.replicate, caP, naP, List.append_nil]
 simp (disch := omega) only [qhD, qA, qD, go_sem, qc, dvP, mdP]
 repeat' first
  | ((first | refine qj (qa7 _) ?_ ?_ | refine qj (qf3 _) ?_ ?_); (next => exact flk); simp (disch := omega) only [qA, qD, qw, qE, go_sem, qc, dvP, mdP])
  | ((first | refine qo (fun _ => qa7 _) ?_ ?_ | refine qo (fun _ => qf3 _) ?_ ?_); (next => exact flk); simp (disch := omega) only [qA, qD, qw, qE, go_sem, qc, dvP, mdP])
  | ((first | refine qk (fun e => ⟨?_, qa7 _⟩) ?_ | refine qk (fun e => ⟨?_, qf3 _⟩) ?_); (next => exact flk); simp (disch := omega) only [qA, qD, qw, qE, go_sem, qc, dvP, mdP])
  | ((first | refine qe ?_ ?_ | refine qg ?_ ?_); (next => exact rvk); simp only [go_sem]; (first | exact VLe.refl _ | refine qh ?_ | refine qd ?_ | refine ql ?_ | skip))
  | with_reducible first | refine And.intro ?_ ?_ | intro _
 all_goals try exact clz
 refine qJ (T := fun i : Nat × Nat × AObj × AObj => qv 56 [(6, .osl (h.length + 2) i.2.1 1 0 (qcz own lv i.1).length), (7, .osl (h.length + 3) i.2.1 1 0 (qfs own.length lv i.1).length), (8, qE own), (9, .int .i64 (qha own i.1)), (16, qw lv), (17, .int .i64 lv.length), (18, .int .i64 i.1)])
  (H := fun i => h ++ [.emp 1, .emp 1, kl i.2.1 3 (qU (qcz own lv i.1)), kl i.2.1 3 (qU (qfs own.length lv i.1)), i.2.2.1, .emp 0, i.2.2.2, .emp 0])
  (inv := fun i => i.1 ≤ lv.length ∧ q9 [i.2.2.1] 0 = true ∧ q9 [i.2.2.2] 0 = true) (m := fun i => lv.length - i.1) (0, 1, .emp 0, .emp 0) ⟨by simp, rfl, rfl⟩ (Wk.temps ?_) ?_
 ·(simp only [qE, qA, qw, qlJ, qv, List.foldl, List.replicate, go_sem, qr, qp, qm, qq]; try (repeat' first | (with_reducible refine And.intro ?_ ?_) | (refine qh ?_; omega) | (refine qd ?_; rfl) | exact VLe.refl _))
 rintro ⟨i, v, O1, O2⟩ ⟨i1, i2, i3⟩ K hK
 simp only at i1 i2 i3 hK
 have i2' : ∀ m, q9 (O1 :: m) 0 = true := fun _ => i2
 have i3' : ∀ m, q9 (O2 :: m) 0 = true := fun _ => i3
 have q1 := qhf own.length lv i
 have q2 := qhe own lv i
 have q3 := qpb own.length lv i
 have e1 := zj (qcz own lv i)
 have e2 := zj (qfs own.length lv i)
 have f1 : List.take (qcz own lv i).length (qU (qcz own lv i)) = qU (qcz own lv i) := List.take_of_length_le (by omega)
 have f2 : List.take (qfs own.length lv i).length (qU (qfs own.length lv i)) = qU (qfs own.length lv i) := List.take_of_length_le (by omega)
 by_cases hi : i < lv.length
 ·have ho := qlI (own := own) (i := i) (by omega)
  have hle := hof (i + 1)
  cases hb : qnz own.length lv i with
  | true =>
   have r1 := quz hb
   have r2 := quB hb
   unfold qnz at hb
   simp only [Bool.and_eq_true, decide_eq_true_eq] at hb
   have k1 : ((lv.getD i 0).tmod 2 = 1) = True := eq_true hb.1
   have k2 : (1 ≤ (i : Int)) = True := eq_true (by omega)
   have k3 : (2 ≤ (own.length : Int) - (i : Int) - 1) = True := eq_true (by omega)
   simp (disch := omega) only [qv, List.foldl, List.replicate, qE, qw, i2', i3', k1, k2, k3, qD, e1, e2, f1, f2, go_sem, qc, dvP, mdP]
   repeat' first
    | ((first | refine qe ?_ ?_ | refine qg ?_ ?_); (next => exact rvk); simp only [go_sem]; (first | exact VLe.refl _ | refine qh ?_ | refine qd ?_ | refine ql ?_ | skip))
    | with_reducible first | refine And.intro ?_ ?_ | intro _
   all_goals try exact clz
   have hoi : (qha own i : Int) + ((own.getD i []).length : Int) = ((qha own (i + 1) : Nat) : Int) := by omega
   have l1 : (qcz own lv i).length + 1 = (qcz own lv (i + 1)).length := by rw [r1]; simp
   have l2 : (qfs own.length lv i).length + 1 = (qfs own.length lv (i + 1)).length := by rw [r2]; simp
   rw [hoi, ← qau, ← qau, ← r1, ← r2, l1, l2]
   refine hK _ _ (i + 1, v + 1, .mem (qz (some O1) + 1) 3 [.int .i64 (qha own (i + 1) : Nat)], .mem (qz (some O2) + 1) 3 [.int .i64 (lv.getD i 0)]) ⟨by simp only; omega, rfl, rfl⟩ (by simp only; omega) (Wk.temps ?_)
   (simp only [qE, qw, qv, List.foldl, List.replicate, go_sem, qr, qp, qm, qq]; try (repeat' first | (with_reducible refine And.intro ?_ ?_) | (refine qh ?_; omega) | (refine qd ?_; rfl) | exact VLe.refl _))
  | false =>
   have r1 := quy hb
   have r2 := quA hb
   simp (disch := omega) only [qv, List.foldl, List.replicate, qE, qw, i2', i3', qD, go_sem, qc, dvP, mdP]
   repeat' first
    | ((first | refine qe ?_ ?_ | refine qg ?_ ?_); (next => exact rvk); simp only [go_sem]; (first | exact VLe.refl _ | refine qh ?_ | refine qd ?_ | refine ql ?_ | skip))
    | with_reducible first | refine And.intro ?_ ?_ | intro _
   all_goals try exact clz
   ·rename_i hx
    exfalso
    have : qnz own.length lv i = true := by
     unfold qnz
     simp only [Bool.and_eq_true, decide_eq_true_eq]
     exact ⟨hx.1.1, by omega, by omega⟩
    rw [this] at hb
    cases hb
   ·rw [← r1, ← r2]
    refine hK _ _ (i + 1, v, O1, O2) ⟨by simp only; omega, i2, i3⟩ (by simp only; omega) (Wk.temps ?_)
    (simp only [qE, qw, qv, List.foldl, List.replicate, go_sem, qr, qp, qm, qq]; try (repeat' first | (with_reducible refine And.intro ?_ ?_) | (refine qh ?_; omega) | (refine qd ?_; rfl) | exact VLe.refl _))
 ·have e : i = own.length - 1 := by omega
  subst e
  simp (disch := omega) only [qv, List.foldl, List.replicate, qE, qw, go_sem, qc, dvP, mdP]
  repeat' first
   | ((first | refine qe ?_ ?_ | refine qg ?_ ?_); (next => exact rvk); simp only [go_sem]; (first | exact VLe.refl _ | refine qh ?_ | refine qd ?_ | refine ql ?_ | skip))
   | with_reducible first | refine And.intro ?_ ?_ | intro _
  all_goals try exact clz
  exact zb ⟨qiD, qfG, trivial⟩
end HY
end
section
open Go Go.Proofs AF HY
namespace HY
set_option maxRecDepth 100000
theorem qgd {ps : List Pat} (h : qcO ps = 0) : ∀ p ∈ ps, jO p = 0 := by
 induction ps with
 | nil => intro p hp; simp at hp
 | cons a r ih =>
  simp only [qcO] at h
  split at h
  ·rename_i h0
   intro p hp
   rcases List.mem_cons.1 hp with rfl | hp
   ·exact h0
   ·exact ih h p hp
  ·rename_i h0; exact absurd h h0
theorem qeS {p : Pat} (h : jO p = 0) : p.levels.length = (qW p.letters).length + 1 := by
 unfold jO at h
 repeat' split at h
 all_goals first
  | (cases h; done)
  | (rename_i hx _; simpa using hx)
  | skip
theorem qgS {ps : List Pat} (h : zW ps = 0) : qhp ps := by
 unfold zW at h
 split at h
 ·cases h
 intro i hi
 rw [kO]
 refine qeS (qgd h _ ?_)
 rw [List.getD_eq_getElem?_getD, List.getElem?_eq_getElem hi]
 exact List.getElem_mem hi
theorem qp0 {w : List UInt8} (h : qaH w = true) : 0 < (qW w).length := by
 apply qn5
 intro e
 subst e
 simp [qaH] at h
theorem qgA {ps : List Pat} {w : List UInt8} (h : qan ps w = 0) : qhp ps ∧ qaH w = true := by
 unfold qan at h
 split at h
 ·rename_i h1
  split at h
  ·rename_i h2; exact ⟨qgS h1, h2⟩
  ·cases h
 ·cases h
def qaT (ps : List Pat) (w : List UInt8) : List Int := if qan ps w = 0 then qcz (qW w) (jl ps w) ((qW w).length - 1) else []
theorem qh0 (L : List Int) : (qw L).flag = true := rfl
theorem qgD (L : List Int) : (qw L).strip = qw L := rfl
theorem qlb {fz : Nat → Bool} {h : List AObj} {n : Nat} (L : List Int) : frz fz h (n + 1) (qw L) = qw L := rfl
theorem qmo {fz : Nat → Bool} {h : List AObj} {n : Nat} (L : List Int) : rei fz h (n + 1) (qw L) = qw L := rfl
theorem qk2 (L : List (List UInt8)) : (qE L).flag = true := rfl
theorem qiT (L : List (List UInt8)) : (qE L).strip = qE L := rfl
theorem qoC {fz : Nat → Bool} {h : List AObj} {n : Nat} (L : List (List UInt8)) : frz fz h (n + 1) (qE L) = qE L := rfl
theorem qph {fz : Nat → Bool} {h : List AObj} {n : Nat} (L : List (List UInt8)) : rei fz h (n + 1) (qE L) = qE L := rfl
theorem qh3 (L : List Pat) : (qA L).flag = true := rfl
theorem qgG (L : List Pat) : (qA L).strip = qA L := rfl
theorem qlc {fz : Nat → Bool} {h : List AObj} {n : Nat} (L : List Pat) : frz fz h (n + 1) (qA L) = qA L := rfl
theorem qmp {fz : Nat → Bool} {h : List AObj} {n : Nat} (L : List Pat) : rei fz h (n + 1) (qA L) = qA L := rfl
theorem qhZ (L : List Int) : (jx L).flag = true := by unfold jx; split <;> rfl
theorem qgC (L : List Int) : (jx L).strip = jx L := by unfold jx; split <;> rfl
theorem qla {fz : Nat → Bool} {h : List AObj} {n : Nat} (L : List Int) : frz fz h (n + 1) (jx L) = jx L := by unfold jx; split <;> rfl
theorem qmn {fz : Nat → Bool} {h : List AObj} {n : Nat} (L : List Int) : rei fz h (n + 1) (jx L) = jx L := by unfold jx; split <;> rfl
attribute [go_sem] qh0 qgD qlb qmo qk2 qiT qoC qph qh3 qgG qlc qmp qhZ qgC qla qmn
theorem t89 (ps : List Pat) (w : List UInt8) (h : List AObj) (hok : qbp ps) (hw : w.length ≤ 1000000) : qs Tryz.prog 66 [qA ps, .str w] h (.tup [jx (qaT ps w), .int .i64 (qan ps w)]) h := by
 have qcg := fun h => qyk ps w h hok (by omega)
 unfold qaT
 by_cases g : qan ps w = 0
 ·obtain ⟨g1, g2⟩ := qgA g
  have qhD := fun h => qyl ps w h hok hw (qp0 g2) g1
  rw [if_pos g]
  rw [g] at qcg ⊢
  refine qn qt0 (by simp) ?_
  simp only [lcP, lnP, Nat.reduceAdd, Nat.reduceSub, List.replicate, caP, naP, List.append_nil]
  simp (disch := omega) only [qkh, go_sem, qc, dvP, mdP]
  repeat' first
   | ((first | refine qj (qcg _) ?_ ?_ | refine qj (qhD _) ?_ ?_); (next => exact flk); simp (disch := omega) only [go_sem, qc, dvP, mdP])
   | ((first | refine qo (fun _ => qcg _) ?_ ?_ | refine qo (fun _ => qhD _) ?_ ?_); (next => exact flk); simp (disch := omega) only [go_sem, qc, dvP, mdP])
   | ((first | refine qk (fun e => ⟨?_, qcg _⟩) ?_ | refine qk (fun e => ⟨?_, qhD _⟩) ?_); (next => exact flk); simp (disch := omega) only [go_sem, qc, dvP, mdP])
   | ((first | refine qe ?_ ?_ | refine qg ?_ ?_); (next => exact rvk); simp only [go_sem]; (first | exact VLe.refl _ | refine qh ?_ | refine qd ?_ | refine ql ?_ | skip))
   | with_reducible first | refine And.intro ?_ ?_ | intro _
  all_goals try exact clz
 ·rw [if_neg g, qfa]
  refine qn qt0 (by simp) ?_
  simp only [lcP, lnP, Nat.reduceAdd, Nat.reduceSub, List.replicate, caP, naP, List.append_nil]
  simp (disch := omega) only [qkh, go_sem, qc, dvP, mdP]
  repeat' first
   | ((first | refine qj (qcg _) ?_ ?_); (next => exact flk); simp (disch := omega) only [g, go_sem, qc, dvP, mdP])
   | ((first | refine qo (fun _ => qcg _) ?_ ?_); (next => exact flk); simp (disch := omega) only [g, go_sem, qc, dvP, mdP])
   | ((first | refine qk (fun e => ⟨?_, qcg _⟩) ?_); (next => exact flk); simp (disch := omega) only [g, go_sem, qc, dvP, mdP])
   | ((first | refine qe ?_ ?_ | refine qg ?_ ?_); (next => exact rvk); simp only [go_sem]; (first | exact VLe.refl _ | refine qh ?_ | refine qd ?_ | refine ql ?_ | skip))
   | with_reducible first | refine And.intro ?_ ?_ | intro _
  all_goals try exact clz
end HY
end
